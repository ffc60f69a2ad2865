/- The abstract machine. -/
import Derived.Test.YtpincjkjoeopkaaGreatDoorK0
import Derived.Maps.RangeRun
import Derived.MapKept
import Derived.Laws.StructEq
import Derived.Laws.BytesString
import Derived.Deep.LoopGhost
set_option linter.unusedSimpArgs false
set_option linter.unusedVariables false
set_option linter.unusedSectionVars false
namespace Go.Abs
variable [Dr]
section
variable {P:Program} {C:bv}
theorem pB: ∀ {M:List cN} {aj:List z},cv M aj→aj.length=M.length
 | [],[],_=>rfl
 | [],F::aj,h=>by simp[cv] at h
 |k::M,[],h=>by cases k<;>simp[cv] at h
 | .int k::M,.int bo n::aj,h=>by simp only[cv] at h;simp[pB h.2]
 | .bool::M,.bool b::aj,h=>by simp only[cv] at h;simp[pB h]
 | .str::M,.str E::aj,h=>by simp only[cv] at h;simp[pB h]
 | .int _::M,.bool _::aj,h| .int _::M,.str _::aj,h| .int _::M,.agg _::aj,h| .int _::M,.bg _::aj,h| .int _::M,.bD::aj,h| .int _::M,.pure _ _::aj,h
 | .int _::M,.own _ _ _ _::aj,h| .int _::M,.aW _ _ _ _::aj,h| .int _::M,.eb _ _::aj,h| .int _::M,.jW::aj,h| .int _::M,.cc::aj,h=>by simp[cv] at h
 | .bool::M,.int _ _::aj,h| .bool::M,.str _::aj,h| .bool::M,.agg _::aj,h| .bool::M,.bg _::aj,h| .bool::M,.bD::aj,h| .bool::M,.pure _ _::aj,h
 | .bool::M,.own _ _ _ _::aj,h| .bool::M,.aW _ _ _ _::aj,h| .bool::M,.eb _ _::aj,h| .bool::M,.jW::aj,h| .bool::M,.cc::aj,h=>by simp[cv] at h
 | .str::M,.int _ _::aj,h| .str::M,.bool _::aj,h| .str::M,.agg _::aj,h| .str::M,.bg _::aj,h| .str::M,.bD::aj,h| .str::M,.pure _ _::aj,h
 | .str::M,.own _ _ _ _::aj,h| .str::M,.aW _ _ _ _::aj,h| .str::M,.eb _ _::aj,h| .str::M,.jW::aj,h| .str::M,.cc::aj,h=>by simp[cv] at h
theorem Ca {k:cN}{M:List cN}{aj:List z}(h:cv (k::M) aj): ∃ F bW,aj=F::bW∧cv [k] [F]∧cv M bW:=by
 cases aj with
 |nil=>cases k<;>simp[cv] at h
 |cons F bW=>
  refine⟨F,bW,rfl,?_⟩;cases k<;>cases F<;>simp[cv] at h ⊢ <;>exact h
theorem IB: ∀ {M lv:List cN} {aj:List z},cv (M++lv) aj→cv M (aj.take M.length)∧cv lv (aj.drop M.length)
 | [],lv,aj,h=>by simpa[cv] using h
 |k::M,lv,aj,h=>by
  obtain⟨F,bW,rfl,h1,B⟩:=Ca h;obtain⟨am,bp⟩:=IB B;refine⟨?_,by simpa using bp⟩;simp only[List.length_cons,List.take_succ_cons];cases k<;>cases F<;>simp[cv] at h1 ⊢
  ·exact⟨h1,am⟩
  ·exact am
  ·exact am
theorem TL: ∀ {M:List cN} {as dc aj ds:List z},cv M as→cv M dc→dU (as++aj) (dc++ds)=(dU as dc&&dU aj ds)
 | [],as,dc,aj,ds,h,k=>by
  have bF:=pB h;have bJ:=pB k;simp at bF bJ;subst bF;subst bJ;simp[dU]
 |k::M,as,dc,aj,ds,h,cJ=>by
  obtain⟨a,ko,rfl,cz,eT⟩:=Ca h;obtain⟨b,aJa,rfl,b1,eA⟩:=Ca cJ;have ih:=TL (aj:=aj) (ds:=ds) eT eA;cases k<;>cases a<;>simp[cv] at cz<;>cases b<;>simp[cv] at b1<;>simp[dU,ih,Bool.and_assoc]
def E4 (P:Program)(t:TypeId)(vs:List Value)(v:Value):Prop:=(gW P t=some true∧v= .agg vs.toArray)∨(gW P t=some false∧vs= [v])
theorem E5 {t:TypeId}{n off:Nat}{b:Bool}{vs:List Value}{w:World}(aw:gW P t=some b)(ak:hN P t=some n)(hl:off+n≤vs.length)(h1:b=false→n=1):
 ∃ v,(part t vs.toArray off).run P w= .ok v w∧E4 P t ((vs.drop off).take n) v:=by
 cases b with
 |true=>
  refine⟨.agg ((vs.drop off).take n).toArray,?_,.inl ⟨aw,rfl⟩⟩;simp only[part,Sem.run_bind,Ae aw,Result.andThen_ok,if_true,lZ ak,Sem.run_pure];congr 2;apply Array.ext';simp only[Array.toList_extract,List.extract_eq_take_drop];congr 1;omega
 |false=>
  have aB:=h1 rfl;subst aB;refine⟨vs[off]'(by omega),?_,.inr ⟨aw,?_⟩⟩
  ·have:off < vs.length:=by omega
   simp[part,Ae aw,this]
  ·rw[List.drop_eq_getElem_cons (by omega),List.take_succ_cons,List.take_zero]
theorem TM {o:Nat}{t:TypeId}{M:List cN}(h:flatK P o t=some M): ∃ b,gW P t=some b∧(b=false→M.length=1):=by
 cases o with
 |zero=>simp[flatK] at h
 |succ o=>
  simp only[flatK] at h;unfold gW;split at h
  ·rename_i aZ;simp at h;subst h;exact⟨false,by rw[aZ],fun _=>rfl⟩
  ·rename_i aZ;simp at h;subst h;exact⟨false,by rw[aZ],fun _=>rfl⟩
  ·rename_i aZ;simp at h;subst h;exact⟨false,by rw[aZ],fun _=>rfl⟩
  ·rename_i eU aZ;exact⟨true,by rw[aZ],fun h=>by cases h⟩
  ·cases h
theorem Nr (w:World): ∀ (o ax:Nat) (t:TypeId) (M:List cN) (ai ys:List z) (hj nr:List Value) (x y:Value),flatK P o t=some M→o≤ax→cv M ai→cv M ys→
 ay C ai hj→ay C ys nr→E4 P t hj x→E4 P t nr y→(Op.equalIn ax t x y).run P w= .ok (dU ai ys) w
 |0,ax,t,M,ai,ys,hj,nr,x,y,h,_,_,_,_,_,_,_=>by simp[flatK] at h
 |o+1,0,t,M,ai,ys,hj,nr,x,y,h,aq,_,_,_,_,_,_=>by omega
 |o+1,ax+1,t,M,ai,ys,hj,nr,x,y,h,aq,kp,Cb,wd,E6,ad,bl=>by
  have Af:gW P t=some false→ ∀ {k:cN},M= [k]→ ∃ a b,ai= [a]∧ys= [b]∧Rep C a x∧Rep C b y:=by
   intro fJ k I;subst I;have mb:=pB kp;have mL:=pB Cb;rcases ad with ⟨h1,_⟩|⟨_,rfl⟩
   ·rw[fJ] at h1;cases h1
   rcases bl with ⟨h1,_⟩|⟨_,rfl⟩
   ·rw[fJ] at h1;cases h1
   obtain⟨a,rfl,ko⟩:=ia wd;obtain⟨b,rfl,aJa⟩:=ia E6;exact⟨a,b,rfl,rfl,ko,aJa⟩
  simp only[flatK] at h;split at h
  ·rename_i k aZ;simp at h;obtain⟨a,b,rfl,rfl,ko,aJa⟩:=Af (by simp[gW,aZ]) h.symm;subst h;cases a<;>simp[cv] at kp<;>cases b<;>simp[cv] at Cb;subst kp;subst Cb;rw[Rep] at ko aJa;subst ko;subst aJa;rw[run_equalIn_int w ax t _ k _ _ aZ];simp[dU]
  ·rename_i aZ;simp at h;obtain⟨a,b,rfl,rfl,ko,aJa⟩:=Af (by simp[gW,aZ]) h.symm;subst h;cases a<;>simp[cv] at kp<;>cases b<;>simp[cv] at Cb;rw[Rep] at ko aJa;subst ko;subst aJa;rw[run_equalIn_bool' w ax t _ _ aZ];simp[dU]
  ·rename_i aZ;simp at h;obtain⟨a,b,rfl,rfl,ko,aJa⟩:=Af (by simp[gW,aZ]) h.symm;subst h;cases a<;>simp[cv] at kp<;>cases b<;>simp[cv] at Cb;rw[Rep] at ko aJa;subst ko;subst aJa;rw[run_equalIn_string w ax t _ _ aZ];simp[dU]
  ·rename_i eU aZ;split at h
   ·cases h
   rename_i ce;have fJ:gW P t=some true:=by simp[gW,aZ]
   rcases ad with ⟨_,rfl⟩|⟨h1,_⟩
   ·rcases bl with ⟨_,rfl⟩|⟨h1,_⟩
    ·have ir:P.fieldsOf t=eU:=by simp[Program.fieldsOf,aZ]
     rw[run_equalIn_struct w ax t _ _ (by rw[ir];exact aZ) (by simpa using ce),ir];have key: ∀ (tu:List Field) (off:Nat) (lv:List cN),Ag P (flatK P o) tu off=some lv→off≤ai.length→off≤ys.length→cv lv (ai.drop off)→cv lv (ys.drop off)→
      (Op.eqFields ax hj.toArray nr.toArray tu).run P w= .ok (dU (ai.drop off) (ys.drop off)) w:=by
      intro tu
      induction tu with
      |nil=>
       intro off lv hl kI kJ et hO;simp[Ag] at hl;subst hl;have mb:=pB et;have mL:=pB hO;rw[List.eq_nil_of_length_eq_zero mb,List.eq_nil_of_length_eq_zero mL];simp[Op.eqFields,dU]
      |cons f tu ih=>
       intro off lv hl kI kJ et hO;simp only[Ag] at hl;split at hl
       ·rename_i pC;obtain⟨pC,oH⟩:=pC;split at hl
        ·rename_i bI kq;split at hl
         ·rename_i dt;split at hl
          ·rename_i bW E7;simp at hl;subst hl;obtain⟨f11,f12⟩:=IB et;obtain⟨f21,f22⟩:=IB hO;obtain⟨b,Z,tv⟩:=TM kq;have ain:=wd.length;have aHO:=E6.length;have mb:=pB et;have mL:=pB hO;simp only[List.length_drop,List.length_append] at mb mL
           by_cases aS:off+bI.length≤ai.length∧off+bI.length≤ys.length
           ·obtain⟨v1,p1,jt⟩:=E5 (P:=P) (w:=w) (off:=off) (vs:=hj) Z dt (by omega) tv;obtain⟨re,iG,ju⟩:=E5 (P:=P) (w:=w) (off:=off) (vs:=nr) Z dt (by omega) tv;have bF:=Nr w o ax f.type bI ((ai.drop off).take bI.length) ((ys.drop off).take bI.length) ((hj.drop off).take bI.length) ((nr.drop off).take bI.length) v1 re kq (by omega) f11 f21 ((wd.drop off).take _) ((E6.drop off).take _) jt ju;rw[List.drop_drop] at f12 f22;have bJ:=ih (off+bI.length) bW E7 (by omega) (by omega) f12 f22;have it:dU (ai.drop off) (ys.drop off)=(dU ((ai.drop off).take bI.length) ((ys.drop off).take bI.length)&&dU (ai.drop (off+bI.length)) (ys.drop (off+bI.length))):=by
             rw[←TL f11 f21,←List.drop_drop,←List.drop_drop,List.take_append_drop,List.take_append_drop]
            simp only[Op.eqFields,pC,ne_eq,not_false_eq_true,if_true,Sem.run_bind,oH,p1,iG,Result.andThen_ok,bF,Sem.run_ite,bJ,it,Sem.run_pure];cases dU ((ai.drop off).take bI.length) ((ys.drop off).take bI.length)<;>simp
           ·exfalso;omega
          ·cases hl
         ·cases hl
        ·cases hl
       ·cases hl
     have:=key eU.toList 0 M h (by simp) (by simp) (by simpa using kp) (by simpa using Cb);simpa using this
    ·rw[fJ] at h1;cases h1
   ·rw[fJ] at h1;cases h1
  ·cases h
end
end Go.Abs
namespace Go.Abs
variable [Dr]
open Go.ChangeMaps (setBlock)
section
variable {P:Program} {C:bv} {K:z→List R→Prop}
theorem Ns {t:TypeId}{aE:Bool}{M:List cN}(h:sl P t=some (aE,M)):gW P t=some aE∧flatK P 20 t=some M:=by
 unfold sl at h;split at h
 ·simp at h;obtain⟨rfl,rfl⟩:=h;exact⟨by assumption,by assumption⟩
 ·cases h
theorem Nt {t:TypeId}{aE:Bool}{M:List cN}(ht:gW P t=some aE){k:z}{v:Value}(hf:fT aE M k)(G:Rep C k v): ∃ vs,ay C (cf k) vs∧E4 P t vs v:=by
 obtain⟨h1,B⟩:=hf;cases k with
 |agg aj=>
  simp[lX] at h1;subst h1;rw[Rep] at G;obtain⟨vs,rfl,G⟩:=G;exact⟨vs.toList,G,.inl ⟨ht,rfl⟩⟩
 |_=>
  simp[lX] at h1;subst h1;exact⟨[v],by show ay C [_] [v];rw[ay];exact⟨v,[],rfl,G,by rw[ay]⟩,.inr ⟨ht,rfl⟩⟩
theorem TN (w:World)(em:Bool): ∀ (o ax:Nat) (t:TypeId) (M:List cN) (ai:List z) (hj:List Value) (x:Value),flatK P o t=some M→o≤ax→cv M ai→ay C ai hj→E4 P t hj x→(Instr.checkKey em ax t x).run P w= .ok () w
 |0,ax,t,M,ai,hj,x,h,_,_,_,_=>by simp[flatK] at h
 |o+1,0,t,M,ai,hj,x,h,aq,_,_,_=>by omega
 |o+1,ax+1,t,M,ai,hj,x,h,aq,kp,wd,ad=>by
  have Af:gW P t=some false→ ∀ {k:cN},M= [k]→ ∃ a,ai= [a]∧Rep C a x:=by
   intro fJ k I;subst I;rcases ad with ⟨h1,_⟩|⟨_,rfl⟩
   ·rw[fJ] at h1;cases h1
   obtain⟨a,rfl,ko⟩:=ia wd;exact⟨a,rfl,ko⟩
  simp only[flatK] at h;split at h
  ·rename_i k aZ;simp at h;obtain⟨a,rfl,ko⟩:=Af (by simp[gW,aZ]) h.symm;subst h;cases a<;>simp[cv] at kp;rw[Rep] at ko;subst ko;simp[Instr.checkKey,run_underlying aZ]
  ·rename_i aZ;simp at h;obtain⟨a,rfl,ko⟩:=Af (by simp[gW,aZ]) h.symm;subst h;cases a<;>simp[cv] at kp;rw[Rep] at ko;subst ko;simp[Instr.checkKey,run_underlying aZ]
  ·rename_i aZ;simp at h;obtain⟨a,rfl,ko⟩:=Af (by simp[gW,aZ]) h.symm;subst h;cases a<;>simp[cv] at kp;rw[Rep] at ko;subst ko;simp[Instr.checkKey,run_underlying aZ]
  ·rename_i eU aZ;split at h
   ·cases h
   have fJ:gW P t=some true:=by simp[gW,aZ]
   rcases ad with ⟨_,rfl⟩|⟨h1,_⟩
   ·rw[Instr.checkKey];simp only[Sem.run_bind,run_underlying aZ,Result.andThen_ok];rw[←Array.forIn_toList];have key: ∀ (tu:List Field) (off:Nat) (lv:List cN),Ag P (flatK P o) tu off=some lv→off≤ai.length→cv lv (ai.drop off)→
     (forIn tu PUnit.unit fun f _=>(do
      if f.name≠ "_" then
       Instr.checkKey em ax f.type (←part f.type hj.toArray f.offset)
       pure (ForInStep.yield PUnit.unit)
      else pure (ForInStep.yield PUnit.unit):Sem (ForInStep PUnit))).run P w= .ok PUnit.unit w:=by
     intro tu
     induction tu with
     |nil=>intro off lv hl kI et;simp
     |cons f tu ih=>
      intro off lv hl kI et;simp only[Ag] at hl;split at hl
      ·rename_i pC;obtain⟨pC,oH⟩:=pC;split at hl
       ·rename_i bI kq;split at hl
        ·rename_i dt;split at hl
         ·rename_i bW E7;simp at hl;subst hl;obtain⟨f11,f12⟩:=IB et;obtain⟨b,Z,tv⟩:=TM kq;have ain:=wd.length;have mb:=pB et;simp only[List.length_drop,List.length_append] at mb;obtain⟨v1,p1,jt⟩:=E5 (P:=P) (w:=w) (off:=off) (vs:=hj) Z dt (by omega) tv;have bF:=TN w em o ax f.type bI ((ai.drop off).take bI.length) ((hj.drop off).take bI.length) v1 kq (by omega) f11 ((wd.drop off).take _) jt;rw[List.drop_drop] at f12;have bJ:=ih (off+bI.length) bW E7 (by omega) f12;simp only[List.forIn_cons,Sem.run_bind,pC,ne_eq,not_false_eq_true,if_true,oH,p1,bF,Result.andThen_ok,Sem.run_pure];exact bJ
         ·cases hl
        ·cases hl
       ·cases hl
      ·cases hl
    rw[key eU.toList 0 M h (by simp) (by simpa using kp)];rfl
   ·rw[fJ] at h1;cases h1
  ·cases h
theorem TO (a b:ByteArray): (a==b)=(a.toList==b.toList):=beq_toListBytes a b
theorem aio {a b:ByteArray}(h:a.toList=b.toList):a=b:=by
 have bF:a.data.toList=b.data.toList:=by simpa[ByteArray.toList_eq] using h
 cases a;cases b;simp_all
theorem TP {M:List cN}: ∀ {ai ys:List z} {hj nr:List Value},cv M ai→cv M ys→dU ai ys=true→ay C ai hj→ay C ys nr→hj=nr:=by
 induction M with
 |nil=>
  intro ai ys hj nr et hO _ r1 cO;have bF:=pB et;have bJ:=pB hO;simp at bF bJ;subst bF;subst bJ;rw[ay] at r1 cO;rw[r1,cO]
 |cons k M ih=>
  intro ai ys hj nr et hO he r1 cO;obtain⟨a,ko,rfl,cz,eT⟩:=Ca et;obtain⟨b,aJa,rfl,b1,eA⟩:=Ca hO;rw[ay] at r1 cO;obtain⟨v,bW,rfl,h1,B⟩:=r1;obtain⟨gq,aHP,rfl,hP,oI⟩:=cO;cases k<;>cases a<;>simp[cv] at cz<;>cases b<;>simp[cv] at b1<;>simp only[dU,Bool.and_eq_true,beq_iff_eq] at he<;>rw[Rep] at h1 hP<;>subst h1<;>subst hP
  ·subst cz;subst b1;rw[ih eT eA he.2 B oI,he.1]
  ·rw[ih eT eA he.2 B oI,he.1]
  ·rw[ih eT eA he.2 B oI];rw[aio he.1]
theorem aip {aE:Bool}{M:List cN}{k bo:z}{v gq:Value}(et:fT aE M k)(hO:fT aE M bo)(he:fp k bo=true)(r1:Rep C k v)(cO:Rep C bo gq):v=gq:=by
 obtain⟨g1,h1⟩:=et;obtain⟨bM,B⟩:=hO;unfold fp at he
 by_cases aw:aE=true
 ·subst aw;cases k<;>simp[lX] at g1;cases bo<;>simp[lX] at bM;rw[Rep] at r1 cO;obtain⟨vs,rfl,r1⟩:=r1;obtain⟨Cc,rfl,cO⟩:=cO;have:=TP h1 B he r1 cO;rw[Array.toList_inj.1 this]
 ·have bF:cf k= [k]:=by cases k<;>first|rfl| (simp[lX] at g1;exact (aw g1).elim)
  have bJ:cf bo= [bo]:=by cases bo<;>first|rfl| (simp[lX] at bM;exact (aw bM).elim)
  rw[bF] at h1 he;rw[bJ] at B he;have:=TP h1 B he (hj:= [v]) (nr:= [gq]) (by rw[ay];exact⟨_,_,rfl,r1,by rw[ay]⟩) (by rw[ay];exact⟨_,_,rfl,cO,by rw[ay]⟩);simpa using this
theorem TQ {M:List cN}: ∀ {ai:List z} {hj:List Value} (n:Nat),cv M ai→ay C ai hj→((hj.zip hj).all fun (x,y)=>Instr.sameBits n x y)=true:=by
 induction M with
 |nil=>
  intro ai hj n et r1;have bF:=pB et;simp at bF;subst bF;rw[ay] at r1;simp[r1]
 |cons k M ih=>
  intro ai hj n et r1;obtain⟨a,ko,rfl,cz,eT⟩:=Ca et;rw[ay] at r1;obtain⟨v,bW,rfl,h1,B⟩:=r1;simp only[List.zip_cons_cons,List.all_cons,Bool.and_eq_true];refine⟨?_,ih n eT B⟩;cases k<;>cases a<;>simp[cv] at cz<;>rw[Rep] at h1<;>subst h1<;>simp[Instr.sameBits,TO]
theorem aiq {aE:Bool}{M:List cN}{k:z}{v:Value}(et:fT aE M k)(r1:Rep C k v):Instr.sameBits 10000 v v=true:=by
 obtain⟨g1,h1⟩:=et
 by_cases aw:aE=true
 ·subst aw;cases k<;>simp[lX] at g1;rw[Rep] at r1;obtain⟨vs,rfl,r1⟩:=r1;simp only[Instr.sameBits,beq_self_eq_true,Bool.true_and];exact TQ 9999 h1 r1
 ·have bF:cf k= [k]:=by cases k<;>first|rfl| (simp[lX] at g1;exact (aw g1).elim)
  rw[bF] at h1;have:=TQ (hj:= [v]) 10000 h1 (by rw[ay];exact⟨_,_,rfl,r1,by rw[ay]⟩);simpa using this
theorem Cd {k:z}: ∀ {ents:List (z×z)} {c:Nat},gr k ents=some c→c < ents.length
 | [],c,h=>by simp[gr] at h
 |p::O,c,h=>by
  simp only[gr] at h;split at h
  ·simp at h;subst h;simp
  ·cases ae:gr k O with
   |none=>rw[ae] at h;simp at h
   |some j=>
    rw[ae] at h;simp at h;subst h;have:=Cd ae;simp;omega
theorem TR {k:z}: ∀ {ents:List (z×z)} {c:Nat},gr k ents=some c→fp k (ents.getD c (.cc,.cc)).1=true
 | [],c,h=>by simp[gr] at h
 |p::O,c,h=>by
  simp only[gr] at h;split at h
  ·rename_i I;simp at h;subst h;simpa using I
  ·cases ae:gr k O with
   |none=>rw[ae] at h;simp at h
   |some j=>
    rw[ae] at h;simp at h;subst h;simpa using TR ae
theorem E8 (k:z): ∀ (ents:List (z×z)),dd k ents=(gr k ents).map fun c=>(ents.getD c (.cc,.cc)).2
 | []=>rfl
 |p::O=>by
  simp only[dd,gr];split
  ·simp
  ·rw[E8 k O];cases gr k O<;>simp
theorem TS {k v:z}: ∀ {ents:List (z×z)} {c:Nat},gr k ents=some c→dp k v ents=ents.set c (k,v)
 | [],c,h=>by simp[gr] at h
 |p::O,c,h=>by
  simp only[gr] at h;simp only[dp];split at h
  ·rename_i I;simp at h;subst h;simp[I]
  ·rename_i I;cases ae:gr k O with
   |none=>rw[ae] at h;simp at h
   |some j=>
    rw[ae] at h;simp at h;subst h;rw[if_neg I,TS ae];simp
theorem TT {k v:z}: ∀ {ents:List (z×z)},gr k ents=none→dp k v ents=ents++ [(k,v)]
 | [],_=>rfl
 |p::O,h=>by
  simp only[gr] at h;simp only[dp];split at h
  ·cases h
  ·rename_i I;cases ae:gr k O with
   |none=>rw[if_neg I,TT ae];simp
   |some j=>rw[ae] at h;simp at h
def mc (k:z)(ents:List (z×z))(al:List MapEntry)(c:Nat):Option (Nat×Value):=(gr k ents).map fun j=>(c+j,((al[j]?).map (·.val)).getD undef)
theorem TU {k:z}{p:z×z}{O:List (z×z)}{e:MapEntry}{al:List MapEntry}{c:Nat}:mc k (p::O) (e::al) c=if fp k p.1 then some (c,e.val) else mc k O al (c+1):=by
 unfold mc;simp only[gr];split
 ·simp
 ·cases gr k O with
  |none=>simp
  |some j=>simp;omega
theorem TV {da:TypeId}{o:TypeDesc}{aE:Bool}{M:List cN}(aq:P.underlying da=some o)(I:sl P da=some (aE,M)){k bo:z}{v gq:Value}(et:fT aE M k)(hO:fT aE M bo)(r1:Rep C k v)(cO:Rep C bo gq){b:Bool}(h:Instr.sameNow o v gq=some b):b=fp k bo:=by
 obtain⟨fJ,lw⟩:=Ns I;unfold Instr.sameNow at h;split at h
 ·rename_i bI ca x fc y;have:aE=false:=by rw[gW,aq] at fJ;simpa using fJ.symm
  subst this;obtain⟨g1,et⟩:=et;obtain⟨bM,hO⟩:=hO;simp only[flatK,aq,Option.some.injEq] at lw;subst lw;cases k<;>simp[lX] at g1<;>simp[cf,cv] at et;cases bo<;>simp[lX] at bM<;>simp[cf,cv] at hO;rw[Rep] at r1 cO;cases r1;cases cO;split at h
  ·simp at h;rw[←h];simp[fp,cf,dU]
  ·cases h
 ·rename_i x y;have:aE=false:=by rw[gW,aq] at fJ;simpa using fJ.symm
  subst this;obtain⟨g1,et⟩:=et;obtain⟨bM,hO⟩:=hO;simp only[flatK,aq,Option.some.injEq] at lw;subst lw;cases k<;>simp[lX] at g1<;>simp[cf,cv] at et;cases bo<;>simp[lX] at bM<;>simp[cf,cv] at hO;rw[Rep] at r1 cO;cases r1;cases cO;simp at h;rw[←h];simp[fp,cf,dU,TO]
 ·rename_i x y;have:aE=false:=by rw[gW,aq] at fJ;simpa using fJ.symm
  subst this;obtain⟨g1,et⟩:=et;obtain⟨bM,hO⟩:=hO;simp only[flatK,aq,Option.some.injEq] at lw;subst lw;cases k<;>simp[lX] at g1<;>simp[cf,cv] at et;cases bo<;>simp[lX] at bM<;>simp[cf,cv] at hO;rw[Rep] at r1 cO;cases r1;cases cO;simp at h;rw[←h];simp[fp,cf,dU]
 ·cases h
theorem Nu (w:World){da:TypeId}{aE:Bool}{M:List cN}(I:sl P da=some (aE,M)){k:z}{v:Value}(et:fT aE M k)(r1:Rep C k v)(ents:List (z×z))(al:List MapEntry)
 (G:ay C (ents.map (·.1)) (al.map (·.key))) (hf: ∀ p∈ents,fT aE M p.1): (Instr.findKey da v al).run P w= .ok (mc k ents al 0) w:=by
 obtain⟨fJ,lw⟩:=Ns I;obtain⟨o,aq⟩: ∃ o,P.underlying da=some o:=by
  cases aZ:P.underlying da with
  |none=>rw[gW,aZ] at fJ;cases fJ
  |some o=>exact⟨o,rfl⟩
 have now: ∀ (ents:List (z×z)) (al:List MapEntry) (c:Nat) (x:Option (Nat×Value)),ay C (ents.map (·.1)) (al.map (·.key))→(∀ p∈ents,fT aE M p.1)→Instr.findNow o v al c=some x→x=mc k ents al c:=by
  intro ents
  induction ents with
  |nil=>
   intro al c x G _ h;rw[List.map_nil,ay] at G;have:al= []:=by simpa using G
   subst this;simp[Instr.findNow] at h;subst h;rfl
  |cons p O ih=>
   intro al c x G hf h;rw[List.map_cons,ay] at G;obtain⟨gq,bW,he,h1,B⟩:=G;cases al with
   |nil=>simp at he
   |cons e al=>
    simp at he;obtain⟨rfl,rfl⟩:=he;rw[TU];simp only[Instr.findNow] at h;split at h
    ·rename_i ak;rw[←TV aq I et (hf p (by simp)) r1 h1 ak];simp at h;subst h;rfl
    ·rename_i ak;rw[←TV aq I et (hf p (by simp)) r1 h1 ak];exact ih al (c+1) x B (fun q aQ=>hf q (by simp[aQ])) h
    ·cases h
 have ask: ∀ (ents:List (z×z)) (al:List MapEntry) (c:Nat),ay C (ents.map (·.1)) (al.map (·.key))→(∀ p∈ents,fT aE M p.1)→(Instr.findAsking da v al c).run P w= .ok (mc k ents al c) w:=by
  intro ents
  induction ents with
  |nil=>
   intro al c G _;rw[List.map_nil,ay] at G;have:al= []:=by simpa using G
   subst this;simp[Instr.findAsking,mc,gr]
  |cons p O ih=>
   intro al c G hf;rw[List.map_cons,ay] at G;obtain⟨gq,bW,he,h1,B⟩:=G;cases al with
   |nil=>simp at he
   |cons e al=>
    simp at he;obtain⟨rfl,rfl⟩:=he;obtain⟨vs,g1,bM⟩:=Nt fJ et r1;obtain⟨Cc,we,air⟩:=Nt fJ (hf p (by simp)) h1;have bF:=Nr (C:=C) w 20 10000 da M (cf k) (cf p.1) vs Cc v e.key lw (by omega) et.2 (hf p (by simp)).2 g1 we bM air;rw[TU];simp only[Instr.findAsking,Op.equal,Op.maxDepth,Sem.run_bind,bF,Result.andThen_ok,Sem.run_ite];show (if fp k p.1=true then _ else _)=_;split
    ·rfl
    ·exact ih al (c+1) B (fun q aQ=>hf q (by simp[aQ]))
 unfold Instr.findKey;simp only[Sem.run_bind,run_underlying aq,Result.andThen_ok];cases aB:Instr.findNow o v al 0 with
 |some x=>simp only[Sem.run_pure];rw[now ents al 0 x G hf aB]
 |none=>exact ask ents al 0 G hf
theorem Nv (w:World)(em:Bool){da:TypeId}{aE:Bool}{M:List cN}(I:sl P da=some (aE,M)){k:z}{v:Value}(et:fT aE M k)(r1:Rep C k v): (Instr.checkKey em 10000 da v).run P w= .ok () w:=by
 obtain⟨fJ,lw⟩:=Ns I;obtain⟨vs,g1,bM⟩:=Nt fJ et r1;exact TN (C:=C) w em 20 10000 da M (cf k) vs v lw (by omega) et.2 g1 bM
theorem ay.Nw {C:bv}{as:List z}{vs:List Value}(c:Nat)(h:ay C as vs)(an:c < as.length){o:z}{u:Value}:Rep C (as.getD c o) ((vs[c]?).getD u):=by
 obtain⟨v,h1,B⟩:=h.nS c an;rw[h1];have:as.getD c o=as.getD c .cc:=by simp[List.getD_eq_getElem?_getD,List.getElem?_eq_getElem an]
 rw[this];exact B
theorem ay.IC {C:bv}: ∀ {as:List z} {vs:List Value} (c:Nat) {a:z} {v:Value},ay C as vs→Rep C a v→ay C (as.set c a) (vs.set c v)
 | [],vs,c,a,v,h,_=>by rw[ay] at h;subst h;simp[ay]
 |x::as,vs,c,a,v,h,k=>by
  rw[ay] at h;obtain⟨u,bW,rfl,h1,B⟩:=h;cases c with
  |zero=>rw[List.set_cons_zero,List.set_cons_zero,ay];exact⟨_,_,rfl,k,B⟩
  |succ c=>rw[List.set_cons_succ,List.set_cons_succ,ay];exact⟨_,_,rfl,h1,B.IC c k⟩
theorem ay.xT {C:bv}{a:z}{v:Value}(h:Rep C a v):ay C [a] [v]:=by rw[ay];exact⟨_,_,rfl,h,by rw[ay]⟩
structure tw (C:bv) (i:Nat) (b F:Nat) (al:Array MapEntry) (aE:Bool) (M:List cN) (ents:List (z×z)):Prop where
 bm:C.bm[i]? =some (some (b,F))
 bS: ¬C.bS b
 heap:C.w.heap[b]? =some (.map al al.size)
 born: ∀ (c:Nat) (e:MapEntry),al[c]? =some e→e.born=c
 qw:ay C (ents.map (·.1)) (al.toList.map (·.key))
 ah:ay C (ents.map (·.2)) (al.toList.map (·.val))
 cv: ∀ p∈ents,fT aE M p.1
theorem TW (ar:cb C){i:Nat}{aE:Bool}{M:List cN}{ents:List (z×z)}(G:C.d[i]? =some (.aY (.map aE M ents))): ∃ b F al,tw C i b F al aE M ents:=by
 have:=ar.d i _ G;rw[dA] at this;obtain⟨b,F,al,h1,B,am,bp,cn,dj,mM⟩:=this;exact⟨b,F,al,h1,B,am,bp,cn,dj,mM⟩
theorem tw.size {i b F:Nat}{al:Array MapEntry}{aE:Bool}{M:List cN}{ents:List (z×z)}(h:tw C i b F al aE M ents):al.size=ents.length:=by
 have:=h.qw.length;simpa using this
theorem tw.val {i b F:Nat}{al:Array MapEntry}{aE:Bool}{M:List cN}{ents:List (z×z)}(h:tw C i b F al aE M ents){c:Nat}(an:c < ents.length):
 Rep C (ents.getD c (.cc,.cc)).2 (((al.toList[c]?).map (·.val)).getD undef):=by
 have:=h.ah.Nw c (by simpa using an) (o:= .cc) (u:=undef);simpa[List.getD_eq_getElem?_getD,List.getElem?_eq_getElem an] using this
theorem tw.key {i b F:Nat}{al:Array MapEntry}{aE:Bool}{M:List cN}{ents:List (z×z)}(h:tw C i b F al aE M ents){c:Nat}(an:c < ents.length):
 Rep C (ents.getD c (.cc,.cc)).1 (((al.toList[c]?).map (·.key)).getD undef):=by
 have:=h.qw.Nw c (by simpa using an) (o:= .cc) (u:=undef);simpa[List.getD_eq_getElem?_getD,List.getElem?_eq_getElem an] using this
theorem Ce (ar:cb C){i:Nat}{cq:Value}{aE:Bool}{M:List cN}{ents:List (z×z)}(ad:Rep C (.bu i) cq)(G:C.d[i]? =some (.aY (.map aE M ents))): ∃ b F al,tw C i b F al aE M ents∧cq= .map (some b):=by
 obtain⟨b,F,al,h⟩:=TW ar G;rw[Rep] at ad;obtain⟨_,_,_,ad⟩:=ad;obtain⟨eu,dH,h1,B⟩:=ad _ G;rw[h.bm] at h1;simp at h1;obtain⟨rfl,rfl⟩:=h1;exact⟨b,F,al,h,B⟩
theorem ais (ar:cb C){t da pD:TypeId}{ok aE:Bool}{M:List cN}{D x k:z}{cq hQ:Value}(aZ:P.underlying t=some (.map da pD))(I:sl P da=some (aE,M))(aS:xU P pD=some D)(ad:Rep C x cq)(ga:Rep C k hQ)
 (h:tx C.d ok aE M D x k fun v=>K v C.d): ∃ aV v,(Instr.lookup t cq hQ ok).run P C.w= .ok aV C.w∧Rep C v aV∧K v C.d:=by
 unfold tx at h;split at h
 ·exact h.elim
 rename_i ents nU;obtain⟨hf,cs⟩:=h;obtain⟨c,cu,an,jp,wg⟩:=TX aS;have ID:=sf an jp C.w;have iu: ∃ al:Array MapEntry,((cq= .map none∧al= #[])∨ ∃ b F,cq= .map (some b)∧C.w.heap[b]? =some (.map al F))∧ay C (ents.map (·.1)) (al.toList.map (·.key))∧ay C (ents.map (·.2)) (al.toList.map (·.val))∧ ∀ p∈ents,fT aE M p.1:=by
  unfold pE at nU;split at nU
  ·rename_i i;split at nU
   ·rename_i gt fM Nx hrow;split at nU
    ·rename_i V;obtain⟨rfl,rfl⟩:=V;simp at nU;subst nU;obtain⟨b,F,al,hm,rfl⟩:=Ce ar ad hrow;exact⟨al,.inr ⟨b,_,rfl,hm.heap⟩,hm.qw,hm.ah,hm.cv⟩
    ·cases nU
   ·cases nU
  ·simp at nU;subst nU;rw[Rep] at ad;subst ad;exact⟨#[],.inl ⟨rfl,rfl⟩,by simp[ay],by simp[ay],by simp⟩
  ·cases nU
 obtain⟨al,qv,ty,Cf,Cg⟩:=iu;have Ah:=Nu (P:=P) C.w I hf ga ents al.toList ty Cg;have lx:=fun em=>Nv (P:=P) C.w em I hf ga;have hval:Rep C ((dd k ents).getD D) (((mc k ents al.toList 0).map (·.2)).getD cu):=by
  rw[E8];unfold mc;cases ae:gr k ents with
  |none=>exact wg C
  |some j=>
   have:=Cf.Nw j (by simpa using Cd ae) (o:= .cc) (u:=undef);simpa[List.getD_eq_getElem?_getD,List.getElem?_eq_getElem (Cd ae)] using this
 have Ai: (mc k ents al.toList 0).isSome=(dd k ents).isSome:=by
  rw[E8];unfold mc;cases gr k ents<;>rfl
 refine⟨if ok then .tuple #[((mc k ents al.toList 0).map (·.2)).getD cu,.bool (mc k ents al.toList 0).isSome] else ((mc k ents al.toList 0).map (·.2)).getD cu,_,?_,?_,cs⟩
 ·unfold Instr.lookup;simp only[Sem.run_bind,run_underlying aZ,Result.andThen_ok];rcases qv with ⟨rfl,rfl⟩|⟨b,F,rfl,Z⟩
  ·simp only[Sem.run_bind,Sem.run_pure,Result.andThen_ok,lx,Ah];cases mc k ents (#[]:Array MapEntry).toList 0 with
   |none=>simp[ID]
   |some q=>simp
  ·simp only[Sem.run_bind,Go.run_getObj_map _ _ _ _ Z,Sem.run_pure,Result.andThen_ok,lx,Ah];cases mc k ents al.toList 0 with
   |none=>simp[ID]
   |some q=>simp
 ·rw[Ai];cases ok
  ·exact hval
  ·simp only[if_true];rw[Rep];exact⟨_,rfl,by rw[ay];exact⟨_,_,rfl,hval,ay.xT (by rw[Rep])⟩⟩
theorem E9 {w:World}{b:Nat}{al:Array MapEntry}{Ny:Nat}(L:Obj)(Z:w.heap[b]? =some (.map al Ny)): (setObj b L).run P w= .ok () {w with heap:=w.heap.setIfInBounds b L}:=by
 simp[setObj,Sem.run,Z]
def qx (w:World)(b:Nat)(L:Obj):World:= {w with heap:=w.heap.setIfInBounds b L}
theorem Nz (w:World)(b:Nat)(L:Obj):w.grownBy (qx w b L) (some b):=
 ⟨rfl,rfl,rfl,by simp[qx],fun k _ I=>by simp[qx,Array.getElem?_setIfInBounds_ne (fun e:b=k=>I (by rw[e]))]⟩
theorem NA {w:World}{b:Nat}{L eN:Obj}(h:w.heap[b]? =some eN): (qx w b L).heap[b]? =some L:=by
 have:=(Array.getElem?_eq_some_iff.1 h).1;simp[qx,this]
theorem TY {ents:List (z×z)}{c:Nat}{k v:z}: (ents.set c (k,v)).map (·.1)=(ents.map (·.1)).set c k:=by simp[List.map_set]
theorem TZ {ents:List (z×z)}{c:Nat}{k v:z}: (ents.set c (k,v)).map (·.2)=(ents.map (·.2)).set c v:=by simp[List.map_set]
theorem NB (ar:cb C){i b F:Nat}{al:Array MapEntry}{aE:Bool}{M:List cN}{ents:List (z×z)}(G:C.d[i]? =some (.aY (.map aE M ents)))(h:tw C i b F al aE M ents)
 {k v:z} {hQ aV:Value} (hf:fT aE M k) (I:Rep C k hQ) (ag:Rep C v aV):
 ∃ md,(match gr k ents with|some c=>md=al.modify c fun e=> {e with key:=hQ,val:=aV}|none=>md=al.push ⟨hQ,aV,al.size⟩)∧
  cb ⟨C.d.set i (.aY (.map aE M (dp k v ents))),C.bm,C.bS,qx C.w b (.map md md.size),C.bT⟩∧cd C.d.length C ⟨C.d.set i (.aY (.map aE M (dp k v ents))),C.bm,C.bS,qx C.w b (.map md md.size),C.bT⟩:=by
 have dt:=h.size;cases ae:gr k ents with
 |some c=>
  have an:=Cd ae;have xV:c < al.size:=by omega
  refine⟨_,rfl,IE ar G h.bm _ _ (Nz _ _ _) fun av he bi aR tz=> ?_⟩;rw[dA,TS ae,TY,TZ];refine⟨b,F,al.modify c fun e=> {e with key:=hQ,val:=aV},tz,by rw[bi];exact h.bS,by rw[aR];exact NA h.heap,fun j e aT=> ?_,?_,?_,fun p hC=> ?_⟩
  ·rw[Array.getElem?_modify] at aT;split at aT
   ·subst_vars
    cases ad:al[j]? with
    |none=>rw[ad] at aT;simp at aT
    |some iT=>rw[ad] at aT;simp at aT;subst aT;exact h.born j iT ad
   ·exact h.born j e aT
  ·have: (al.modify c fun e=> {e with key:=hQ,val:=aV}).toList.map (·.key)=(al.toList.map (·.key)).set c hQ:=by
    apply List.ext_getElem?;intro j;simp only[List.getElem?_map,Array.getElem?_toList,Array.getElem?_modify,List.getElem?_set,List.length_map,Array.length_toList];split
    ·subst_vars
     simp[xV]
    ·rfl
   rw[this];exact (ay.ext he _ _ h.qw).IC c (Rep.ext he _ _ I)
  ·have: (al.modify c fun e=> {e with key:=hQ,val:=aV}).toList.map (·.val)=(al.toList.map (·.val)).set c aV:=by
    apply List.ext_getElem?;intro j;simp only[List.getElem?_map,Array.getElem?_toList,Array.getElem?_modify,List.getElem?_set,List.length_map,Array.length_toList];split
    ·subst_vars
     simp[xV]
    ·rfl
   rw[this];exact (ay.ext he _ _ h.ah).IC c (Rep.ext he _ _ ag)
  ·rcases List.mem_or_eq_of_mem_set hC with hC|rfl
   ·exact h.cv p hC
   ·exact hf
 |none=>
  refine⟨_,rfl,IE ar G h.bm _ _ (Nz _ _ _) fun av he bi aR tz=> ?_⟩;rw[dA,TT ae];refine⟨b,F,al.push ⟨hQ,aV,al.size⟩,tz,by rw[bi];exact h.bS,by rw[aR];exact NA h.heap,fun j e aT=> ?_,?_,?_,fun p hC=> ?_⟩
  ·rw[Array.getElem?_push] at aT;split at aT
   ·subst_vars;simp at aT;subst aT;rfl
   ·exact h.born j e aT
  ·simp only[List.map_append,List.map_cons,List.map_nil,Array.toList_push];exact (ay.ext he _ _ h.qw).append (ay.xT (Rep.ext he _ _ I))
  ·simp only[List.map_append,List.map_cons,List.map_nil,Array.toList_push];exact (ay.ext he _ _ h.ah).append (ay.xT (Rep.ext he _ _ ag))
  ·rcases List.mem_append.1 hC with hC|hC
   ·exact h.cv p hC
   ·simp at hC;subst hC;exact hf
theorem T0 {aE:Bool}{M:List cN}{i b F:Nat}{al:Array MapEntry}{ents:List (z×z)}(h:tw C i b F al aE M ents){k:z}{hQ:Value}(hf:fT aE M k)(I:Rep C k hQ){c:Nat}(ae:gr k ents=some c):
 (Instr.keyThatStays (((al[c]?).map (·.key)).getD hQ) hQ).run P C.w= .ok hQ C.w:=by
 have an:=Cd ae;have dt:=h.size;have h1:=h.key an;have bV:ents.getD c (.cc,.cc)∈ents:=by rw[List.getD_eq_getElem?_getD,List.getElem?_eq_getElem an];simp
 have B:=aip hf (h.cv _ bV) (TR ae) I h1;have am: ((al[c]?).map (·.key)).getD hQ=hQ:=by
  have aC:c < al.size:=by omega
  rw[Array.getElem?_eq_getElem aC];simpa[aC] using B.symm
 rw[am];simp[Instr.keyThatStays,aiq hf I]
theorem ait (ar:cb C){t da pD:TypeId}{aE:Bool}{M:List cN}{x k v:z}{cq hQ aV:Value}(aZ:P.underlying t=some (.map da pD))(I:sl P da=some (aE,M))(ad:Rep C x cq)(ga:Rep C k hQ)(ag:Rep C v aV){K:List R→Prop}
 (h:wh C.d aE M x k v K): ∃ av,(Instr.mapUpdate t cq hQ aV).run P C.w= .ok () av.w∧cb av∧cd C.d.length C av∧K av.d:=by
 unfold wh at h;split at h
 ·rename_i i;split at h
  ·rename_i gt fM ents hrow;obtain⟨⟨rfl,rfl⟩,hf,cs⟩:=h;obtain⟨b,F,al,hm,rfl⟩:=Ce ar ad hrow;obtain⟨md,he,g1,bM⟩:=NB ar hrow hm hf ga ag;refine⟨_,?_,g1,bM,cs⟩;have Ah:=Nu (P:=P) C.w I hf ga ents al.toList hm.qw hm.cv;have lx:=fun em=>Nv (P:=P) C.w em I hf ga;simp only[Instr.mapUpdate,Sem.run_bind,run_underlying aZ,Result.andThen_ok,Go.run_getObj_map _ _ _ _ hm.heap,lx,Ah];cases ae:gr k ents with
   |some c=>
    rw[ae] at he;simp only at he;subst he;simp only[mc,ae,Option.map_some,Sem.run_bind,Nat.zero_add,T0 hm hf ga ae,Result.andThen_ok,E9 _ hm.heap,qx,Array.size_modify]
   |none=>
    rw[ae] at he;simp only at he;subst he;simp only[mc,ae,Option.map_none,E9 _ hm.heap,qx,Array.size_push]
  ·exact h.elim
 ·exact h.elim
theorem aiu (ar:cb C){t da pD:TypeId}{aE:Bool}{M:List cN}{D x k:z}{cq hQ:Value}(aZ:P.underlying t=some (.map da pD))(I:sl P da=some (aE,M))(aS:xU P pD=some D)(ad:Rep C x cq)(ga:Rep C k hQ)
 (h:uJ C.d aE M D x k K): ∃ aV v av,(Instr.mapEntry t cq hQ).run P C.w= .ok aV av.w∧Rep av v aV∧cb av∧cd C.d.length C av∧K v av.d:=by
 unfold uJ at h;split at h
 ·rename_i i;split at h
  ·rename_i gt fM ents hrow;obtain⟨⟨rfl,rfl⟩,⟨hf,_⟩,cs⟩:=h;obtain⟨b,F,al,hm,rfl⟩:=Ce ar ad hrow;obtain⟨c,cu,an,jp,wg⟩:=TX aS;have ID:=sf an jp C.w;have dt:=hm.size;have Ah:=Nu (P:=P) C.w I hf ga ents al.toList hm.qw hm.cv;have lx:=fun em=>Nv (P:=P) C.w em I hf ga;cases ae:gr k ents with
   |some c=>
    have jY:=Cd ae;have hval:=hm.val jY;have Ch: (dd k ents).getD D=(ents.getD c (.cc,.cc)).2:=by rw[E8,ae];rfl
    rw[Ch,ae] at cs;obtain⟨md,he,g1,bM⟩:=NB ar hrow hm hf ga hval;rw[ae] at he;simp only at he;refine⟨.tuple #[((al.toList[c]?).map (·.val)).getD undef,.int .i64 c],_,_,?_,?_,g1,bM,cs⟩
    ·have aC:c < al.size:=by omega
     have Z:al[c].born=c:=hm.born c al[c] (by simp[aC]);have iu:md=al.modify c fun e=> {e with key:=hQ}:=by
      rw[he];apply Array.ext_getElem?;intro j;rw[Array.getElem?_modify,Array.getElem?_modify];split
      ·subst_vars;simp[aC]
      ·rfl
     simp only[Instr.mapEntry,Sem.run_bind,run_underlying aZ,Result.andThen_ok,Go.run_getObj_map _ _ _ _ hm.heap,lx,Ah,mc,ae,Option.map_some,Nat.zero_add,T0 hm hf ga ae,E9 _ hm.heap,qx,iu,Array.size_modify,Sem.run_pure];simp[aC,Z,goInt]
    ·rw[Rep];exact⟨_,rfl,by rw[ay];exact⟨_,_,rfl,Rep.ext bM.ext _ _ hval,ay.xT (by rw[Rep];rfl)⟩⟩
   |none=>
    have Ch: (dd k ents).getD D=D:=by rw[E8,ae];rfl
    rw[Ch,ae] at cs;obtain⟨md,he,g1,bM⟩:=NB ar hrow hm hf ga (wg C);rw[ae] at he;simp only at he;subst he;refine⟨.tuple #[cu,.int .i64 al.size],_,_,?_,?_,g1,bM,cs⟩
    ·simp only[Instr.mapEntry,Sem.run_bind,run_underlying aZ,Result.andThen_ok,Go.run_getObj_map _ _ _ _ hm.heap,lx,Ah,mc,ae,Option.map_none,ID,E9 _ hm.heap,qx,Array.size_push,Sem.run_pure];rfl
    ·rw[Rep];exact⟨_,rfl,by rw[ay];exact⟨_,_,rfl,wg _,ay.xT (by rw[Rep,dt];rfl)⟩⟩
  ·exact h.elim
 ·exact h.elim
theorem aiv {al:Array MapEntry}(Z: ∀ (c:Nat) (e:MapEntry),al[c]? =some e→e.born=c){n:Int}(h0:0≤n)(h1:n < al.size):al.findIdx? (fun e=>(e.born:Int)==n)=some n.toNat:=by
 rw[Array.findIdx?_eq_some_iff_getElem];have aC:n.toNat < al.size:=by omega
 refine⟨aC,?_,fun j aT=> ?_⟩
 ·rw[Z n.toNat al[n.toNat] (by simp[aC])];simp;omega
 ·rw[Z j al[j] (by simp)];simp;omega
theorem aiw (ar:cb C){t:TypeId}{x c v:z}{cq T1 aV:Value}(ad:Rep C x cq)(T2:Rep C c T1)(ag:Rep C v aV){K:List R→Prop}(h:wi C.d x c v K):
 ∃ av,(Instr.entryStore t cq T1 aV).run P C.w= .ok () av.w∧cb av∧cd C.d.length C av∧K av.d:=by
 unfold wi at h;split at h
 ·rename_i i IF n;split at h
  ·rename_i aE M ents hrow;obtain⟨h0,h1,cs⟩:=h;obtain⟨b,F,al,hm,rfl⟩:=Ce ar ad hrow;rw[Rep] at T2;subst T2;have dt:=hm.size;have aC:n.toNat < al.size:=by omega
   have Aj:cb ⟨C.d.set i (.aY (.map aE M (ents.set n.toNat ((ents.getD n.toNat (.cc,.cc)).1,v)))),C.bm,C.bS,qx C.w b (.map (al.modify n.toNat fun e=> {e with val:=aV}) al.size),C.bT⟩∧
    cd C.d.length C ⟨C.d.set i (.aY (.map aE M (ents.set n.toNat ((ents.getD n.toNat (.cc,.cc)).1,v)))),C.bm,C.bS,qx C.w b (.map (al.modify n.toNat fun e=> {e with val:=aV}) al.size),C.bT⟩:=by
    refine IE ar hrow hm.bm _ _ (Nz _ _ _) fun av he bi aR tz=> ?_;rw[dA,TY,TZ];refine⟨b,F,al.modify n.toNat fun e=> {e with val:=aV},tz,by rw[bi];exact hm.bS,by rw[aR];simpa using NA hm.heap,fun j e aT=> ?_,?_,?_,fun p hC=> ?_⟩
    ·rw[Array.getElem?_modify] at aT;split at aT
     ·subst_vars
      cases ad:al[n.toNat]? with
      |none=>rw[ad] at aT;simp at aT
      |some iT=>rw[ad] at aT;simp at aT;subst aT;exact hm.born _ iT ad
     ·exact hm.born j e aT
    ·have bF: (al.modify n.toNat fun e=> {e with val:=aV}).toList.map (·.key)=al.toList.map (·.key):=by
      apply List.ext_getElem?;intro j;simp only[List.getElem?_map,Array.getElem?_toList,Array.getElem?_modify];split
      ·subst_vars;simp[aC]
      ·rfl
     have bJ: (ents.map (·.1)).set n.toNat (ents.getD n.toNat (.cc,.cc)).1=ents.map (·.1):=by
      apply List.ext_getElem?;intro j;rw[List.getElem?_set];split
      ·subst_vars
       have:n.toNat < ents.length:=by omega
       simp[this]
      ·rfl
     rw[bF,bJ];exact ay.ext he _ _ hm.qw
    ·have: (al.modify n.toNat fun e=> {e with val:=aV}).toList.map (·.val)=(al.toList.map (·.val)).set n.toNat aV:=by
      apply List.ext_getElem?;intro j;simp only[List.getElem?_map,Array.getElem?_toList,Array.getElem?_modify,List.getElem?_set,List.length_map,Array.length_toList];split
      ·subst_vars;simp[aC]
      ·rfl
     rw[this];exact (ay.ext he _ _ hm.ah).IC _ (Rep.ext he _ _ ag)
    ·rcases List.mem_or_eq_of_mem_set hC with hC|rfl
     ·exact hm.cv p hC
     ·have bV:ents.getD n.toNat (.cc,.cc)∈ents:=by rw[List.getD_eq_getElem?_getD,List.getElem?_eq_getElem (by omega)];simp
      have:=hm.cv _ bV;exact this
   refine⟨_,?_,Aj.1,Aj.2,cs⟩;simp only[Instr.entryStore,Sem.run_bind,Go.run_getObj_map _ _ _ _ hm.heap,Result.andThen_ok,asInt,asIntOf,Sem.run_pure,aiv hm.born h0 (by omega),E9 _ hm.heap,qx]
  ·exact h.elim
 ·exact h.elim
theorem aix (ar:cb C){t da pD:TypeId}{x:z}{cq:Value}(aZ:P.underlying t=some (.map da pD))(ad:Rep C x cq)(h:wj C.d x K):
 ∃ aV v av,(Instr.range t cq).run P C.w= .ok aV av.w∧Rep av v aV∧cb av∧cd C.d.length C av∧K v av.d:=by
 unfold wj at h;split at h
 ·rename_i m;split at h
  ·rename_i aE M ents hrow;obtain⟨b,F,al,hm,rfl⟩:=Ce ar ad hrow;have dt:=hm.size;obtain⟨g1,bM⟩:=T3 ar (.dY ents.length []) (.mapIter (some b) al.size #[] al.size) b (C.w.alloc (.mapIter (some b) al.size #[] al.size)) ⟨rfl,rfl,rfl,rfl⟩ fun av he bi aR tz=>by
    rw[dA];refine⟨_,_,tz,?_,?_⟩
    ·rw[bi];intro aQ;have:=ar.bS _ aQ;omega
    ·rw[aR,heap_alloc_new,dt]
   refine⟨.pointer (some ⟨C.w.heap.size,0,none⟩),_,_,?_,?_,g1,bM,h⟩
   ·simp only[Instr.range,Sem.run_bind,run_underlying aZ,Result.andThen_ok,Go.run_getObj_map _ _ _ _ hm.heap,Sem.run_pure];rfl
   ·have xW:m < C.d.length:=(List.getElem?_eq_some_iff.1 hrow).1;rw[Rep];refine⟨ar.bT,⟨_,rfl⟩,by simp,by simp;omega,fun L eN _ _=>⟨C.w.heap.size,b,F,by simp[←ar.dm],?_,rfl⟩⟩;show (C.bm++ [some (C.w.heap.size,b)])[m]? =_;rw[List.getElem?_append,if_pos (by rw[ar.dm];exact xW)];exact hm.bm
  ·exact h.elim
 ·exact h.elim
theorem T4 (ar:cb C){i m n:Nat}{bR:List Nat}{cq:Value}{aE:Bool}{M:List cN}{ents:List (z×z)}(ad:Rep C (.fG i m) cq)(G:C.d[i]? =some (.aY (.dY n bR)))(hm:C.d[m]? =some (.aY (.map aE M ents))):
 ∃ b jn F al,tw C m jn F al aE M ents∧C.bm[i]? =some (some (b,jn))∧ ¬C.bS b∧C.w.heap[b]? =some (.mapIter (some jn) n bR.toArray n)∧cq= .pointer (some ⟨b,0,none⟩):=by
 obtain⟨jn,F,al,h⟩:=TW ar hm;have hrow:=ar.d i _ G;rw[dA] at hrow;obtain⟨b,aHQ,p1,iG,Ci⟩:=hrow;rw[Rep] at ad;obtain⟨_,_,_,_,ad⟩:=ad;obtain⟨eA,aHR,c2,q1,eF,ev⟩:=ad _ _ G hm;rw[p1] at q1;simp at q1;obtain⟨rfl,rfl⟩:=q1;rw[h.bm] at eF;simp at eF;obtain⟨rfl,rfl⟩:=eF;exact⟨b,jn,F,al,h,p1,iG,Ci,ev⟩
theorem aiy {al:Array MapEntry}(Z: ∀ (c:Nat) (e:MapEntry),al[c]? =some e→e.born=c): (al.toList.map (·.born)).Nodup:=by
 have:al.toList.map (·.born)=List.range al.size:=by
  apply List.ext_getElem?;intro c
  by_cases an:c < al.size
  ·rw[List.getElem?_map,Array.getElem?_toList,Array.getElem?_eq_getElem an,Option.map_some,Z c al[c] (by simp[an]),List.getElem?_range an]
  ·rw[List.getElem?_eq_none (by simpa using an),List.getElem?_eq_none (by simpa using an)]
 rw[this];exact List.nodup_range
theorem aiz (ar:cb C){gM:TypeId}{x:z}{cq:Value}(ad:Rep C x cq)(h:rk C.d x K):
 ∃ aV v av,(Instr.next cq false gM).run P C.w= .ok aV av.w∧Rep av v aV∧cb av∧cd C.d.length C av∧K v av.d:=by
 unfold rk at h;split at h
 ·rename_i i m;split at h
  ·rename_i n bR aE M ents G Fa;obtain⟨aB,IG,h0,h1⟩:=h;obtain⟨b,jn,F,al,hm,p1,iG,Ci,rfl⟩:=T4 ar ad G Fa;have dt:=hm.size;have oJ: ∀ x∈al.toList,x.born < n:=by
    intro x Fb;obtain⟨c,an,rfl⟩:=List.getElem_of_mem Fb;rw[hm.born c _ (by simp at an;simp[an])];simp at an;omega
   rcases run_next_at (P:=P) C.w gM b jn n n bR.toArray al al.size Ci hm.heap oJ (Nat.le_refl _) with ⟨g1,bM⟩|⟨e,he,jt,cW,bM⟩
   ·refine⟨_,.bg [.bool false],C,bM,by rw[Rep];exact⟨_,rfl,ay.xT (by rw[Rep])⟩,ar,cd.refl C,h0 fun c an=> ?_⟩
    by_cases ak:c∈bR
    ·exact ak
    ·exfalso;have xV:c < al.size:=by omega
     have:al[c]∈leftOf al bR.toArray:=by
      unfold leftOf;simp only[Array.mem_filter,Array.getElem_mem,true_and,hm.born c al[c] (by simp[xV])];simpa using ak
     have aS:leftOf al bR.toArray= #[]:=Array.eq_empty_of_size_eq_zero g1;rw[aS] at this;simp at this
   ·have bV:e∈al∧e.born∉bR:=by
     unfold leftOf at he;simpa using he
    obtain⟨c,an,rfl⟩:=Array.getElem_of_mem bV.1;have Z:=hm.born c al[c] (by simp[an]);rw[Z] at bV bM;have jY:c < ents.length:=by omega
    have aiA:jt.os=C.w.os∧jt.tape=C.w.tape∧jt.output=C.w.output∧jt.heap=C.w.heap:=by rcases cW with rfl|rfl<;>exact⟨rfl,rfl,rfl,rfl⟩
    obtain⟨aiB,NC,aiC,Ak⟩:=aiA;have aC:=ar.lt p1;obtain⟨Al,xX⟩:=IE ar G p1 (.dY n (bR++ [c])) (setBlock jt b (.mapIter (some jn) n (bR.toArray.push c) al.size))
     ⟨aiB,NC,aiC,by simp[setBlock,Ak],fun k _ I=>by simp[setBlock,Ak,Array.getElem?_setIfInBounds_ne (fun e:b=k=>I (by rw[e]))]⟩ fun av he bi aR tz=>by
      rw[dA];refine⟨b,jn,tz,by rw[bi];exact iG,?_⟩;rw[aR];simp[setBlock,Ak,aC];omega
    refine⟨_,_,_,bM,?_,Al,xX,h1 c (by omega) bV.2⟩;rw[Rep];have bI:=hm.key jY;have ca:=hm.val jY;rw[Array.getElem?_toList,Array.getElem?_eq_getElem an] at bI ca;refine⟨_,rfl,?_⟩;rw[ay];refine⟨_,_,rfl,by rw[Rep],?_⟩;rw[ay];exact⟨_,_,rfl,Rep.ext xX.ext _ _ bI,ay.xT (Rep.ext xX.ext _ _ ca)⟩
  ·exact h.elim
 ·exact h.elim
theorem aiD (ar:cb C){x:z}{cq:Value}(ad:Rep C x cq)(h:wk C.d x fun v=>K v C.d):
 ∃ aV v,(Instr.entry cq).run P C.w= .ok aV C.w∧Rep C v aV∧K v C.d:=by
 unfold wk at h;split at h
 ·rename_i i m;split at h
  ·rename_i n bR aE M ents G Fa;obtain⟨aB,ip,IH,cs⟩:=h;obtain⟨b,jn,F,al,hm,p1,iG,Ci,rfl⟩:=T4 ar ad G Fa;have dt:=hm.size;have an:bR.getLastD 0 < al.size:=by omega
   have jY:bR.getLastD 0 < ents.length:=by omega
   have Z:=hm.born (bR.getLastD 0) al[bR.getLastD 0] (Array.getElem?_eq_getElem an);have aiE:bR.toArray=bR.dropLast.toArray.push al[bR.getLastD 0].born:=by
    rw[Z];have hne:bR≠ []:=by intro e;simp[e] at ip
    apply Array.ext';simp only[Array.toList_push];rw[show bR.getLastD 0=bR.getLast hne from by cases bR with|nil=>exact (hne rfl).elim|cons a l=>rfl];exact (List.dropLast_concat_getLast hne).symm
   have aiF:C.w.heap[b]? =some (.mapIter (some jn) n (bR.dropLast.toArray.push al[bR.getLastD 0].born) al.size):=by rw[←aiE,Ci,aB,dt]
   have:=run_entry_at (P:=P) C.w b jn n bR.dropLast.toArray al al.size al[bR.getLastD 0] aiF hm.heap (by simp) (aiy hm.born);have bI:=hm.key jY;have ca:=hm.val jY;rw[Array.getElem?_toList,Array.getElem?_eq_getElem an] at bI ca;refine⟨_,_,this,?_,cs⟩;rw[Rep];refine⟨_,rfl,?_⟩;rw[ay];exact⟨_,_,rfl,bI,ay.xT ca⟩
  ·exact h.elim
 ·exact h.elim
theorem T5 {N:Nat}{ah ys:List (List z)}{off:Nat}(ak: ∀ e∈ah,e.length=N)(bl: ∀ e∈ys,e.length=N)(h:off+ys.length≤ah.length): (jZ ah off ys).flatten=eO ah.flatten (off*N) ys.flatten:=by
 have h1: (ah.take off).flatten.length=off*N:=by
  rw[xY (N:=N) fun e he=>ak e (List.mem_of_mem_take he),List.length_take];congr 1;omega
 have B:ys.flatten.length=ys.length*N:=xY bl;have am:ah.flatten=(ah.take off).flatten++(ah.drop off).flatten:=by rw[←List.flatten_append,List.take_append_drop]
 have bp: (ah.drop off).flatten=((ah.drop off).take ys.length).flatten++(ah.drop (off+ys.length)).flatten:=by
  rw[←List.drop_drop,←List.flatten_append,List.take_append_drop]
 have cn: ((ah.drop off).take ys.length).flatten.length=ys.length*N:=by
  rw[xY (N:=N) fun e he=>ak e (List.mem_of_mem_drop (List.mem_of_mem_take he)),List.length_take,List.length_drop];congr 1;omega
 unfold jZ eO;rw[List.flatten_append,List.flatten_append,am,←h1,List.take_left,B];congr 1;rw[←List.drop_drop (l:=(ah.take off).flatten++_),List.drop_left,bp,←cn,List.drop_left]
theorem aiG (ar:cb C){t gM e:TypeId}{N:Nat}(ht:P.underlying t=some (.slice e))(ak:hN P e=some N){x y:z}{cq fI:Value}(ad:Rep C x cq)(bl:Rep C y fI)(h:xZ C.d N x y K):
 ∃ aV v av,(Builtin.copy_ #[t,t] gM #[cq,fI]).run P C.w= .ok aV av.w∧Rep av v aV∧cb av∧cd C.d.length C av∧K v av.d:=by
 unfold xZ at h;split at h
 ·exact h.elim
 rename_i ys kr;obtain⟨ct,F,rfl,wl⟩:=II ar bl kr;split at h
 ·rename_i i n off len;split at h
  ·rename_i cA bt ah hrow;obtain⟨rfl,aB,sh,cs⟩:=h;rw[Rep] at ad;obtain⟨_,_,fo,ad⟩:=ad;obtain⟨_,p,ae,ag⟩:=(ad cA bt ah hrow).2 aB;have Cj: ∀ (a:Option Addr) (m F:Nat),(Builtin.lenOf (.slice a m F)).run P C.w= .ok m C.w:=fun _ _ _=>rfl;have aiH: (ys.take (min ys.length len)).length=min ys.length len:=by rw[List.length_take];omega
   have nothing:min ys.length len=0→(Builtin.copy_ #[t,t] gM #[cq,.slice ct ys.length F]).run P C.w= .ok (goInt 0) C.w→ ∃ aV v av,(Builtin.copy_ #[t,t] gM #[cq,.slice ct ys.length F]).run P C.w= .ok aV av.w∧Rep av v aV∧cb av∧cd C.d.length C av∧K v av.d:=by
    intro h0 qv;refine⟨_,.int .i64 0,C,qv,by rw[Rep];rfl,ar,cd.refl C,?_⟩;rw[h0] at cs;have ly:C.d.set i (.aa cA bt (jZ ah off (ys.take 0)))=C.d:=by
     have:jZ ah off (ys.take 0)=ah:=by simp[jZ]
     rw[this];apply List.ext_getElem?;intro k;rw[List.getElem?_set];split
     ·subst_vars
      first|exact hrow.symm| (rw[if_pos fo];exact hrow.symm)
     ·rfl
    rw[ly] at cs;exact cs
   rcases ar.aa hrow with ⟨hl,iq⟩|⟨b,cap,aj,hl,h1,B,am,bp,cn,dj⟩
   ·subst iq;rw[ae] at hl;simp at hl;subst hl;simp only[nO] at ag;obtain⟨⟨iU,rfl⟩,_,rfl⟩:=ag;refine nothing (by simp) ?_;rcases wl with ⟨rfl,rfl⟩|⟨a,vs,rfl,iV,lz⟩
    ·cases iU<;>simp[Builtin.copy_,run_underlying ht,Cj,lZ ak,Builtin.firstCells,storeCells]
    ·cases iU<;>simp[Builtin.copy_,run_underlying ht,Cj,lZ ak,Builtin.firstCells,storeCells,loadCells,loadCellsFrom]
   ·rw[ae] at hl;simp at hl;subst hl;simp only[nO] at ag;obtain⟨dB,dH,rfl,aJc,gT,gU,oH,bi⟩:=ag
    by_cases h0:min ys.length len=0
    ·refine nothing h0 ?_;have nV:Nat.min ys.length len=0:=h0;rcases wl with ⟨rfl,rfl⟩|⟨a,vs,rfl,iV,lz⟩
     ·simp[Builtin.copy_,run_underlying ht,Cj,lZ ak,Builtin.firstCells,storeCells]
     ·simp[Builtin.copy_,run_underlying ht,Cj,lZ ak,Builtin.firstCells,storeCells,loadCells,loadCellsFrom,nV]
    ·rcases wl with ⟨rfl,rfl⟩|⟨a,vs,rfl,iV,lz⟩
     ·simp at h0
     ·have aw:dB=⟨b,off*bt,none⟩:=by
       obtain⟨x,y,D⟩:=dB;simp only at gT gU bi;rw[gT,gU,bi (by omega)]
      subst aw;have wm:=iV.length;have hm:min ys.length len*bt≤vs.length:=by rw[wm];exact Nat.mul_le_mul_right _ (by omega)
      have nW:fj C bt (ys.take (min ys.length len)) (vs.take (min ys.length len*bt)):=by
       refine⟨fun x ad=>iV.iW x (List.mem_of_mem_take ad),?_,fun v ag=>iV.cM v (List.mem_of_mem_take ag)⟩;have: (ys.take (min ys.length len)).flatten=ys.flatten.take (min ys.length len*bt):=by
        have bF:ys.flatten=(ys.take (min ys.length len)).flatten++(ys.drop (min ys.length len)).flatten:=by rw[←List.flatten_append,List.take_append_drop]
        have bJ: (ys.take (min ys.length len)).flatten.length=min ys.length len*bt:=by rw[xY (N:=bt) fun x ad=>iV.iW x (List.mem_of_mem_take ad),aiH]
        rw[bF,←bJ,List.take_left]
       rw[this];exact iV.ks.take _
      have ns: (vs.take (min ys.length len*bt)).length=min ys.length len*bt:=by rw[List.length_take];omega
      have Fc: (loadCells a (min ys.length len*bt)).run P C.w= .ok (vs.take (min ys.length len*bt)).toArray C.w:=by
       have:=run_loadCells_list (P:=P) C.w a (vs.take (min ys.length len*bt)) fun j u aT=>by
        rw[List.getElem?_take] at aT;split at aT
        ·exact lz j u aT
        ·cases aT
       rw[ns] at this;exact this
      obtain⟨ai,he,nT⟩:=dj.sm;have oE:=Fd B nT;have wn:=he.length;have rl:off*bt+min ys.length len*bt≤ah.length*bt:=by rw[←Nat.add_mul];exact Nat.mul_le_mul_right _ (by omega)
      have tA:ah.length*bt≤cap*bt:=Nat.mul_le_mul_right _ cn;have ce:=run_storeCells_at P b (off*bt) cA (vs.take (min ys.length len*bt)) 0 aj C.w B (by rw[ns];omega) nW.cM;simp only[Nat.add_zero] at ce;have gb:=ya ar hrow ae b cap (aj.toList.take (off*bt)++vs.take (min ys.length len*bt)++aj.toList.drop (off*bt+(vs.take (min ys.length len*bt)).length)).toArray
       (jZ ah off (ys.take (min ys.length len))) (ai.take (off*bt)++vs.take (min ys.length len*bt)++ai.drop (off*bt+(vs.take (min ys.length len*bt)).length))
       (C.w.setRow b (aj.toList.take (off*bt)++vs.take (min ys.length len*bt)++aj.toList.drop (off*bt+(vs.take (min ys.length len*bt)).length)).toArray)
       ⟨rfl,rfl,rfl,by simp,fun k _ gc=>setRow_other C.w b k _ (fun e=>gc (by simp[e]))⟩ (.inl rfl) (setRow_heap C.w b aj _ cA _ B)
       (by simp only[List.size_toArray,List.length_append,List.length_drop,ns,Array.length_toList];rw[List.length_take];simp only[Array.length_toList];omega)
       bp (by simp only[jZ,List.length_append,List.length_take,List.length_drop];omega)
       ⟨fun x ad=> ?_,?_,he.cM.eO nW.cM⟩ ?_ (by simp only[jZ,List.length_append,List.length_take,List.length_drop];omega) (fun _=>rfl)
      ·refine⟨goInt (min ys.length len:Nat),_,_,?_,by rw[Rep];rfl,gb.1,gb.2,cs⟩;have IJ:Nat.min ys.length len=min ys.length len:=rfl;simp only[Builtin.copy_,run_underlying ht,Sem.run_bind,Result.andThen_ok,Cj,lZ ak,Builtin.firstCells,IJ,Fc,ce,Sem.run_pure];simp[run_underlying ht,Cj,lZ ak,IJ,Fc,ce]
      ·unfold jZ at ad;rcases List.mem_append.1 ad with ad|ad
       ·rcases List.mem_append.1 ad with ad|ad
        ·exact he.iW x (List.mem_of_mem_take ad)
        ·exact nW.iW x ad
       ·exact he.iW x (List.mem_of_mem_drop ad)
      ·rw[T5 he.iW nW.iW (by omega)];exact he.ks.eO nW.ks
      ·rw[ns];simp only[List.length_append,List.length_take,List.length_drop];have Fe:ai.length≤aj.toList.length:=by simp only[Array.length_toList];omega
       have bF:min (off*bt) ai.length+min (min ys.length len*bt) vs.length+(ai.length-(off*bt+min ys.length len*bt))=ai.length:=by omega
       rw[bF];have:=ND aj.toList (vs.take (min ys.length len*bt)) ai.length (off*bt) (by rw[ns];omega) Fe;rw[ns] at this;show List.take ai.length (aj.toList.take (off*bt)++vs.take (min ys.length len*bt)++aj.toList.drop (off*bt+min ys.length len*bt))=_;rw[this,oE]
  ·exact h.elim
 ·exact h.elim
theorem aiI (ar:cb C){t gM e:TypeId}{D:List z}(ht:P.underlying t=some (.slice e))(aS:mJ P e=some D){x:z}{cq:Value}(ad:Rep C x cq)(h:wo C.d D.length D x fun d=>K (.bg []) d):
 ∃ aV v av,(Builtin.clear_ #[t] gM #[cq]).run P C.w= .ok aV av.w∧Rep av v aV∧cb av∧cd C.d.length C av∧K v av.d:=by
 obtain⟨c,cu,an,jp,lu,hl,ip,dt⟩:=sd aS;obtain⟨bI,ca⟩:=rf (C:=C) lu;have Ff:=uH bI ca;have jq: ∀ n,ay C (List.replicate n D).flatten (List.replicate n cu.cells.toList).flatten∧iH (List.replicate n cu.cells.toList).flatten:=by
  intro n
  induction n with
  |zero=>simp[ay,iH]
  |succ n ih=>
   rw[List.replicate_succ,List.replicate_succ,List.flatten_cons,List.flatten_cons];refine⟨bI.append ih.1,fun v ag=> ?_⟩;rcases List.mem_append.1 ag with ag|ag
   ·exact Ff v ag
   ·exact ih.2 v ag
 unfold wo at h;split at h
 ·rename_i i n off len;split at h
  ·rename_i cA bt ah hrow;obtain⟨rfl,aB,sh,cs⟩:=h;rw[Rep] at ad;obtain⟨_,_,fo,ad⟩:=ad;obtain⟨_,p,ae,ag⟩:=(ad cA _ ah hrow).2 aB;have nothing:len=0→(Builtin.clear_ #[t] gM #[cq]).run P C.w= .ok (.tuple #[]) C.w→ ∃ aV v av,(Builtin.clear_ #[t] gM #[cq]).run P C.w= .ok aV av.w∧Rep av v aV∧cb av∧cd C.d.length C av∧K v av.d:=by
    intro h0 qv;refine⟨_,.bg [],C,qv,by rw[Rep];exact⟨#[],rfl,by simp[ay]⟩,ar,cd.refl C,?_⟩;rw[h0] at cs;have ly:C.d.set i (.aa cA D.length (jZ ah off (List.replicate 0 D)))=C.d:=by
     have:jZ ah off (List.replicate 0 D)=ah:=by simp[jZ]
     rw[this];apply List.ext_getElem?;intro k;rw[List.getElem?_set];split
     ·subst_vars
      first|exact hrow.symm| (rw[if_pos fo];exact hrow.symm)
     ·rfl
    rw[ly] at cs;exact cs
   rcases ar.aa hrow with ⟨iv,iq⟩|⟨b,cap,aj,iv,h1,B,am,bp,cn,dj⟩
   ·subst iq;rw[ae] at iv;simp at iv;subst iv;simp only[nO] at ag;obtain⟨⟨iU,rfl⟩,_,rfl⟩:=ag;refine nothing rfl ?_;cases iU<;>simp[Builtin.clear_,run_underlying ht]
   ·rw[ae] at iv;simp at iv;subst iv;simp only[nO] at ag;obtain⟨dB,dH,rfl,aJc,gT,gU,oH,bi⟩:=ag
    by_cases h0:len=0
    ·refine nothing h0 ?_;subst h0;simp[Builtin.clear_,run_underlying ht]
    ·have aw:dB=⟨b,off*D.length,none⟩:=by
      obtain⟨x,y,D⟩:=dB;simp only at gT gU bi;rw[gT,gU,bi (by omega)]
     subst aw;have nW:fj C D.length (List.replicate len D) (List.replicate len cu.cells.toList).flatten:=
      ⟨fun x ad=>by rw[List.eq_of_mem_replicate ad],(jq _).1,(jq _).2⟩
     have ns: (List.replicate len cu.cells.toList).flatten.length=len*D.length:=by rw[nW.length,List.length_replicate]
     have Iz: (Builtin.zeroCells cu.cells len).toList=(List.replicate len cu.cells.toList).flatten:=by
      unfold Builtin.zeroCells;exact Aa cu.cells len
     obtain⟨ai,he,nT⟩:=dj.sm;have oE:=Fd B nT;have wn:=he.length;have rl:off*D.length+len*D.length≤ah.length*D.length:=by rw[←Nat.add_mul];exact Nat.mul_le_mul_right _ (by omega)
     have tA:ah.length*D.length≤cap*D.length:=Nat.mul_le_mul_right _ cn;have ce:=run_storeCells_at P b (off*D.length) cA (List.replicate len cu.cells.toList).flatten 0 aj C.w B (by rw[ns];omega) nW.cM;simp only[Nat.add_zero] at ce;have gb:=ya ar hrow ae b cap (aj.toList.take (off*D.length)++(List.replicate len cu.cells.toList).flatten++aj.toList.drop (off*D.length+(List.replicate len cu.cells.toList).flatten.length)).toArray
      (jZ ah off (List.replicate len D)) (ai.take (off*D.length)++(List.replicate len cu.cells.toList).flatten++ai.drop (off*D.length+(List.replicate len cu.cells.toList).flatten.length))
      (C.w.setRow b (aj.toList.take (off*D.length)++(List.replicate len cu.cells.toList).flatten++aj.toList.drop (off*D.length+(List.replicate len cu.cells.toList).flatten.length)).toArray)
      ⟨rfl,rfl,rfl,by simp,fun k _ gc=>setRow_other C.w b k _ (fun e=>gc (by simp[e]))⟩ (.inl rfl) (setRow_heap C.w b aj _ cA _ B)
      (by simp only[List.size_toArray,List.length_append,List.length_drop,ns,Array.length_toList];rw[List.length_take];simp only[Array.length_toList];omega)
      bp (by simp only[jZ,List.length_append,List.length_take,List.length_drop,List.length_replicate];omega)
      ⟨fun x ad=> ?_,?_,he.cM.eO nW.cM⟩ ?_ (by simp only[jZ,List.length_append,List.length_take,List.length_drop,List.length_replicate];omega) (fun _=>rfl)
     ·refine⟨.tuple #[],.bg [],_,?_,by rw[Rep];exact⟨#[],rfl,by simp[ay]⟩,gb.1,gb.2,cs⟩;obtain⟨m,rfl⟩: ∃ m,len=m+1:=⟨len-1,by omega⟩;simp only[Builtin.clear_,run_underlying ht,Sem.run_bind,Result.andThen_ok,sf an jp,Iz,ce,Sem.run_pure];simp[run_underlying ht,sf an jp,Iz,ce]
     ·unfold jZ at ad;rcases List.mem_append.1 ad with ad|ad
      ·rcases List.mem_append.1 ad with ad|ad
       ·exact he.iW x (List.mem_of_mem_take ad)
       ·exact nW.iW x ad
      ·exact he.iW x (List.mem_of_mem_drop ad)
     ·rw[T5 he.iW nW.iW (by simp only[List.length_replicate];omega)];exact he.ks.eO nW.ks
     ·rw[ns];simp only[List.length_append,List.length_take,List.length_drop,ns];have Fe:ai.length≤aj.toList.length:=by simp only[Array.length_toList];omega
      have bF:min (off*D.length) ai.length+len*D.length+(ai.length-(off*D.length+len*D.length))=ai.length:=by omega
      rw[bF];have:=ND aj.toList (List.replicate len cu.cells.toList).flatten ai.length (off*D.length) (by rw[ns];omega) Fe;rw[ns] at this;show List.take ai.length (aj.toList.take (off*D.length)++(List.replicate len cu.cells.toList).flatten++aj.toList.drop (off*D.length+len*D.length))=_;rw[this,oE]
  ·exact h.elim
 ·exact h.elim
theorem aiJ {t e:TypeId}{len N:Nat}{x y:z}{cq fI:Value}(aZ:P.underlying t=some (.array len e))(ak:hN P e=some N)(h1:1 < len)(ad:Rep C x cq)(bl:Rep C y fI)
 (h:Am len N x y fun v=>K v C.d): ∃ aV v,(Instr.indexAt t cq fI).run P C.w= .ok aV C.w∧Rep C v aV∧K v C.d:=by
 unfold Am at h;split at h
 ·rename_i i n c off k j;obtain⟨wq,qy,cs⟩:=h;rw[Rep] at bl;subst bl;rw[Rep] at ad;obtain⟨gV,⟨dB,ee⟩,fo,ad⟩:=ad;subst ee;refine⟨.pointer (some (dB.add (j.toNat*N))),_,?_,?_,cs⟩
  ·simp[Instr.indexAt,asIntOf,run_underlying aZ,Instr.sureAddr,lZ ak,wq,qy]
  ·rw[Rep];refine⟨gV,⟨_,rfl⟩,fo,fun e oF ah ag=>⟨(ad e oF ah ag).1,fun hm=> ?_⟩⟩;obtain⟨g1,b,F,bM,dh⟩:=(ad e oF ah ag).2 hm;simp at dh;subst dh;exact⟨g1,b,F,bM,by rw[sg,Nat.add_assoc]⟩
 ·rename_i cells off k j;obtain⟨wq,qy,cs⟩:=h;rw[Rep] at bl;subst bl;rw[Rep] at ad;obtain⟨b,L,rfl,Z,gB⟩:=ad;refine⟨.pointer (some ⟨b,L+off+j.toNat*N,none⟩),_,?_,?_,cs⟩
  ·simp[Instr.indexAt,asIntOf,run_underlying aZ,Instr.sureAddr,lZ ak,wq,qy,sg]
  ·rw[Rep];exact⟨b,L,by rw[Nat.add_assoc],Z,gB⟩
 ·exact h.elim
theorem aiK {t e:TypeId}{len n:Nat}{D:List z}{ef:Array (Nat×Operand)}{ρ:Operand→Value}{vs aj:List z}{w:World}
 (aS:mJ P t=some D) (aZ:P.underlying t=some (.array len e)) (ak:hN P e=some n) (G:ay C vs ((ef.toList.map (·.2)).map ρ))
 (hf:nX D ((ef.toList.map (·.1)).map fun c=>(c*n,n)) vs=some aj) (h1: (vs.all fun v=>(cf v).all cM)=true):
 ∃ aV,(Instr.build t (ef.map fun (c,x)=>(c,ρ x))).run P w= .ok aV w∧Rep C (.agg aj) aV:=by
 obtain⟨c,cu,an,jp,lu,hl,ip,dt⟩:=sd aS;obtain⟨bI,ca⟩:=rf (C:=C) lu;obtain⟨i,r1,cO,_⟩:=Fg (C:=C) (fun (c:Nat)=>some (c*n,n)) (ef.toList.map (·.1)) _ vs _ D aj cu.cells rfl (by simp) G (by rw[List.filterMap_eq_map'];exact hf) h1 bI;refine⟨.agg i,?_,by rw[Rep];exact⟨i,rfl,cO⟩⟩;have sn: (ef.map fun (c,x)=>(c,ρ x)).toList=(ef.toList.map (·.1)).zip ((ef.toList.map (·.2)).map ρ):=by
  rw[Array.toList_map];exact IK _ _
 simp only[Instr.build,Sem.run_bind,sf an jp,Result.andThen_ok,run_underlying aZ,lZ ak];rw[sn,r1];simp
end
end Go.Abs
namespace Go.Abs
variable [Dr]
section
variable {P:Program} {C:bv} {K:z→List R→Prop}
theorem dN.val (ar:cb C){E:Sem Value}(h: ∃ aV v,E.run P C.w= .ok aV C.w∧Rep C v aV∧K v C.d):dN P C (do pure (.value (←E))) K:=by
 obtain⟨aV,v,h1,B,am⟩:=h;exact dN.aiL ar h1 B am
theorem dN.qz {E:Sem Value}(h: ∃ aV v av,E.run P C.w= .ok aV av.w∧Rep av v aV∧cb av∧cd C.d.length C av∧K v av.d):dN P C (do pure (.value (←E))) K:=by
 obtain⟨aV,v,av,h1,B,am,bp,cn⟩:=h;exact dN.aiM am bp h1 B cn
theorem aiN (op:BinOp)(t:TypeId)(nY nZ:Operand)(k bo:IntKind)(a b:Int)(w:World): (eqGuard op t nY nZ (.int k a) (.int bo b)).run P w= .ok () w:=by
 cases op<;>simp[eqGuard]
theorem aiO (op:BinOp)(t:TypeId)(nY nZ:Operand)(a b:ByteArray)(w:World): (eqGuard op t nY nZ (.string a) (.string b)).run P w= .ok () w:=by
 cases op<;>simp[eqGuard]
theorem aiP (op:BinOp)(t:TypeId)(nY nZ:Operand)(a b:Bool)(w:World): (eqGuard op t nY nZ (.bool a) (.bool b)).run P w= .ok () w:=by
 cases op<;>simp[eqGuard]
theorem T6 {op:BinOp}{t:TypeId}{x y:z}{cq fI:Value}{nY nZ:Operand}(ad:Rep C x cq)(bl:Rep C y fI)
 {K:z→Prop} (h:me op x y K):
 ∃ aV v,(do eqGuard op t nY nZ cq fI;binOp op t cq fI:Sem Value).run P C.w= .ok aV C.w∧Rep C v aV∧K v:=by
 unfold me at h;split at h
 ·rename_i k a bo b;rw[Rep] at ad bl;subst ad;subst bl;simp only[Sem.run_bind,aiN,Result.andThen_ok];split at h
  case h_1=>exact⟨_,_,by simp only[binOp,Op.shift];rw[if_neg (by omega)];rfl,by rw[Rep],h.2⟩
  case h_2=>exact⟨_,_,by simp only[binOp,Op.shift];rw[if_neg (by omega)];rfl,by rw[Rep],h.2⟩
  case h_3=>obtain⟨rfl,h⟩:=h;exact⟨_,_,by simp only[binOp,Op.intArith,ne_eq,not_true_eq_false,if_false];rfl,by rw[Rep],h⟩
  case h_4=>obtain⟨rfl,h⟩:=h;exact⟨_,_,by simp only[binOp,Op.intArith,ne_eq,not_true_eq_false,if_false];rfl,by rw[Rep],h⟩
  case h_5=>obtain⟨rfl,h⟩:=h;exact⟨_,_,by simp only[binOp,Op.intArith,ne_eq,not_true_eq_false,if_false];rfl,by rw[Rep],h⟩
  case h_6=>obtain⟨rfl,h0,h⟩:=h;exact⟨_,_,by simp only[binOp,Op.intDiv,ne_eq,not_true_eq_false,if_false,h0];rfl,by rw[Rep],h⟩
  case h_7=>obtain⟨rfl,h0,h⟩:=h;exact⟨_,_,by simp only[binOp,Op.intDiv,ne_eq,not_true_eq_false,if_false,h0];rfl,by rw[Rep],h⟩
  case h_8=>obtain⟨rfl,h⟩:=h;exact⟨_,_,by simp only[binOp,Op.intBits,ne_eq,not_true_eq_false,if_false];rfl,by rw[Rep],h⟩
  case h_9=>obtain⟨rfl,h⟩:=h;exact⟨_,_,by simp only[binOp,Op.intBits,ne_eq,not_true_eq_false,if_false];rfl,by rw[Rep],h⟩
  case h_10=>obtain⟨rfl,h⟩:=h;exact⟨_,_,by simp only[binOp,Op.intBits,ne_eq,not_true_eq_false,if_false];rfl,by rw[Rep],h⟩
  case h_11=>obtain⟨rfl,h⟩:=h;exact⟨_,_,by simp only[binOp,Op.intCmp,ne_eq,not_true_eq_false,if_false];rfl,by rw[Rep],h⟩
  case h_12=>obtain⟨rfl,h⟩:=h;exact⟨_,_,by simp only[binOp,Op.intCmp,ne_eq,not_true_eq_false,if_false];rfl,by rw[Rep],h⟩
  case h_13=>obtain⟨rfl,h⟩:=h;exact⟨_,_,by simp only[binOp,Op.intCmp,ne_eq,not_true_eq_false,if_false];rfl,by rw[Rep],h⟩
  case h_14=>obtain⟨rfl,h⟩:=h;exact⟨_,_,by simp only[binOp,Op.intCmp,ne_eq,not_true_eq_false,if_false];rfl,by rw[Rep],h⟩
  case h_15=>obtain⟨rfl,h⟩:=h;exact⟨_,_,by simp only[binOp,Op.intCmp,ne_eq,not_true_eq_false,if_false];rfl,by rw[Rep],h⟩
  case h_16=>obtain⟨rfl,h⟩:=h;exact⟨_,_,by simp only[binOp,Op.intCmp,ne_eq,not_true_eq_false,if_false];rfl,by rw[Rep],h⟩
  case h_17=>exact h.elim
 ·rename_i a b;rw[Rep] at ad bl;subst ad;subst bl;simp only[Sem.run_bind,aiO,Result.andThen_ok];split at h
  case h_1=>exact⟨_,_,by simp only[binOp,Op.stringOp];rfl,by rw[Rep],h⟩
  case h_2=>exact⟨_,_,by simp only[binOp,Op.stringOp];rfl,by rw[Rep],h⟩
  case h_3=>exact⟨_,_,by simp only[binOp,Op.stringOp];rfl,by rw[Rep],h⟩
  case h_4=>exact⟨_,_,by simp only[binOp,Op.stringOp];rfl,by rw[Rep],h⟩
  case h_5=>exact⟨_,_,by simp only[binOp,Op.stringOp];rfl,by rw[Rep],h⟩
  case h_6=>exact⟨_,_,by simp only[binOp,Op.stringOp];rfl,by rw[Rep],h⟩
  case h_7=>exact⟨_,_,by simp only[binOp,Op.stringOp];rw[if_neg (by omega)];rfl,by rw[Rep],h.2⟩
  case h_8=>exact h.elim
 ·exact h.elim
theorem T7 {oK:BinOp}{t:TypeId}{nY nZ:Operand}{cq fI:Value}{ah:List z}{neg:Bool}(dC:oK=if neg then .neq else .eql)(aZ:P.underlying t=some .bool)
 (G:ay C ah [cq,fI]) (h:aI (.Fh neg) ah C.d K): ∃ aV v,(do eqGuard oK t nY nZ cq fI;binOp oK t cq fI:Sem Value).run P C.w= .ok aV C.w∧Rep C v aV∧K v C.d:=by
 obtain⟨a,b,rfl,aw,Z⟩:=lA G;cases a with
 |bool p=>
  cases b with
  |bool q=>
   simp only[aI] at h;rw[Rep] at aw Z;refine⟨.bool ((p==q) != neg),_,?_,by rw[Rep],h⟩;simp only[aw,Z,Sem.run_bind,aiP,Result.andThen_ok];cases neg<;>simp at dC<;>subst dC<;>simp[binOp,Op.equal,Op.maxDepth,run_equalIn_bool' C.w 9999 t _ _ aZ]
  |_=>simp[aI] at h
 |_=>simp[aI] at h
theorem T8 {oK:BinOp}{t:TypeId}{nY nZ:Operand}{cq fI:Value}{ah:List z}{neg:Bool}{M:List cN}{oL:Array Field}(dC:oK=if neg then .neq else .eql)
 (aZ:P.underlying t=some (.struct oL)) (kK:flatK P 20 t=some M) (ao:P.eqGuardType P.depth t=false)
 (G:ay C ah [cq,fI]) (h:aI (.qA neg M) ah C.d K): ∃ aV v,(do eqGuard oK t nY nZ cq fI;binOp oK t cq fI:Sem Value).run P C.w= .ok aV C.w∧Rep C v aV∧K v C.d:=by
 obtain⟨a,b,rfl,aw,Z⟩:=lA G;cases a with
 |agg p=>
  cases b with
  |agg q=>
   simp only[aI] at h;obtain⟨et,hO,I⟩:=h;rw[Rep] at aw Z;obtain⟨hj,rfl,wd⟩:=aw;obtain⟨nr,rfl,E6⟩:=Z;have fJ:gW P t=some true:=by simp[gW,aZ]
   have he:=Nr (C:=C) C.w 20 10000 t M p q hj.toList nr.toList (.agg hj) (.agg nr) kK (by omega) et hO wd E6 (.inl ⟨fJ,rfl⟩) (.inl ⟨fJ,rfl⟩);refine⟨.bool (dU p q != neg),_,?_,by rw[Rep],I⟩;have NE: (eqGuard oK t nY nZ (.agg hj) (.agg nr)).run P C.w= .ok () C.w:=by
    cases oK<;>simp[eqGuard,ao]
   simp only[Sem.run_bind,NE,Result.andThen_ok];cases neg<;>simp at dC<;>subst dC<;>simp[binOp,Op.equal,Op.maxDepth,he]
  |_=>simp[aI] at h
 |_=>simp[aI] at h
theorem T9 (w:World)(n:Nat)(t e:TypeId)(a:Addr)(l F:Nat)(aZ:P.underlying t=some (.slice e)): (Op.equalIn (n+1) t (.slice (some a) l F) (.slice none 0 0)).run P w= .ok false w:=by
 rw[Op.equalIn];simp only[Sem.run_bind,run_underlying aZ,Result.andThen_ok,Sem.run_pure]
theorem Ua {oK:BinOp}{t e:TypeId}{nY nZ:Operand}{cq:Value}{x:z}{N:Nat}{neg:Bool}(dC:oK=if neg then .neq else .eql)(ar:cb C)(aZ:P.underlying t=some (.slice e))(ad:Rep C x cq)
 (h:An C.d N neg x fun v=>K v C.d): ∃ aV v,(do eqGuard oK t nY nZ cq (.slice none 0 0);binOp oK t cq (.slice none 0 0):Sem Value).run P C.w= .ok aV C.w∧Rep C v aV∧K v C.d:=by
 unfold An at h;split at h
 ·rename_i ys kr;obtain⟨ct,F,rfl,⟨rfl,rfl⟩|⟨a,vs,rfl,_,_⟩⟩:=II ar ad kr
  ·simp at h
  ·refine⟨.bool neg,_,?_,by rw[Rep],h.2⟩;have NE: (eqGuard oK t nY nZ (.slice (some a) ys.length F) (.slice none 0 0)).run P C.w= .ok () C.w:=by
    cases oK<;>simp[eqGuard]
   simp only[Sem.run_bind,NE,Result.andThen_ok];cases neg<;>simp at dC<;>subst dC<;>simp[binOp,Op.equal,Op.maxDepth,T9 C.w 9999 t e _ _ _ aZ]
 ·exact h.elim
theorem Ub {C:bv}: ∀ {ys:List (List z)} {hk:List Int} {vs:List Value},yb ys=some hk→ay C ys.flatten vs→vs=hk.map (Value.int .u8)
 | [],hk,vs,h,i=>by simp[yb] at h;subst h;simpa[ay] using i
 |y::ys,hk,vs,h,i=>by
  unfold yb at h;split at h
  ·cases ‹_::_= []›
  ·rename_i n al lB;cases lB;split at h
   ·rename_i kt uK;simp at h;subst h;simp only[List.flatten_cons,List.cons_append,List.nil_append] at i;rw[ay] at i;obtain⟨v,bW,rfl,h1,B⟩:=i;rw[Rep] at h1;rw[h1,Ub uK B];rfl
   ·cases h
  ·cases h
theorem aiQ (ar:cb C){E o e:TypeId}{x:z}{cq:Value}(ak:P.underlying E=some (.slice e))(he:P.underlying e=some (.int .u8))(aq:P.underlying o=some .string)(ad:Rep C x cq)
 (h:yc C.d x fun v=>K v C.d): ∃ aV v,(convert E o cq).run P C.w= .ok aV C.w∧Rep C v aV∧K v C.d:=by
 simp only[yc] at h;split at h
 ·exact h.elim
 ·rename_i ys kr;split at h
  ·rename_i hk ts;obtain⟨ct,F,rfl,wl⟩:=II ar ad kr;refine⟨.string (strOf hk),_,?_,by rw[Rep],h⟩;rw[run_convert_bytes_string _ _ _ _ _ _ _ ak he aq];rcases wl with ⟨rfl,rfl⟩|⟨a,vs,rfl,iV,lz⟩
   ·simp[yb] at ts;subst ts;simp[Conv.bytesToString,strOf]
   ·have ag:=Ub ts iV.ks;have hl:=iV.length;rw[Nat.mul_one] at hl;rw[←hl];exact run_bytesToString _ _ _ _ hk (by rw[←ag];exact run_loadCells_list _ _ vs lz)
  ·exact h.elim
theorem aiR (ar:cb C){E e:TypeId}{x:z}{cq:Value}(ak:P.underlying E=some (.slice e))(he:P.underlying e=some (.int .u8))(ad:Rep C x cq)(h:yd C.d x K):
 ∃ aV v av,(convert E E cq).run P C.w= .ok aV av.w∧Rep av v aV∧cb av∧cd C.d.length C av∧K v av.d:=by
 unfold yd at h;split at h
 ·rename_i i n off len;split at h
  ·rename_i cA N ah hrow;obtain⟨aB,rfl,rfl,ip,gB,I⟩:=h;rw[Rep] at ad;obtain⟨gV,_,fo,ad⟩:=ad;obtain⟨_,p,ae,ag⟩:=(ad cA N ah hrow).2 aB;rcases ar.aa hrow with ⟨_,rfl⟩|⟨b,cap,aj,hC,bI,ca,fc,hi,jr,js⟩
   ·simp at aB;omega
   ·rw[hC] at ae;simp at ae;subst ae;simp only[nO] at ag;obtain⟨⟨pF,ct,aHS⟩,F,rfl,aJc,IL,so,oH,_⟩:=ag;simp only at IL so oH;subst IL;subst so;obtain⟨rfl,_⟩:=oH trivial;have tB:C.w.shape? pF=some (cA,aj.size):=by simp[World.shape?,ca]
    have mf: ∀ k,k≠pF→(C.w.freeze ⟨pF,aj.size,none⟩ 1).heap[k]? =C.w.heap[k]? :=by
     intro k I;simp[World.freeze,Array.getElem?_modify,I.symm]
    have gb: (C.w.freeze ⟨pF,aj.size,none⟩ 1).heap[pF]? =some (.cells aj cA (aj.size,aj.size+1)):=by
     simp[World.freeze,Array.getElem?_modify,ca]
    have lz: ∀ L,(C.w.freeze ⟨pF,aj.size,none⟩ 1).cell? ⟨pF,L,none⟩=C.w.cell? ⟨pF,L,none⟩:=by
     intro L;simp[World.cell?,gb,ca]
    have Ao: (C.w.freeze ⟨pF,aj.size,none⟩ 1).heap.size=C.w.heap.size:=by simp[World.freeze]
    have Ap:i < C.bm.length:=by rw[ar.dm];exact fo
    have oM: ∀ {k:Nat},k≠i→(C.bm.set i none)[k]? =C.bm[k]? :=fun hne=>by rw[List.getElem?_set,if_neg (fun e=>hne e.symm)]
    have Aq: (C.bm.set i none)[i]? =some none:=by rw[List.getElem?_set,if_pos rfl,if_pos Ap]
    have pG: ∀ {k:Nat} {q:Nat×Nat},(C.bm.set i none)[k]? =some (some q)→k≠i∧C.bm[k]? =some (some q):=by
     intro k q I
     by_cases ga:k=i
     ·subst ga;rw[Aq] at I;simp at I
     ·rw[oM ga] at I;exact⟨ga,I⟩
    have later:cd C.d.length C ⟨C.d.set i .fH,C.bm.set i none,C.bS,C.w.freeze ⟨pF,aj.size,none⟩ 1,C.bT⟩:=by
     refine⟨rfl,rfl,rfl,by rw[Ao];exact Nat.le_refl _,fun k I bi=>mf k fun NF=> ?_,fun k eu dH I=> .inl ⟨k,dH,(pG I).2⟩,rfl,rfl,by simp,fun k bJ oF ma I gd=> ?_,fun k kJ I gd=> ?_,fun _=>Nat.le_refl _⟩
     ·subst NF;exact bi i cap hC
     ·by_cases ga:k=i
      ·subst ga;simp only[List.getElem?_set,if_true,fo] at gd;simp at gd
      ·simp only[List.getElem?_set] at gd;rw[if_neg (fun e=>ga e.symm)] at gd;exact⟨ma,gd,Nat.le_refl _,fun _=>oM ga⟩
     ·by_cases ga:k=i
      ·subst ga;simp only[List.getElem?_set,if_true,fo] at gd;simp at gd
      ·simp only[List.getElem?_set] at gd;rw[if_neg (fun e=>ga e.symm)] at gd;exact⟨kJ,gd,oM ga⟩
    refine⟨.slice (some ⟨pF,0,none⟩) len F,.pure N ah,⟨C.d.set i .fH,C.bm.set i none,C.bS,C.w.freeze ⟨pF,aj.size,none⟩ 1,C.bT⟩,?_,?_,⟨ar.bT,by simp[ar.dm],fun k bz I=> ?_,fun k bo eu c1 c2 h1 B=> ?_,fun eu jH=>by rw[Ao];exact ar.bS eu jH⟩,later,I⟩
    ·simp[convert,run_underlying ak,run_underlying he,markStringish,tB]
    ·rw[Rep];refine⟨_,F,by rw[←aB],by rw[←aB];exact aJc,.inr ⟨pF,0,rfl,⟨by rw[Ao];exact ar.lt hC,bI,fun k dH I=> ?_⟩,?_⟩⟩
     ·obtain⟨g1,bM⟩:=pG I;exact g1 (ar.inj k i pF dH cap bM hC)
     ·obtain⟨g1,bM⟩:=Ar.1 (cT.pH pF N 0 ah gB js);exact Ar.2 ⟨g1,bM.move later.ext.p fun j _=>lz _⟩
    ·by_cases ga:k=i
     ·subst ga;simp only[List.getElem?_set,if_true,fo] at I;simp at I;subst I;exact Aq
     ·have gc:C.d[k]? =some bz:=by
       simp only[List.getElem?_set] at I;rw[if_neg (fun e=>ga e.symm)] at I;exact I
      refine dA.move later.ext rfl (oM ga) (fun eu dH jH=>mf eu fun aiS=> ?_) (ar.d k bz gc);subst aiS;exact ga (ar.inj k i eu dH cap jH hC)
    ·exact ar.inj k bo eu c1 c2 (pG h1).2 (pG B).2
  ·exact h.elim
 ·exact h.elim
theorem Uc {L:Oper}{Ck:fV}{ai:List Operand}(V:oN P L=some (Ck,ai))(IM: ∀ f,Ck≠ .call f)(ar:cb C)(ρ:Operand→Value)(Ud: ∀ v,ρ (.const v)=v){ah:List z}
 (G:ay C ah (ai.map ρ)) (h:aI Ck ah C.d K):dN P C (execOp ρ L) K:=by
 obtain⟨dst,op,type,IN,after,guard⟩:=L;unfold oN at V;simp only at V;split at V
 ·
  simp at V;obtain⟨rfl,rfl⟩:=V;obtain⟨a,rfl,aw⟩:=ia G;exact⟨.value _,_,a,C,rfl,.inl rfl,aw,ar,cd.refl C,h⟩
 ·
  simp at V;obtain⟨rfl,rfl⟩:=V;obtain⟨a,rfl,aw⟩:=ia G;exact⟨.value _,_,a,C,rfl,.inl rfl,aw,ar,cd.refl C,h⟩
 ·
  simp at V;obtain⟨rfl,rfl⟩:=V;obtain⟨a,b,F,rfl,aw,Z,V⟩:=NG G;cases a<;>simp only[aI] at h;rename_i t;rw[Rep] at aw;cases t
  ·exact⟨.value _,_,F,C,by simp only[execOp,aw,asBool,Sem.run_bind,Sem.run_pure,Result.andThen_ok];rfl,.inl rfl,V,ar,cd.refl C,h⟩
  ·exact⟨.value _,_,b,C,by simp only[execOp,aw,asBool,Sem.run_bind,Sem.run_pure,Result.andThen_ok];rfl,.inl rfl,Z,ar,cd.refl C,h⟩
 ·
  split at V
  ·rename_i t D aS;simp at V;obtain⟨rfl,rfl⟩:=V;rw[Fi G] at h;exact dN.qz (aiT ar aS h)
  ·cases V
 ·
  split at V
  ·rename_i t x n ak;simp at V;obtain⟨rfl,rfl⟩:=V;obtain⟨a,rfl,aw⟩:=ia G;simp only[aI] at h;exact dN.qz (aiU ar aw h.1 h.2.1 h.2.2)
  ·cases V
 ·
  split at V
  ·rename_i t ef D oL aS aZ;split at V
   ·rename_i rm ae;split at V
    ·rename_i hall;simp only[Option.some.injEq,Prod.mk.injEq] at V;obtain⟨rfl,rfl⟩:=V;simp only[aI] at h;split at h
     ·rename_i aj hf;obtain⟨aV,r1,cO⟩:=aiV (P:=P) (w:=C.w) aS aZ ae hall G hf h.1;exact dN.val ar ⟨aV,_,r1,cO,h.2⟩
     ·exact h.elim
    ·cases V
   ·cases V
  ·rename_i t ef D len e aS aZ;split at V
   ·rename_i n ak;simp only[Option.some.injEq,Prod.mk.injEq] at V;obtain⟨rfl,rfl⟩:=V;simp only[aI] at h;split at h
    ·rename_i aj hf;obtain⟨aV,r1,cO⟩:=aiK (P:=P) (w:=C.w) aS aZ ak G hf h.1;exact dN.val ar ⟨aV,_,r1,cO,h.2⟩
    ·exact h.elim
   ·cases V
  ·cases V
 ·
  split at V
  ·rename_i t len ef _ e aZ;split at V
   ·rename_i D aS;split at V
    ·rename_i h0;simp only[Option.some.injEq,Prod.mk.injEq] at V;obtain⟨rfl,rfl⟩:=V;rw[Fi G] at h;obtain⟨rfl,As⟩:=h0;have hn:ef= #[]:=Array.eq_empty_of_size_eq_zero As;subst hn;obtain⟨c,cu,an,jp,lu,hl,ip,dt⟩:=sd aS;obtain⟨g1,bM⟩:=aiW ar (.cells #[] e);refine dN.qz ⟨.slice (some ⟨C.w.heap.size,0,none⟩) 0 0,.bD,_,?_,by rw[Rep];exact⟨_,rfl⟩,g1,bM,h⟩;have hM:Array.range 0= #[]:=rfl;simp[Instr.buildSlice,run_underlying aZ,sizeOf,typeInfo,an,Instr.fill,newRow,hM]
    split at V
    ·rename_i hl;simp only[Option.some.injEq,Prod.mk.injEq] at V;obtain⟨rfl,rfl⟩:=V;simp only[aI] at h;split at h
     ·rename_i al hf;exact dN.qz (aiX ar aZ aS hl G hf h.1 h.2)
     ·exact h.elim
    ·cases V
   ·cases V
  ·cases V
 ·
  split at V
  ·rename_i t l F e aZ;split at V
   ·rename_i D jG aS Z;split at V
    ·cases V
    simp at V;obtain⟨rfl,rfl⟩:=V;obtain⟨a,b,rfl,aw,jH⟩:=lA G;cases a<;>simp only[aI] at h;cases b<;>simp only at h;rw[Rep] at aw jH;simp only[execOp,aw,jH];exact dN.qz (aid ar aZ aS Z h.1 h.2.1 h.2.2.1 h.2.2.2.1 h.2.2.2.2)
   ·cases V
  ·cases V
 ·
  split at V
  ·rename_i t x n fJ ak;simp at V;obtain⟨rfl,rfl⟩:=V;obtain⟨a,rfl,aw⟩:=ia G;exact dN.val ar (Ue ar aw fJ ak h)
  ·rename_i t x n fJ;simp at V;obtain⟨rfl,rfl⟩:=V;obtain⟨a,rfl,aw⟩:=ia G;exact dN.val ar (Uf ar aw fJ h)
  ·cases V
 ·
  split at V
  ·rename_i t x y n ak;simp at V;obtain⟨rfl,rfl⟩:=V;obtain⟨a,b,rfl,aw,Z⟩:=lA G;obtain⟨av,r1,cO,fN,eG⟩:=aiY ar aw Z ak h;exact dN.unit cO fN r1 eG
  ·cases V
 ·
  simp at V;obtain⟨rfl,rfl⟩:=V;obtain⟨a,rfl,aw⟩:=ia G;cases a<;>simp only[aI] at h
  ·have tC:=aw;rw[Rep] at tC;obtain⟨_,⟨dB,e⟩,_⟩:=tC;refine⟨.value _,_,_,C,?_,.inl rfl,aw,ar,cd.refl C,h⟩;simp[execOp,e]
  ·have tC:=aw;rw[Rep] at tC;obtain⟨b,L,e,_⟩:=tC;refine⟨.value _,_,_,C,?_,.inl rfl,aw,ar,cd.refl C,h⟩;simp[execOp,e]
 ·
  rename_i oK t x y aHT;split at V
  ·simp at V;obtain⟨rfl,rfl⟩:=V;obtain⟨a,b,rfl,aw,Z⟩:=lA G;exact dN.val ar (T6 (K:=fun v=>K v C.d) aw Z h)
  ·simp at V;obtain⟨rfl,rfl⟩:=V;obtain⟨a,b,rfl,aw,Z⟩:=lA G;exact dN.val ar (T6 (K:=fun v=>K v C.d) aw Z h)
  ·rename_i aZ;split at V
   ·simp at V;obtain⟨rfl,rfl⟩:=V;exact dN.val ar (T7 (neg:=false) rfl aZ G h)
   ·simp at V;obtain⟨rfl,rfl⟩:=V;exact dN.val ar (T7 (neg:=true) rfl aZ G h)
   ·cases V
  ·rename_i oL aZ;split at V
   ·rename_i M kK;split at V
    ·cases V
    rename_i ao;split at V
    ·simp at V;obtain⟨rfl,rfl⟩:=V;exact dN.val ar (T8 (neg:=false) rfl aZ kK (by simpa using ao) G h)
    ·simp at V;obtain⟨rfl,rfl⟩:=V;exact dN.val ar (T8 (neg:=true) rfl aZ kK (by simpa using ao) G h)
    ·cases V
   ·cases V
  ·rename_i e aZ;split at V
   ·simp at V;obtain⟨rfl,rfl⟩:=V;obtain⟨a,rfl,aw⟩:=ia G;simp only[aI] at h;have hh:=Ua (nY:=x) (nZ:= .const (.slice none 0 0)) (neg:=false) rfl ar aZ aw h;exact dN.val ar (by rw[Ud];exact hh)
   ·simp at V;obtain⟨rfl,rfl⟩:=V;obtain⟨a,rfl,aw⟩:=ia G;simp only[aI] at h;have hh:=Ua (nY:=x) (nZ:= .const (.slice none 0 0)) (neg:=true) rfl ar aZ aw h;exact dN.val ar (by rw[Ud];exact hh)
   ·cases V
  ·cases V
 ·
  simp at V;obtain⟨rfl,rfl⟩:=V;obtain⟨a,rfl,aw⟩:=ia G;cases a<;>simp only[aI] at h;rw[Rep] at aw;exact dN.val ar ⟨_,_,by simp only[aw,Op.unary];rfl,by rw[Rep],h⟩
 ·
  simp at V;obtain⟨rfl,rfl⟩:=V;obtain⟨a,rfl,aw⟩:=ia G;cases a<;>simp only[aI] at h;rw[Rep] at aw;exact dN.val ar ⟨_,_,by simp only[aw,Op.unary,Op.intArith];rfl,by rw[Rep],h⟩
 ·
  rename_i E o x;split at V
  ·rename_i M aHU ak aq;simp at V;obtain⟨rfl,rfl⟩:=V;obtain⟨a,rfl,aw⟩:=ia G;cases a<;>simp only[aI] at h;rw[Rep] at aw;refine dN.val ar ⟨_,_,?_,by rw[Rep],h⟩;simp[aw,convert,run_underlying ak,run_underlying aq,Conv.intToInt]
  ·rename_i e ak aq;split at V
   ·rename_i he;simp at V;obtain⟨rfl,rfl⟩:=V;obtain⟨a,rfl,aw⟩:=ia G;simp only[aI] at h;exact dN.val ar (aiQ ar ak he aq aw h)
   ·cases V
  ·rename_i e cA ak aq;split at V
   ·rename_i NH;subst NH;split at V
    ·rename_i he;simp at V;obtain⟨rfl,rfl⟩:=V;obtain⟨a,rfl,aw⟩:=ia G;simp only[aI] at h;exact dN.qz (aiR ar ak he aw h)
    ·cases V
   ·cases V
  ·cases V
 ·
  rename_i E x f;split at V
  ·rename_i oL aZ;split at V
   ·rename_i oO hf;split at V
    ·rename_i n ak;split at V
     ·cases V
     rename_i aB;simp at V;obtain⟨rfl,rfl⟩:=V;obtain⟨a,rfl,aw⟩:=ia G;simp only[aI] at h;cases a<;>simp only[Fj] at h
     ·rename_i i m c off;rw[Rep] at aw;obtain⟨gV,⟨dB,ee⟩,fo,ad⟩:=aw;refine dN.val ar ⟨.pointer (some (dB.add oO.offset)),_,?_,?_,h⟩
      ·simp[Instr.fieldAt,Instr.sureAddr,fieldPlace,run_underlying aZ,hf,ee,lZ ak,aB]
      ·rw[Rep];refine⟨gV,⟨_,rfl⟩,fo,fun e N ah ag=>⟨(ad e N ah ag).1,fun hm=> ?_⟩⟩;obtain⟨g1,b,F,bM,dh⟩:=(ad e N ah ag).2 hm;rw[ee] at dh;simp at dh;subst dh;exact⟨g1,b,F,bM,by rw[sg,Nat.add_assoc]⟩
     ·rename_i cells off;rw[Rep] at aw;obtain⟨b,L,ee,Z,gB⟩:=aw;refine dN.val ar ⟨.pointer (some ⟨b,L+off+oO.offset,none⟩),_,?_,?_,h⟩
      ·simp[Instr.fieldAt,Instr.sureAddr,fieldPlace,run_underlying aZ,hf,ee,lZ ak,aB,sg]
      ·rw[Rep];exact⟨b,L,by rw[Nat.add_assoc],Z,gB⟩
    ·cases V
   ·cases V
  ·cases V
 ·
  rename_i E x f;split at V
  ·rename_i oL aZ;split at V
   ·rename_i oO hf;split at V
    ·rename_i n fJ ak;simp at V;obtain⟨rfl,rfl⟩:=V;obtain⟨a,rfl,aw⟩:=ia G;cases a<;>simp only[aI] at h;rename_i aj;rw[Rep] at aw;obtain⟨vs,ee,ag⟩:=aw;have hl:=ag.length;obtain⟨v,p1,iG⟩:=E5 (P:=P) (w:=C.w) (off:=oO.offset) (vs:=vs.toList) fJ ak (by omega) (by intro h;cases h);rcases iG with ⟨_,rfl⟩|⟨B,_⟩
     ·refine dN.val ar ⟨.agg ((vs.toList.drop oO.offset).take n).toArray,_,?_,?_,h.2⟩
      ·simp only[Instr.field,Sem.run_bind,run_underlying aZ,Result.andThen_ok,hf,ee,asAgg,Sem.run_pure];simpa using p1
      ·rw[Rep];exact⟨_,rfl,by simpa using (ag.drop oO.offset).take n⟩
     ·rw[fJ] at B;cases B
    ·rename_i n fJ;simp at V;obtain⟨rfl,rfl⟩:=V;obtain⟨a,rfl,aw⟩:=ia G;cases a<;>simp only[aI] at h;rename_i aj;rw[Rep] at aw;obtain⟨vs,ee,ag⟩:=aw;obtain⟨v,g1,bM⟩:=ag.nS oO.offset h.1;refine dN.val ar ⟨v,_,?_,bM,h.2⟩;have we:vs[oO.offset]? =some v:=by simpa using g1
     simp[Instr.field,run_underlying aZ,hf,ee,asAgg,part,Ae fJ,we]
    ·cases V
   ·cases V
  ·cases V
 ·
  rename_i t x c;split at V
  ·rename_i e aZ;split at V
   ·rename_i n ak;simp at V;obtain⟨rfl,rfl⟩:=V;obtain⟨a,b,rfl,aw,Z⟩:=lA G;exact dN.val ar (aij ar aZ ak aw Z h)
   ·cases V
  ·rename_i len e aZ;split at V
   ·rename_i n ak;split at V
    ·rename_i jv;simp at V;obtain⟨rfl,rfl⟩:=V;obtain⟨a,b,rfl,aw,Z⟩:=lA G;exact dN.val ar (aiJ aZ ak jv aw Z h)
    ·cases V
   ·cases V
  ·cases V
 ·
  rename_i t x c;split at V
  ·rename_i aZ;simp at V;obtain⟨rfl,rfl⟩:=V;obtain⟨a,b,rfl,aw,Z⟩:=lA G;cases a<;>simp only[aI] at h;cases b<;>simp only at h;rename_i E k n;simp only[Rep] at aw Z;obtain⟨h0,h1,I⟩:=h;have aC:n.toNat < E.size:=by omega
   refine dN.val ar ⟨_,_,?_,by rw[Rep],I⟩;have bF:E[n.toNat]? =some (E.data.getD n.toNat 0):=by
    rw[getElem?_pos E n.toNat aC];have B:n.toNat < E.data.size:=aC;simp only[Array.getD,B,dif_pos];rfl
   simp[aw,Z,Instr.index,asIntOf,run_underlying aZ,h0,bF]
  ·rename_i len e aZ;split at V
   ·rename_i n fJ ak;simp at V;obtain⟨rfl,rfl⟩:=V;obtain⟨a,b,rfl,aw,Z⟩:=lA G;cases a<;>simp only[aI] at h;cases b<;>simp only at h;rename_i aj k j;obtain⟨⟨wq,qy⟩,aC,I⟩:=h;simp only[Rep] at aw Z;obtain⟨vs,ee,ag⟩:=aw;have hl:=ag.length;obtain⟨v,p1,iG⟩:=E5 (P:=P) (w:=C.w) (off:=j.toNat*n) (vs:=vs.toList) fJ ak (by omega) (by intro h;cases h);rcases iG with ⟨_,rfl⟩|⟨B,_⟩
    ·refine dN.val ar ⟨.agg ((vs.toList.drop (j.toNat*n)).take n).toArray,_,?_,?_,I⟩
     ·simp only[Instr.index,Z,asIntOf,Sem.run_bind,Sem.run_pure,run_underlying aZ,Result.andThen_ok,ee,wq,qy,and_self,if_true,lZ ak];simpa using p1
     ·rw[Rep];exact⟨_,rfl,by simpa using (ag.drop (j.toNat*n)).take n⟩
    ·rw[fJ] at B;cases B
   ·rename_i fJ ak;simp at V;obtain⟨rfl,rfl⟩:=V;obtain⟨a,b,rfl,aw,Z⟩:=lA G;cases a<;>simp only[aI] at h;cases b<;>simp only at h;rename_i aj k j;obtain⟨⟨wq,qy⟩,aC,I⟩:=h;simp only[Rep] at aw Z;obtain⟨vs,ee,ag⟩:=aw;obtain⟨v,g1,bM⟩:=ag.nS j.toNat aC;refine dN.val ar ⟨v,_,?_,bM,I⟩;have we:vs[j.toNat]? =some v:=by simpa using g1
    simp[Instr.index,Z,asIntOf,run_underlying aZ,ee,wq,qy,lZ ak,part,Ae fJ,we]
   ·cases V
  ·cases V
 ·
  rename_i t x fk an;have ef: ∀ {x:z} {vs:List z},ah=x::vs→ay C vs ((fk.toList++an.toList).map ρ)→
   ∃ ye yf:Option z,((∃ l fU,ye=some l∧fk.map ρ=some fU∧Rep C l fU)∨(ye=none∧fk.map ρ=none))∧((∃ l fU,yf=some l∧an.map ρ=some fU∧Rep C l fU)∨(yf=none∧an.map ρ=none))∧
    vs=ye.toList++yf.toList∧fk.isSome=ye.isSome∧an.isSome=yf.isSome:=by
   intro x vs _ ag;cases fk with
   |none=>
    cases an with
    |none=>
     have:=Fi (C:=C) (as:=vs) (by simpa using ag);subst this;exact⟨none,none,.inr ⟨rfl,rfl⟩,.inr ⟨rfl,rfl⟩,rfl,rfl,rfl⟩
    |some b=>
     obtain⟨uI,rfl,Z⟩:=ia (C:=C) (as:=vs) (by simpa using ag);exact⟨none,some uI,.inr ⟨rfl,rfl⟩,.inl ⟨uI,_,rfl,rfl,Z⟩,rfl,rfl,rfl⟩
   |some a=>
    cases an with
    |none=>
     obtain⟨Fk,rfl,aw⟩:=ia (C:=C) (as:=vs) (by simpa using ag);exact⟨some Fk,none,.inl ⟨Fk,_,rfl,rfl,aw⟩,.inr ⟨rfl,rfl⟩,rfl,rfl,rfl⟩
    |some b=>
     obtain⟨Fk,uI,rfl,aw,Z⟩:=lA (C:=C) (as:=vs) (by simpa using ag);exact⟨some Fk,some uI,.inl ⟨Fk,_,rfl,rfl,aw⟩,.inl ⟨uI,_,rfl,rfl,Z⟩,rfl,rfl,rfl⟩
  have first: ∀ {ys:List Operand},ay C ah ((x::ys).map ρ)→ ∃ a as,ah=a::as∧Rep C a (ρ x)∧ay C as (ys.map ρ):=by
   intro ys ag;cases ah with
   |nil=>rw[List.map_cons,ay] at ag;cases ag
   |cons a as=>
    rw[List.map_cons,ay] at ag;obtain⟨v,bW,he,h1,B⟩:=ag;simp at he;obtain⟨rfl,rfl⟩:=he;exact⟨a,as,rfl,h1,B⟩
  split at V
  ·rename_i e aZ;split at V
   ·rename_i n ak;simp only[Option.some.injEq,Prod.mk.injEq] at V;obtain⟨rfl,rfl⟩:=V;obtain⟨a,as,rfl,aw,ag⟩:=first G
    obtain⟨ye,yf,mK,wa,rfl,bF,bJ⟩:=ef rfl ag;refine dN.val ar (ail aw aZ ak mK wa ?_);rw[bF,bJ] at h;cases ye<;>cases yf<;>exact h
   ·cases V
  ·rename_i aZ;simp only[Option.some.injEq,Prod.mk.injEq] at V;obtain⟨rfl,rfl⟩:=V;obtain⟨a,as,rfl,aw,ag⟩:=first G
   obtain⟨ye,yf,mK,wa,rfl,bF,bJ⟩:=ef rfl ag;refine dN.val ar (aim aw aZ mK wa ?_);rw[bF,bJ] at h;cases ye<;>cases yf<;>exact h
  ·cases V
 ·
  simp at V;obtain⟨rfl,rfl⟩:=V;obtain⟨a,rfl,aw⟩:=ia G;cases a<;>simp only[aI] at h;rename_i c aj;rw[Rep] at aw;obtain⟨vs,ee,ag⟩:=aw;obtain⟨v,g1,bM⟩:=ag.nS _ h.1;refine dN.val ar ⟨v,_,?_,bM,h.2⟩;have we:vs[c]? =some v:=by simpa using g1
  simp[Instr.extract,ee,we]
 ·
  rename_i x t;split at V
  ·rename_i e aZ;simp at V;obtain⟨rfl,rfl⟩:=V;obtain⟨a,rfl,aw⟩:=ia G;simp only[aI] at h;split at h
   ·rename_i l hl;have ag: ∃ ct F,ρ x= .slice ct l F:=by
     cases a<;>simp[sk] at hl<;>subst hl
     case pure=>rw[Rep] at aw;obtain⟨ct,F,e,_⟩:=aw;exact⟨ct,F,e⟩
     case bD=>rw[Rep] at aw;obtain⟨ct,e⟩:=aw;exact⟨ct,0,e⟩
     case own=>rw[Rep] at aw;obtain⟨_,⟨ct,F,e⟩,_⟩:=aw;exact⟨ct,F,e⟩
    obtain⟨ct,F,e⟩:=ag;refine⟨.value (goInt l),goInt l,_,C,?_,.inl rfl,?_,ar,cd.refl C,h⟩
    ·simp[execOp,resolve,invoke,builtin,Builtin.len_,run_underlying aZ,e]
    ·rw[Rep];rfl
   ·exact h.elim
  ·rename_i aZ;simp at V;obtain⟨rfl,rfl⟩:=V;obtain⟨a,rfl,aw⟩:=ia G;cases a<;>simp only[aI] at h;rw[Rep] at aw;rename_i E;refine⟨.value (goInt E.size),goInt E.size,_,C,?_,.inl rfl,?_,ar,cd.refl C,h⟩
   ·simp[execOp,resolve,invoke,builtin,Builtin.len_,run_underlying aZ,aw]
   ·rw[Rep];rfl
  ·rename_i da pD aZ;simp at V;obtain⟨rfl,rfl⟩:=V;obtain⟨a,rfl,aw⟩:=ia G;cases a<;>simp only[aI] at h;rename_i i;split at h
   ·rename_i aE M ents hrow;obtain⟨b,F,al,hm,e⟩:=Ce ar aw hrow;refine⟨.value (goInt al.size),goInt al.size,_,C,?_,.inl rfl,?_,ar,cd.refl C,h⟩
    ·simp[execOp,resolve,invoke,builtin,Builtin.len_,run_underlying aZ,e,Go.run_getObj_map _ _ _ _ hm.heap]
    ·rw[Rep,hm.size];rfl
   ·exact h.elim
  ·cases V
 ·
  rename_i x y t u;split at V
  ·rename_i At;subst At;split at V
   ·rename_i e aZ;split at V
    ·rename_i D jG aS Z;split at V
     ·cases V
     rename_i lY;simp at V;obtain⟨rfl,rfl⟩:=V;obtain⟨a,b,rfl,aw,jH⟩:=lA G;obtain⟨c,cu,an,jp,lu,hl,ip,dt⟩:=sd aS;have se:c.bytes=jG:=by simpa[an] using Z
     subst se;simp only[aI,hl] at h;obtain⟨aV,v,av,r1,cO,fN,eG,rn⟩:=aiZ (gM:=type) ar aZ an jp dt lY aw jH h;refine⟨.value aV,aV,v,av,?_,.inl rfl,cO,fN,eG,rn⟩;simp[execOp,resolve,invoke,builtin,r1]
    ·cases V
   ·cases V
  ·split at V
   ·rename_i e ht aZ;split at V
    ·rename_i D jG aS Z;split at V
     ·cases V
     ·rename_i lY;simp at V;obtain⟨rfl,rfl⟩:=V;obtain⟨a,b,rfl,aw,jH⟩:=lA G;cases a<;>simp only[aI] at h;cases b<;>simp only at h;rename_i k n;rw[Rep] at jH;obtain⟨aV,v,av,r1,cO,fN,eG,rn⟩:=aii (gM:=type) (k:=k) ar ht aZ aS Z lY aw h.1 h.2.1 h.2.2;rw[←jH] at r1;refine⟨.value aV,aV,v,av,?_,.inl rfl,cO,fN,eG,rn⟩;simp[execOp,resolve,invoke,builtin,r1]
    ·cases V
   ·cases V
 ·
  rename_i x y aJd;simp at V;obtain⟨rfl,rfl⟩:=V;obtain⟨a,b,rfl,aw,Z⟩:=lA G;cases a<;>simp only[aI] at h;cases b<;>simp only at h;rename_i k p bo q;rw[Rep] at aw Z;obtain⟨rfl,I⟩:=h;refine⟨.value (.int k (min p q)),.int k (min p q),.int k (min p q),C,?_,.inl rfl,by rw[Rep],ar,cd.refl C,I⟩;have: (if q < p then q else p)=min p q:=by simp only[Int.min_def];split<;>split<;>omega
  simp[execOp,resolve,invoke,builtin,Builtin.min_,Builtin.min2,aw,Z,this]
 ·
  rename_i x y aJd;simp at V;obtain⟨rfl,rfl⟩:=V;obtain⟨a,b,rfl,aw,Z⟩:=lA G;cases a<;>simp only[aI] at h;cases b<;>simp only at h;rename_i k p bo q;rw[Rep] at aw Z;obtain⟨rfl,I⟩:=h;refine⟨.value (.int k (max p q)),.int k (max p q),.int k (max p q),C,?_,.inl rfl,by rw[Rep],ar,cd.refl C,I⟩;have: (if p < q then q else p)=max p q:=by simp only[Int.max_def];split<;>split<;>omega
  simp[execOp,resolve,invoke,builtin,Builtin.max_,Builtin.max2,aw,Z,this]
 ·
  split at V
  ·split at V
   ·simp at V;exact (IM _ V.1.symm).elim
   ·cases V
  ·cases V
 ·
  rename_i x y t u;split at V
  ·rename_i At;subst At;split at V
   ·rename_i e aZ;split at V
    ·rename_i n ak;simp at V;obtain⟨rfl,rfl⟩:=V;obtain⟨a,b,rfl,aw,Z⟩:=lA G;simp only[aI] at h;obtain⟨aV,v,av,r1,cO,fN,eG,rn⟩:=aiG (gM:=type) ar aZ ak aw Z h;refine⟨.value aV,aV,v,av,?_,.inl rfl,cO,fN,eG,rn⟩;simp[execOp,resolve,invoke,builtin,r1]
    ·cases V
   ·cases V
  ·cases V
 ·
  rename_i f NI;simp at V;obtain⟨rfl,rfl⟩:=V;simp only[aI] at h;refine⟨.value (.func (.func f) #[] (NI.map ρ)),_,_,C,?_,.inl rfl,?_,ar,cd.refl C,h⟩
  ·simp[execOp,Instr.makeFunc]
  ·rw[Rep];exact⟨_,rfl,by simpa using G⟩
 ·
  rename_i t;split at V
  ·rename_i da pD aZ;split at V
   ·rename_i aE M I;simp at V;obtain⟨rfl,rfl⟩:=V;rw[Fi G] at h;simp only[aI] at h;obtain⟨g1,bM⟩:=T3 ar (.map aE M []) (.map #[] 0) 0 (C.w.alloc (.map #[] 0)) ⟨rfl,rfl,rfl,rfl⟩ fun av he bi aR tz=>by
     rw[dA];refine⟨_,_,#[],tz,?_,by rw[aR,heap_alloc_new];rfl,by simp,by simp[ay],by simp[ay],by simp⟩;rw[bi];intro aQ;have:=ar.bS _ aQ;omega
    refine dN.qz ⟨.map (some C.w.heap.size),_,_,?_,?_,g1,bM,h⟩
    ·simp only[Option.map_none,Instr.makeMap];rfl
    ·rw[Rep];exact⟨ar.bT,⟨_,rfl⟩,by simp,fun L _=>⟨C.w.heap.size,0,by simp[←ar.dm],rfl⟩⟩
   ·cases V
  ·cases V
 ·
  rename_i t x c ok;split at V
  ·rename_i da pD aZ;split at V
   ·rename_i aE M D I aS;simp at V;obtain⟨rfl,rfl⟩:=V;obtain⟨a,b,rfl,aw,Z⟩:=lA G;exact dN.val ar (ais ar aZ I aS aw Z h)
   ·cases V
  ·cases V
 ·
  rename_i t m c v;split at V
  ·rename_i da pD aZ;split at V
   ·rename_i aE M I;simp at V;obtain⟨rfl,rfl⟩:=V;obtain⟨a,b,F,rfl,aw,Z,ag⟩:=NG G;obtain⟨av,r1,cO,fN,eG⟩:=ait ar aZ I aw Z ag h;exact dN.unit cO fN r1 eG
   ·cases V
  ·cases V
 ·
  rename_i t m c;split at V
  ·rename_i da pD aZ;split at V
   ·rename_i aE M D I aS;simp at V;obtain⟨rfl,rfl⟩:=V;obtain⟨a,b,rfl,aw,Z⟩:=lA G;exact dN.qz (aiu ar aZ I aS aw Z h)
   ·cases V
  ·cases V
 ·
  simp at V;obtain⟨rfl,rfl⟩:=V;obtain⟨a,b,F,rfl,aw,Z,ag⟩:=NG G;obtain⟨av,r1,cO,fN,eG⟩:=aiw ar aw Z ag h;exact dN.unit cO fN r1 eG
 ·
  rename_i t x;split at V
  ·rename_i da pD aZ;simp at V;obtain⟨rfl,rfl⟩:=V;obtain⟨a,rfl,aw⟩:=ia G;exact dN.qz (aix ar aZ aw h)
  ·cases V
 ·
  simp at V;obtain⟨rfl,rfl⟩:=V;simp[aI] at h
 ·
  simp at V;obtain⟨rfl,rfl⟩:=V;obtain⟨a,rfl,aw⟩:=ia G;exact dN.val ar (aiD ar aw h)
 ·
  rename_i x t;split at V
  ·rename_i e aZ;simp at V;obtain⟨rfl,rfl⟩:=V;obtain⟨a,rfl,aw⟩:=ia G;cases a<;>simp only[aI] at h;rw[Rep] at aw;obtain⟨ct,aw⟩:=aw;refine⟨.value (goInt 0),goInt 0,_,C,?_,.inl rfl,?_,ar,cd.refl C,h⟩
   ·simp[execOp,resolve,invoke,builtin,Builtin.cap_,run_underlying aZ,aw]
   ·rw[Rep];rfl
  ·cases V
 ·
  rename_i x t;split at V
  ·rename_i e aZ;split at V
   ·rename_i D aS;simp at V;obtain⟨rfl,rfl⟩:=V;obtain⟨a,rfl,aw⟩:=ia G;simp only[aI] at h;obtain⟨aV,v,av,r1,cO,fN,eG,rn⟩:=aiI (gM:=type) ar aZ aS aw h;refine⟨.value aV,aV,v,av,?_,.inl rfl,cO,fN,eG,rn⟩;simp[execOp,resolve,invoke,builtin,r1]
   ·cases V
  ·cases V
 ·
  simp at V;obtain⟨rfl,rfl⟩:=V;simp[aI] at h
 ·cases V
theorem aja {L:Oper}{ai:List Operand}(V:oN P L=some (.next,ai))(ar:cb C)(ρ:Operand→Value){x:z}
 (G:ay C [x] (ai.map ρ)) (h:rk C.d x K):dN P C (execOp ρ L) K:=by
 obtain⟨dst,op,type,IN,after,guard⟩:=L;have key: ∃ y,op= .next y false∧ai= [y]:=by
  unfold oN at V;simp only at V;split at V<;>(repeat' (split at V))<;>simp at V;exact⟨_,rfl,V.symm⟩
 obtain⟨y,rfl,rfl⟩:=key;rw[List.map_cons,List.map_nil,ay] at G;obtain⟨v,bW,he,h1,_⟩:=G;simp at he;obtain⟨rfl,_⟩:=he;exact dN.qz (aiz (gM:=type) ar h1 h)
end
end Go.Abs
namespace Go.Abs
mutual
def pI:z→Bool
 | .pure _ ah=>ah.isEmpty
 | .eb .. =>false
 | .agg aj=>mN aj
 | .bg aj=>mN aj
 | .fn _ aj=>mN aj
 |_=>true
def mN:List z→Bool
 | []=>true
 |F::aj=>pI F&&mN aj
end
def Cl:List (List z)→Bool
 | []=>true
 |e::al=>mN e&&Cl al
def Au:R→Bool
 | .fH=>true
 | .aa _ _ ah=>Cl ah
 | .aY (.map _ _ ents)=>mN (ents.map (·.1))&&mN (ents.map (·.2))
 | .aY (.dY _ _)=>true
mutual
def dI (f:Nat→Nat):z→z
 | .own i n off len=> .own (f i) n off len
 | .aW i n c off=> .aW (f i) n c off
 | .agg aj=> .agg (iX f aj)
 | .bg aj=> .bg (iX f aj)
 | .fn g aj=> .fn g (iX f aj)
 | .bu i=> .bu (f i)
 | .fG i m=> .fG (f i) (f m)
 |v=>v
def iX (f:Nat→Nat):List z→List z
 | []=> []
 |F::aj=>dI f F::iX f aj
end
def ro (f:Nat→Nat)(al:List (List z)):List (List z):=if eg al then al else al.map (iX f)
def gu (f:Nat→Nat):R→R
 | .fH=> .fH
 | .aa e N ah=> .aa e N (ro f ah)
 | .aY (.map aE M ents)=> .aY (.map aE M (ents.map fun p=>(dI f p.1,dI f p.2)))
 | .aY (.dY n bR)=> .aY (.dY n bR)
mutual
theorem uL (f:Nat→Nat): ∀ (a:z),bE a=true→dI f a=a
 | .own ..,h=>by simp[bE] at h
 | .aW ..,h=>by simp[bE] at h
 | .agg aj,h=>by rw[bE] at h;rw[dI,Cm f aj h]
 | .bg aj,h=>by rw[bE] at h;rw[dI,Cm f aj h]
 | .int ..,_=>rfl
 | .bool ..,_=>rfl
 | .str ..,_=>rfl
 | .bD,_=>rfl
 | .jW,_=>rfl
 | .cc,_=>rfl
 | .pure ..,_=>rfl
 | .eb ..,_=>rfl
 | .fn g aj,h=>by rw[bE] at h;rw[dI,Cm f aj h]
 | .km,_=>rfl
 | .bu _,h=>by simp[bE] at h
 | .fG ..,h=>by simp[bE] at h
theorem Cm (f:Nat→Nat): ∀ (as:List z),bP as=true→iX f as=as
 | [],_=>rfl
 |a::as,h=>by
  simp only[bP,Bool.and_eq_true] at h;rw[iX,uL f a h.1,Cm f as h.2]
end
theorem Fl (f:Nat→Nat)(al:List (List z)):ro f al=al.map (iX f):=by
 unfold ro;split
 ·rename_i h
  induction al with
  |nil=>rfl
  |cons e al ih=>
   simp only[eg,Bool.and_eq_true] at h;rw[List.map_cons,Cm f e h.1,←ih h.2]
 ·rfl
theorem NJ (f:Nat→Nat): ∀ (as:List z),(iX f as).length=as.length
 | []=>rfl
 |a::as=>by simp[iX,NJ f as]
structure NK (f:Nat→Nat) (C av:bv):Prop where
 bT:av.bT=C.bT
 nP: ∀ b,C.jX b→av.w.heap[b]? =C.w.heap[b]? ∧av.jX b
 d: ∀ i,i < C.d.length→f i < av.d.length∧ ∀ e N dl,av.d[f i]? =some (.aa e N dl)→
  ∃ ah,C.d[i]? =some (.aa e N ah)∧ah.length≤dl.length∧(ah.length=dl.length→av.bm[f i]? =C.bm[i]?)
 qu: ∀ i,i < C.d.length→ ∀ eN,av.d[f i]? =some (.aY eN)→ ∃ L,C.d[i]? =some (.aY L)∧av.bm[f i]? =C.bm[i]?
mutual
theorem Rep.mg {C av:bv}(I: ∀ b,C.jX b→av.w.heap[b]? =C.w.heap[b]? ∧av.jX b)(lg:C.bT=true)(sp:av.bT=true): ∀ (a:z) (v:Value),Rep C a v→Rep av a v
 | .int ..,_,i=>by simpa[Rep] using i
 | .bool ..,_,i=>by simpa[Rep] using i
 | .str ..,_,i=>by simpa[Rep] using i
 | .bD,_,i=>by simpa[Rep] using i
 | .jW,_,i=>by simpa[Rep] using i
 | .cc,_,_=>by simp[Rep]
 | .agg aj,v,i=>by
  rw[Rep] at i ⊢;obtain⟨vs,rfl,G⟩:=i;exact⟨vs,rfl,ay.mg I lg sp aj _ G⟩
 | .bg aj,v,i=>by
  rw[Rep] at i ⊢;obtain⟨vs,rfl,G⟩:=i;exact⟨vs,rfl,ay.mg I lg sp aj _ G⟩
 | .pure N ah,v,i=>by
  rw[Rep] at i ⊢;obtain⟨ct,cap,rfl,ed,G⟩:=i;refine⟨ct,cap,rfl,ed,?_⟩;rcases G with G|⟨b,L,rfl,Z,he⟩
  ·exact .inl G
  ·exact .inr ⟨b,L,rfl,(I b Z).2,cT.mg (C:=C.p) (av:=av.p) I rfl rfl b L N Z ah he⟩
 | .own ..,v,G=>by rw[Rep,lg] at G;cases G.1
 | .aW ..,v,G=>by rw[Rep,lg] at G;cases G.1
 | .eb cells off,v,G=>by
  rw[Rep] at G ⊢;obtain⟨b,L,rfl,Z,V⟩:=G;exact⟨b,L,rfl,(I b Z).2,dn.mg (C:=C.p) (av:=av.p) I rfl rfl b L Z cells V⟩
 | .fn f aj,v,i=>by
  rw[Rep] at i ⊢;obtain⟨vs,rfl,G⟩:=i;exact⟨vs,rfl,ay.mg I lg sp aj _ G⟩
 | .km,_,i=>by simpa[Rep] using i
 | .bu _,v,G=>by rw[Rep,lg] at G;cases G.1
 | .fG ..,v,G=>by rw[Rep,lg] at G;cases G.1
theorem ay.mg {C av:bv}(I: ∀ b,C.jX b→av.w.heap[b]? =C.w.heap[b]? ∧av.jX b)(lg:C.bT=true)(sp:av.bT=true): ∀ (as:List z) (vs:List Value),ay C as vs→ay av as vs
 | [],vs,i=>by simpa[ay] using i
 |a::as,vs,i=>by
  rw[ay] at i ⊢;obtain⟨v,bW,rfl,h1,B⟩:=i;exact⟨v,bW,rfl,Rep.mg I lg sp a v h1,ay.mg I lg sp as bW B⟩
theorem dn.mg {C av:bv}(I: ∀ b,C.jX b→av.w.heap[b]? =C.w.heap[b]? ∧av.jX b)(lg:C.bT=true)(sp:av.bT=true)(b L:Nat)(Z:C.jX b): ∀ (as:List z),dn C b L as→dn av b L as
 | [],_=>by simp[dn]
 |a::as,i=>by
  rw[dn] at i ⊢;obtain⟨⟨v,h1,B,am⟩,bp⟩:=i;exact⟨⟨v,by rw[World.cell?_of_block (w:=C.w) (I b Z).1];exact h1,B,Rep.mg I lg sp a v am⟩,dn.mg I lg sp b (L+1) Z as bp⟩
theorem cT.mg {C av:bv}(I: ∀ b,C.jX b→av.w.heap[b]? =C.w.heap[b]? ∧av.jX b)(lg:C.bT=true)(sp:av.bT=true)(b L N:Nat)(Z:C.jX b): ∀ (al:List (List z)),cT C b L N al→cT av b L N al
 | [],_=>by simp[cT]
 |e::al,i=>by
  rw[cT] at i ⊢;exact⟨i.1,dn.mg I lg sp b L Z e i.2.1,cT.mg I lg sp b (L+N) N Z al i.2.2⟩
end
mutual
theorem Rep.tD {f:Nat→Nat}{C av:bv}(h:NK f C av): ∀ (a:z) (v:Value),Rep C a v→Rep av (dI f a) v
 | .int ..,_,i=>by simpa[dI,Rep] using i
 | .bool ..,_,i=>by simpa[dI,Rep] using i
 | .str ..,_,i=>by simpa[dI,Rep] using i
 | .bD,_,i=>by simpa[dI,Rep] using i
 | .jW,_,i=>by simpa[dI,Rep] using i
 | .cc,_,_=>by simp[dI,Rep]
 | .agg aj,v,i=>by
  rw[Rep] at i;rw[dI,Rep];obtain⟨vs,rfl,G⟩:=i;exact⟨vs,rfl,ay.tD h aj _ G⟩
 | .bg aj,v,i=>by
  rw[Rep] at i;rw[dI,Rep];obtain⟨vs,rfl,G⟩:=i;exact⟨vs,rfl,ay.tD h aj _ G⟩
 | .pure N ah,v,i=>by
  have e:dI f (.pure N ah)= .pure N ah:=by simp[dI]
  rw[Rep] at i;rw[e,Rep];obtain⟨ct,cap,rfl,ed,G⟩:=i;refine⟨ct,cap,rfl,ed,?_⟩;rcases G with G|⟨b,L,rfl,Z,he⟩
  ·exact .inl G
  ·exact .inr ⟨b,L,rfl,(h.nP b Z).2,cT.mg (C:=C.p) (av:=av.p) h.nP rfl rfl b L N Z ah he⟩
 | .own i n off len,v,G=>by
  rw[Rep] at G;rw[dI,Rep];obtain⟨hm,h0,h1,B⟩:=G;refine⟨h.bT.trans hm,h0,(h.d i h1).1,fun e N dl ag=> ?_⟩;obtain⟨ah,cz,eT,a3⟩:=(h.d i h1).2 e N dl ag;obtain⟨b1,eA⟩:=B e N ah cz;refine⟨by omega,fun aB=> ?_⟩;obtain⟨c1,p,c2,c3⟩:=eA (by omega);exact⟨c1,p,by rw[a3 (by omega)];exact c2,c3⟩
 | .aW i n c off,v,G=>by
  rw[Rep] at G;rw[dI,Rep];obtain⟨hm,h0,h1,B⟩:=G;refine⟨h.bT.trans hm,h0,(h.d i h1).1,fun e N dl ag=> ?_⟩;obtain⟨ah,cz,eT,a3⟩:=(h.d i h1).2 e N dl ag;obtain⟨b1,eA⟩:=B e N ah cz;refine⟨by omega,fun aB=> ?_⟩;obtain⟨c1,b,F,c2,c3⟩:=eA (by omega);exact⟨c1,b,F,by rw[a3 (by omega)];exact c2,c3⟩
 | .eb cells off,v,G=>by
  have e:dI f (.eb cells off)= .eb cells off:=by simp[dI]
  rw[Rep] at G;rw[e,Rep];obtain⟨b,L,rfl,Z,V⟩:=G;exact⟨b,L,rfl,(h.nP b Z).2,dn.mg (C:=C.p) (av:=av.p) h.nP rfl rfl b L Z cells V⟩
 | .fn g aj,v,i=>by
  rw[Rep] at i;rw[dI,Rep];obtain⟨vs,rfl,G⟩:=i;exact⟨vs,rfl,ay.tD h aj _ G⟩
 | .km,_,i=>by simpa[dI,Rep] using i
 | .bu i,v,G=>by
  rw[Rep] at G;rw[dI,Rep];obtain⟨hm,h0,h1,B⟩:=G;refine⟨h.bT.trans hm,h0,(h.d i h1).1,fun eN bi=> ?_⟩;obtain⟨L,cz,eT⟩:=h.qu i h1 eN bi;rw[eT];exact B L cz
 | .fG i m,v,G=>by
  rw[Rep] at G;rw[dI,Rep];obtain⟨hm,h0,h1,B,am⟩:=G;refine⟨h.bT.trans hm,h0,(h.d i h1).1,(h.d m B).1,fun kI kJ tq vX=> ?_⟩;obtain⟨p1,cz,eT⟩:=h.qu i h1 kI tq;obtain⟨iG,b1,eA⟩:=h.qu m B kJ vX;rw[eT,eA];exact am p1 iG cz b1
theorem ay.tD {f:Nat→Nat}{C av:bv}(h:NK f C av): ∀ (as:List z) (vs:List Value),ay C as vs→ay av (iX f as) vs
 | [],vs,i=>by simpa[iX,ay] using i
 |a::as,vs,i=>by
  rw[ay] at i;rw[iX,ay];obtain⟨v,bW,rfl,h1,B⟩:=i;exact⟨v,bW,rfl,Rep.tD h a v h1,ay.tD h as bW B⟩
end
theorem Ug (f:Nat→Nat)(al:List (List z)): (ro f al).flatten=iX f al.flatten:=by
 have lC: ∀ ai ys:List z,iX f (ai++ys)=iX f ai++iX f ys:=by
  intro ai ys
  induction ai with
  |nil=>rfl
  |cons x ai ih=>simp[iX,ih]
 rw[Fl]
 induction al with
 |nil=>rfl
 |cons e al ih=>simp[lC,ih]
theorem fj.tD {f:Nat→Nat}{C av:bv}{N:Nat}{ah:List (List z)}{vs:List Value}(h:NK f C av)(k:fj C N ah vs):fj av N (ro f ah) vs:=by
 refine⟨fun e he=> ?_,?_,k.cM⟩
 ·rw[Fl] at he;obtain⟨x,ad,rfl⟩:=List.mem_map.1 he;rw[NJ];exact k.iW x ad
 ·rw[Ug];exact ay.tD h _ _ k.ks
theorem IP: ∀ {M:List cN} {aj:List z},cv M aj→bP aj=true
 | [],[],_=>rfl
 | [],F::aj,h=>by simp[cv] at h
 |k::M,[],h=>by cases k<;>simp[cv] at h
 |k::M,F::aj,h=>by
  cases k<;>cases F<;>simp only[cv] at h<;>simp only[bP,bE,Bool.true_and]
  ·exact IP h.2
  ·exact IP h
  ·exact IP h
theorem Uh {aE:Bool}{M:List cN}{k:z}(h:fT aE M k):bE k=true:=by
 have:=IP h.2;cases k<;>simp only[cf,bP,bE,Bool.and_true] at this ⊢ <;>first|exact this|simpa using this
theorem NL (f:Nat→Nat): ∀ (as:List z),iX f as=as.map (dI f)
 | []=>rfl
 |a::as=>by simp[iX,NL f as]
theorem IQ (f:Nat→Nat)(al:List (List z)): (ro f al).length=al.length:=by rw[Fl];simp
end Go.Abs
namespace Go.Abs
mutual
theorem Rep.wt {f:Nat→Nat}{C av:bv}(ae:av.bT=C.bT) (h: ∀ i,i < C.d.length→f i < av.d.length∧ ∀ e N dl,av.d[f i]? =some (.aa e N dl)→
 ∃ ah,C.d[i]? =some (.aa e N ah)∧ah.length≤dl.length∧(ah.length=dl.length→av.bm[f i]? =C.bm[i]?))
 (rp: ∀ i,i < C.d.length→ ∀ eN,av.d[f i]? =some (.aY eN)→ ∃ L,C.d[i]? =some (.aY L)∧av.bm[f i]? =C.bm[i]?): ∀ (a:z) (v:Value),pI a=true→Rep C a v→Rep av (dI f a) v
 | .int ..,_,_,i=>by simpa[dI,Rep] using i
 | .bool ..,_,_,i=>by simpa[dI,Rep] using i
 | .str ..,_,_,i=>by simpa[dI,Rep] using i
 | .bD,_,_,i=>by simpa[dI,Rep] using i
 | .jW,_,_,i=>by simpa[dI,Rep] using i
 | .cc,_,_,_=>by simp[dI,Rep]
 | .agg aj,v,hf,i=>by
  rw[pI] at hf;rw[Rep] at i;rw[dI,Rep];obtain⟨vs,rfl,G⟩:=i;exact⟨vs,rfl,ay.wt ae h rp aj _ hf G⟩
 | .bg aj,v,hf,i=>by
  rw[pI] at hf;rw[Rep] at i;rw[dI,Rep];obtain⟨vs,rfl,G⟩:=i;exact⟨vs,rfl,ay.wt ae h rp aj _ hf G⟩
 | .pure N ah,v,hf,i=>by
  have e:dI f (.pure N ah)= .pure N ah:=by simp[dI]
  rw[pI] at hf;rw[Rep] at i;rw[e,Rep];obtain⟨ct,cap,rfl,ed,G⟩:=i;refine⟨ct,cap,rfl,ed,.inl ?_⟩;simpa using hf
 | .own i n off len,v,_,G=>by
  rw[Rep] at G;rw[dI,Rep];obtain⟨hm,h0,h1,B⟩:=G;refine⟨ae.trans hm,h0,(h i h1).1,fun e N dl ag=> ?_⟩;obtain⟨ah,cz,eT,a3⟩:=(h i h1).2 e N dl ag;obtain⟨b1,eA⟩:=B e N ah cz;refine⟨by omega,fun aB=> ?_⟩;obtain⟨c1,p,c2,c3⟩:=eA (by omega);exact⟨c1,p,by rw[a3 (by omega)];exact c2,c3⟩
 | .aW i n c off,v,_,G=>by
  rw[Rep] at G;rw[dI,Rep];obtain⟨hm,h0,h1,B⟩:=G;refine⟨ae.trans hm,h0,(h i h1).1,fun e N dl ag=> ?_⟩;obtain⟨ah,cz,eT,a3⟩:=(h i h1).2 e N dl ag;obtain⟨b1,eA⟩:=B e N ah cz;refine⟨by omega,fun aB=> ?_⟩;obtain⟨c1,b,F,c2,c3⟩:=eA (by omega);exact⟨c1,b,F,by rw[a3 (by omega)];exact c2,c3⟩
 | .eb cells off,v,hf,G=>by simp[pI] at hf
 | .fn g aj,v,hf,i=>by
  rw[pI] at hf;rw[Rep] at i;rw[dI,Rep];obtain⟨vs,rfl,G⟩:=i;exact⟨vs,rfl,ay.wt ae h rp aj _ hf G⟩
 | .km,_,_,i=>by simpa[dI,Rep] using i
 | .bu i,v,_,G=>by
  rw[Rep] at G;rw[dI,Rep];obtain⟨hm,h0,h1,B⟩:=G;refine⟨ae.trans hm,h0,(h i h1).1,fun eN bi=> ?_⟩;obtain⟨L,cz,eT⟩:=rp i h1 eN bi;rw[eT];exact B L cz
 | .fG i m,v,_,G=>by
  rw[Rep] at G;rw[dI,Rep];obtain⟨hm,h0,h1,B,am⟩:=G;refine⟨ae.trans hm,h0,(h i h1).1,(h m B).1,fun kI kJ tq vX=> ?_⟩;obtain⟨p1,cz,eT⟩:=rp i h1 kI tq;obtain⟨iG,b1,eA⟩:=rp m B kJ vX;rw[eT,eA];exact am p1 iG cz b1
theorem ay.wt {f:Nat→Nat}{C av:bv}(ae:av.bT=C.bT) (h: ∀ i,i < C.d.length→f i < av.d.length∧ ∀ e N dl,av.d[f i]? =some (.aa e N dl)→
 ∃ ah,C.d[i]? =some (.aa e N ah)∧ah.length≤dl.length∧(ah.length=dl.length→av.bm[f i]? =C.bm[i]?))
 (rp: ∀ i,i < C.d.length→ ∀ eN,av.d[f i]? =some (.aY eN)→ ∃ L,C.d[i]? =some (.aY L)∧av.bm[f i]? =C.bm[i]?): ∀ (as:List z) (vs:List Value),mN as=true→ay C as vs→ay av (iX f as) vs
 | [],vs,_,i=>by simpa[iX,ay] using i
 |a::as,vs,hf,i=>by
  simp only[mN,Bool.and_eq_true] at hf;rw[ay] at i;rw[iX,ay];obtain⟨v,bW,rfl,h1,B⟩:=i;exact⟨v,bW,rfl,Rep.wt ae h rp a v hf.1 h1,ay.wt ae h rp as bW hf.2 B⟩
end
theorem Ui: ∀ {al:List (List z)},Cl al=true→mN al.flatten=true
 | [],_=>rfl
 |e::al,h=>by
  simp only[Cl,Bool.and_eq_true] at h;have lC: ∀ ai ys:List z,mN ai=true→mN ys=true→mN (ai++ys)=true:=by
   intro ai ys ad bl
   induction ai with
   |nil=>exact bl
   |cons x ai ih=>
    simp only[mN,Bool.and_eq_true] at ad;simp only[List.cons_append,mN,Bool.and_eq_true];exact⟨ad.1,ih ad.2⟩
  rw[List.flatten_cons];exact lC _ _ h.1 (Ui h.2)
def hR:List (Option Nat)→Nat→Option Nat
 | [],_=>none
 |none::bN,i=>(hR bN i).map (·+1)
 |some E::bN,i=>if E=i then some 0 else (hR bN i).map (·+1)
theorem Av: ∀ {ap:List (Option Nat)} {i c:Nat},hR ap i=some c→ap[c]? =some (some i)
 | [],i,c,h=>by simp[hR] at h
 |none::bN,i,c,h=>by
  simp only[hR] at h;cases ae:hR bN i with
  |none=>rw[ae] at h;simp at h
  |some j=>rw[ae] at h;simp at h;subst h;simpa using Av ae
 |some E::bN,i,c,h=>by
  simp only[hR] at h;split at h
  ·rename_i he;simp at h;subst h;simp[he]
  ·cases ae:hR bN i with
   |none=>rw[ae] at h;simp at h
   |some j=>rw[ae] at h;simp at h;subst h;simpa using Av ae
theorem IR: ∀ {ap:List (Option Nat)} {i:Nat},hR ap i=none→some i∉ap
 | [],i,_=>by simp
 |none::bN,i,h=>by
  simp only[hR] at h;cases ae:hR bN i with
  |none=>have:=IR ae;simp[this]
  |some j=>rw[ae] at h;simp at h
 |some E::bN,i,h=>by
  simp only[hR] at h;split at h
  ·cases h
  ·rename_i hne;cases ae:hR bN i with
   |none=>have:=IR ae;simp[this,Ne.symm hne]
   |some j=>rw[ae] at h;simp at h
mutual
def bU (d:List R)(ap:List (Option Nat))(bk:List Nat):z→z
 | .own i n off len=>
  match hR ap i with
  |some c=> .own c n off len
  |none=>
   if bk.contains i then
    match d[i]? with
    |some (.aa _ N ah)=>if n=ah.length∧off+len≤n∧eg ah=true then .pure N ((ah.drop off).take len) else .cc
    |_=> .cc
   else .cc
 | .aW i n c off=>
  match hR ap i with
  |some j=> .aW j n c off
  |none=>
   if bk.contains i then
    match d[i]? with
    |some (.aa _ _ ah)=>if n=ah.length∧eg ah=true then .eb (ah.getD c []) off else .cc
    |_=> .cc
   else .cc
 | .agg aj=> .agg (dV d ap bk aj)
 | .bg aj=> .bg (dV d ap bk aj)
 | .fn f aj=> .fn f (dV d ap bk aj)
 | .bu i=>
  match hR ap i with
  |some c=> .bu c
  |none=> .cc
 | .fG i m=>
  match hR ap i,hR ap m with
  |some c,some j=> .fG c j
  |_,_=> .cc
 |v=>v
def dV (d:List R)(ap:List (Option Nat))(bk:List Nat):List z→List z
 | []=> []
 |F::aj=>bU d ap bk F::dV d ap bk aj
end
def lD (d:List R)(ap:List (Option Nat))(bk:List Nat)(al:List (List z)):List (List z):=if eg al then al else al.map (dV d ap bk)
def ho (d:List R)(ap:List (Option Nat))(bk:List Nat):R→R
 | .fH=> .fH
 | .aa e N ah=> .aa e N (lD d ap bk ah)
 | .aY (.map aE M ents)=> .aY (.map aE M (ents.map fun p=>(bU d ap bk p.1,bU d ap bk p.2)))
 | .aY (.dY n bR)=> .aY (.dY n bR)
def ew (d:List R)(bk:List Nat)(all:List (Option Nat)):List (Option Nat)→Option (List R)
 | []=>some []
 |none::rs=>
  match ew d bk all rs with
  |some ys=>some (.fH::ys)
  |none=>none
 |some i::rs=>
  match d[i]?,ew d bk all rs with
  |some x,some ys=>some (ho d all bk x::ys)
  |_,_=>none
class dw extends Dr where
 n:Nat
 H:World→Prop
 nP: ∀ w w':World,(∀ b,b < n→w'.heap[b]? =w.heap[b]?)→H w→H w'
def GOk [dw](C:bv):Prop:=dw.n≤C.w.heap.size∧(∀ b,b < dw.n→ ∀ i F:Nat,C.bm[i]? ≠some (some (b,F)))∧dw.H C.w
theorem GOk.later [dw]{n:Nat}{C av:bv}(h:GOk C)(hl:cd n C av):GOk av:=by
 obtain⟨h1,B,am⟩:=h;refine⟨Nat.le_trans h1 hl.size,fun b Z i F V=> ?_,dw.nP _ _ (fun b Z=>hl.block b (Nat.lt_of_lt_of_le Z h1) (B b Z)) am⟩;rcases hl.uG i b F V with ⟨cy,dH,cJ⟩|cJ
 ·exact B b Z cy dH cJ
 ·omega
class uM [dw] (C:bv):Prop where
 ok:GOk C
variable [dw]
def aK (P:Program)(f:FuncId)(args:List z)(d:List R)(br:z→List R→Prop):Prop:=
 ∀ (C:bv) (du:List Value),C.d=d→cb C→GOk C→ay C args du→
  Calls P f du.toArray C.w fun e w'=> ∃ aV v av,e= .returned aV∧av.w=w'∧Rep av v aV∧cb av∧cd d.length C av∧br v av.d
theorem aK.mono {P:Program}{f:FuncId}{args:List z}{d:List R}{br Fm:z→List R→Prop}(h:aK P f args d br)(aQ: ∀ v rs,br v rs→Fm v rs):aK P f args d Fm:=
 fun C du h1 B hG am=>(h C du h1 B hG am).mono fun _ _ ⟨aV,v,av,a,b,F,o,e,q⟩=>⟨aV,v,av,a,b,F,o,e,aQ _ _ q⟩
def eH (n:Nat):List Nat→Nat→Nat
 | [],c=>n+c
 |E::_,0=>E
 |_::bN,c+1=>eH n bN c
def fq {bd:Type}:List bd→List Nat→List bd→List bd
 |ai,[],ys=>ai++ys
 |ai,i::ap,y::ys=>fq (ai.set i y) ap ys
 |ai,_::_,[]=>ai
theorem NM {bd:Type}: ∀ (ap:List Nat) (ai ys:List bd),ap.length≤ys.length→(fq ai ap ys).length=ai.length+(ys.length-ap.length)
 | [],ai,ys,_=>by simp[fq]
 |i::ap,ai,[],h=>by simp at h
 |i::ap,ai,y::ys,h=>by
  rw[fq,NM ap _ ys (by simpa using h)];simp
theorem Cn {bd:Type}: ∀ (ap:List Nat) (ai ys:List bd) (i:Nat),i < ai.length→i∉ap→(fq ai ap ys)[i]? =ai[i]?
 | [],ai,ys,i,h,_=>by rw[fq,List.getElem?_append,if_pos h]
 |E::ap,ai,[],i,h,aB=>by rw[fq]
 |E::ap,ai,y::ys,i,h,aB=>by
  simp at aB;rw[fq,Cn ap _ ys i (by simpa using h) aB.2,List.getElem?_set,if_neg (fun e=>aB.1 e.symm)]
theorem NN {bd:Type}: ∀ (ap:List Nat) (ai ys:List bd) (c:Nat),ap.Nodup→(∀ i∈ap,i < ai.length)→c < ys.length→ap.length≤ys.length→(fq ai ap ys)[eH ai.length ap c]? =ys[c]?
 | [],ai,ys,c,_,_,an,_=>by rw[fq,eH,List.getElem?_append,if_neg (by omega)];congr 1;omega
 |i::ap,ai,[],c,_,_,an,_=>by simp at an
 |i::ap,ai,y::ys,0,aB,hl,an,_=>by
  simp at aB;rw[fq,eH,Cn ap _ ys i (by simpa using hl i (by simp)) aB.1,List.getElem?_set,if_pos rfl,if_pos (hl i (by simp))];rfl
 |i::ap,ai,y::ys,c+1,aB,hl,an,ed=>by
  simp at aB;have:=NN ap (ai.set i y) ys c aB.2 (fun E ak=>by simpa using hl E (by simp[ak])) (by simpa using an) (by simpa using ed);rw[List.length_set] at this;rw[fq,eH,this];simp
theorem IS: ∀ (ap:List Nat) (n c:Nat),(an:c < ap.length)→eH n ap c=ap[c]
 |E::bN,n,0,_=>rfl
 |E::bN,n,c+1,h=>by rw[eH,IS bN n c (by simpa using h)];simp
theorem Uj: ∀ (ap:List Nat) (n c:Nat),ap.length≤c→eH n ap c=n+(c-ap.length)
 | [],n,c,_=>by simp[eH]
 |E::bN,n,0,h=>by simp at h
 |E::bN,n,c+1,h=>by rw[eH,Uj bN n c (by simpa using h)];simp
theorem ajb (ap:List Nat)(n m k:Nat)(aHV: ∀ i∈ap,i < n)(ed:ap.length≤m)(I:k < n+(m-ap.length)): (k < n∧k∉ap)∨ ∃ c,c < m∧k=eH n ap c:=by
 by_cases h:k < n
 ·by_cases ak:k∈ap
  ·obtain⟨c,an,rfl⟩:=List.getElem_of_mem ak;exact .inr ⟨c,by omega,(IS ap n c an).symm⟩
  ·exact .inl ⟨h,ak⟩
 ·refine .inr ⟨ap.length+(k-n),by omega,?_⟩;rw[Uj ap n _ (by omega)];omega
end Go.Abs
namespace Go.Abs
variable [dw]
theorem tE {d:List R}{bk:List Nat}{all:List (Option Nat)}: ∀ {ap:List (Option Nat)} {ys:List R},ew d bk all ap=some ys→
 ys.length=ap.length∧(∀ (c i:Nat),ap[c]? =some (some i)→ ∃ x,d[i]? =some x∧ys[c]? =some (ho d all bk x))∧(∀ (c:Nat),ap[c]? =some none→ys[c]? =some .fH)
 | [],ys,h=>by simp[ew] at h;subst h;simp
 |none::rs,ys,h=>by
  simp only[ew] at h;split at h
  ·rename_i bQ aS;simp at h;subst h;obtain⟨h1,B,am⟩:=tE aS;refine⟨by simp[h1],fun c E ak=> ?_,fun c ak=> ?_⟩
   ·cases c with
    |zero=>simp at ak
    |succ c=>simpa using B c E (by simpa using ak)
   ·cases c with
    |zero=>rfl
    |succ c=>simpa using am c (by simpa using ak)
  ·cases h
 |some i::rs,ys,h=>by
  simp only[ew] at h;split at h
  ·rename_i x bQ ad aS;simp at h;subst h;obtain⟨h1,B,am⟩:=tE aS;refine⟨by simp[h1],fun c E ak=> ?_,fun c ak=> ?_⟩
   ·cases c with
    |zero=>simp at ak;subst ak;exact⟨x,ad,rfl⟩
    |succ c=>simpa using B c E (by simpa using ak)
   ·cases c with
    |zero=>simp at ak
    |succ c=>simpa using am c (by simpa using ak)
  ·cases h
theorem Uk {d:List R}{ap:List (Option Nat)}{bk:List Nat}: ∀ (al:List z),(dV d ap bk al).length=al.length
 | []=>rfl
 |e::al=>by simp[dV,Uk al]
theorem Fn {d:List R}{ap:List (Option Nat)}{bk:List Nat}(al:List (List z)): (lD d ap bk al).length=al.length:=by
 unfold lD;split<;>simp
theorem IT {d:List R}{ap:List (Option Nat)}{bk:List Nat}{x:R}{e:TypeId}{N:Nat}{dl:List (List z)}(h:ho d ap bk x= .aa e N dl):
 ∃ ah,x= .aa e N ah∧dl=lD d ap bk ah:=by
 cases x with
 |fH=>simp[ho] at h
 |aa cA bt ah=>simp[ho] at h;obtain⟨rfl,rfl,rfl⟩:=h;exact⟨ah,rfl,rfl⟩
 |aY L=>cases L<;>simp[ho] at h
theorem Fo {d:List R}{ap:List (Option Nat)}{bk:List Nat}{x:R}{eN:xS}(h:ho d ap bk x= .aY eN): ∃ L,x= .aY L:=by
 cases x with
 |fH=>simp[ho] at h
 |aa cA bt ah=>simp[ho] at h
 |aY L=>exact⟨L,rfl⟩
def gN (C:bv)(ap:List (Option Nat))(bk:List Nat)(srows:List R):bv:=
 ⟨srows,ap.map (fun L=>L.bind fun i=>(C.bm[i]?).getD none),fun b=>C.bS b∨ ∃ i F:Nat,some i∉ap∧i∉bk∧C.bm[i]? =some (some (b,F)),C.w,false⟩
section
variable {C:bv} {ap:List (Option Nat)} {bk:List Nat} {srows:List R}
theorem tF (ar:cb C)(ao:ew C.d bk ap ap=some srows){c i:Nat}(an:ap[c]? =some (some i)): (gN C ap bk srows).bm[c]? =C.bm[i]? :=by
 obtain⟨x,h1,_⟩:=(tE ao).2.1 c i an;have G:i < C.bm.length:=by rw[ar.dm];exact (List.getElem?_eq_some_iff.1 h1).1
 simp[gN,an,List.getElem?_eq_getElem G]
theorem yg (ar:cb C)(ao:ew C.d bk ap ap=some srows){c b F:Nat}(h: (gN C ap bk srows).bm[c]? =some (some (b,F))): ∃ i,ap[c]? =some (some i)∧C.bm[i]? =some (some (b,F)):=by
 cases ak:ap[c]? with
 |none=>simp[gN,ak] at h
 |some L=>
  cases L with
  |none=>simp[gN,ak] at h
  |some i=>exact⟨i,rfl,by rw[←tF ar ao ak];exact h⟩
theorem Co (ar:cb C)(ao:ew C.d bk ap ap=some srows)(b:Nat)(Z:C.jX b): (gN C ap bk srows).w.heap[b]? =C.w.heap[b]? ∧(gN C ap bk srows).jX b:=by
 obtain⟨h1,B,am⟩:=Z;refine⟨rfl,h1,?_,fun c F V=> ?_⟩
 ·rintro (h|⟨i,F,_,_,h⟩)
  ·exact B h
  ·exact am i F h
 ·obtain⟨i,_,G⟩:=yg ar ao V;exact am i F G
theorem Ul (ar:cb C)(ao:ew C.d bk ap ap=some srows){i b F:Nat}(G:some i∉ap)(ag:i∈bk)(ae:C.bm[i]? =some (some (b,F)))(bi: ¬C.bS b): (gN C ap bk srows).jX b:=by
 refine⟨ar.lt ae,?_,fun c dH V=> ?_⟩
 ·rintro (h|⟨cy,dH,h1,B,am⟩)
  ·exact bi h
  ·exact B (ar.inj _ _ _ _ _ am ae▸ag)
 ·obtain⟨cy,h1,B⟩:=yg ar ao V;have:=ar.inj _ _ _ _ _ B ae;subst this;exact G (List.mem_of_getElem? h1)
theorem Um (ar:cb C)(ao:ew C.d bk ap ap=some srows){b L N:Nat}{ah:List (List z)}(V:eg ah=true)(h:cT C b L N ah):cT (gN C ap bk srows).p b L N ah:=by
 obtain⟨vs,h1,B⟩:=(cT.pH b N L ah V h).sm;have am:fj (gN C ap bk srows).p N ah vs:=⟨h1.iW,ay.mg (C:=C.p) (av:=(gN C ap bk srows).p) (fun x ad=>Co (C:=C) ar ao x ad) rfl rfl _ _ h1.ks,h1.cM⟩;exact am.wu B
mutual
theorem Rep.bind (ar:cb C)(ao:ew C.d bk ap ap=some srows): ∀ (a:z) (v:Value),Rep C a v→Rep (gN C ap bk srows) (bU C.d ap bk a) v
 | .int ..,_,i=>by simpa[bU,Rep] using i
 | .bool ..,_,i=>by simpa[bU,Rep] using i
 | .str ..,_,i=>by simpa[bU,Rep] using i
 | .bD,_,i=>by simpa[bU,Rep] using i
 | .jW,_,i=>by simpa[bU,Rep] using i
 | .cc,_,_=>by simp[bU,Rep]
 | .agg aj,v,i=>by
  rw[Rep] at i;rw[bU,Rep];obtain⟨vs,rfl,G⟩:=i;exact⟨vs,rfl,ay.bind ar ao aj _ G⟩
 | .bg aj,v,i=>by
  rw[Rep] at i;rw[bU,Rep];obtain⟨vs,rfl,G⟩:=i;exact⟨vs,rfl,ay.bind ar ao aj _ G⟩
 | .pure N ah,v,i=>by
  have e:bU C.d ap bk (.pure N ah)= .pure N ah:=by simp[bU]
  rw[Rep] at i;rw[e,Rep];obtain⟨ct,cap,rfl,ed,G⟩:=i;refine⟨ct,cap,rfl,ed,?_⟩;rcases G with G|⟨b,L,rfl,Z,he⟩
  ·exact .inl G
  ·exact .inr ⟨b,L,rfl,(Co ar ao b Z).2,cT.mg (C:=C.p) (av:=(gN C ap bk srows).p) (fun x ad=>Co (C:=C) ar ao x ad) rfl rfl b L N Z ah he⟩
 | .eb cells off,v,i=>by
  have e:bU C.d ap bk (.eb cells off)= .eb cells off:=by simp[bU]
  rw[Rep] at i;rw[e,Rep];obtain⟨b,L,rfl,Z,V⟩:=i;exact⟨b,L,rfl,(Co ar ao b Z).2,dn.mg (C:=C.p) (av:=(gN C ap bk srows).p) (fun x ad=>Co (C:=C) ar ao x ad) rfl rfl b L Z cells V⟩
 | .own i n off len,v,G=>by
  rw[bU];rw[Rep] at G;obtain⟨hm,h0,h1,B⟩:=G;split
  ·rename_i c an;have ak:=Av an;obtain⟨x,g1,dh⟩:=(tE ao).2.1 c i ak;rw[Rep];refine⟨rfl,h0,(List.getElem?_eq_some_iff.1 dh).1,fun e N dl ag=> ?_⟩;rw[show (gN C ap bk srows).d=srows from rfl,dh] at ag;simp only[Option.some.injEq] at ag;obtain⟨ah,rfl,rfl⟩:=IT ag;rw[Fn];obtain⟨bI,ca⟩:=B e N ah g1;refine⟨by omega,fun aB=> ?_⟩;rw[tF ar ao ak];exact ca (by omega)
  ·rename_i an;have ts:=IR an;split
   ·rename_i NO;split
    ·rename_i e N ah hrow;split
     ·rename_i V;obtain⟨aB,sh,gB⟩:=V;obtain⟨_,p,ae,uN⟩:=(B e N ah hrow).2 aB;have cB: ((ah.drop off).take len).length=len:=by rw[List.length_take,List.length_drop];omega
      rw[Rep,cB];rcases ar.aa hrow with ⟨hl,iq⟩|⟨b,cap,aj,hl,bI,ca,fc,hi,jr,js⟩
      ·rw[ae] at hl;simp at hl;subst hl;simp only[nO] at uN;obtain⟨⟨ct,rfl⟩,_,rfl⟩:=uN;exact⟨ct,0,rfl,Nat.le_refl _,.inl rfl⟩
      ·rw[ae] at hl;simp at hl;subst hl;simp only[nO] at uN;obtain⟨a,F,rfl,aJc,gT,gU,_,bi⟩:=uN;refine⟨some a,F,rfl,aJc,?_⟩
       by_cases aS:len=0
       ·exact .inl aS
       ·right
        have aw:a=⟨b,off*N,none⟩:=by
         obtain⟨x,y,D⟩:=a;simp only at gT gU bi;rw[gT,gU,bi (by omega)]
        refine⟨b,off*N,by rw[aw],Ul ar ao ts (by simpa using NO) ae bI,?_⟩;have:=((Um ar ao gB js).drop off).take len;simpa using this
     ·simp[Rep]
    ·simp[Rep]
   ·simp[Rep]
 | .aW i n c off,v,G=>by
  rw[bU];rw[Rep] at G;obtain⟨hm,h0,h1,B⟩:=G;split
  ·rename_i j an;have ak:=Av an;obtain⟨x,g1,dh⟩:=(tE ao).2.1 j i ak;rw[Rep];refine⟨rfl,h0,(List.getElem?_eq_some_iff.1 dh).1,fun e N dl ag=> ?_⟩;rw[show (gN C ap bk srows).d=srows from rfl,dh] at ag;simp only[Option.some.injEq] at ag;obtain⟨ah,rfl,rfl⟩:=IT ag;rw[Fn];obtain⟨bI,ca⟩:=B e N ah g1;refine⟨by omega,fun aB=> ?_⟩;rw[tF ar ao ak];exact ca (by omega)
  ·rename_i an;have ts:=IR an;split
   ·rename_i NO;split
    ·rename_i e N ah hrow;split
     ·rename_i V;obtain⟨aB,gB⟩:=V;obtain⟨uO,b,F,ae,rfl⟩:=(B e N ah hrow).2 aB;rcases ar.aa hrow with ⟨hl,iq⟩|⟨eu,cap,aj,hl,bI,ca,fc,hi,jr,js⟩
      ·rw[ae] at hl;simp at hl
      ·rw[ae] at hl;simp at hl;obtain⟨rfl,rfl⟩:=hl;have:=((Um (ap:=ap) (bk:=bk) (srows:=srows) ar ao gB js).nS c (by omega)).2;rw[Rep];refine⟨b,c*N,rfl,Ul ar ao ts (by simpa using NO) ae bI,?_⟩;simpa using this
     ·simp[Rep]
    ·simp[Rep]
   ·simp[Rep]
 | .fn f aj,v,i=>by
  rw[Rep] at i;rw[bU,Rep];obtain⟨vs,rfl,G⟩:=i;exact⟨vs,rfl,ay.bind ar ao aj _ G⟩
 | .km,_,i=>by simpa[bU,Rep] using i
 | .bu i,v,G=>by
  rw[bU];rw[Rep] at G;obtain⟨hm,h0,h1,B⟩:=G;split
  ·rename_i c an;have ak:=Av an;obtain⟨x,g1,dh⟩:=(tE ao).2.1 c i ak;rw[Rep];refine⟨rfl,h0,(List.getElem?_eq_some_iff.1 dh).1,fun eN bi=> ?_⟩;rw[show (gN C ap bk srows).d=srows from rfl,dh] at bi;simp only[Option.some.injEq] at bi;obtain⟨L,rfl⟩:=Fo bi;rw[tF ar ao ak];exact B L g1
  ·simp[Rep]
 | .fG i m,v,G=>by
  rw[bU];rw[Rep] at G;obtain⟨hm,h0,h1,B,am⟩:=G;split
  ·rename_i c j an aT;have ak:=Av an;have yh:=Av aT;obtain⟨x,g1,dh⟩:=(tE ao).2.1 c i ak;obtain⟨aHW,we,Un⟩:=(tE ao).2.1 j m yh;rw[Rep];refine⟨rfl,h0,(List.getElem?_eq_some_iff.1 dh).1,(List.getElem?_eq_some_iff.1 Un).1,fun kI kJ tq vX=> ?_⟩;rw[show (gN C ap bk srows).d=srows from rfl,dh] at tq;rw[show (gN C ap bk srows).d=srows from rfl,Un] at vX;simp only[Option.some.injEq] at tq vX;obtain⟨p1,rfl⟩:=Fo tq;obtain⟨iG,rfl⟩:=Fo vX;rw[tF ar ao ak,tF ar ao yh];exact am p1 iG g1 we
  ·simp[Rep]
theorem ay.bind (ar:cb C)(ao:ew C.d bk ap ap=some srows): ∀ (as:List z) (vs:List Value),ay C as vs→ay (gN C ap bk srows) (dV C.d ap bk as) vs
 | [],vs,i=>by simpa[dV,ay] using i
 |a::as,vs,i=>by
  rw[ay] at i;rw[dV,ay];obtain⟨v,bW,rfl,bI,ca⟩:=i;exact⟨v,bW,rfl,Rep.bind ar ao a v bI,ay.bind ar ao as bW ca⟩
end
theorem NP {d:List R}: ∀ (as:List z),dV d ap bk as=as.map (bU d ap bk)
 | []=>rfl
 |a::as=>by simp[dV,NP as]
mutual
theorem Uo {d:List R}{ap:List (Option Nat)}{bk:List Nat}: ∀ (a:z),bE a=true→bU d ap bk a=a
 | .own ..,h=>by simp[bE] at h
 | .aW ..,h=>by simp[bE] at h
 | .agg aj,h=>by rw[bE] at h;rw[bU,IU aj h]
 | .bg aj,h=>by rw[bE] at h;rw[bU,IU aj h]
 | .fn f aj,h=>by rw[bE] at h;rw[bU,IU aj h]
 | .int ..,_=>by simp[bU]
 | .bool ..,_=>by simp[bU]
 | .str ..,_=>by simp[bU]
 | .bD,_=>by simp[bU]
 | .jW,_=>by simp[bU]
 | .cc,_=>by simp[bU]
 | .pure ..,_=>by simp[bU]
 | .eb ..,_=>by simp[bU]
 | .km,_=>by simp[bU]
 | .bu _,h=>by simp[bE] at h
 | .fG ..,h=>by simp[bE] at h
theorem IU {d:List R}{ap:List (Option Nat)}{bk:List Nat}: ∀ (as:List z),bP as=true→dV d ap bk as=as
 | [],_=>rfl
 |a::as,h=>by
  simp only[bP,Bool.and_eq_true] at h;rw[dV,Uo a h.1,IU as h.2]
end
theorem Up {d:List R}: ∀ (ai ys:List z),dV d ap bk (ai++ys)=dV d ap bk ai++dV d ap bk ys
 | [],ys=>rfl
 |x::ai,ys=>by simp[dV,Up ai ys]
theorem Uq: ∀ (ai ys:List z),bP ai=true→bP ys=true→bP (ai++ys)=true
 | [],ys,_,h=>h
 |x::ai,ys,ad,bl=>by
  simp only[bP,Bool.and_eq_true] at ad;simp only[List.cons_append,bP,Bool.and_eq_true];exact⟨ad.1,Uq ai ys ad.2 bl⟩
theorem Ur: ∀ {al:List (List z)},eg al=true→bP al.flatten=true
 | [],_=>rfl
 |e::al,h=>by
  simp only[eg,Bool.and_eq_true] at h;rw[List.flatten_cons];exact Uq _ _ h.1 (Ur h.2)
theorem fj.bind (ar:cb C)(ao:ew C.d bk ap ap=some srows){N:Nat}{ah:List (List z)}{vs:List Value}
 (he:fj C N ah vs):fj (gN C ap bk srows) N (lD C.d ap bk ah) vs:=by
 unfold lD;split
 ·rename_i V;refine⟨he.iW,ay.nQ _ _ ?_,he.cM⟩;exact ay.mg (C:=C.p) (av:=(gN C ap bk srows).p) (fun x ad=>Co (C:=C) ar ao x ad) rfl rfl _ _ (ay.pH _ _ (Ur V) he.ks)
 ·refine⟨fun e hm=> ?_,?_,he.cM⟩
  ·obtain⟨x,ad,rfl⟩:=List.mem_map.1 hm;rw[Uk];exact he.iW x ad
  ·have lw: ∀ al:List (List z),(al.map (dV C.d ap bk)).flatten=dV C.d ap bk al.flatten:=by
    intro al
    induction al with
    |nil=>rfl
    |cons e al ih=>simp[Up,ih]
   rw[lw];exact ay.bind ar ao _ _ he.ks
def IV (ap:List (Option Nat)):Prop:= ∀ c j i:Nat,ap[c]? =some (some i)→ap[j]? =some (some i)→c=j
theorem Us (ar:cb C)(aB:IV ap)(ao:ew C.d bk ap ap=some srows):cb (gN C ap bk srows):=by
 obtain⟨hl,eI,IW⟩:=tE ao;refine⟨rfl,by simp[gN,hl],fun c bz an=> ?_,fun c j b F dH h1 B=> ?_,fun b Z=> ?_⟩
 ·have jY:c < ap.length:=by rw[←hl];exact (List.getElem?_eq_some_iff.1 an).1
  have Cp:srows[c]? =some bz:=an;cases bi:ap[c] with
  |none=>
   have:=IW c (by rw[List.getElem?_eq_getElem jY,bi]);rw[Cp] at this;simp at this;subst this;rw[dA];simp[gN,List.getElem?_eq_getElem jY,bi]
  |some i=>
   have pJ:ap[c]? =some (some i):=by rw[List.getElem?_eq_getElem jY,bi]
   obtain⟨x,g1,dh⟩:=eI c i pJ;rw[Cp] at dh;simp at dh;subst dh;have oP:=tF ar ao pJ;cases x with
   |fH=>rw[ho,dA,oP];exact ar.d _ _ g1
   |aa e N ah=>
    rw[ho,dA,oP];rcases ar.aa g1 with ⟨h1,rfl⟩|⟨b,cap,aj,h1,bI,ca,fc,hi,jr,js⟩
    ·exact⟨none,h1,by simp[lD,eg]⟩
    ·obtain⟨vs,bF,bJ⟩:=js.sm;refine⟨_,h1,?_,aj,ca,fc,hi,by rw[Fn];exact jr,(fj.bind ar ao bF).wu bJ⟩;rintro (h|⟨cy,F,Fp,_,NQ⟩)
     ·exact bI h
     ·have:=ar.inj _ _ _ _ _ NQ h1;subst this;exact Fp (List.mem_of_getElem? pJ)
   |aY L=>
    have ka: ∀ {b F:Nat},C.bm[i]? =some (some (b,F))→ ¬C.bS b→ ¬(gN C ap bk srows).bS b:=by
     intro b F ae bi;rintro (h|⟨cy,dH,Fp,_,NQ⟩)
     ·exact bi h
     ·have:=ar.inj _ _ _ _ _ NQ ae;subst this;exact Fp (List.mem_of_getElem? pJ)
    have hrow:=ar.d _ _ g1;cases L with
    |map aE M ents=>
     rw[dA] at hrow;obtain⟨b,F,al,h1,B,am,bp,cn,dj,mM⟩:=hrow;rw[ho,dA,oP];refine⟨b,F,al,h1,ka h1 B,am,bp,?_,?_,fun p ae=> ?_⟩
     ·have:=ay.bind ar ao _ _ cn;rw[NP] at this;simpa[List.map_map,Function.comp_def] using this
     ·have:=ay.bind ar ao _ _ dj;rw[NP] at this;simpa[List.map_map,Function.comp_def] using this
     ·obtain⟨q,aQ,rfl⟩:=List.mem_map.1 ae;have:=mM q aQ;simpa only[Uo _ (Uh this)] using this
    |dY n bR=>
     rw[dA] at hrow;obtain⟨b,jn,h1,B,am⟩:=hrow;rw[ho,dA,oP];exact⟨b,jn,h1,ka h1 B,am⟩
 ·obtain⟨i,Al,p1⟩:=yg ar ao h1;obtain⟨cy,xX,iG⟩:=yg ar ao B;have:=ar.inj _ _ _ _ _ p1 iG;subst this;exact aB c j i Al xX
 ·rcases Z with h|⟨i,F,_,_,h⟩
  ·exact ar.bS b h
  ·exact ar.lt h
end
end Go.Abs
namespace Go.Abs
variable [dw]
def jw (C:bv)(ap:List Nat)(ax:bv):bv:=
 ⟨fq C.d ap (ax.d.map (gu (eH C.d.length ap))),fq C.bm ap ax.bm,C.bS,ax.w,C.bT⟩
theorem Ut {f:Nat→Nat}{bz:R}{e:TypeId}{N:Nat}{ah:List (List z)}(h:gu f bz= .aa e N ah): ∃ dl,bz= .aa e N dl∧ah=ro f dl:=by
 cases bz with
 |fH=>simp[gu] at h
 |aa cA bt dl=>simp[gu] at h;obtain⟨rfl,rfl,rfl⟩:=h;exact⟨dl,rfl,rfl⟩
 |aY L=>cases L<;>simp[gu] at h
theorem Uu {f:Nat→Nat}{bz:R}{eN:xS}(h:gu f bz= .aY eN): ∃ L,bz= .aY L:=by
 cases bz with
 |fH=>simp[gu] at h
 |aa cA bt ah=>simp[gu] at h
 |aY L=>exact⟨L,rfl⟩
section
variable {C ax:bv} {ap bk:List Nat} {srows:List R}
theorem ajc (ar:cb C)(aB:ap.Nodup)(ao:ew C.d bk (ap.map some) (ap.map some)=some srows)(fr:cb ax)(hl:cd srows.length (gN C (ap.map some) bk srows) ax)
 (hf:bk= []∨(ax.d.all Au)=true):
 cb (jw C ap ax)∧cd C.d.length C (jw C ap ax)∧ ∀ v aV,(bk= []∨pI v=true)→Rep ax v aV→Rep (jw C ap ax) (dI (eH C.d.length ap) v) aV:=by
 obtain⟨fd,eI,_⟩:=tE ao;rw[List.length_map] at fd;have Uv: ∀ {c i:Nat},(ap.map some)[c]? =some (some i)→ap[c]? =some i:=by
  intro c i h;simpa using h
 have Fq: ∀ {c:Nat} (an:c < ap.length),(ap.map some)[c]? =some (some ap[c]):=by
  intro c an;simp[an]
 have aC: ∀ i∈ap,i < C.d.length:=by
  intro i G;obtain⟨c,an,rfl⟩:=List.getElem_of_mem G;obtain⟨x,g1,_⟩:=eI c ap[c] (Fq an);exact (List.getElem?_eq_some_iff.1 g1).1
 have ed:ap.length≤ax.d.length:=by rw[←fd];exact hl.len
 have Uw:ap.length≤(ax.d.map (gu (eH C.d.length ap))).length:=by simpa using ed
 have Ux:ap.length≤ax.bm.length:=by rw[fr.dm];exact ed
 have ajd: ∀ i∈ap,i < C.bm.length:=by rw[ar.dm];exact aC
 have NR: (jw C ap ax).d.length=C.d.length+(ax.d.length-ap.length):=by
  show (fq _ _ _).length=_;rw[NM ap _ _ Uw];simp
 have aJa: ∀ c,c < ax.d.length→(jw C ap ax).d[eH C.d.length ap c]? =(ax.d[c]?).map (gu (eH C.d.length ap)):=by
  intro c an;show (fq _ _ _)[_]? =_;rw[NN ap _ _ c aB aC (by simpa using an) Uw];simp
 have sq: ∀ c,c < ax.d.length→(jw C ap ax).bm[eH C.d.length ap c]? =ax.bm[c]? :=by
  intro c an;show (fq _ _ _)[_]? =_;rw[←ar.dm];exact NN ap _ _ c aB ajd (by rw[fr.dm];exact an) Ux
 have NS: ∀ i,i < C.d.length→i∉ap→(jw C ap ax).d[i]? =C.d[i]? :=fun i h1 B=>Cn ap _ _ i h1 B;have IX: ∀ i,i < C.d.length→i∉ap→(jw C ap ax).bm[i]? =C.bm[i]? :=fun i h1 B=>Cn ap _ _ i (by rw[ar.dm];exact h1) B;have Uy: ∀ k,k < (jw C ap ax).d.length→(k < C.d.length∧k∉ap)∨ ∃ c,c < ax.d.length∧k=eH C.d.length ap c:=by
  intro k I;rw[NR] at I;exact ajb ap _ _ k aC ed I
 have Uz: (jw C ap ax).bm.length=(jw C ap ax).d.length:=by
  rw[NR];show (fq _ _ _).length=_;rw[NM ap _ _ Ux,ar.dm,fr.dm]
 have IY: ∀ k b F:Nat,(jw C ap ax).bm[k]? =some (some (b,F))→(k < C.d.length∧k∉ap∧C.bm[k]? =some (some (b,F)))∨ ∃ c:Nat,c < ax.d.length∧k=eH C.d.length ap c∧ax.bm[c]? =some (some (b,F)):=by
  intro k b F I;have fP:k < (jw C ap ax).d.length:=by
   rw[←Uz];exact (List.getElem?_eq_some_iff.1 I).1
  rcases Uy k fP with ⟨h1,B⟩|⟨c,h1,rfl⟩
  ·exact .inl ⟨h1,B,by rw[←IX k h1 B];exact I⟩
  ·exact .inr ⟨c,h1,rfl,by rw[←sq c h1];exact I⟩
 have uG: ∀ c b F:Nat,ax.bm[c]? =some (some (b,F))→(∃ i dH:Nat,i∈ap∧C.bm[i]? =some (some (b,dH)))∨C.w.heap.size≤b:=by
  intro c b F an;rcases hl.uG c b F an with ⟨j,dH,h⟩|h
  ·obtain⟨i,h1,B⟩:=yg ar ao h;exact .inl ⟨i,dH,List.mem_of_getElem? (Uv h1),B⟩
  ·exact .inr h
 have aje: ∀ b,(∀ i F:Nat,i∈ap→C.bm[i]? ≠some (some (b,F)))→ ∀ c F:Nat,(gN C (ap.map some) bk srows).bm[c]? ≠some (some (b,F)):=by
  intro b Z c F V;obtain⟨i,h1,B⟩:=yg ar ao V;exact Z i F (List.mem_of_getElem? (Uv h1)) B
 have UA: ∀ b,b < C.w.heap.size→(∀ i F:Nat,i∈ap→C.bm[i]? ≠some (some (b,F)))→ax.w.heap[b]? =C.w.heap[b]? :=fun b Z bi=>hl.block b Z (aje b bi);have later:cd C.d.length C (jw C ap ax):=by
  refine⟨hl.os,hl.tape,hl.output,hl.size,fun b Z bi=>UA b Z fun i F _=>bi i F,fun k b F I=> ?_,rfl,rfl,by rw[NR];omega,fun i e N dl G ag=> ?_,fun i eN G ag=> ?_,hl.drawn⟩
  ·rcases IY k b F I with ⟨_,_,h⟩|⟨c,_,_,h⟩
   ·exact .inl ⟨k,F,h⟩
   ·rcases uG c b F h with ⟨i,dH,_,h⟩|h
    ·exact .inl ⟨i,dH,h⟩
    ·exact .inr h
  ·by_cases ak:i∈ap
   ·obtain⟨c,an,rfl⟩:=List.getElem_of_mem ak;have gU:=IS ap C.d.length c an;rw[←gU,aJa c (by omega)] at ag;have Aw:c < ax.d.length:=by omega
    rw[List.getElem?_eq_getElem Aw] at ag;simp at ag;obtain⟨re,aq,rfl⟩:=Ut ag;obtain⟨v1,c1,c2,c3⟩:=hl.d c e N re (by omega) (by rw[List.getElem?_eq_getElem Aw,aq]);obtain⟨x,g1,dh⟩:=eI c ap[c] (Fq an);rw[show (gN C (ap.map some) bk srows).d=srows from rfl,dh] at c1;simp only[Option.some.injEq] at c1;obtain⟨ah,rfl,rfl⟩:=IT c1;rw[Fn] at c2 c3;refine⟨ah,g1,by rw[IQ];omega,fun lB=> ?_⟩;rw[IQ] at lB;have:=c3 (by omega);rw[tF ar ao (Fq an)] at this;rw[←gU,sq c Aw,gU];exact this
   ·rw[NS i G ak] at ag;exact⟨dl,ag,Nat.le_refl _,fun _=>IX i G ak⟩
  ·by_cases ak:i∈ap
   ·obtain⟨c,an,rfl⟩:=List.getElem_of_mem ak;have gU:=IS ap C.d.length c an;rw[←gU,aJa c (by omega)] at ag;have Aw:c < ax.d.length:=by omega
    rw[List.getElem?_eq_getElem Aw] at ag;simp at ag;obtain⟨kJ,aq⟩:=Uu ag;obtain⟨kI,c1,c2⟩:=hl.qu c kJ (by omega) (by rw[List.getElem?_eq_getElem Aw,aq]);obtain⟨x,g1,dh⟩:=eI c ap[c] (Fq an);rw[show (gN C (ap.map some) bk srows).d=srows from rfl,dh] at c1;simp only[Option.some.injEq] at c1;obtain⟨L,rfl⟩:=Fo c1;refine⟨L,g1,?_⟩;rw[tF ar ao (Fq an)] at c2;rw[←gU,sq c Aw,gU];exact c2
   ·rw[NS i G ak] at ag;exact⟨eN,ag,IX i G ak⟩
 have Cq: ∀ i,i < ax.d.length→eH C.d.length ap i < (jw C ap ax).d.length∧ ∀ e N dl,(jw C ap ax).d[eH C.d.length ap i]? =some (.aa e N dl)→
  ∃ ah,ax.d[i]? =some (.aa e N ah)∧ah.length≤dl.length∧(ah.length=dl.length→(jw C ap ax).bm[eH C.d.length ap i]? =ax.bm[i]?):=by
  intro i G;have NT:=aJa i G;rw[List.getElem?_eq_getElem G] at NT;refine⟨(List.getElem?_eq_some_iff.1 (by simpa using NT)).1,fun e N dl ag=> ?_⟩;rw[NT] at ag;simp at ag;obtain⟨re,aq,rfl⟩:=Ut ag;exact⟨re,by rw[List.getElem?_eq_getElem G,aq],by rw[IQ];exact Nat.le_refl _,fun _=>sq i G⟩
 have Cr: ∀ i,i < ax.d.length→ ∀ eN,(jw C ap ax).d[eH C.d.length ap i]? =some (.aY eN)→ ∃ L,ax.d[i]? =some (.aY L)∧(jw C ap ax).bm[eH C.d.length ap i]? =ax.bm[i]? :=by
  intro i G eN ag;rw[aJa i G,List.getElem?_eq_getElem G] at ag;simp at ag;obtain⟨L,aq⟩:=Uu ag;exact⟨L,by rw[List.getElem?_eq_getElem G,aq],sq i G⟩
 have gV: (jw C ap ax).bT=ax.bT:=by rw[fr.bT];exact ar.bT
 have NU:bk= []→ ∀ b,ax.jX b→(jw C ap ax).w.heap[b]? =ax.w.heap[b]? ∧(jw C ap ax).jX b:=by
  intro ag b Z;obtain⟨h1,B,am⟩:=Z;rw[hl.bS] at B;refine⟨rfl,h1,fun bi=>B (.inl bi),fun k F I=> ?_⟩;rcases IY k b F I with ⟨q1,eF,ev⟩|⟨c,_,_,q⟩
  ·exact B (.inr ⟨k,F,by simpa using eF,by simp[ag],ev⟩)
  ·exact am c F q
 have ajf: ∀ v aV,(bk= []∨pI v=true)→Rep ax v aV→Rep (jw C ap ax) (dI (eH C.d.length ap) v) aV:=by
  intro v aV NV G;rcases NV with ag|ag
  ·exact Rep.tD ⟨gV,NU ag,Cq,Cr⟩ v aV G
  ·exact Rep.wt gV Cq Cr v aV ag G
 have wu: ∀ (c:Nat) (e:TypeId) (N:Nat) (ah:List (List z)) (vs:List Value),ax.d[c]? =some (.aa e N ah)→fj ax N ah vs→fj (jw C ap ax) N (ro (eH C.d.length ap) ah) vs:=by
  intro c e N ah vs an he;rcases hf with ag|ag
  ·exact fj.tD ⟨gV,NU ag,Cq,Cr⟩ he
  ·have ajg:Cl ah=true:=List.all_eq_true.1 ag _ (List.mem_of_getElem? an);refine⟨fun x ad=> ?_,?_,he.cM⟩
   ·rw[Fl] at ad;obtain⟨y,bl,rfl⟩:=List.mem_map.1 ad;rw[NJ];exact he.iW y bl
   ·rw[Ug];exact ay.wt gV Cq Cr _ _ (Ui ajg) he.ks
 refine⟨⟨ar.bT,Uz,fun k bz I=> ?_,fun k bo b F dH h1 B=> ?_,fun b Z=>Nat.lt_of_lt_of_le (ar.bS b Z) hl.size⟩,later,ajf⟩
 ·have fP:k < (jw C ap ax).d.length:=(List.getElem?_eq_some_iff.1 I).1;rcases Uy k fP with ⟨h1,B⟩|⟨c,an,rfl⟩
  ·rw[NS k h1 B] at I;refine dA.move later.ext rfl (IX k h1 B) (fun b F Z=> ?_) (ar.d k bz I);refine UA b (ar.lt Z) fun i dH G ch=> ?_;have:=ar.inj _ _ _ _ _ Z ch;subst this;exact B G
  ·rw[aJa c an,List.getElem?_eq_getElem an] at I;simp at I;have hrow:=fr.d c _ (List.getElem?_eq_getElem an);cases aq:ax.d[c] with
   |fH=>
    rw[aq] at I hrow;simp[gu] at I;subst I;rw[dA] at hrow ⊢;rw[sq c an];exact hrow
   |aa e N ah=>
    rw[aq] at I;simp[gu] at I;subst I;have yi:ax.d[c]? =some (.aa e N ah):=by rw[List.getElem?_eq_getElem an,aq]
    rw[dA,sq c an];rcases fr.aa yi with ⟨p1,rfl⟩|⟨b,cap,aj,p1,bI,ca,fc,hi,jr,js⟩
    ·exact⟨none,p1,by simp[ro,eg]⟩
    ·obtain⟨vs,bF,bJ⟩:=js.sm;refine⟨_,p1,fun bi=>bI ?_,aj,ca,fc,hi,by rw[IQ];exact jr,(wu c e N ah vs yi bF).wu bJ⟩;rw[hl.bS];exact .inl bi
   |aY L=>
    have yi:ax.d[c]? =some (.aY L):=by rw[List.getElem?_eq_getElem an,aq]
    cases L with
    |map aE M ents=>
     rw[aq] at I hrow;simp only[gu] at I;subst I;rw[dA] at hrow;obtain⟨b,F,al,h1,B,am,bp,cn,dj,mM⟩:=hrow;have ks: ∀ as vs,(bk= []∨mN as=true)→ay ax as vs→ay (jw C ap ax) (iX (eH C.d.length ap) as) vs:=by
      intro as vs NV G;rcases NV with ag|ag
      ·exact ay.tD ⟨gV,NU ag,Cq,Cr⟩ as vs G
      ·exact ay.wt gV Cq Cr as vs ag G
     have lw:bk= []∨(mN (ents.map (·.1))=true∧mN (ents.map (·.2))=true):=by
      rcases hf with ag|ag
      ·exact .inl ag
      ·right
       have:=List.all_eq_true.1 ag _ (List.mem_of_getElem? yi);simpa[Au] using this
     rw[dA,sq c an];refine⟨b,F,al,h1,fun bi=>B ?_,am,bp,?_,?_,fun p ae=> ?_⟩
     ·rw[hl.bS];exact .inl bi
     ·have:=ks _ _ (lw.imp id (·.1)) cn;rw[NL] at this;simpa[List.map_map,Function.comp_def] using this
     ·have:=ks _ _ (lw.imp id (·.2)) dj;rw[NL] at this;simpa[List.map_map,Function.comp_def] using this
     ·obtain⟨q,aQ,rfl⟩:=List.mem_map.1 ae;have:=mM q aQ;simpa only[uL _ _ (Uh this)] using this
    |dY n bR=>
     rw[aq] at I hrow;simp only[gu] at I;subst I;rw[dA] at hrow;obtain⟨b,jn,h1,B,am⟩:=hrow;rw[dA,sq c an];exact⟨b,jn,h1,fun bi=>B (by rw[hl.bS];exact .inl bi),am⟩
 ·have UB: ∀ {k c b F dH:Nat},k < C.d.length→k∉ap→C.bm[k]? =some (some (b,F))→ax.bm[c]? =some (some (b,dH))→False:=by
   intro k c b F dH h1 B am bp;rcases uG c b dH bp with ⟨i,c2,G,h⟩|h
   ·have:=ar.inj _ _ _ _ _ am h;subst this;exact B G
   ·have:=ar.lt am;omega
  rcases IY k b F h1 with ⟨cz,eT,a3⟩|⟨c,cz,eT,a3⟩<;>rcases IY bo b dH B with ⟨b1,eA,ls⟩|⟨j,b1,eA,ls⟩
  ·exact ar.inj _ _ _ _ _ a3 ls
  ·exact (UB cz eT a3 ls).elim
  ·exact (UB b1 eA ls a3).elim
  ·have:=fr.inj _ _ _ _ _ a3 ls;rw[eT,eA,this]
end
def tG (P:Program)(f:FuncId)(args:List z)(d:List R)(K:z→List R→Prop):Prop:=
 ∃ (ap bk:List Nat) (srows:List R),ap.Nodup∧ew d bk (ap.map some) (ap.map some)=some srows∧
  aK P f (dV d (ap.map some) bk args) srows fun v rs=>(bk= []∨(pI v=true∧(rs.all Au)=true))∧K (dI (eH d.length ap) v) (fq d ap (rs.map (gu (eH d.length ap))))
theorem UC {ap:List Nat}(h:ap.Nodup):IV (ap.map some):=by
 intro c j i h1 B;have hP:ap[c]? =some i:=by simpa using h1
 have oI:ap[j]? =some i:=by simpa using B
 obtain⟨NW,bF⟩:=List.getElem?_eq_some_iff.1 hP;obtain⟨ge,bJ⟩:=List.getElem?_eq_some_iff.1 oI;exact (List.getElem_inj h).1 (bF.trans bJ.symm)
theorem ajh {C:bv}{ap:List (Option Nat)}{bk:List Nat}{srows:List R}(ar:cb C)(ao:ew C.d bk ap ap=some srows)(hG:GOk C):GOk (gN C ap bk srows):=by
 obtain⟨h1,B,am⟩:=hG;refine⟨h1,fun b Z i F V=> ?_,am⟩;obtain⟨cy,_,cJ⟩:=yg ar ao V;exact B b Z cy F cJ
theorem Fr {P:Program}{C:bv}(ar:cb C)(hG:GOk C){f:FuncId}{args:List z}{du:List Value}(G:ay C args du){K:z→List R→Prop}(h:tG P f args C.d K):
 Calls P f du.toArray C.w fun e w'=> ∃ aV v av,e= .returned aV∧av.w=w'∧Rep av v aV∧cb av∧cd C.d.length C av∧K v av.d:=by
 obtain⟨ap,bk,srows,aB,ao,hA⟩:=h;refine (hA (gN C (ap.map some) bk srows) du rfl (Us ar (UC aB) ao) (ajh ar ao hG) (ay.bind ar ao _ _ G)).mono ?_;rintro e w' ⟨aV,v,ax,rfl,rfl,ag,fr,hl,aQ,I⟩;obtain⟨b1,eA,ls⟩:=ajc ar aB ao fr hl (aQ.imp id (·.2));exact⟨aV,_,jw C ap ax,rfl,rfl,ls v aV (aQ.imp id (·.1)) ag,b1,eA,I⟩
end Go.Abs
namespace Go.Abs
variable [dw]
abbrev aJ:=List (Nat×z)
def bn:aJ→Nat→z
 | [],_=> .cc
 | (E,v)::i,t=>if E=t then v else bn i t
structure sr (n:Nat) (r:aJ) (C:bv) (a:Act):Prop where
 ok:cb C
 size:a.tmps.size=n
 defers:a.defers= []
 iY: ∀ t,Rep C (bn r t) (a.tmps.getD t undef)
def keeps (aX:Nat)(ap:List (Option Nat)):Prop:=aX≤ap.length∧ ∀ c,c < aX→ap[c]? =some (some c)∨ap[c]? =some none
inductive eP (aX:Nat):aJ→List R→aJ→List R→Prop
 |refl (r:aJ) (d:List R):eP aX r d r d
 |trans {bF bJ it:aJ} {r1 cO fN:List R} (h:eP aX bF r1 bJ cO) (k:eP aX bJ cO it fN):eP aX bF r1 it fN
 |r {bF bJ:aJ} {d:List R} (h: ∀ t,bn bJ t=bn bF t∨bn bJ t= .cc):eP aX bF d bJ d
 |iI {r:aJ} {d:List R} (E:Nat) (e:TypeId) (N:Nat) (h:bn r E= .bD):eP aX r d ((E,.own d.length 0 0 0)::r) (d++ [.aa e N []])
 |uP {r:aJ} {d:List R} {cA:TypeId} {bt:Nat} {ah:List (List z)} (i c off:Nat) (e:TypeId) (N:Nat) (h:d[i]? =some (.aa cA bt ah)) (an:c < ah.length) (bi:off < bt)
  (ag: (ah.getD c []).getD off .cc= .bD):eP aX r d r (d.set i (.aa cA bt (ah.set c (eO (ah.getD c []) off [.own d.length 0 0 0])))++ [.aa e N []])
 |IZ {r:aJ} {d:List R} {e:TypeId} {N:Nat} {ah:List (List z)} (E i n k:Nat) (h:bn r E= .own i n 0 k) (G:d[i]? =some (.aa e N ah)) (aB:n=ah.length):
  eP aX r d ((E,.own d.length k 0 k)::r) (d.set i .fH++ [.aa e N (ah.take k)])
 |kb {r:aJ} {d srows:List R} (ap:List (Option Nat)) (bk:List Nat) (h1:IV ap) (B:keeps aX ap) (ao:ew d bk ap ap=some srows):
  eP aX r d (r.map fun p=>(p.1,bU d ap bk p.2)) srows
theorem UD (f:z→z)(hf:f .cc= .cc): ∀ (r:aJ) (t:Nat),bn (r.map fun p=>(p.1,f p.2)) t=f (bn r t)
 | [],t=>by simp[bn,hf]
 | (E,v)::i,t=>by
  simp only[List.map_cons,bn];split
  ·rfl
  ·exact UD f hf i t
theorem jo.bS {C:bv}{UE:Nat→Prop}(h: ∀ b,UE b→C.bS b):jo C {C with bS:=UE}:=
 ⟨rfl,fun b Z=>⟨rfl,Z.1,fun bi=>Z.2.1 (h b bi),Z.2.2⟩,Nat.le_refl _,fun _ _ _ ah _ h=>⟨ah,h,Nat.le_refl _,fun _=>rfl⟩,fun _ L _ h=>⟨L,h,rfl⟩⟩
theorem I0 {n aX:Nat}{fw:bv}{a:Act}{r:aJ}{d:List R}{fe:aJ}{bY:List R}(h:eP aX r d fe bY): ∀ (C:bv),C.d=d→sr n r C a→cd aX fw C→
 ∃ av,av.w=C.w∧av.d=bY∧sr n fe av a∧cd aX fw av:=by
 induction h with
 |refl r d=>intro C G ak hl;exact⟨C,rfl,G,ak,hl⟩
 |trans _ _ Fs Cs=>
  intro C G ak hl;obtain⟨Ax,cz,eT,a3,a4⟩:=Fs C G ak hl;obtain⟨wv,b1,eA,ls,I1⟩:=Cs Ax eT a3 a4;exact⟨wv,b1.trans cz,eA,ls,I1⟩
 |r h=>
  intro C G ak hl;refine⟨C,rfl,G,⟨ak.ok,ak.size,ak.defers,fun t=> ?_⟩,hl⟩;rcases h t with h|h
  ·rw[h];exact ak.iY t
  ·rw[h];simp[Rep]
 | @iI r d E e N h=>
  intro C G ak hl;subst G;obtain⟨h1,B⟩:=Ft ak.ok e N;refine⟨⟨C.d++ [.aa e N []],C.bm++ [none],C.bS,C.w,C.bT⟩,rfl,rfl,⟨h1,ak.size,ak.defers,fun t=> ?_⟩,hl.trans B hl.len⟩;simp only[bn];split
  ·rename_i ce;subst ce;have:=ak.iY E;rw[h,Rep] at this;obtain⟨ct,this⟩:=this;rw[this,Rep];refine⟨ak.ok.bT,⟨_,_,rfl⟩,by simp,fun bJ oF ma ag=> ?_⟩;simp at ag;obtain⟨rfl,rfl,rfl⟩:=ag;exact⟨by simp,fun _=>⟨by simp,none,by simp[←ak.ok.dm],⟨_,rfl⟩,rfl,rfl⟩⟩
  ·exact Rep.ext B.ext _ _ (ak.iY t)
 | @IZ r d e N ah E i n k h hM aB=>
  intro C G ak hl;subst G;have ar:=ak.ok;have fo:i < C.d.length:=(List.getElem?_eq_some_iff.1 hM).1;have Ap:i < C.bm.length:=by rw[ar.dm];exact fo
  have oQ:=ak.iY E;rw[h,Rep] at oQ;obtain⟨_,aji,_,oQ⟩:=oQ;obtain⟨aHX,p,ae,ag⟩:=(oQ _ _ _ hM).2 aB;have pG: ∀ {bo:Nat} {q:Nat×Nat},(C.bm.set i none++ [p])[bo]? =some (some q)→(bo≠i∧bo < C.bm.length∧C.bm[bo]? =some (some q))∨(bo=C.bm.length∧p=some q):=by
   intro bo q I;rw[List.getElem?_append] at I;split at I
   ·rename_i aC;rw[List.length_set] at aC;rw[List.getElem?_set] at I;split at I
    ·rename_i he;subst he;simp[Ap] at I
    ·rename_i hne;exact .inl ⟨fun e=>hne e.symm,aC,I⟩
   ·rename_i Ad;rw[List.length_set] at I Ad;cases aS:bo-C.bm.length with
    |zero=>rw[aS] at I;simp at I;exact .inr ⟨by omega,I⟩
    |succ m=>rw[aS] at I;simp at I
  have oM: ∀ {bo:Nat},bo < C.d.length→bo≠i→(C.bm.set i none++ [p])[bo]? =C.bm[bo]? :=by
   intro bo I hne;rw[List.getElem?_append,if_pos (by rw[List.length_set,ar.dm];exact I),List.getElem?_set,if_neg (fun e=>hne e.symm)]
  have bY: ∀ {bo:Nat},bo < C.d.length→bo≠i→(C.d.set i .fH++ [.aa e N (ah.take k)])[bo]? =C.d[bo]? :=by
   intro bo I hne;rw[List.getElem?_append,if_pos (by rw[List.length_set];exact I),List.getElem?_set,if_neg (fun e=>hne e.symm)]
  have NX: (C.d.set i .fH++ [.aa e N (ah.take k)])[i]? =some .fH:=by
   rw[List.getElem?_append,if_pos (by rw[List.length_set];exact fo),List.getElem?_set,if_pos rfl,if_pos fo]
  have later:cd C.d.length C ⟨C.d.set i .fH++ [.aa e N (ah.take k)],C.bm.set i none++ [p],C.bS,C.w,C.bT⟩:=by
   refine⟨rfl,rfl,rfl,Nat.le_refl _,fun _ _ _=>rfl,fun bo b F I=> ?_,rfl,rfl,by simp,fun bo bJ oF ma I gd=> ?_,fun bo kJ I gd=> ?_,fun _=>Nat.le_refl _⟩
   ·rcases pG I with ⟨_,_,h1⟩|⟨_,h1⟩
    ·exact .inl ⟨bo,F,h1⟩
    ·exact .inl ⟨i,F,by rw[ae,h1]⟩
   ·by_cases hne:bo=i
    ·subst hne;have:some R.fH=some (R.aa bJ oF ma):=NX.symm.trans gd;cases this
    ·exact⟨ma,(bY I hne).symm.trans gd,Nat.le_refl _,fun _=>oM I hne⟩
   ·by_cases hne:bo=i
    ·subst hne;have:some R.fH=some (R.aY kJ):=NX.symm.trans gd;cases this
    ·exact⟨kJ,(bY I hne).symm.trans gd,oM I hne⟩
  refine⟨⟨C.d.set i .fH++ [.aa e N (ah.take k)],C.bm.set i none++ [p],C.bS,C.w,C.bT⟩,rfl,rfl,⟨⟨ar.bT,by simp[ar.dm],fun bo bz I=> ?_,fun bI ca b F dH h1 B=> ?_,ar.bS⟩,ak.size,ak.defers,fun t=> ?_⟩,hl.trans later hl.len⟩
  ·by_cases kq:bo < C.d.length
   ·by_cases hne:bo=i
    ·subst hne;have:some R.fH=some bz:=NX.symm.trans I;cases this;rw[dA];show (C.bm.set bo none++ [p])[bo]? =_;rw[List.getElem?_append,if_pos (by rw[List.length_set];exact Ap),List.getElem?_set,if_pos rfl,if_pos Ap]
    ·exact dA.move later.ext rfl (oM kq hne) (fun b F Z=>rfl) (ar.d bo bz ((bY kq hne).symm.trans I))
   ·have rq:bo=C.d.length:=by
     have:=(List.getElem?_eq_some_iff.1 I).1;simp at this;omega
    subst rq;have hrow:bz= .aa e N (ah.take k):=by
     rw[List.getElem?_append,if_neg (by simp)] at I;simp at I;exact I.symm
    subst hrow;rw[dA];refine⟨p,?_,?_⟩
    ·show (C.bm.set i none++ [p])[C.d.length]? =_;rw[List.getElem?_append,if_neg (by rw[List.length_set,ar.dm];omega)];simp[ar.dm]
    ·rcases ar.aa hM with ⟨iv,iq⟩|⟨b,cap,aj,iv,h1,B,am,bp,cn,dj⟩
     ·rw[ae] at iv;simp at iv;subst iv;simp[iq]
     ·rw[ae] at iv;simp at iv;subst iv;exact⟨h1,aj,B,am,bp,by rw[List.length_take];omega,((cT.take k dj).move later.ext rfl)⟩
  ·rcases pG h1 with ⟨n1,mb,g1⟩|⟨bF,g1⟩<;>rcases pG B with ⟨ec,mL,bM⟩|⟨bJ,bM⟩
   ·exact ar.inj bI ca b F dH g1 bM
   ·exact (n1 (ar.inj bI i b F dH g1 (by rw[ae,bM]))).elim
   ·exact (ec (ar.inj ca i b dH F bM (by rw[ae,g1]))).elim
   ·rw[bF,bJ]
  ·simp only[bn];split
   ·rename_i ce;subst ce;rw[Rep];refine⟨ar.bT,?_,by simp,fun bJ oF ma gd=> ?_⟩
    ·exact aji
    ·simp at gd;obtain⟨rfl,rfl,rfl⟩:=gd;refine⟨by rw[List.length_take];omega,fun _=>⟨by omega,p,?_,ag⟩⟩;show (C.bm.set i none++ [p])[C.d.length]? =_;rw[List.getElem?_append,if_neg (by rw[List.length_set,ar.dm];omega)];simp[ar.dm]
   ·exact Rep.ext later.ext _ _ (ak.iY t)
 | @uP r d cA bt ah i c off e N h an bi ag=>
  intro C G ak hl;subst G;have ar:=ak.ok;have fo:i < C.d.length:=(List.getElem?_eq_some_iff.1 h).1;have later:cd C.d.length C ⟨C.d.set i (.aa cA bt (ah.set c (eO (ah.getD c []) off [.own C.d.length 0 0 0])))++ [.aa e N []],C.bm++ [none],C.bS,C.w,C.bT⟩:=by
   refine⟨rfl,rfl,rfl,Nat.le_refl _,fun _ _ _=>rfl,fun k b F I=> ?_,rfl,rfl,by simp,fun k bJ oF ma I gd=> ?_,fun k kJ I gd=> ?_,fun _=>Nat.le_refl _⟩
   ·simp only[List.getElem?_append] at I;split at I
    ·exact .inl ⟨k,F,I⟩
    ·cases aS:k-C.bm.length with
     |zero=>rw[aS] at I;simp at I
     |succ m=>rw[aS] at I;simp at I
   ·have Ay: (C.bm++ [none])[k]? =C.bm[k]? :=by
     rw[List.getElem?_append,if_pos (by rw[ar.dm];exact I)]
    simp only[List.getElem?_append,List.length_set,I,if_true,List.getElem?_set] at gd;split at gd
    ·rename_i Fu;subst Fu;simp at gd;obtain⟨rfl,rfl,rfl⟩:=gd;exact⟨ah,h,by simp,fun _=>Ay⟩
    ·exact⟨ma,gd,Nat.le_refl _,fun _=>Ay⟩
   ·have Ay: (C.bm++ [none])[k]? =C.bm[k]? :=by
     rw[List.getElem?_append,if_pos (by rw[ar.dm];exact I)]
    simp only[List.getElem?_append,List.length_set,I,if_true,List.getElem?_set] at gd;split at gd
    ·rename_i Fu;subst Fu;simp at gd
    ·exact⟨kJ,gd,Ay⟩
  have ajj: (C.d.set i (.aa cA bt (ah.set c (eO (ah.getD c []) off [.own C.d.length 0 0 0])))++ [R.aa e N []]).length=C.d.length+1:=by simp
  have ajk: ∀ ct,Rep ⟨C.d.set i (.aa cA bt (ah.set c (eO (ah.getD c []) off [.own C.d.length 0 0 0])))++ [.aa e N []],C.bm++ [none],C.bS,C.w,C.bT⟩ (.own C.d.length 0 0 0) (.slice ct 0 0):=by
   intro ct;rw[Rep];refine⟨ar.bT,⟨_,_,rfl⟩,by simp,fun bJ oF ma gd=> ?_⟩;simp at gd;obtain⟨rfl,rfl,rfl⟩:=gd;exact⟨by simp,fun _=>⟨by simp,none,by simp[←ar.dm],⟨_,rfl⟩,rfl,rfl⟩⟩
  refine⟨⟨C.d.set i (.aa cA bt (ah.set c (eO (ah.getD c []) off [.own C.d.length 0 0 0])))++ [.aa e N []],C.bm++ [none],C.bS,C.w,C.bT⟩,rfl,rfl,⟨⟨ar.bT,by simp[ar.dm],fun k bz I=> ?_,fun k bo b F dH h1 B=> ?_,ar.bS⟩,ak.size,ak.defers,fun t=>Rep.ext later.ext _ _ (ak.iY t)⟩,hl.trans later hl.len⟩
  ·have Ay:k < C.d.length→(C.bm++ [none])[k]? =C.bm[k]? :=fun I=>by rw[List.getElem?_append,if_pos (by rw[ar.dm];exact I)]
   by_cases kq:k < C.d.length
   ·simp only[List.getElem?_append,List.length_set,kq,if_true,List.getElem?_set] at I;split at I
    ·rename_i Fu;subst Fu;simp only[Option.some.injEq] at I;subst I;rw[dA];rcases ar.aa h with ⟨p1,rfl⟩|⟨b,cap,aj,p1,bI,ca,fc,hi,jr,js⟩
     ·simp at an
     ·refine⟨some (b,cap),(Ay kq).trans p1,bI,aj,ca,fc,hi,by simpa using jr,?_⟩;obtain⟨vs,bF,bJ⟩:=js.sm;have bV:ah.getD c []∈ah:=by rw[List.getD_eq_getElem?_getD,List.getElem?_eq_getElem an];simp
      have iV:=bF.iW _ bV;have UF:=bF.ext later.ext;refine fj.wu (vs:=vs) ⟨fun x ad=> ?_,?_,bF.cM⟩ bJ
      ·rcases List.mem_or_eq_of_mem_set ad with ad|rfl
       ·exact bF.iW x ad
       ·rw[UG (by simp only[List.length_singleton];omega)];exact iV
      ·rw[I2 (N:=bt) [.own C.d.length 0 0 0] off ah c bF.iW an (by simp;omega)];obtain⟨c1,c2⟩:=js.nS c an;obtain⟨v,g1,bM⟩:=c2.nS off (by omega);rw[ag,Rep] at bM;obtain⟨ct,rfl⟩:=bM;have wm:=bF.length;have jY: (c+1)*bt≤ah.length*bt:=Nat.mul_le_mul_right _ (by omega);rw[Nat.add_mul] at jY;have aC:c*bt+off < vs.length:=by omega
       have lz:vs[c*bt+off]? =some (.slice ct 0 0):=by
        obtain⟨u,aZ⟩: ∃ u,vs[c*bt+off]? =some u:=⟨_,List.getElem?_eq_getElem aC⟩;have:=bJ _ _ aZ;rw[Nat.zero_add] at this g1;rw[g1] at this;rw[aZ];exact this.symm
       have gT:vs=vs.take (c*bt+off)++ [.slice ct 0 0]++vs.drop (c*bt+off+1):=by
        conv=>lhs;rw[←List.take_append_drop (c*bt+off) vs,List.drop_eq_getElem_cons aC]
        rw[List.getElem?_eq_getElem aC] at lz;simp at lz;rw[lz];simp
       rw[gT];refine ay.append (ay.append ?_ ?_) ?_
       ·exact UF.ks.take _
       ·rw[ay];exact⟨_,[],rfl,ajk ct,by rw[ay]⟩
       ·exact UF.ks.drop _
    ·rename_i hne;exact dA.move later.ext rfl (Ay kq) (fun b F Z=>rfl) (ar.d k bz I)
   ·have rq:k=C.d.length:=by
     have:=(List.getElem?_eq_some_iff.1 I).1;rw[ajj] at this;omega
    subst rq;simp at I;subst I;rw[dA];exact⟨none,by simp[←ar.dm],rfl⟩
  ·have pG: ∀ {k:Nat} {q:Nat×Nat},(C.bm++ [none])[k]? =some (some q)→C.bm[k]? =some (some q):=by
    intro k q I;simp only[List.getElem?_append] at I;split at I
    ·exact I
    ·cases aS:k-C.bm.length with
     |zero=>rw[aS] at I;simp at I
     |succ m=>rw[aS] at I;simp at I
   exact ar.inj k bo b F dH (pG h1) (pG B)
 | @kb r d srows ap bk h1 B ao=>
  intro C G ak hl;subst G;have ar:=ak.ok;have V:=Us ar h1 ao;obtain⟨fd,eI,IW⟩:=tE ao;have mO:jo (gN C ap bk srows) {gN C ap bk srows with bS:=C.bS}:=jo.bS fun b Z=> .inl Z;refine⟨{gN C ap bk srows with bS:=C.bS},rfl,rfl,⟨⟨rfl,V.dm,fun c bz an=> ?_,V.inj,ar.bS⟩,ak.size,ak.defers,fun t=> ?_⟩,?_⟩
  ·have:=V.d c bz an;cases bz with
   |fH=>exact this
   |aa e N ah=>
    rw[dA] at this ⊢;obtain⟨p,p1,iG⟩:=this;refine⟨p,p1,?_⟩;cases p with
    |none=>exact iG
    |some q=>
     obtain⟨b,cap⟩:=q;obtain⟨bI,aj,ca,fc,hi,jr,js⟩:=iG;exact⟨fun bi=>bI (.inl bi),aj,ca,fc,hi,jr,js.move mO rfl⟩
   |aY L=>
    cases L with
    |map aE M ents=>
     rw[dA] at this ⊢;obtain⟨b,F,al,h1,B,am,bp,cn,dj,mM⟩:=this;exact⟨b,F,al,h1,fun bi=>B (.inl bi),am,bp,ay.ext mO _ _ cn,ay.ext mO _ _ dj,mM⟩
    |dY n bR=>
     rw[dA] at this ⊢;obtain⟨b,jn,h1,B,am⟩:=this;exact⟨b,jn,h1,fun bi=>B (.inl bi),am⟩
  ·rw[UD (bU C.d ap bk) (by simp[bU])];exact Rep.ext mO _ _ (Rep.bind ar ao _ _ (ak.iY t))
  ·have ajl:cd aX C {gN C ap bk srows with bS:=C.bS}:=by
    refine⟨rfl,rfl,rfl,Nat.le_refl _,fun _ _ _=>rfl,fun c b F an=> ?_,rfl,ar.bT.symm,by show aX≤srows.length;rw[fd];exact B.1,fun c e N dl an ag=> ?_,fun c eN an ag=> ?_,fun _=>Nat.le_refl _⟩
    ·obtain⟨i,_,G⟩:=yg ar ao an;exact .inl ⟨i,F,G⟩
    ·rcases B.2 c an with pJ|pJ
     ·obtain⟨x,g1,dh⟩:=eI c c pJ;have db:srows[c]? =some (.aa e N dl):=ag;rw[dh] at db;simp only[Option.some.injEq] at db;obtain⟨ah,rfl,rfl⟩:=IT db;exact⟨ah,g1,by rw[Fn];exact Nat.le_refl _,fun _=>tF ar ao pJ⟩
     ·have db:srows[c]? =some (.aa e N dl):=ag;rw[IW c pJ] at db;cases db
    ·have db:srows[c]? =some (.aY eN):=ag;rcases B.2 c an with pJ|pJ
     ·obtain⟨x,g1,dh⟩:=eI c c pJ;rw[dh] at db;simp only[Option.some.injEq] at db;obtain⟨L,rfl⟩:=Fo db;exact⟨L,g1,tF ar ao pJ⟩
     ·rw[IW c pJ] at db;cases db
   exact hl.trans ajl (Nat.le_refl _)
def s (aX:Nat)(K:aJ→List R→Prop)(r:aJ)(d:List R):Prop:= ∃ fe bY,eP aX r d fe bY∧K fe bY
theorem s.U {aX:Nat}{K:aJ→List R→Prop}{r:aJ}{d:List R}(h:K r d):s aX K r d:=⟨r,d,.refl _ _,h⟩
theorem s.nt {aX:Nat}{K:aJ→List R→Prop}{r fe:aJ}{d bY:List R}(w:eP aX r d fe bY)(h:s aX K fe bY):s aX K r d:=by
 obtain⟨e,i,h1,B⟩:=h;exact⟨e,i,w.trans h1,B⟩
end Go.Abs
