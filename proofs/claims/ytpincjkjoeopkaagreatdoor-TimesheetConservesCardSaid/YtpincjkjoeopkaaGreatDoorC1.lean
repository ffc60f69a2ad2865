/- The abstract machine. -/
import Derived.Test.YtpincjkjoeopkaaGreatDoorC0
import Derived.Maps.RangeRun
import Derived.MapKept
import Derived.Laws.StructEq
import Derived.Laws.BytesString
import Derived.Deep.LoopGhost
set_option linter.all false
namespace Go.Abs
variable [Dr]
section
variable {P:Program} {C:bD}
theorem qk:∀{Y:List cW} {ap:List F},cE Y ap->ap.length=Y.length
 | [],[],_=>rfl
 | [],J::ap,h=>by simp[cE] at h
 |k::Y,[],h=>by cases k<;>simp[cE] at h
 | .int k::Y,.int br n::ap,h=>by simp only[cE] at h;simp[qk h.2]
 | .bool::Y,.bool b::ap,h=>by simp only[cE] at h;simp[qk h]
 | .str::Y,.str I::ap,h=>by simp only[cE] at h;simp[qk h]
 | .int _::Y,.bool _::ap,h| .int _::Y,.str _::ap,h| .int _::Y,.agg _::ap,h| .int _::Y,.bo _::ap,h| .int _::Y,.bH::ap,h| .int _::Y,.pure _ _::ap,h
 | .int _::Y,.own _ _ _ _::ap,h| .int _::Y,.bd _ _ _ _::ap,h| .int _::Y,.en _ _::ap,h| .int _::Y,.kt::ap,h| .int _::Y,.cj::ap,h=>by simp[cE] at h
 | .bool::Y,.int _ _::ap,h| .bool::Y,.str _::ap,h| .bool::Y,.agg _::ap,h| .bool::Y,.bo _::ap,h| .bool::Y,.bH::ap,h| .bool::Y,.pure _ _::ap,h
 | .bool::Y,.own _ _ _ _::ap,h| .bool::Y,.bd _ _ _ _::ap,h| .bool::Y,.en _ _::ap,h| .bool::Y,.kt::ap,h| .bool::Y,.cj::ap,h=>by simp[cE] at h
 | .str::Y,.int _ _::ap,h| .str::Y,.bool _::ap,h| .str::Y,.agg _::ap,h| .str::Y,.bo _::ap,h| .str::Y,.bH::ap,h| .str::Y,.pure _ _::ap,h
 | .str::Y,.own _ _ _ _::ap,h| .str::Y,.bd _ _ _ _::ap,h| .str::Y,.en _ _::ap,h| .str::Y,.kt::ap,h| .str::Y,.cj::ap,h=>by simp[cE] at h
theorem Dk {k:cW}{Y:List cW}{ap:List F}(h:cE (k::Y) ap):∃J bS,ap=J::bS/\cE [k] [J]/\cE Y bS:=by
 cases ap with
 |nil=>cases k<;>simp[cE] at h
 |cons J bS=>
  refine⟨J,bS,rfl,?_⟩;cases k<;>cases J<;>simp[cE] at h ⊢ <;>exact h
theorem JN:∀{Y ma:List cW} {ap:List F},cE (Y++ma) ap->cE Y (ap.take Y.length)/\cE ma (ap.drop Y.length)
 | [],ma,ap,h=>by simpa[cE] using h
 |k::Y,ma,ap,h=>by
  obtain⟨J,bS,rfl,d,G⟩:=Dk h;obtain⟨au,bv⟩:=JN G;refine⟨?_,by simpa using bv⟩;simp only[aK8,aOX];cases k<;>cases J<;>simp[cE] at d ⊢
  ·exact⟨d,au⟩
  ·exact au
  ·exact au
theorem UZ:∀{Y:List cW} {as dl ap ds:List F},cE Y as->cE Y dl->ed (as++ap) (dl++ds)=(ed as dl&&ed ap ds)
 | [],as,dl,ap,ds,h,k=>by
  have bF:=qk h;have bK:=qk k;simp at bF bK;subst bF;subst bK;simp[ed]
 |k::Y,as,dl,ap,ds,h,cR=>by
  obtain⟨a,kJ,rfl,cH,ff⟩:=Dk h;obtain⟨b,nY,rfl,aKU,eJ⟩:=Dk cR;have ih:=UZ (ap:=ap) (ds:=ds) ff eJ;cases k<;>cases a<;>simp[cE] at cH<;>cases b<;>simp[cE] at aKU<;>simp[ed,ih,Bool.and_assoc]
def Gc (P:Program)(t:TypeId)(vs:List Value)(v:Value):Prop:=(hq P t=some true/\v= .agg vs.toArray)\/(hq P t=some false/\vs=[v])
theorem Gd {t:TypeId}{n off:Nat}{b:Bool}{vs:List Value}{w:World}(aC:hq P t=some b)(ao:ie P t=some n)(hl:off+n<=vs.length)(d:b=false->n=1):
 ∃v,(part t vs.toArray off).run P w= .ok v w/\Gc P t ((vs.drop off).take n) v:=by
 cases b with
 |true=>
  refine⟨.agg ((vs.drop off).take n).toArray,?_,.inl ⟨aC,rfl⟩⟩;simp only[part,Sem.run_bind,Bi aC,Result.andThen_ok,aK5,mL ao,Sem.run_pure];congr 2;apply aOY;simp only[Array.toList_extract,List.extract_eq_take_drop];congr 1;omega
 |false=>
  have aH:=d rfl;subst aH;refine⟨vs[off]'(by omega),?_,.inr ⟨aC,?_⟩⟩
  ·have:off<vs.length:=by omega
   simp[part,Bi aC,this]
  ·rw[aL4 (by omega),aOX,aOZ]
theorem U0 {B:Nat}{t:TypeId}{Y:List cW}(h:flatK P B t=some Y):∃b,hq P t=some b/\(b=false->Y.length=1):=by
 cases B with
 |zero=>simp[flatK] at h
 |succ B=>
  simp only[flatK] at h;unfold hq;split at h
  ·rename_i bc;simp at h;subst h;exact⟨false,by rw[bc],λ_=>rfl⟩
  ·rename_i bc;simp at h;subst h;exact⟨false,by rw[bc],λ_=>rfl⟩
  ·rename_i bc;simp at h;subst h;exact⟨false,by rw[bc],λ_=>rfl⟩
  ·rename_i fg bc;exact⟨true,by rw[bc],λh=>by cases h⟩
  ·cases h
theorem Ou (w:World):∀(B aD:Nat) (t:TypeId) (Y:List cW) (aq ys:List F) (hD nZ:List Value) (x y:Value),flatK P B t=some Y->B<=aD->cE Y aq->cE Y ys->
 aE C aq hD->aE C ys nZ->Gc P t hD x->Gc P t nZ y->(Op.equalIn aD t x y).run P w= .ok (ed aq ys) w
 |0,aD,t,Y,aq,ys,hD,nZ,x,y,h,_,_,_,_,_,_,_=>by simp[flatK] at h
 |B+1,0,t,Y,aq,ys,hD,nZ,x,y,h,ay,_,_,_,_,_,_=>by omega
 |B+1,aD+1,t,Y,aq,ys,hD,nZ,x,y,h,ay,kK,Dl,xn,Ge,aj,bt=>by
  have Bj:hq P t=some false-> ∀{k:cW},Y=[k]-> ∃a b,aq=[a]/\ys=[b]/\Rep C a x/\Rep C b y:=by
   intro eB k O;subst O;have mN:=qk kK;have nv:=qk Dl;rcases aj with ⟨d,_⟩|⟨_,rfl⟩
   ·rw[eB] at d;cases d
   rcases bt with ⟨d,_⟩|⟨_,rfl⟩
   ·rw[eB] at d;cases d
   obtain⟨a,rfl,kJ⟩:=iu xn;obtain⟨b,rfl,nY⟩:=iu Ge;exact⟨a,b,rfl,rfl,kJ,nY⟩
  simp only[flatK] at h;split at h
  ·rename_i k bc;simp at h;obtain⟨a,b,rfl,rfl,kJ,nY⟩:=Bj (by simp[hq,bc]) h.symm;subst h;cases a<;>simp[cE] at kK<;>cases b<;>simp[cE] at Dl;subst kK;subst Dl;rw[Rep] at kJ nY;subst kJ;subst nY;rw[run_equalIn_int w aD t _ k _ _ bc];simp[ed]
  ·rename_i bc;simp at h;obtain⟨a,b,rfl,rfl,kJ,nY⟩:=Bj (by simp[hq,bc]) h.symm;subst h;cases a<;>simp[cE] at kK<;>cases b<;>simp[cE] at Dl;rw[Rep] at kJ nY;subst kJ;subst nY;rw[run_equalIn_bool' w aD t _ _ bc];simp[ed]
  ·rename_i bc;simp at h;obtain⟨a,b,rfl,rfl,kJ,nY⟩:=Bj (by simp[hq,bc]) h.symm;subst h;cases a<;>simp[cE] at kK<;>cases b<;>simp[cE] at Dl;rw[Rep] at kJ nY;subst kJ;subst nY;rw[run_equalIn_string w aD t _ _ bc];simp[ed]
  ·rename_i fg bc;split at h
   ·cases h
   rename_i cn;have eB:hq P t=some true:=by simp[hq,bc]
   rcases aj with ⟨_,rfl⟩|⟨d,_⟩
   ·rcases bt with ⟨_,rfl⟩|⟨d,_⟩
    ·have iH:P.fieldsOf t=fg:=by simp[Program.fieldsOf,bc]
     rw[run_equalIn_struct w aD t _ _ (by rw[iH];exact bc) (by simpa using cn),iH];have key:∀(uu:List Field) (off:Nat) (ma:List cW),Bl P (flatK P B) uu off=some ma->off<=aq.length->off<=ys.length->cE ma (aq.drop off)->cE ma (ys.drop off)->
      (Op.eqFields aD hD.toArray nZ.toArray uu).run P w= .ok (ed (aq.drop off) (ys.drop off)) w:=by
      intro uu
      induction uu with
      |nil=>
       intro off ma hl lh li es ig;simp[Bl] at hl;subst hl;have mN:=qk es;have nv:=qk ig;rw[aNm mN,aNm nv];simp[Op.eqFields,ed]
      |cons f uu ih=>
       intro off ma hl lh li es ig;simp only[Bl] at hl;split at hl
       ·rename_i ql;obtain⟨ql,pw⟩:=ql;split at hl
        ·rename_i bO kL;split at hl
         ·rename_i dJ;split at hl
          ·rename_i bS Gf;simp at hl;subst hl;obtain⟨f11,f12⟩:=JN es;obtain⟨f21,f22⟩:=JN ig;obtain⟨b,af,uv⟩:=U0 kL;have ajQ:=xn.length;have aJj:=Ge.length;have mN:=qk es;have nv:=qk ig;simp only[aLt,aKK] at mN nv
           by_cases ba:off+bO.length<=aq.length/\off+bO.length<=ys.length
           ·obtain⟨aMp,aK6,jG⟩:=Gd (P:=P) (w:=w) (off:=off) (vs:=hD) af dJ (by omega) uv;obtain⟨rU,iT,jH⟩:=Gd (P:=P) (w:=w) (off:=off) (vs:=nZ) af dJ (by omega) uv;have bF:=Ou w B aD f.type bO ((aq.drop off).take bO.length) ((ys.drop off).take bO.length) ((hD.drop off).take bO.length) ((nZ.drop off).take bO.length) aMp rU kL (by omega) f11 f21 ((xn.drop off).take _) ((Ge.drop off).take _) jG jH;rw[aMM] at f12 f22;have bK:=ih (off+bO.length) bS Gf (by omega) (by omega) f12 f22;have gX:ed (aq.drop off) (ys.drop off)=(ed ((aq.drop off).take bO.length) ((ys.drop off).take bO.length)&&ed (aq.drop (off+bO.length)) (ys.drop (off+bO.length))):=by
             rw[<-UZ f11 f21,<-aMM,<-aMM,aMt,aMt]
            simp only[Op.eqFields,ql,ne_eq,not_false_eq_true,aK5,Sem.run_bind,pw,aK6,iT,Result.andThen_ok,bF,Sem.run_ite,bK,gX,Sem.run_pure];cases ed ((aq.drop off).take bO.length) ((ys.drop off).take bO.length)<;>simp
           ·exfalso;omega
          ·cases hl
         ·cases hl
        ·cases hl
       ·cases hl
     have:=key fg.toList 0 Y h (by simp) (by simp) (by simpa using kK) (by simpa using Dl);simpa using this
    ·rw[eB] at d;cases d
   ·rw[eB] at d;cases d
  ·cases h
end
end Go.Abs
namespace Go.Abs
variable [Dr]
open Go.ChangeMaps (setBlock)
section
variable {P:Program} {C:bD} {K:F->List Z->Prop}
theorem Ov {t:TypeId}{aK:Bool}{Y:List cW}(h:te P t=some (aK,Y)):hq P t=some aK/\flatK P 20 t=some Y:=by
 unfold te at h;split at h
 ·simp at h;obtain⟨rfl,rfl⟩:=h;exact⟨by assumption,by assumption⟩
 ·cases h
theorem Ow {t:TypeId}{aK:Bool}{Y:List cW}(ht:hq P t=some aK){k:F}{v:Value}(hf:gb aK Y k)(N:Rep C k v):∃vs,aE C (cp k) vs/\Gc P t vs v:=by
 obtain⟨d,G⟩:=hf;cases k with
 |agg ap=>
  simp[mK] at d;subst d;rw[Rep] at N;obtain⟨vs,rfl,N⟩:=N;exact⟨vs.toList,N,.inl ⟨ht,rfl⟩⟩
 |_=>
  simp[mK] at d;subst d;exact⟨[v],by show aE C [_] [v];rw[aE];exact⟨v,[],rfl,N,by rw[aE]⟩,.inr ⟨ht,rfl⟩⟩
theorem U1 (w:World)(em:Bool):∀(B aD:Nat) (t:TypeId) (Y:List cW) (aq:List F) (hD:List Value) (x:Value),flatK P B t=some Y->B<=aD->cE Y aq->aE C aq hD->Gc P t hD x->(Instr.checkKey em aD t x).run P w= .ok () w
 |0,aD,t,Y,aq,hD,x,h,_,_,_,_=>by simp[flatK] at h
 |B+1,0,t,Y,aq,hD,x,h,ay,_,_,_=>by omega
 |B+1,aD+1,t,Y,aq,hD,x,h,ay,kK,xn,aj=>by
  have Bj:hq P t=some false-> ∀{k:cW},Y=[k]-> ∃a,aq=[a]/\Rep C a x:=by
   intro eB k O;subst O;rcases aj with ⟨d,_⟩|⟨_,rfl⟩
   ·rw[eB] at d;cases d
   obtain⟨a,rfl,kJ⟩:=iu xn;exact⟨a,rfl,kJ⟩
  simp only[flatK] at h;split at h
  ·rename_i k bc;simp at h;obtain⟨a,rfl,kJ⟩:=Bj (by simp[hq,bc]) h.symm;subst h;cases a<;>simp[cE] at kK;rw[Rep] at kJ;subst kJ;simp[Instr.checkKey,run_underlying bc]
  ·rename_i bc;simp at h;obtain⟨a,rfl,kJ⟩:=Bj (by simp[hq,bc]) h.symm;subst h;cases a<;>simp[cE] at kK;rw[Rep] at kJ;subst kJ;simp[Instr.checkKey,run_underlying bc]
  ·rename_i bc;simp at h;obtain⟨a,rfl,kJ⟩:=Bj (by simp[hq,bc]) h.symm;subst h;cases a<;>simp[cE] at kK;rw[Rep] at kJ;subst kJ;simp[Instr.checkKey,run_underlying bc]
  ·rename_i fg bc;split at h
   ·cases h
   have eB:hq P t=some true:=by simp[hq,bc]
   rcases aj with ⟨_,rfl⟩|⟨d,_⟩
   ·rw[Instr.checkKey];simp only[Sem.run_bind,run_underlying bc,Result.andThen_ok];rw[<-Array.forIn_toList];have key:∀(uu:List Field) (off:Nat) (ma:List cW),Bl P (flatK P B) uu off=some ma->off<=aq.length->cE ma (aq.drop off)->
     (forIn uu PUnit.unit λf _=>(do
      if f.name≠ "_" then
       Instr.checkKey em aD f.type (<-part f.type hD.toArray f.offset)
       pure (ForInStep.yield PUnit.unit)
      else pure (ForInStep.yield PUnit.unit):Sem (ForInStep PUnit))).run P w= .ok PUnit.unit w:=by
     intro uu
     induction uu with
     |nil=>intro off ma hl lh es;simp
     |cons f uu ih=>
      intro off ma hl lh es;simp only[Bl] at hl;split at hl
      ·rename_i ql;obtain⟨ql,pw⟩:=ql;split at hl
       ·rename_i bO kL;split at hl
        ·rename_i dJ;split at hl
         ·rename_i bS Gf;simp at hl;subst hl;obtain⟨f11,f12⟩:=JN es;obtain⟨b,af,uv⟩:=U0 kL;have ajQ:=xn.length;have mN:=qk es;simp only[aLt,aKK] at mN;obtain⟨aMp,aK6,jG⟩:=Gd (P:=P) (w:=w) (off:=off) (vs:=hD) af dJ (by omega) uv;have bF:=U1 w em B aD f.type bO ((aq.drop off).take bO.length) ((hD.drop off).take bO.length) aMp kL (by omega) f11 ((xn.drop off).take _) jG;rw[aMM] at f12;have bK:=ih (off+bO.length) bS Gf (by omega) f12;simp only[List.forIn_cons,Sem.run_bind,ql,ne_eq,not_false_eq_true,aK5,pw,aK6,bF,Result.andThen_ok,Sem.run_pure];exact bK
         ·cases hl
        ·cases hl
       ·cases hl
      ·cases hl
    rw[key fg.toList 0 Y h (by simp) (by simpa using kK)];rfl
   ·rw[eB] at d;cases d
  ·cases h
theorem U2 (a b:ByteArray): (a==b)=(a.toList==b.toList):=beq_toListBytes a b
theorem ajR {a b:ByteArray}(h:a.toList=b.toList):a=b:=by
 have bF:a.data.toList=b.data.toList:=by simpa[ByteArray.toList_eq] using h
 cases a;cases b;simp_all
theorem U3 {Y:List cW}:∀{aq ys:List F} {hD nZ:List Value},cE Y aq->cE Y ys->ed aq ys=true->aE C aq hD->aE C ys nZ->hD=nZ:=by
 induction Y with
 |nil=>
  intro aq ys hD nZ es ig _ aKO cY;have bF:=qk es;have bK:=qk ig;simp at bF bK;subst bF;subst bK;rw[aE] at aKO cY;rw[aKO,cY]
 |cons k Y ih=>
  intro aq ys hD nZ es ig he aKO cY;obtain⟨a,kJ,rfl,cH,ff⟩:=Dk es;obtain⟨b,nY,rfl,aKU,eJ⟩:=Dk ig;rw[aE] at aKO cY;obtain⟨v,bS,rfl,d,G⟩:=aKO;obtain⟨gA,aJk,rfl,ii,px⟩:=cY;cases k<;>cases a<;>simp[cE] at cH<;>cases b<;>simp[cE] at aKU<;>simp only[ed,aKJ,aLu] at he<;>rw[Rep] at d ii<;>subst d<;>subst ii
  ·subst cH;subst aKU;rw[ih ff eJ he.2 G px,he.1]
  ·rw[ih ff eJ he.2 G px,he.1]
  ·rw[ih ff eJ he.2 G px];rw[ajR he.1]
theorem ajS {aK:Bool}{Y:List cW}{k br:F}{v gA:Value}(es:gb aK Y k)(ig:gb aK Y br)(he:fB k br=true)(aKO:Rep C k v)(cY:Rep C br gA):v=gA:=by
 obtain⟨aKH,d⟩:=es;obtain⟨bR,G⟩:=ig;unfold fB at he
 by_cases aC:aK=true
 ·subst aC;cases k<;>simp[mK] at aKH;cases br<;>simp[mK] at bR;rw[Rep] at aKO cY;obtain⟨vs,rfl,aKO⟩:=aKO;obtain⟨Dm,rfl,cY⟩:=cY;have:=U3 d G he aKO cY;rw[aM7.1 this]
 ·have bF:cp k=[k]:=by cases k<;>first|rfl| (simp[mK] at aKH;exact (aC aKH).elim)
  have bK:cp br=[br]:=by cases br<;>first|rfl| (simp[mK] at bR;exact (aC bR).elim)
  rw[bF] at d he;rw[bK] at G he;have:=U3 d G he (hD:=[v]) (nZ:=[gA]) (by rw[aE];exact⟨_,_,rfl,aKO,by rw[aE]⟩) (by rw[aE];exact⟨_,_,rfl,cY,by rw[aE]⟩);simpa using this
theorem U4 {Y:List cW}:∀{aq:List F} {hD:List Value} (n:Nat),cE Y aq->aE C aq hD->((hD.zip hD).all λ(x,y)=>Instr.sameBits n x y)=true:=by
 induction Y with
 |nil=>
  intro aq hD n es aKO;have bF:=qk es;simp at bF;subst bF;rw[aE] at aKO;simp[aKO]
 |cons k Y ih=>
  intro aq hD n es aKO;obtain⟨a,kJ,rfl,cH,ff⟩:=Dk es;rw[aE] at aKO;obtain⟨v,bS,rfl,d,G⟩:=aKO;simp only[List.zip_cons_cons,aMN,aKJ];refine⟨?_,ih n ff G⟩;cases k<;>cases a<;>simp[cE] at cH<;>rw[Rep] at d<;>subst d<;>simp[Instr.sameBits,U2]
theorem ajT {aK:Bool}{Y:List cW}{k:F}{v:Value}(es:gb aK Y k)(aKO:Rep C k v):Instr.sameBits 10000 v v=true:=by
 obtain⟨aKH,d⟩:=es
 by_cases aC:aK=true
 ·subst aC;cases k<;>simp[mK] at aKH;rw[Rep] at aKO;obtain⟨vs,rfl,aKO⟩:=aKO;simp only[Instr.sameBits,aNF,aLw];exact U4 9999 d aKO
 ·have bF:cp k=[k]:=by cases k<;>first|rfl| (simp[mK] at aKH;exact (aC aKH).elim)
  rw[bF] at d;have:=U4 (hD:=[v]) 10000 d (by rw[aE];exact⟨_,_,rfl,aKO,by rw[aE]⟩);simpa using this
theorem Dn {k:F}:∀{ents:List (F×F)} {c:Nat},gB k ents=some c->c<ents.length
 | [],c,h=>by simp[gB] at h
 |p::aa,c,h=>by
  simp only[gB] at h;split at h
  ·simp at h;subst h;simp
  ·cases ak:gB k aa with
   |none=>rw[ak] at h;simp at h
   |some j=>
    rw[ak] at h;simp at h;subst h;have:=Dn ak;simp;omega
theorem U5 {k:F}:∀{ents:List (F×F)} {c:Nat},gB k ents=some c->fB k (ents.getD c (.cj,.cj)).1=true
 | [],c,h=>by simp[gB] at h
 |p::aa,c,h=>by
  simp only[gB] at h;split at h
  ·rename_i O;simp at h;subst h;simpa using O
  ·cases ak:gB k aa with
   |none=>rw[ak] at h;simp at h
   |some j=>
    rw[ak] at h;simp at h;subst h;simpa using U5 ak
theorem Gg (k:F):∀(ents:List (F×F)),dm k ents=(gB k ents).map λc=>(ents.getD c (.cj,.cj)).2
 | []=>rfl
 |p::aa=>by
  simp only[dm,gB];split
  ·simp
  ·rw[Gg k aa];cases gB k aa<;>simp
theorem U6 {k v:F}:∀{ents:List (F×F)} {c:Nat},gB k ents=some c->dy k v ents=ents.set c (k,v)
 | [],c,h=>by simp[gB] at h
 |p::aa,c,h=>by
  simp only[gB] at h;simp only[dy];split at h
  ·rename_i O;simp at h;subst h;simp[O]
  ·rename_i O;cases ak:gB k aa with
   |none=>rw[ak] at h;simp at h
   |some j=>
    rw[ak] at h;simp at h;subst h;rw[S O,U6 ak];simp
theorem U7 {k v:F}:∀{ents:List (F×F)},gB k ents=none->dy k v ents=ents++[(k,v)]
 | [],_=>rfl
 |p::aa,h=>by
  simp only[gB] at h;simp only[dy];split at h
  ·cases h
  ·rename_i O;cases ak:gB k aa with
   |none=>rw[S O,U7 ak];simp
   |some j=>rw[ak] at h;simp at h
def mO (k:F)(ents:List (F×F))(ar:List MapEntry)(c:Nat):Option (Nat×Value):=(gB k ents).map λj=>(c+j,((ar[j]?).map (·.val)).getD undef)
theorem U8 {k:F}{p:F×F}{aa:List (F×F)}{e:MapEntry}{ar:List MapEntry}{c:Nat}:mO k (p::aa) (e::ar) c=if fB k p.1 then some (c,e.val) else mO k aa ar (c+1):=by
 unfold mO;simp only[gB];split
 ·simp
 ·cases gB k aa with
  |none=>simp
  |some j=>simp;omega
theorem U9 {cZ:TypeId}{B:TypeDesc}{aK:Bool}{Y:List cW}(ay:P.underlying cZ=some B)(O:te P cZ=some (aK,Y)){k br:F}{v gA:Value}(es:gb aK Y k)(ig:gb aK Y br)(aKO:Rep C k v)(cY:Rep C br gA){b:Bool}(h:Instr.sameNow B v gA=some b):b=fB k br:=by
 obtain⟨eB,lj⟩:=Ov O;unfold Instr.sameNow at h;split at h
 ·rename_i bO cd x fk y;have:aK=false:=by rw[hq,ay] at eB;simpa using eB.symm
  subst this;obtain⟨aKH,es⟩:=es;obtain⟨bR,ig⟩:=ig;simp only[flatK,ay,aLj] at lj;subst lj;cases k<;>simp[mK] at aKH<;>simp[cp,cE] at es;cases br<;>simp[mK] at bR<;>simp[cp,cE] at ig;rw[Rep] at aKO cY;cases aKO;cases cY;split at h
  ·simp at h;rw[<-h];simp[fB,cp,ed]
  ·cases h
 ·rename_i x y;have:aK=false:=by rw[hq,ay] at eB;simpa using eB.symm
  subst this;obtain⟨aKH,es⟩:=es;obtain⟨bR,ig⟩:=ig;simp only[flatK,ay,aLj] at lj;subst lj;cases k<;>simp[mK] at aKH<;>simp[cp,cE] at es;cases br<;>simp[mK] at bR<;>simp[cp,cE] at ig;rw[Rep] at aKO cY;cases aKO;cases cY;simp at h;rw[<-h];simp[fB,cp,ed,U2]
 ·rename_i x y;have:aK=false:=by rw[hq,ay] at eB;simpa using eB.symm
  subst this;obtain⟨aKH,es⟩:=es;obtain⟨bR,ig⟩:=ig;simp only[flatK,ay,aLj] at lj;subst lj;cases k<;>simp[mK] at aKH<;>simp[cp,cE] at es;cases br<;>simp[mK] at bR<;>simp[cp,cE] at ig;rw[Rep] at aKO cY;cases aKO;cases cY;simp at h;rw[<-h];simp[fB,cp,ed]
 ·cases h
theorem Ox (w:World){cZ:TypeId}{aK:Bool}{Y:List cW}(O:te P cZ=some (aK,Y)){k:F}{v:Value}(es:gb aK Y k)(aKO:Rep C k v)(ents:List (F×F))(ar:List MapEntry)
 (N:aE C (ents.map (·.1)) (ar.map (·.key))) (hf:∀p∈ents,gb aK Y p.1): (Instr.findKey cZ v ar).run P w= .ok (mO k ents ar 0) w:=by
 obtain⟨eB,lj⟩:=Ov O;obtain⟨B,ay⟩:∃B,P.underlying cZ=some B:=by
  cases bc:P.underlying cZ with
  |none=>rw[hq,bc] at eB;cases eB
  |some B=>exact⟨B,rfl⟩
 have now:∀(ents:List (F×F)) (ar:List MapEntry) (c:Nat) (x:Option (Nat×Value)),aE C (ents.map (·.1)) (ar.map (·.key))->(∀p∈ents,gb aK Y p.1)->Instr.findNow B v ar c=some x->x=mO k ents ar c:=by
  intro ents
  induction ents with
  |nil=>
   intro ar c x N _ h;rw[aLC,aE] at N;have:ar=[]:=by simpa using N
   subst this;simp[Instr.findNow] at h;subst h;rfl
  |cons p aa ih=>
   intro ar c x N hf h;rw[aKP,aE] at N;obtain⟨gA,bS,he,d,G⟩:=N;cases ar with
   |nil=>simp at he
   |cons e ar=>
    simp at he;obtain⟨rfl,rfl⟩:=he;rw[U8];simp only[Instr.findNow] at h;split at h
    ·rename_i ao;rw[<-U9 ay O es (hf p (by simp)) aKO d ao];simp at h;subst h;rfl
    ·rename_i ao;rw[<-U9 ay O es (hf p (by simp)) aKO d ao];exact ih ar (c+1) x G (λq aV=>hf q (by simp[aV])) h
    ·cases h
 have ask:∀(ents:List (F×F)) (ar:List MapEntry) (c:Nat),aE C (ents.map (·.1)) (ar.map (·.key))->(∀p∈ents,gb aK Y p.1)->(Instr.findAsking cZ v ar c).run P w= .ok (mO k ents ar c) w:=by
  intro ents
  induction ents with
  |nil=>
   intro ar c N _;rw[aLC,aE] at N;have:ar=[]:=by simpa using N
   subst this;simp[Instr.findAsking,mO,gB]
  |cons p aa ih=>
   intro ar c N hf;rw[aKP,aE] at N;obtain⟨gA,bS,he,d,G⟩:=N;cases ar with
   |nil=>simp at he
   |cons e ar=>
    simp at he;obtain⟨rfl,rfl⟩:=he;obtain⟨vs,aKH,bR⟩:=Ow eB es aKO;obtain⟨Dm,xo,ajU⟩:=Ow eB (hf p (by simp)) d;have bF:=Ou (C:=C) w 20 10000 cZ Y (cp k) (cp p.1) vs Dm v e.key lj (by omega) es.2 (hf p (by simp)).2 aKH xo bR ajU;rw[U8];simp only[Instr.findAsking,Op.equal,Op.maxDepth,Sem.run_bind,bF,Result.andThen_ok,Sem.run_ite];show (if fB k p.1=true then _ else _)=_;split
    ·rfl
    ·exact ih ar (c+1) G (λq aV=>hf q (by simp[aV]))
 unfold Instr.findKey;simp only[Sem.run_bind,run_underlying ay,Result.andThen_ok];cases aH:Instr.findNow B v ar 0 with
 |some x=>simp only[Sem.run_pure];rw[now ents ar 0 x N hf aH]
 |none=>exact ask ents ar 0 N hf
theorem Oy (w:World)(em:Bool){cZ:TypeId}{aK:Bool}{Y:List cW}(O:te P cZ=some (aK,Y)){k:F}{v:Value}(es:gb aK Y k)(aKO:Rep C k v): (Instr.checkKey em 10000 cZ v).run P w= .ok () w:=by
 obtain⟨eB,lj⟩:=Ov O;obtain⟨vs,aKH,bR⟩:=Ow eB es aKO;exact U1 (C:=C) w em 20 10000 cZ Y (cp k) vs v lj (by omega) es.2 aKH bR
theorem aE.tf {C:bD}{as:List F}{vs:List Value}(c:Nat)(h:aE C as vs)(av:c<as.length){B:F}{u:Value}:Rep C (as.getD c B) ((vs[c]?).getD u):=by
 obtain⟨v,d,G⟩:=h.oL c av;rw[d];have:as.getD c B=as.getD c .cj:=by simp[aLn,aKS av]
 rw[this];exact G
theorem aE.JO {C:bD}:∀{as:List F} {vs:List Value} (c:Nat) {a:F} {v:Value},aE C as vs->Rep C a v->aE C (as.set c a) (vs.set c v)
 | [],vs,c,a,v,h,_=>by rw[aE] at h;subst h;simp[aE]
 |x::as,vs,c,a,v,h,k=>by
  rw[aE] at h;obtain⟨u,bS,rfl,d,G⟩:=h;cases c with
  |zero=>rw[aO0,aO0,aE];exact⟨_,_,rfl,k,G⟩
  |succ c=>rw[aOk,aOk,aE];exact⟨_,_,rfl,d,G.JO c k⟩
theorem aE.ze {C:bD}{a:F}{v:Value}(h:Rep C a v):aE C [a] [v]:=by rw[aE];exact⟨_,_,rfl,h,by rw[aE]⟩
structure uw (C:bD) (z:Nat) (b J:Nat) (ar:Array MapEntry) (aK:Bool) (Y:List cW) (ents:List (F×F)):Prop where
 bu:C.bu[z]? =some (some (b,J))
 bY:¬C.bY b
 heap:C.w.heap[b]? =some (.map ar ar.size)
 born:∀(c:Nat) (e:MapEntry),ar[c]? =some e->e.born=c
 rZ:aE C (ents.map (·.1)) (ar.toList.map (·.key))
 am:aE C (ents.map (·.2)) (ar.toList.map (·.val))
 cE:∀p∈ents,gb aK Y p.1
theorem Va (aA:ci C){z:Nat}{aK:Bool}{Y:List cW}{ents:List (F×F)}(N:C.r[z]? =some (.be (.map aK Y ents))):∃b J ar,uw C z b J ar aK Y ents:=by
 have:=aA.r z _ N;rw[dQ] at this;obtain⟨b,J,ar,d,G,au,bv,cx,dx,oN⟩:=this;exact⟨b,J,ar,d,G,au,bv,cx,dx,oN⟩
theorem uw.size {z b J:Nat}{ar:Array MapEntry}{aK:Bool}{Y:List cW}{ents:List (F×F)}(h:uw C z b J ar aK Y ents):ar.size=ents.length:=by
 have:=h.rZ.length;simpa using this
theorem uw.val {z b J:Nat}{ar:Array MapEntry}{aK:Bool}{Y:List cW}{ents:List (F×F)}(h:uw C z b J ar aK Y ents){c:Nat}(av:c<ents.length):
 Rep C (ents.getD c (.cj,.cj)).2 (((ar.toList[c]?).map (·.val)).getD undef):=by
 have:=h.am.tf c (by simpa using av) (B:= .cj) (u:=undef);simpa[aLn,aKS av] using this
theorem uw.key {z b J:Nat}{ar:Array MapEntry}{aK:Bool}{Y:List cW}{ents:List (F×F)}(h:uw C z b J ar aK Y ents){c:Nat}(av:c<ents.length):
 Rep C (ents.getD c (.cj,.cj)).1 (((ar.toList[c]?).map (·.key)).getD undef):=by
 have:=h.rZ.tf c (by simpa using av) (B:= .cj) (u:=undef);simpa[aLn,aKS av] using this
theorem Do (aA:ci C){z:Nat}{cz:Value}{aK:Bool}{Y:List cW}{ents:List (F×F)}(aj:Rep C (.bE z) cz)(N:C.r[z]? =some (.be (.map aK Y ents))):∃b J ar,uw C z b J ar aK Y ents/\cz= .map (some b):=by
 obtain⟨b,J,ar,h⟩:=Va aA N;rw[Rep] at aj;obtain⟨_,_,_,aj⟩:=aj;obtain⟨eE,dR,d,G⟩:=aj _ N;rw[h.bu] at d;simp at d;obtain⟨rfl,rfl⟩:=d;exact⟨b,J,ar,h,G⟩
theorem ajV (aA:ci C){t cZ qm:TypeId}{ok aK:Bool}{Y:List cW}{M x k:F}{cz ij:Value}(bc:P.underlying t=some (.map cZ qm))(O:te P cZ=some (aK,Y))(ba:zf P qm=some M)(aj:Rep C x cz)(gh:Rep C k ij)
 (h:uy C.r ok aK Y M x k λv=>K v C.r):∃aZ v,(Instr.lookup t cz ij ok).run P C.w= .ok aZ C.w/\Rep C v aZ/\K v C.r:=by
 unfold uy at h;split at h
 ·exact h.elim
 rename_i ents oO;obtain⟨hf,cA⟩:=h;obtain⟨c,cC,av,jC,xp⟩:=Vb ba;have JP:=sY av jC C.w;have kM:∃ar:Array MapEntry,((cz= .map none/\ar= #[])\/ ∃b J,cz= .map (some b)/\C.w.heap[b]? =some (.map ar J))/\aE C (ents.map (·.1)) (ar.toList.map (·.key))/\aE C (ents.map (·.2)) (ar.toList.map (·.val))/\ ∀p∈ents,gb aK Y p.1:=by
  unfold qn at oO;split at oO
  ·rename_i z;split at oO
   ·rename_i gC fV Oz hrow;split at oO
    ·rename_i ad;obtain⟨rfl,rfl⟩:=ad;simp at oO;subst oO;obtain⟨b,J,ar,hm,rfl⟩:=Do aA aj hrow;exact⟨ar,.inr ⟨b,_,rfl,hm.heap⟩,hm.rZ,hm.am,hm.cE⟩
    ·cases oO
   ·cases oO
  ·simp at oO;subst oO;rw[Rep] at aj;subst aj;exact⟨#[],.inl ⟨rfl,rfl⟩,by simp[aE],by simp[aE],by simp⟩
  ·cases oO
 obtain⟨ar,re,xq,Gh,Gi⟩:=kM;have Bn:=Ox (P:=P) C.w O hf gh ents ar.toList xq Gi;have mb:=λem=>Oy (P:=P) C.w em O hf gh;have hval:Rep C ((dm k ents).getD M) (((mO k ents ar.toList 0).map (·.2)).getD cC):=by
  rw[Gg];unfold mO;cases ak:gB k ents with
  |none=>exact xp C
  |some j=>
   have:=Gh.tf j (by simpa using Dn ak) (B:= .cj) (u:=undef);simpa[aLn,aKS (Dn ak)] using this
 have Dp: (mO k ents ar.toList 0).isSome=(dm k ents).isSome:=by
  rw[Gg];unfold mO;cases gB k ents<;>rfl
 refine⟨if ok then .tuple #[((mO k ents ar.toList 0).map (·.2)).getD cC,.bool (mO k ents ar.toList 0).isSome] else ((mO k ents ar.toList 0).map (·.2)).getD cC,_,?_,?_,cA⟩
 ·unfold Instr.lookup;simp only[Sem.run_bind,run_underlying bc,Result.andThen_ok];rcases re with ⟨rfl,rfl⟩|⟨b,J,rfl,af⟩
  ·simp only[Sem.run_bind,Sem.run_pure,Result.andThen_ok,mb,Bn];cases mO k ents (#[]:Array MapEntry).toList 0 with
   |none=>simp[JP]
   |some q=>simp
  ·simp only[Sem.run_bind,Go.run_getObj_map _ _ _ _ af,Sem.run_pure,Result.andThen_ok,mb,Bn];cases mO k ents ar.toList 0 with
   |none=>simp[JP]
   |some q=>simp
 ·rw[Dp];cases ok
  ·exact hval
  ·simp only[aK5];rw[Rep];exact⟨_,rfl,by rw[aE];exact⟨_,_,rfl,hval,aE.ze (by rw[Rep])⟩⟩
theorem Gj {w:World}{b:Nat}{ar:Array MapEntry}{OA:Nat}(V:Obj)(af:w.heap[b]? =some (.map ar OA)): (setObj b V).run P w= .ok () {w with heap:=w.heap.setIfInBounds b V}:=by
 simp[setObj,Sem.run,af]
def rf (w:World)(b:Nat)(V:Obj):World:= {w with heap:=w.heap.setIfInBounds b V}
theorem OB (w:World)(b:Nat)(V:Obj):w.grownBy (rf w b V) (some b):=
 ⟨rfl,rfl,rfl,by simp[rf],λk _ O=>by simp[rf,aO1 (λe:b=k=>O (by rw[e]))]⟩
theorem OC {w:World}{b:Nat}{V fa:Obj}(h:w.heap[b]? =some fa): (rf w b V).heap[b]? =some V:=by
 have:=(aLp.1 h).1;simp[rf,this]
theorem Vd {ents:List (F×F)}{c:Nat}{k v:F}: (ents.set c (k,v)).map (·.1)=(ents.map (·.1)).set c k:=by simp[aO2]
theorem Ve {ents:List (F×F)}{c:Nat}{k v:F}: (ents.set c (k,v)).map (·.2)=(ents.map (·.2)).set c v:=by simp[aO2]
theorem OD (aA:ci C){z b J:Nat}{ar:Array MapEntry}{aK:Bool}{Y:List cW}{ents:List (F×F)}(N:C.r[z]? =some (.be (.map aK Y ents)))(h:uw C z b J ar aK Y ents)
 {k v:F} {ij aZ:Value} (hf:gb aK Y k) (O:Rep C k ij) (an:Rep C v aZ):
 ∃mP,(match gB k ents with|some c=>mP=ar.modify c λe=> {e with key:=ij,val:=aZ}|none=>mP=ar.push ⟨ij,aZ,ar.size⟩)/\
  ci ⟨C.r.set z (.be (.map aK Y (dy k v ents))),C.bu,C.bY,rf C.w b (.map mP mP.size),C.bZ⟩/\cm C.r.length C ⟨C.r.set z (.be (.map aK Y (dy k v ents))),C.bu,C.bY,rf C.w b (.map mP mP.size),C.bZ⟩:=by
 have dJ:=h.size;cases ak:gB k ents with
 |some c=>
  have av:=Dn ak;have zg:c<ar.size:=by omega
  refine⟨_,rfl,JQ aA N h.bu _ _ (OB _ _ _) λaB he bp aP uz=> ?_⟩;rw[dQ,U6 ak,Vd,Ve];refine⟨b,J,ar.modify c λe=> {e with key:=ij,val:=aZ},uz,by rw[bp];exact h.bY,by rw[aP];exact OC h.heap,λj e hj=> ?_,?_,?_,λp hT=> ?_⟩
  ·rw[aMw] at hj;split at hj
   ·subst_vars
    cases aj:ar[j]? with
    |none=>rw[aj] at hj;simp at hj
    |some iI=>rw[aj] at hj;simp at hj;subst hj;exact h.born j iI aj
   ·exact h.born j e hj
  ·have: (ar.modify c λe=> {e with key:=ij,val:=aZ}).toList.map (·.key)=(ar.toList.map (·.key)).set c ij:=by
    apply aLT;intro j;simp only[aLG,aLJ,aMw,aKQ,aLe,aLE];split
    ·subst_vars
     simp[zg]
    ·rfl
   rw[this];exact (aE.ext he _ _ h.rZ).JO c (Rep.ext he _ _ O)
  ·have: (ar.modify c λe=> {e with key:=ij,val:=aZ}).toList.map (·.val)=(ar.toList.map (·.val)).set c aZ:=by
    apply aLT;intro j;simp only[aLG,aLJ,aMw,aKQ,aLe,aLE];split
    ·subst_vars
     simp[zg]
    ·rfl
   rw[this];exact (aE.ext he _ _ h.am).JO c (Rep.ext he _ _ an)
  ·rcases aNZ hT with hT|rfl
   ·exact h.cE p hT
   ·exact hf
 |none=>
  refine⟨_,rfl,JQ aA N h.bu _ _ (OB _ _ _) λaB he bp aP uz=> ?_⟩;rw[dQ,U7 ak];refine⟨b,J,ar.push ⟨ij,aZ,ar.size⟩,uz,by rw[bp];exact h.bY,by rw[aP];exact OC h.heap,λj e hj=> ?_,?_,?_,λp hT=> ?_⟩
  ·rw[aPR] at hj;split at hj
   ·subst_vars;simp at hj;subst hj;rfl
   ·exact h.born j e hj
  ·simp only[aLU,aKP,aLC,aPS];exact (aE.ext he _ _ h.rZ).append (aE.ze (Rep.ext he _ _ O))
  ·simp only[aLU,aKP,aLC,aPS];exact (aE.ext he _ _ h.am).append (aE.ze (Rep.ext he _ _ an))
  ·rcases aK3.1 hT with hT|hT
   ·exact h.cE p hT
   ·simp at hT;subst hT;exact hf
theorem Vf {aK:Bool}{Y:List cW}{z b J:Nat}{ar:Array MapEntry}{ents:List (F×F)}(h:uw C z b J ar aK Y ents){k:F}{ij:Value}(hf:gb aK Y k)(O:Rep C k ij){c:Nat}(ak:gB k ents=some c):
 (Instr.keyThatStays (((ar[c]?).map (·.key)).getD ij) ij).run P C.w= .ok ij C.w:=by
 have av:=Dn ak;have dJ:=h.size;have d:=h.key av;have cg:ents.getD c (.cj,.cj)∈ents:=by rw[aLn,aKS av];simp
 have G:=ajS hf (h.cE _ cg) (U5 ak) O d;have au: ((ar[c]?).map (·.key)).getD ij=ij:=by
  have aI:c<ar.size:=by omega
  rw[aLN aI];simpa[aI] using G.symm
 rw[au];simp[Instr.keyThatStays,ajT hf O]
theorem ajW (aA:ci C){t cZ qm:TypeId}{aK:Bool}{Y:List cW}{x k v:F}{cz ij aZ:Value}(bc:P.underlying t=some (.map cZ qm))(O:te P cZ=some (aK,Y))(aj:Rep C x cz)(gh:Rep C k ij)(an:Rep C v aZ){K:List Z->Prop}
 (h:xr C.r aK Y x k v K):∃aB,(Instr.mapUpdate t cz ij aZ).run P C.w= .ok () aB.w/\ci aB/\cm C.r.length C aB/\K aB.r:=by
 unfold xr at h;split at h
 ·rename_i z;split at h
  ·rename_i gC fV ents hrow;obtain⟨⟨rfl,rfl⟩,hf,cA⟩:=h;obtain⟨b,J,ar,hm,rfl⟩:=Do aA aj hrow;obtain⟨mP,he,aKH,bR⟩:=OD aA hrow hm hf gh an;refine⟨_,?_,aKH,bR,cA⟩;have Bn:=Ox (P:=P) C.w O hf gh ents ar.toList hm.rZ hm.cE;have mb:=λem=>Oy (P:=P) C.w em O hf gh;simp only[Instr.mapUpdate,Sem.run_bind,run_underlying bc,Result.andThen_ok,Go.run_getObj_map _ _ _ _ hm.heap,mb,Bn];cases ak:gB k ents with
   |some c=>
    rw[ak] at he;simp only at he;subst he;simp only[mO,ak,aML,Sem.run_bind,aL5,Vf hm hf gh ak,Result.andThen_ok,Gj _ hm.heap,rf,Array.size_modify]
   |none=>
    rw[ak] at he;simp only at he;subst he;simp only[mO,ak,aNG,Gj _ hm.heap,rf,Array.size_push]
  ·exact h.elim
 ·exact h.elim
theorem ajX (aA:ci C){t cZ qm:TypeId}{aK:Bool}{Y:List cW}{M x k:F}{cz ij:Value}(bc:P.underlying t=some (.map cZ qm))(O:te P cZ=some (aK,Y))(ba:zf P qm=some M)(aj:Rep C x cz)(gh:Rep C k ij)
 (h:vI C.r aK Y M x k K):∃aZ v aB,(Instr.mapEntry t cz ij).run P C.w= .ok aZ aB.w/\Rep aB v aZ/\ci aB/\cm C.r.length C aB/\K v aB.r:=by
 unfold vI at h;split at h
 ·rename_i z;split at h
  ·rename_i gC fV ents hrow;obtain⟨⟨rfl,rfl⟩,⟨hf,_⟩,cA⟩:=h;obtain⟨b,J,ar,hm,rfl⟩:=Do aA aj hrow;obtain⟨c,cC,av,jC,xp⟩:=Vb ba;have JP:=sY av jC C.w;have dJ:=hm.size;have Bn:=Ox (P:=P) C.w O hf gh ents ar.toList hm.rZ hm.cE;have mb:=λem=>Oy (P:=P) C.w em O hf gh;cases ak:gB k ents with
   |some c=>
    have kv:=Dn ak;have hval:=hm.val kv;have Dq: (dm k ents).getD M=(ents.getD c (.cj,.cj)).2:=by rw[Gg,ak];rfl
    rw[Dq,ak] at cA;obtain⟨mP,he,aKH,bR⟩:=OD aA hrow hm hf gh hval;rw[ak] at he;simp only at he;refine⟨.tuple #[((ar.toList[c]?).map (·.val)).getD undef,.int .i64 c],_,_,?_,?_,aKH,bR,cA⟩
    ·have aI:c<ar.size:=by omega
     have af:ar[c].born=c:=hm.born c ar[c] (by simp[aI]);have kM:mP=ar.modify c λe=> {e with key:=ij}:=by
      rw[he];apply Array.ext_getElem?;intro j;rw[aMw,aMw];split
      ·subst_vars;simp[aI]
      ·rfl
     simp only[Instr.mapEntry,Sem.run_bind,run_underlying bc,Result.andThen_ok,Go.run_getObj_map _ _ _ _ hm.heap,mb,Bn,mO,ak,aML,aL5,Vf hm hf gh ak,Gj _ hm.heap,rf,kM,Array.size_modify,Sem.run_pure];simp[aI,af,goInt]
    ·rw[Rep];exact⟨_,rfl,by rw[aE];exact⟨_,_,rfl,Rep.ext bR.ext _ _ hval,aE.ze (by rw[Rep];rfl)⟩⟩
   |none=>
    have Dq: (dm k ents).getD M=M:=by rw[Gg,ak];rfl
    rw[Dq,ak] at cA;obtain⟨mP,he,aKH,bR⟩:=OD aA hrow hm hf gh (xp C);rw[ak] at he;simp only at he;subst he;refine⟨.tuple #[cC,.int .i64 ar.size],_,_,?_,?_,aKH,bR,cA⟩
    ·simp only[Instr.mapEntry,Sem.run_bind,run_underlying bc,Result.andThen_ok,Go.run_getObj_map _ _ _ _ hm.heap,mb,Bn,mO,ak,aNG,JP,Gj _ hm.heap,rf,Array.size_push,Sem.run_pure];rfl
    ·rw[Rep];exact⟨_,rfl,by rw[aE];exact⟨_,_,rfl,xp _,aE.ze (by rw[Rep,dJ];rfl)⟩⟩
  ·exact h.elim
 ·exact h.elim
theorem ajY {ar:Array MapEntry}(af:∀(c:Nat) (e:MapEntry),ar[c]? =some e->e.born=c){n:Int}(h0:0<=n)(d:n<ar.size):ar.findIdx? (λe=>(e.born:Int)==n)=some n.toNat:=by
 rw[Array.findIdx?_eq_some_iff_getElem];have aI:n.toNat<ar.size:=by omega
 refine⟨aI,?_,λj hj=> ?_⟩
 ·rw[af n.toNat ar[n.toNat] (by simp[aI])];simp;omega
 ·rw[af j ar[j] (by simp)];simp;omega
theorem ajZ (aA:ci C){t:TypeId}{x c v:F}{cz Vg aZ:Value}(aj:Rep C x cz)(Vh:Rep C c Vg)(an:Rep C v aZ){K:List Z->Prop}(h:xs C.r x c v K):
 ∃aB,(Instr.entryStore t cz Vg aZ).run P C.w= .ok () aB.w/\ci aB/\cm C.r.length C aB/\K aB.r:=by
 unfold xs at h;split at h
 ·rename_i z JR n;split at h
  ·rename_i aK Y ents hrow;obtain⟨h0,d,cA⟩:=h;obtain⟨b,J,ar,hm,rfl⟩:=Do aA aj hrow;rw[Rep] at Vh;subst Vh;have dJ:=hm.size;have aI:n.toNat<ar.size:=by omega
   have Bo:ci ⟨C.r.set z (.be (.map aK Y (ents.set n.toNat ((ents.getD n.toNat (.cj,.cj)).1,v)))),C.bu,C.bY,rf C.w b (.map (ar.modify n.toNat λe=> {e with val:=aZ}) ar.size),C.bZ⟩/\
    cm C.r.length C ⟨C.r.set z (.be (.map aK Y (ents.set n.toNat ((ents.getD n.toNat (.cj,.cj)).1,v)))),C.bu,C.bY,rf C.w b (.map (ar.modify n.toNat λe=> {e with val:=aZ}) ar.size),C.bZ⟩:=by
    refine JQ aA hrow hm.bu _ _ (OB _ _ _) λaB he bp aP uz=> ?_;rw[dQ,Vd,Ve];refine⟨b,J,ar.modify n.toNat λe=> {e with val:=aZ},uz,by rw[bp];exact hm.bY,by rw[aP];simpa using OC hm.heap,λj e hj=> ?_,?_,?_,λp hT=> ?_⟩
    ·rw[aMw] at hj;split at hj
     ·subst_vars
      cases aj:ar[n.toNat]? with
      |none=>rw[aj] at hj;simp at hj
      |some iI=>rw[aj] at hj;simp at hj;subst hj;exact hm.born _ iI aj
     ·exact hm.born j e hj
    ·have bF: (ar.modify n.toNat λe=> {e with val:=aZ}).toList.map (·.key)=ar.toList.map (·.key):=by
      apply aLT;intro j;simp only[aLG,aLJ,aMw];split
      ·subst_vars;simp[aI]
      ·rfl
     have bK: (ents.map (·.1)).set n.toNat (ents.getD n.toNat (.cj,.cj)).1=ents.map (·.1):=by
      apply aLT;intro j;rw[aKQ];split
      ·subst_vars
       have:n.toNat<ents.length:=by omega
       simp[this]
      ·rfl
     rw[bF,bK];exact aE.ext he _ _ hm.rZ
    ·have: (ar.modify n.toNat λe=> {e with val:=aZ}).toList.map (·.val)=(ar.toList.map (·.val)).set n.toNat aZ:=by
      apply aLT;intro j;simp only[aLG,aLJ,aMw,aKQ,aLe,aLE];split
      ·subst_vars;simp[aI]
      ·rfl
     rw[this];exact (aE.ext he _ _ hm.am).JO _ (Rep.ext he _ _ an)
    ·rcases aNZ hT with hT|rfl
     ·exact hm.cE p hT
     ·have cg:ents.getD n.toNat (.cj,.cj)∈ents:=by rw[aLn,aKS (by omega)];simp
      have:=hm.cE _ cg;exact this
   refine⟨_,?_,Bo.1,Bo.2,cA⟩;simp only[Instr.entryStore,Sem.run_bind,Go.run_getObj_map _ _ _ _ hm.heap,Result.andThen_ok,asInt,asIntOf,Sem.run_pure,ajY hm.born h0 (by omega),Gj _ hm.heap,rf]
  ·exact h.elim
 ·exact h.elim
theorem aka (aA:ci C){t cZ qm:TypeId}{x:F}{cz:Value}(bc:P.underlying t=some (.map cZ qm))(aj:Rep C x cz)(h:xt C.r x K):
 ∃aZ v aB,(Instr.range t cz).run P C.w= .ok aZ aB.w/\Rep aB v aZ/\ci aB/\cm C.r.length C aB/\K v aB.r:=by
 unfold xt at h;split at h
 ·rename_i m;split at h
  ·rename_i aK Y ents hrow;obtain⟨b,J,ar,hm,rfl⟩:=Do aA aj hrow;have dJ:=hm.size;obtain⟨aKH,bR⟩:=Vi aA (.eh ents.length []) (.mapIter (some b) ar.size #[] ar.size) b (C.w.alloc (.mapIter (some b) ar.size #[] ar.size)) ⟨rfl,rfl,rfl,rfl⟩ λaB he bp aP uz=>by
    rw[dQ];refine⟨_,_,uz,?_,?_⟩
    ·rw[bp];intro aV;have:=aA.bY _ aV;omega
    ·rw[aP,heap_alloc_new,dJ]
   refine⟨.pointer (some ⟨C.w.heap.size,0,none⟩),_,_,?_,?_,aKH,bR,h⟩
   ·simp only[Instr.range,Sem.run_bind,run_underlying bc,Result.andThen_ok,Go.run_getObj_map _ _ _ _ hm.heap,Sem.run_pure];rfl
   ·have zh:m<C.r.length:=(aLy.1 hrow).1;rw[Rep];refine⟨aA.bZ,⟨_,rfl⟩,by simp,by simp;omega,λV fa _ _=>⟨C.w.heap.size,b,J,by simp[<-aA.dw],?_,rfl⟩⟩;show (C.bu++[some (C.w.heap.size,b)])[m]? =_;rw[aK9,Rc (by rw[aA.dw];exact zh)];exact hm.bu
  ·exact h.elim
 ·exact h.elim
theorem Vj (aA:ci C){z m n:Nat}{bX:List Nat}{cz:Value}{aK:Bool}{Y:List cW}{ents:List (F×F)}(aj:Rep C (.fO z m) cz)(N:C.r[z]? =some (.be (.eh n bX)))(hm:C.r[m]? =some (.be (.map aK Y ents))):
 ∃b jA J ar,uw C m jA J ar aK Y ents/\C.bu[z]? =some (some (b,jA))/\ ¬C.bY b/\C.w.heap[b]? =some (.mapIter (some jA) n bX.toArray n)/\cz= .pointer (some ⟨b,0,none⟩):=by
 obtain⟨jA,J,ar,h⟩:=Va aA hm;have hrow:=aA.r z _ N;rw[dQ] at hrow;obtain⟨b,aJl,aK6,iT,Ds⟩:=hrow;rw[Rep] at aj;obtain⟨_,_,_,_,aj⟩:=aj;obtain⟨eJ,aJm,c2,aKY,eQ,eF⟩:=aj _ _ N hm;rw[aK6] at aKY;simp at aKY;obtain⟨rfl,rfl⟩:=aKY;rw[h.bu] at eQ;simp at eQ;obtain⟨rfl,rfl⟩:=eQ;exact⟨b,jA,J,ar,h,aK6,iT,Ds,eF⟩
theorem akb {ar:Array MapEntry}(af:∀(c:Nat) (e:MapEntry),ar[c]? =some e->e.born=c): (ar.toList.map (·.born)).Nodup:=by
 have:ar.toList.map (·.born)=List.range ar.size:=by
  apply aLT;intro c
  by_cases av:c<ar.size
  ·rw[aLG,aLJ,aLN av,aML,af c ar[c] (by simp[av]),aMU av]
  ·rw[aLB (by simpa using av),aLB (by simpa using av)]
 rw[this];exact aM8
theorem akc (aA:ci C){gW:TypeId}{x:F}{cz:Value}(aj:Rep C x cz)(h:sa C.r x K):
 ∃aZ v aB,(Instr.next cz false gW).run P C.w= .ok aZ aB.w/\Rep aB v aZ/\ci aB/\cm C.r.length C aB/\K v aB.r:=by
 unfold sa at h;split at h
 ·rename_i z m;split at h
  ·rename_i n bX aK Y ents N Gk;obtain⟨aH,JS,h0,d⟩:=h;obtain⟨b,jA,J,ar,hm,aK6,iT,Ds,rfl⟩:=Vj aA aj N Gk;have dJ:=hm.size;have sb:∀x∈ar.toList,x.born<n:=by
    intro x Gl;obtain⟨c,av,rfl⟩:=aL9 Gl;rw[hm.born c _ (by simp at av;simp[av])];simp at av;omega
   rcases run_next_at (P:=P) C.w gW b jA n n bX.toArray ar ar.size Ds hm.heap sb (aKM _) with ⟨aKH,bR⟩|⟨e,he,jG,dn,bR⟩
   ·refine⟨_,.bo [.bool false],C,bR,by rw[Rep];exact⟨_,rfl,aE.ze (by rw[Rep])⟩,aA,cm.refl C,h0 λc av=> ?_⟩
    by_cases ao:c∈bX
    ·exact ao
    ·exfalso;have zg:c<ar.size:=by omega
     have:ar[c]∈leftOf ar bX.toArray:=by
      unfold leftOf;simp only[Array.mem_filter,Array.getElem_mem,aMh,hm.born c ar[c] (by simp[zg])];simpa using ao
     have ba:leftOf ar bX.toArray= #[]:=Array.eq_empty_of_size_eq_zero aKH;rw[ba] at this;simp at this
   ·have cg:e∈ar/\e.born∉bX:=by
     unfold leftOf at he;simpa using he
    obtain⟨c,av,rfl⟩:=Array.getElem_of_mem cg.1;have af:=hm.born c ar[c] (by simp[av]);rw[af] at cg bR;have kv:c<ents.length:=by omega
    have akd:jG.os=C.w.os/\jG.tape=C.w.tape/\jG.output=C.w.output/\jG.heap=C.w.heap:=by rcases dn with rfl|rfl<;>exact⟨rfl,rfl,rfl,rfl⟩
    obtain⟨OE,OF,ake,Bp⟩:=akd;have aI:=aA.lt aK6;obtain⟨xu,vJ⟩:=JQ aA N aK6 (.eh n (bX++[c])) (setBlock jG b (.mapIter (some jA) n (bX.toArray.push c) ar.size))
     ⟨OE,OF,ake,by simp[setBlock,Bp],λk _ O=>by simp[setBlock,Bp,aO1 (λe:b=k=>O (by rw[e]))]⟩ λaB he bp aP uz=>by
      rw[dQ];refine⟨b,jA,uz,by rw[bp];exact iT,?_⟩;rw[aP];simp[setBlock,Bp,aI];omega
    refine⟨_,_,_,bR,?_,xu,vJ,d c (by omega) cg.2⟩;rw[Rep];have bO:=hm.key kv;have cd:=hm.val kv;rw[aLJ,aLN av] at bO cd;refine⟨_,rfl,?_⟩;rw[aE];refine⟨_,_,rfl,by rw[Rep],?_⟩;rw[aE];exact⟨_,_,rfl,Rep.ext vJ.ext _ _ bO,aE.ze (Rep.ext vJ.ext _ _ cd)⟩
  ·exact h.elim
 ·exact h.elim
theorem akf (aA:ci C){x:F}{cz:Value}(aj:Rep C x cz)(h:xv C.r x λv=>K v C.r):
 ∃aZ v,(Instr.entry cz).run P C.w= .ok aZ C.w/\Rep C v aZ/\K v C.r:=by
 unfold xv at h;split at h
 ·rename_i z m;split at h
  ·rename_i n bX aK Y ents N Gk;obtain⟨aH,iG,JT,cA⟩:=h;obtain⟨b,jA,J,ar,hm,aK6,iT,Ds,rfl⟩:=Vj aA aj N Gk;have dJ:=hm.size;have av:bX.getLastD 0<ar.size:=by omega
   have kv:bX.getLastD 0<ents.length:=by omega
   have af:=hm.born (bX.getLastD 0) ar[bX.getLastD 0] (aLN av);have akg:bX.toArray=bX.dropLast.toArray.push ar[bX.getLastD 0].born:=by
    rw[af];have hne:bX≠ []:=by intro e;simp[e] at iG
    apply aOY;simp only[aPS];rw[show bX.getLastD 0=bX.getLast hne from by cases bX with|nil=>exact (hne rfl).elim|cons a l=>rfl];exact (List.dropLast_concat_getLast hne).symm
   have akh:C.w.heap[b]? =some (.mapIter (some jA) n (bX.dropLast.toArray.push ar[bX.getLastD 0].born) ar.size):=by rw[<-akg,Ds,aH,dJ]
   have:=run_entry_at (P:=P) C.w b jA n bX.dropLast.toArray ar ar.size ar[bX.getLastD 0] akh hm.heap (by simp) (akb hm.born);have bO:=hm.key kv;have cd:=hm.val kv;rw[aLJ,aLN av] at bO cd;refine⟨_,_,this,?_,cA⟩;rw[Rep];refine⟨_,rfl,?_⟩;rw[aE];exact⟨_,_,rfl,bO,aE.ze cd⟩
  ·exact h.elim
 ·exact h.elim
theorem Vk {U:Nat}{am ys:List (List F)}{off:Nat}(ao:∀e∈am,e.length=U)(bt:∀e∈ys,e.length=U)(h:off+ys.length<=am.length): (kw am off ys).flatten=fb am.flatten (off*U) ys.flatten:=by
 have d: (am.take off).flatten.length=off*U:=by
  rw[zi (U:=U) λe he=>ao e (aMl he),aLd];congr 1;omega
 have G:ys.flatten.length=ys.length*U:=zi bt;have au:am.flatten=(am.take off).flatten++(am.drop off).flatten:=by rw[<-aM5,aMt]
 have bv: (am.drop off).flatten=((am.drop off).take ys.length).flatten++(am.drop (off+ys.length)).flatten:=by
  rw[<-aMM,<-aM5,aMt]
 have cx: ((am.drop off).take ys.length).flatten.length=ys.length*U:=by
  rw[zi (U:=U) λe he=>ao e (aMV (aMl he)),aLd,aLt];congr 1;omega
 unfold kw fb;rw[aM5,aM5,au,<-d,aM6,G];congr 1;rw[<-aMM (l:=(am.take off).flatten++_),List.drop_left,bv,<-cx,List.drop_left]
theorem aki (aA:ci C){t gW e:TypeId}{U:Nat}(ht:P.underlying t=some (.slice e))(ao:ie P e=some U){x y:F}{cz fQ:Value}(aj:Rep C x cz)(bt:Rep C y fQ)(h:zj C.r U x y K):
 ∃aZ v aB,(Builtin.copy_ #[t,t] gW #[cz,fQ]).run P C.w= .ok aZ aB.w/\Rep aB v aZ/\ci aB/\cm C.r.length C aB/\K v aB.r:=by
 unfold zj at h;split at h
 ·exact h.elim
 rename_i ys kN;obtain⟨cy,J,rfl,xw⟩:=JU aA bt kN;split at h
 ·rename_i z n off len;split at h
  ·rename_i cO bz am hrow;obtain⟨rfl,aH,ta,cA⟩:=h;rw[Rep] at aj;obtain⟨_,_,fA,aj⟩:=aj;obtain⟨_,p,ak,an⟩:=(aj cO bz am hrow).2 aH;have Dt:∀(a:Option Addr) (m J:Nat),(Builtin.lenOf (.slice a m J)).run P C.w= .ok m C.w:=λ_ _ _=>rfl;have akj: (ys.take (min ys.length len)).length=min ys.length len:=by rw[aLd];omega
   have nothing:min ys.length len=0->(Builtin.copy_ #[t,t] gW #[cz,.slice cy ys.length J]).run P C.w= .ok (goInt 0) C.w-> ∃aZ v aB,(Builtin.copy_ #[t,t] gW #[cz,.slice cy ys.length J]).run P C.w= .ok aZ aB.w/\Rep aB v aZ/\ci aB/\cm C.r.length C aB/\K v aB.r:=by
    intro h0 re;refine⟨_,.int .i64 0,C,re,by rw[Rep];rfl,aA,cm.refl C,?_⟩;rw[h0] at cA;have mc:C.r.set z (.ag cO bz (kw am off (ys.take 0)))=C.r:=by
     have:kw am off (ys.take 0)=am:=by simp[kw]
     rw[this];apply aLT;intro k;rw[aKQ];split
     ·subst_vars
      first|exact hrow.symm| (rw[Rc fA];exact hrow.symm)
     ·rfl
    rw[mc] at cA;exact cA
   rcases aA.ag hrow with ⟨hl,iW⟩|⟨b,cap,ap,hl,d,G,au,bv,cx,dx⟩
   ·subst iW;rw[ak] at hl;simp at hl;subst hl;simp only[oH] at an;obtain⟨⟨jk,rfl⟩,_,rfl⟩:=an;refine nothing (by simp) ?_;rcases xw with ⟨rfl,rfl⟩|⟨a,vs,rfl,jI,nw⟩
    ·cases jk<;>simp[Builtin.copy_,run_underlying ht,Dt,mL ao,Builtin.firstCells,storeCells]
    ·cases jk<;>simp[Builtin.copy_,run_underlying ht,Dt,mL ao,Builtin.firstCells,storeCells,loadCells,loadCellsFrom]
   ·rw[ak] at hl;simp at hl;subst hl;simp only[oH] at an;obtain⟨dK,dR,rfl,xm,ho,hp,pw,bp⟩:=an
    by_cases h0:min ys.length len=0
    ·refine nothing h0 ?_;have qo:Nat.min ys.length len=0:=h0;rcases xw with ⟨rfl,rfl⟩|⟨a,vs,rfl,jI,nw⟩
     ·simp[Builtin.copy_,run_underlying ht,Dt,mL ao,Builtin.firstCells,storeCells]
     ·simp[Builtin.copy_,run_underlying ht,Dt,mL ao,Builtin.firstCells,storeCells,loadCells,loadCellsFrom,qo]
    ·rcases xw with ⟨rfl,rfl⟩|⟨a,vs,rfl,jI,nw⟩
     ·simp at h0
     ·have aC:dK=⟨b,off*bz,none⟩:=by
       obtain⟨x,y,M⟩:=dK;simp only at ho hp bp;rw[ho,hp,bp (by omega)]
      subst aC;have xx:=jI.length;have hm:min ys.length len*bz<=vs.length:=by rw[xx];exact aMF _ (by omega)
      have oP:fs C bz (ys.take (min ys.length len)) (vs.take (min ys.length len*bz)):=by
       refine⟨λx aj=>jI.jl x (aMl aj),?_,λv an=>jI.cV v (aMl an)⟩;have: (ys.take (min ys.length len)).flatten=ys.flatten.take (min ys.length len*bz):=by
        have bF:ys.flatten=(ys.take (min ys.length len)).flatten++(ys.drop (min ys.length len)).flatten:=by rw[<-aM5,aMt]
        have bK: (ys.take (min ys.length len)).flatten.length=min ys.length len*bz:=by rw[zi (U:=bz) λx aj=>jI.jl x (aMl aj),akj]
        rw[bF,<-bK,aM6]
       rw[this];exact jI.kO.take _
      have oa: (vs.take (min ys.length len*bz)).length=min ys.length len*bz:=by rw[aLd];omega
      have Gm: (loadCells a (min ys.length len*bz)).run P C.w= .ok (vs.take (min ys.length len*bz)).toArray C.w:=by
       have:=run_loadCells_list (P:=P) C.w a (vs.take (min ys.length len*bz)) λj u hj=>by
        rw[aMO] at hj;split at hj
        ·exact nw j u hj
        ·cases hj
       rw[oa] at this;exact this
      obtain⟨aq,he,oM⟩:=dx.tg;have pt:=Gn G oM;have zk:=he.length;have uA:off*bz+min ys.length len*bz<=am.length*bz:=by rw[<-aLM];exact aMF _ (by omega)
      have vK:am.length*bz<=cap*bz:=aMF _ cx;have cn:=run_storeCells_at P b (off*bz) cO (vs.take (min ys.length len*bz)) 0 ap C.w G (by rw[oa];omega) oP.cV;simp only[aOl] at cn;have gi:=zl aA hrow ak b cap (ap.toList.take (off*bz)++vs.take (min ys.length len*bz)++ap.toList.drop (off*bz+(vs.take (min ys.length len*bz)).length)).toArray
       (kw am off (ys.take (min ys.length len))) (aq.take (off*bz)++vs.take (min ys.length len*bz)++aq.drop (off*bz+(vs.take (min ys.length len*bz)).length))
       (C.w.setRow b (ap.toList.take (off*bz)++vs.take (min ys.length len*bz)++ap.toList.drop (off*bz+(vs.take (min ys.length len*bz)).length)).toArray)
       ⟨rfl,rfl,rfl,by simp,λk _ gj=>setRow_other C.w b k _ (λe=>gj (by simp[e]))⟩ (.inl rfl) (setRow_heap C.w b ap _ cO _ G)
       (by simp only[aMG,aKK,aLt,oa,aLE];rw[aLd];simp only[aLE];omega)
       bv (by simp only[kw,aKK,aLd,aLt];omega)
       ⟨λx aj=> ?_,?_,he.cV.fb oP.cV⟩ ?_ (by simp only[kw,aKK,aLd,aLt];omega) (λ_=>rfl)
      ·refine⟨goInt (min ys.length len:Nat),_,_,?_,by rw[Rep];rfl,gi.1,gi.2,cA⟩;have JV:Nat.min ys.length len=min ys.length len:=rfl;simp only[Builtin.copy_,run_underlying ht,Sem.run_bind,Result.andThen_ok,Dt,mL ao,Builtin.firstCells,JV,Gm,cn,Sem.run_pure];simp[run_underlying ht,Dt,mL ao,JV,Gm,cn]
      ·unfold kw at aj;rcases aK3.1 aj with aj|aj
       ·rcases aK3.1 aj with aj|aj
        ·exact he.jl x (aMl aj)
        ·exact oP.jl x aj
       ·exact he.jl x (aMV aj)
      ·rw[Vk he.jl oP.jl (by omega)];exact he.kO.fb oP.kO
      ·rw[oa];simp only[aKK,aLd,aLt];have Gp:aq.length<=ap.toList.length:=by simp only[aLE];omega
       have bF:min (off*bz) aq.length+min (min ys.length len*bz) vs.length+(aq.length-(off*bz+min ys.length len*bz))=aq.length:=by omega
       rw[bF];have:=OG ap.toList (vs.take (min ys.length len*bz)) aq.length (off*bz) (by rw[oa];omega) Gp;rw[oa] at this;show List.take aq.length (ap.toList.take (off*bz)++vs.take (min ys.length len*bz)++ap.toList.drop (off*bz+min ys.length len*bz))=_;rw[this,pt]
  ·exact h.elim
 ·exact h.elim
theorem akk (aA:ci C){t gW e:TypeId}{M:List F}(ht:P.underlying t=some (.slice e))(ba:nt P e=some M){x:F}{cz:Value}(aj:Rep C x cz)(h:xy C.r M.length M x λr=>K (.bo []) r):
 ∃aZ v aB,(Builtin.clear_ #[t] gW #[cz]).run P C.w= .ok aZ aB.w/\Rep aB v aZ/\ci aB/\cm C.r.length C aB/\K v aB.r:=by
 obtain⟨c,cC,av,jC,lY,hl,iG,dJ⟩:=sW ba;obtain⟨bO,cd⟩:=rV (C:=C) lY;have Gq:=vG bO cd;have jD:∀n,aE C (List.replicate n M).flatten (List.replicate n cC.cells.toList).flatten/\iU (List.replicate n cC.cells.toList).flatten:=by
  intro n
  induction n with
  |zero=>simp[aE,iU]
  |succ n ih=>
   rw[aME,aME,aLS,aLS];refine⟨bO.append ih.1,λv an=> ?_⟩;rcases aK3.1 an with an|an
   ·exact Gq v an
   ·exact ih.2 v an
 unfold xy at h;split at h
 ·rename_i z n off len;split at h
  ·rename_i cO bz am hrow;obtain⟨rfl,aH,ta,cA⟩:=h;rw[Rep] at aj;obtain⟨_,_,fA,aj⟩:=aj;obtain⟨_,p,ak,an⟩:=(aj cO _ am hrow).2 aH;have nothing:len=0->(Builtin.clear_ #[t] gW #[cz]).run P C.w= .ok (.tuple #[]) C.w-> ∃aZ v aB,(Builtin.clear_ #[t] gW #[cz]).run P C.w= .ok aZ aB.w/\Rep aB v aZ/\ci aB/\cm C.r.length C aB/\K v aB.r:=by
    intro h0 re;refine⟨_,.bo [],C,re,by rw[Rep];exact⟨#[],rfl,by simp[aE]⟩,aA,cm.refl C,?_⟩;rw[h0] at cA;have mc:C.r.set z (.ag cO M.length (kw am off (List.replicate 0 M)))=C.r:=by
     have:kw am off (List.replicate 0 M)=am:=by simp[kw]
     rw[this];apply aLT;intro k;rw[aKQ];split
     ·subst_vars
      first|exact hrow.symm| (rw[Rc fA];exact hrow.symm)
     ·rfl
    rw[mc] at cA;exact cA
   rcases aA.ag hrow with ⟨iJ,iW⟩|⟨b,cap,ap,iJ,d,G,au,bv,cx,dx⟩
   ·subst iW;rw[ak] at iJ;simp at iJ;subst iJ;simp only[oH] at an;obtain⟨⟨jk,rfl⟩,_,rfl⟩:=an;refine nothing rfl ?_;cases jk<;>simp[Builtin.clear_,run_underlying ht]
   ·rw[ak] at iJ;simp at iJ;subst iJ;simp only[oH] at an;obtain⟨dK,dR,rfl,xm,ho,hp,pw,bp⟩:=an
    by_cases h0:len=0
    ·refine nothing h0 ?_;subst h0;simp[Builtin.clear_,run_underlying ht]
    ·have aC:dK=⟨b,off*M.length,none⟩:=by
      obtain⟨x,y,M⟩:=dK;simp only at ho hp bp;rw[ho,hp,bp (by omega)]
     subst aC;have oP:fs C M.length (List.replicate len M) (List.replicate len cC.cells.toList).flatten:=
      ⟨λx aj=>by rw[aNY aj],(jD _).1,(jD _).2⟩
     have oa: (List.replicate len cC.cells.toList).flatten.length=len*M.length:=by rw[oP.length,aMz]
     have JL: (Builtin.zeroCells cC.cells len).toList=(List.replicate len cC.cells.toList).flatten:=by
      unfold Builtin.zeroCells;exact Be cC.cells len
     obtain⟨aq,he,oM⟩:=dx.tg;have pt:=Gn G oM;have zk:=he.length;have uA:off*M.length+len*M.length<=am.length*M.length:=by rw[<-aLM];exact aMF _ (by omega)
     have vK:am.length*M.length<=cap*M.length:=aMF _ cx;have cn:=run_storeCells_at P b (off*M.length) cO (List.replicate len cC.cells.toList).flatten 0 ap C.w G (by rw[oa];omega) oP.cV;simp only[aOl] at cn;have gi:=zl aA hrow ak b cap (ap.toList.take (off*M.length)++(List.replicate len cC.cells.toList).flatten++ap.toList.drop (off*M.length+(List.replicate len cC.cells.toList).flatten.length)).toArray
      (kw am off (List.replicate len M)) (aq.take (off*M.length)++(List.replicate len cC.cells.toList).flatten++aq.drop (off*M.length+(List.replicate len cC.cells.toList).flatten.length))
      (C.w.setRow b (ap.toList.take (off*M.length)++(List.replicate len cC.cells.toList).flatten++ap.toList.drop (off*M.length+(List.replicate len cC.cells.toList).flatten.length)).toArray)
      ⟨rfl,rfl,rfl,by simp,λk _ gj=>setRow_other C.w b k _ (λe=>gj (by simp[e]))⟩ (.inl rfl) (setRow_heap C.w b ap _ cO _ G)
      (by simp only[aMG,aKK,aLt,oa,aLE];rw[aLd];simp only[aLE];omega)
      bv (by simp only[kw,aKK,aLd,aLt,aMz];omega)
      ⟨λx aj=> ?_,?_,he.cV.fb oP.cV⟩ ?_ (by simp only[kw,aKK,aLd,aLt,aMz];omega) (λ_=>rfl)
     ·refine⟨.tuple #[],.bo [],_,?_,by rw[Rep];exact⟨#[],rfl,by simp[aE]⟩,gi.1,gi.2,cA⟩;obtain⟨m,rfl⟩:∃m,len=m+1:=⟨len-1,by omega⟩;simp only[Builtin.clear_,run_underlying ht,Sem.run_bind,Result.andThen_ok,sY av jC,JL,cn,Sem.run_pure];simp[run_underlying ht,sY av jC,JL,cn]
     ·unfold kw at aj;rcases aK3.1 aj with aj|aj
      ·rcases aK3.1 aj with aj|aj
       ·exact he.jl x (aMl aj)
       ·exact oP.jl x aj
      ·exact he.jl x (aMV aj)
     ·rw[Vk he.jl oP.jl (by simp only[aMz];omega)];exact he.kO.fb oP.kO
     ·rw[oa];simp only[aKK,aLd,aLt,oa];have Gp:aq.length<=ap.toList.length:=by simp only[aLE];omega
      have bF:min (off*M.length) aq.length+len*M.length+(aq.length-(off*M.length+len*M.length))=aq.length:=by omega
      rw[bF];have:=OG ap.toList (List.replicate len cC.cells.toList).flatten aq.length (off*M.length) (by rw[oa];omega) Gp;rw[oa] at this;show List.take aq.length (ap.toList.take (off*M.length)++(List.replicate len cC.cells.toList).flatten++ap.toList.drop (off*M.length+len*M.length))=_;rw[this,pt]
  ·exact h.elim
 ·exact h.elim
theorem akl {t e:TypeId}{len U:Nat}{x y:F}{cz fQ:Value}(bc:P.underlying t=some (.array len e))(ao:ie P e=some U)(d:1<len)(aj:Rep C x cz)(bt:Rep C y fQ)
 (h:Bq len U x y λv=>K v C.r):∃aZ v,(Instr.indexAt t cz fQ).run P C.w= .ok aZ C.w/\Rep C v aZ/\K v C.r:=by
 unfold Bq at h;split at h
 ·rename_i z n c off k j;obtain⟨xz,rh,cA⟩:=h;rw[Rep] at bt;subst bt;rw[Rep] at aj;obtain⟨hC,⟨dK,er⟩,fA,aj⟩:=aj;subst er;refine⟨.pointer (some (dK.add (j.toNat*U))),_,?_,?_,cA⟩
  ·simp[Instr.indexAt,asIntOf,run_underlying bc,Instr.sureAddr,mL ao,xz,rh]
  ·rw[Rep];refine⟨hC,⟨_,rfl⟩,fA,λe pu am an=>⟨(aj e pu am an).1,λhm=> ?_⟩⟩;obtain⟨aKH,b,J,bR,dq⟩:=(aj e pu am an).2 hm;simp at dq;subst dq;exact⟨aKH,b,J,bR,by rw[sZ,aM9]⟩
 ·rename_i cells off k j;obtain⟨xz,rh,cA⟩:=h;rw[Rep] at bt;subst bt;rw[Rep] at aj;obtain⟨b,V,rfl,af,gN⟩:=aj;refine⟨.pointer (some ⟨b,V+off+j.toNat*U,none⟩),_,?_,?_,cA⟩
  ·simp[Instr.indexAt,asIntOf,run_underlying bc,Instr.sureAddr,mL ao,xz,rh,sZ]
  ·rw[Rep];exact⟨b,V,by rw[aM9],af,gN⟩
 ·exact h.elim
theorem akm {t e:TypeId}{len n:Nat}{M:List F}{et:Array (Nat×Operand)}{ρ:Operand->Value}{vs ap:List F}{w:World}
 (ba:nt P t=some M) (bc:P.underlying t=some (.array len e)) (ao:ie P e=some n) (N:aE C vs ((et.toList.map (·.2)).map ρ))
 (hf:oQ M ((et.toList.map (·.1)).map λc=>(c*n,n)) vs=some ap) (d: (vs.all λv=>(cp v).all cV)=true):
 ∃aZ,(Instr.build t (et.map λ(c,x)=>(c,ρ x))).run P w= .ok aZ w/\Rep C (.agg ap) aZ:=by
 obtain⟨c,cC,av,jC,lY,hl,iG,dJ⟩:=sW ba;obtain⟨bO,cd⟩:=rV (C:=C) lY;obtain⟨z,aKO,cY,_⟩:=Gr (C:=C) (λ(c:Nat)=>some (c*n,n)) (et.toList.map (·.1)) _ vs _ M ap cC.cells rfl (by simp) N (by rw[List.filterMap_eq_map'];exact hf) d bO;refine⟨.agg z,?_,by rw[Rep];exact⟨z,rfl,cY⟩⟩;have th: (et.map λ(c,x)=>(c,ρ x)).toList=(et.toList.map (·.1)).zip ((et.toList.map (·.2)).map ρ):=by
  rw[aOm];exact JW _ _
 simp only[Instr.build,Sem.run_bind,sY av jC,Result.andThen_ok,run_underlying bc,mL ao];rw[th,aKO];simp
end
end Go.Abs
namespace Go.Abs
variable [Dr]
section
variable {P:Program} {C:bD} {K:F->List Z->Prop}
theorem dW.val (aA:ci C){I:Sem Value}(h:∃aZ v,I.run P C.w= .ok aZ C.w/\Rep C v aZ/\K v C.r):dW P C (do pure (.value (<-I))) K:=by
 obtain⟨aZ,v,d,G,au⟩:=h;exact dW.akn aA d G au
theorem dW.ri {I:Sem Value}(h:∃aZ v aB,I.run P C.w= .ok aZ aB.w/\Rep aB v aZ/\ci aB/\cm C.r.length C aB/\K v aB.r):dW P C (do pure (.value (<-I))) K:=by
 obtain⟨aZ,v,aB,d,G,au,bv,cx⟩:=h;exact dW.ako au bv d G cx
theorem akp (op:BinOp)(t:TypeId)(oR oS:Operand)(k br:IntKind)(a b:Int)(w:World): (eqGuard op t oR oS (.int k a) (.int br b)).run P w= .ok () w:=by
 cases op<;>simp[eqGuard]
theorem akq (op:BinOp)(t:TypeId)(oR oS:Operand)(a b:ByteArray)(w:World): (eqGuard op t oR oS (.string a) (.string b)).run P w= .ok () w:=by
 cases op<;>simp[eqGuard]
theorem akr (op:BinOp)(t:TypeId)(oR oS:Operand)(a b:Bool)(w:World): (eqGuard op t oR oS (.bool a) (.bool b)).run P w= .ok () w:=by
 cases op<;>simp[eqGuard]
theorem Vl {op:BinOp}{t:TypeId}{x y:F}{cz fQ:Value}{oR oS:Operand}(aj:Rep C x cz)(bt:Rep C y fQ)
 {K:F->Prop} (h:me op x y K):
 ∃aZ v,(do eqGuard op t oR oS cz fQ;binOp op t cz fQ:Sem Value).run P C.w= .ok aZ C.w/\Rep C v aZ/\K v:=by
 unfold me at h;split at h
 ·rename_i k a br b;rw[Rep] at aj bt;subst aj;subst bt;simp only[Sem.run_bind,akp,Result.andThen_ok];split at h
  case h_1=>exact⟨_,_,by simp only[binOp,Op.shift];rw[S (by omega)];rfl,by rw[Rep],h.2⟩
  case h_2=>exact⟨_,_,by simp only[binOp,Op.shift];rw[S (by omega)];rfl,by rw[Rep],h.2⟩
  case h_3=>obtain⟨rfl,h⟩:=h;exact⟨_,_,by simp only[binOp,Op.intArith,ne_eq,aMx,aLi];rfl,by rw[Rep],h⟩
  case h_4=>obtain⟨rfl,h⟩:=h;exact⟨_,_,by simp only[binOp,Op.intArith,ne_eq,aMx,aLi];rfl,by rw[Rep],h⟩
  case h_5=>obtain⟨rfl,h⟩:=h;exact⟨_,_,by simp only[binOp,Op.intArith,ne_eq,aMx,aLi];rfl,by rw[Rep],h⟩
  case h_6=>obtain⟨rfl,h0,h⟩:=h;exact⟨_,_,by simp only[binOp,Op.intDiv,ne_eq,aMx,aLi,h0];rfl,by rw[Rep],h⟩
  case h_7=>obtain⟨rfl,h0,h⟩:=h;exact⟨_,_,by simp only[binOp,Op.intDiv,ne_eq,aMx,aLi,h0];rfl,by rw[Rep],h⟩
  case h_8=>obtain⟨rfl,h⟩:=h;exact⟨_,_,by simp only[binOp,Op.intBits,ne_eq,aMx,aLi];rfl,by rw[Rep],h⟩
  case h_9=>obtain⟨rfl,h⟩:=h;exact⟨_,_,by simp only[binOp,Op.intBits,ne_eq,aMx,aLi];rfl,by rw[Rep],h⟩
  case h_10=>obtain⟨rfl,h⟩:=h;exact⟨_,_,by simp only[binOp,Op.intBits,ne_eq,aMx,aLi];rfl,by rw[Rep],h⟩
  case h_11=>obtain⟨rfl,h⟩:=h;exact⟨_,_,by simp only[binOp,Op.intCmp,ne_eq,aMx,aLi];rfl,by rw[Rep],h⟩
  case h_12=>obtain⟨rfl,h⟩:=h;exact⟨_,_,by simp only[binOp,Op.intCmp,ne_eq,aMx,aLi];rfl,by rw[Rep],h⟩
  case h_13=>obtain⟨rfl,h⟩:=h;exact⟨_,_,by simp only[binOp,Op.intCmp,ne_eq,aMx,aLi];rfl,by rw[Rep],h⟩
  case h_14=>obtain⟨rfl,h⟩:=h;exact⟨_,_,by simp only[binOp,Op.intCmp,ne_eq,aMx,aLi];rfl,by rw[Rep],h⟩
  case h_15=>obtain⟨rfl,h⟩:=h;exact⟨_,_,by simp only[binOp,Op.intCmp,ne_eq,aMx,aLi];rfl,by rw[Rep],h⟩
  case h_16=>obtain⟨rfl,h⟩:=h;exact⟨_,_,by simp only[binOp,Op.intCmp,ne_eq,aMx,aLi];rfl,by rw[Rep],h⟩
  case h_17=>exact h.elim
 ·rename_i a b;rw[Rep] at aj bt;subst aj;subst bt;simp only[Sem.run_bind,akq,Result.andThen_ok];split at h
  case h_1=>exact⟨_,_,by simp only[binOp,Op.stringOp];rfl,by rw[Rep],h⟩
  case h_2=>exact⟨_,_,by simp only[binOp,Op.stringOp];rfl,by rw[Rep],h⟩
  case h_3=>exact⟨_,_,by simp only[binOp,Op.stringOp];rfl,by rw[Rep],h⟩
  case h_4=>exact⟨_,_,by simp only[binOp,Op.stringOp];rfl,by rw[Rep],h⟩
  case h_5=>exact⟨_,_,by simp only[binOp,Op.stringOp];rfl,by rw[Rep],h⟩
  case h_6=>exact⟨_,_,by simp only[binOp,Op.stringOp];rfl,by rw[Rep],h⟩
  case h_7=>exact⟨_,_,by simp only[binOp,Op.stringOp];rw[S (by omega)];rfl,by rw[Rep],h.2⟩
  case h_8=>exact h.elim
 ·exact h.elim
theorem Vm {py:BinOp}{t:TypeId}{oR oS:Operand}{cz fQ:Value}{am:List F}{neg:Bool}(dL:py=if neg then .neq else .eql)(bc:P.underlying t=some .bool)
 (N:aE C am [cz,fQ]) (h:aM (.Gs neg) am C.r K):∃aZ v,(do eqGuard py t oR oS cz fQ;binOp py t cz fQ:Sem Value).run P C.w= .ok aZ C.w/\Rep C v aZ/\K v C.r:=by
 obtain⟨a,b,rfl,aC,af⟩:=mf N;cases a with
 |bool p=>
  cases b with
  |bool q=>
   simp only[aM] at h;rw[Rep] at aC af;refine⟨.bool ((p==q) != neg),_,?_,by rw[Rep],h⟩;simp only[aC,af,Sem.run_bind,akr,Result.andThen_ok];cases neg<;>simp at dL<;>subst dL<;>simp[binOp,Op.equal,Op.maxDepth,run_equalIn_bool' C.w 9999 t _ _ bc]
  |_=>simp[aM] at h
 |_=>simp[aM] at h
theorem Vn {py:BinOp}{t:TypeId}{oR oS:Operand}{cz fQ:Value}{am:List F}{neg:Bool}{Y:List cW}{pz:Array Field}(dL:py=if neg then .neq else .eql)
 (bc:P.underlying t=some (.struct pz)) (mg:flatK P 20 t=some Y) (aw:P.eqGuardType P.depth t=false)
 (N:aE C am [cz,fQ]) (h:aM (.rj neg Y) am C.r K):∃aZ v,(do eqGuard py t oR oS cz fQ;binOp py t cz fQ:Sem Value).run P C.w= .ok aZ C.w/\Rep C v aZ/\K v C.r:=by
 obtain⟨a,b,rfl,aC,af⟩:=mf N;cases a with
 |agg p=>
  cases b with
  |agg q=>
   simp only[aM] at h;obtain⟨es,ig,O⟩:=h;rw[Rep] at aC af;obtain⟨hD,rfl,xn⟩:=aC;obtain⟨nZ,rfl,Ge⟩:=af;have eB:hq P t=some true:=by simp[hq,bc]
   have he:=Ou (C:=C) C.w 20 10000 t Y p q hD.toList nZ.toList (.agg hD) (.agg nZ) mg (by omega) es ig xn Ge (.inl ⟨eB,rfl⟩) (.inl ⟨eB,rfl⟩);refine⟨.bool (ed p q != neg),_,?_,by rw[Rep],O⟩;have zm: (eqGuard py t oR oS (.agg hD) (.agg nZ)).run P C.w= .ok () C.w:=by
    cases py<;>simp[eqGuard,aw]
   simp only[Sem.run_bind,zm,Result.andThen_ok];cases neg<;>simp at dL<;>subst dL<;>simp[binOp,Op.equal,Op.maxDepth,he]
  |_=>simp[aM] at h
 |_=>simp[aM] at h
theorem Vo (w:World)(n:Nat)(t e:TypeId)(a:Addr)(l J:Nat)(bc:P.underlying t=some (.slice e)): (Op.equalIn (n+1) t (.slice (some a) l J) (.slice none 0 0)).run P w= .ok false w:=by
 rw[Op.equalIn];simp only[Sem.run_bind,run_underlying bc,Result.andThen_ok,Sem.run_pure]
theorem Vp {py:BinOp}{t e:TypeId}{oR oS:Operand}{cz:Value}{x:F}{U:Nat}{neg:Bool}(dL:py=if neg then .neq else .eql)(aA:ci C)(bc:P.underlying t=some (.slice e))(aj:Rep C x cz)
 (h:Br C.r U neg x λv=>K v C.r):∃aZ v,(do eqGuard py t oR oS cz (.slice none 0 0);binOp py t cz (.slice none 0 0):Sem Value).run P C.w= .ok aZ C.w/\Rep C v aZ/\K v C.r:=by
 unfold Br at h;split at h
 ·rename_i ys kN;obtain⟨cy,J,rfl,⟨rfl,rfl⟩|⟨a,vs,rfl,_,_⟩⟩:=JU aA aj kN
  ·simp at h
  ·refine⟨.bool neg,_,?_,by rw[Rep],h.2⟩;have zm: (eqGuard py t oR oS (.slice (some a) ys.length J) (.slice none 0 0)).run P C.w= .ok () C.w:=by
    cases py<;>simp[eqGuard]
   simp only[Sem.run_bind,zm,Result.andThen_ok];cases neg<;>simp at dL<;>subst dL<;>simp[binOp,Op.equal,Op.maxDepth,Vo C.w 9999 t e _ _ _ bc]
 ·exact h.elim
theorem Vq {C:bD}:∀{ys:List (List F)} {jJ:List Int} {vs:List Value},zn ys=some jJ->aE C ys.flatten vs->vs=jJ.map (Value.int .u8)
 | [],jJ,vs,h,z=>by simp[zn] at h;subst h;simpa[aE] using z
 |y::ys,jJ,vs,h,z=>by
  unfold zn at h;split at h
  ·cases ‹_::_=[]›
  ·rename_i n ar nx;cases nx;split at h
   ·rename_i lk zo;simp at h;subst h;simp only[aLS,aLx,aLV] at z;rw[aE] at z;obtain⟨v,bS,rfl,d,G⟩:=z;rw[Rep] at d;rw[d,Vq zo G];rfl
   ·cases h
  ·cases h
theorem aks (aA:ci C){I B e:TypeId}{x:F}{cz:Value}(ao:P.underlying I=some (.slice e))(he:P.underlying e=some (.int .u8))(ay:P.underlying B=some .string)(aj:Rep C x cz)
 (h:zp C.r x λv=>K v C.r):∃aZ v,(convert I B cz).run P C.w= .ok aZ C.w/\Rep C v aZ/\K v C.r:=by
 simp only[zp] at h;split at h
 ·exact h.elim
 ·rename_i ys kN;split at h
  ·rename_i jJ ur;obtain⟨cy,J,rfl,xw⟩:=JU aA aj kN;refine⟨.string (strOf jJ),_,?_,by rw[Rep],h⟩;rw[run_convert_bytes_string _ _ _ _ _ _ _ ao he ay];rcases xw with ⟨rfl,rfl⟩|⟨a,vs,rfl,jI,nw⟩
   ·simp[zn] at ur;subst ur;simp[Conv.bytesToString,strOf]
   ·have an:=Vq ur jI.kO;have hl:=jI.length;rw[aNn] at hl;rw[<-hl];exact run_bytesToString _ _ _ _ jJ (by rw[<-an];exact run_loadCells_list _ _ vs nw)
  ·exact h.elim
theorem akt (aA:ci C){I e:TypeId}{x:F}{cz:Value}(ao:P.underlying I=some (.slice e))(he:P.underlying e=some (.int .u8))(aj:Rep C x cz)(h:zq C.r x K):
 ∃aZ v aB,(convert I I cz).run P C.w= .ok aZ aB.w/\Rep aB v aZ/\ci aB/\cm C.r.length C aB/\K v aB.r:=by
 unfold zq at h;split at h
 ·rename_i z n off len;split at h
  ·rename_i cO U am hrow;obtain⟨aH,rfl,rfl,iG,gN,O⟩:=h;rw[Rep] at aj;obtain⟨hC,_,fA,aj⟩:=aj;obtain⟨_,p,ak,an⟩:=(aj cO U am hrow).2 aH;rcases aA.ag hrow with ⟨_,rfl⟩|⟨b,cap,ap,hT,bO,cd,fk,hB,jE,jF⟩
   ·simp at aH;omega
   ·rw[hT] at ak;simp at ak;subst ak;simp only[oH] at an;obtain⟨⟨qp,cy,aJn⟩,J,rfl,xm,JY,vL,pw,_⟩:=an;simp only at JY vL pw;subst JY;subst vL;obtain⟨rfl,_⟩:=pw trivial;have uB:C.w.shape? qp=some (cO,ap.size):=by simp[World.shape?,cd]
    have mQ:∀k,k≠qp->(C.w.freeze ⟨qp,ap.size,none⟩ 1).heap[k]? =C.w.heap[k]? :=by
     intro k O;simp[World.freeze,aMw,O.symm]
    have gi: (C.w.freeze ⟨qp,ap.size,none⟩ 1).heap[qp]? =some (.cells ap cO (ap.size,ap.size+1)):=by
     simp[World.freeze,aMw,cd]
    have nw:∀V,(C.w.freeze ⟨qp,ap.size,none⟩ 1).cell? ⟨qp,V,none⟩=C.w.cell? ⟨qp,V,none⟩:=by
     intro V;simp[World.cell?,gi,cd]
    have Bt: (C.w.freeze ⟨qp,ap.size,none⟩ 1).heap.size=C.w.heap.size:=by simp[World.freeze]
    have Bu:z<C.bu.length:=by rw[aA.dw];exact fA
    have pA:∀{k:Nat},k≠z->(C.bu.set z none)[k]? =C.bu[k]? :=λhne=>by rw[aKQ,S (λe=>hne e.symm)]
    have Bv: (C.bu.set z none)[z]? =some none:=by rw[aKQ,Rc rfl,Rc Bu]
    have qq:∀{k:Nat} {q:Nat×Nat},(C.bu.set z none)[k]? =some (some q)->k≠z/\C.bu[k]? =some (some q):=by
     intro k q O
     by_cases gh:k=z
     ·subst gh;rw[Bv] at O;simp at O
     ·rw[pA gh] at O;exact⟨gh,O⟩
    have later:cm C.r.length C ⟨C.r.set z .fP,C.bu.set z none,C.bY,C.w.freeze ⟨qp,ap.size,none⟩ 1,C.bZ⟩:=by
     refine⟨rfl,rfl,rfl,by rw[Bt];exact aKM _,λk O bp=>mQ k λOH=> ?_,λk eE dR O=> .inl ⟨k,dR,(qq O).2⟩,rfl,rfl,by simp,λk bK pu mM O gl=> ?_,λk li O gl=> ?_,λ_=>aKM _⟩
     ·subst OH;exact bp z cap hT
     ·by_cases gh:k=z
      ·subst gh;simp only[aKQ,aK5,fA] at gl;simp at gl
      ·simp only[aKQ] at gl;rw[S (λe=>gh e.symm)] at gl;exact⟨mM,gl,aKM _,λ_=>pA gh⟩
     ·by_cases gh:k=z
      ·subst gh;simp only[aKQ,aK5,fA] at gl;simp at gl
      ·simp only[aKQ] at gl;rw[S (λe=>gh e.symm)] at gl;exact⟨li,gl,pA gh⟩
    refine⟨.slice (some ⟨qp,0,none⟩) len J,.pure U am,⟨C.r.set z .fP,C.bu.set z none,C.bY,C.w.freeze ⟨qp,ap.size,none⟩ 1,C.bZ⟩,?_,?_,⟨aA.bZ,by simp[aA.dw],λk bG O=> ?_,λk br eE c1 c2 d G=> ?_,λeE jX=>by rw[Bt];exact aA.bY eE jX⟩,later,O⟩
    ·simp[convert,run_underlying ao,run_underlying he,markStringish,uB]
    ·rw[Rep];refine⟨_,J,by rw[<-aH],by rw[<-aH];exact xm,.inr ⟨qp,0,rfl,⟨by rw[Bt];exact aA.lt hT,bO,λk dR O=> ?_⟩,?_⟩⟩
     ·obtain⟨aKH,bR⟩:=qq O;exact aKH (aA.inj k z qp dR cap bR hT)
     ·obtain⟨aKH,bR⟩:=Bw.1 (dh.qr qp U 0 am gN jF);exact Bw.2 ⟨aKH,bR.move later.ext.p λj _=>nw _⟩
    ·by_cases gh:k=z
     ·subst gh;simp only[aKQ,aK5,fA] at O;simp at O;subst O;exact Bv
     ·have gj:C.r[k]? =some bG:=by
       simp only[aKQ] at O;rw[S (λe=>gh e.symm)] at O;exact O
      refine dQ.move later.ext rfl (pA gh) (λeE dR jX=>mQ eE λaku=> ?_) (aA.r k bG gj);subst aku;exact gh (aA.inj k z eE dR cap jX hT)
    ·exact aA.inj k br eE c1 c2 (qq d).2 (qq G).2
  ·exact h.elim
 ·exact h.elim
theorem Vr {V:Oper}{Du:gc}{aq:List Operand}(ad:pB P V=some (Du,aq))(JZ:∀f,Du≠ .call f)(aA:ci C)(ρ:Operand->Value)(Vs:∀v,ρ (.const v)=v){am:List F}
 (N:aE C am (aq.map ρ)) (h:aM Du am C.r K):dW P C (execOp ρ V) K:=by
 obtain⟨dst,op,type,J0,after,guard⟩:=V;unfold pB at ad;simp only at ad;split at ad
 ·
  simp at ad;obtain⟨rfl,rfl⟩:=ad;obtain⟨a,rfl,aC⟩:=iu N;exact⟨.value _,_,a,C,rfl,.inl rfl,aC,aA,cm.refl C,h⟩
 ·
  simp at ad;obtain⟨rfl,rfl⟩:=ad;obtain⟨a,rfl,aC⟩:=iu N;exact⟨.value _,_,a,C,rfl,.inl rfl,aC,aA,cm.refl C,h⟩
 ·
  simp at ad;obtain⟨rfl,rfl⟩:=ad;obtain⟨a,b,J,rfl,aC,af,ad⟩:=J1 N;cases a<;>simp only[aM] at h;rename_i t;rw[Rep] at aC;cases t
  ·exact⟨.value _,_,J,C,by simp only[execOp,aC,asBool,Sem.run_bind,Sem.run_pure,Result.andThen_ok];rfl,.inl rfl,ad,aA,cm.refl C,h⟩
  ·exact⟨.value _,_,b,C,by simp only[execOp,aC,asBool,Sem.run_bind,Sem.run_pure,Result.andThen_ok];rfl,.inl rfl,af,aA,cm.refl C,h⟩
 ·
  split at ad
  ·rename_i t M ba;simp at ad;obtain⟨rfl,rfl⟩:=ad;rw[Gt N] at h;exact dW.ri (akv aA ba h)
  ·cases ad
 ·
  split at ad
  ·rename_i t x n ao;simp at ad;obtain⟨rfl,rfl⟩:=ad;obtain⟨a,rfl,aC⟩:=iu N;simp only[aM] at h;exact dW.ri (akw aA aC h.1 h.2.1 h.2.2)
  ·cases ad
 ·
  split at ad
  ·rename_i t et M pz ba bc;split at ad
   ·rename_i sc ak;split at ad
    ·rename_i hall;simp only[aLj,aLH] at ad;obtain⟨rfl,rfl⟩:=ad;simp only[aM] at h;split at h
     ·rename_i ap hf;obtain⟨aZ,aKO,cY⟩:=akx (P:=P) (w:=C.w) ba bc ak hall N hf h.1;exact dW.val aA ⟨aZ,_,aKO,cY,h.2⟩
     ·exact h.elim
    ·cases ad
   ·cases ad
  ·rename_i t et M len e ba bc;split at ad
   ·rename_i n ao;simp only[aLj,aLH] at ad;obtain⟨rfl,rfl⟩:=ad;simp only[aM] at h;split at h
    ·rename_i ap hf;obtain⟨aZ,aKO,cY⟩:=akm (P:=P) (w:=C.w) ba bc ao N hf h.1;exact dW.val aA ⟨aZ,_,aKO,cY,h.2⟩
    ·exact h.elim
   ·cases ad
  ·cases ad
 ·
  split at ad
  ·rename_i t len et _ e bc;split at ad
   ·rename_i M ba;split at ad
    ·rename_i h0;simp only[aLj,aLH] at ad;obtain⟨rfl,rfl⟩:=ad;rw[Gt N] at h;obtain⟨rfl,Bx⟩:=h0;have iK:et= #[]:=Array.eq_empty_of_size_eq_zero Bx;subst iK;obtain⟨c,cC,av,jC,lY,hl,iG,dJ⟩:=sW ba;obtain⟨aKH,bR⟩:=aky aA (.cells #[] e);refine dW.ri ⟨.slice (some ⟨C.w.heap.size,0,none⟩) 0 0,.bH,_,?_,by rw[Rep];exact⟨_,rfl⟩,aKH,bR,h⟩;have iV:Array.range 0= #[]:=rfl;simp[Instr.buildSlice,run_underlying bc,sizeOf,typeInfo,av,Instr.fill,newRow,iV]
    split at ad
    ·rename_i hl;simp only[aLj,aLH] at ad;obtain⟨rfl,rfl⟩:=ad;simp only[aM] at h;split at h
     ·rename_i ar hf;exact dW.ri (akz aA bc ba hl N hf h.1 h.2)
     ·exact h.elim
    ·cases ad
   ·cases ad
  ·cases ad
 ·
  split at ad
  ·rename_i t l J e bc;split at ad
   ·rename_i M jW ba af;split at ad
    ·cases ad
    simp at ad;obtain⟨rfl,rfl⟩:=ad;obtain⟨a,b,rfl,aC,jX⟩:=mf N;cases a<;>simp only[aM] at h;cases b<;>simp only at h;rw[Rep] at aC jX;simp only[execOp,aC,jX];exact dW.ri (ajG aA bc ba af h.1 h.2.1 h.2.2.1 h.2.2.2.1 h.2.2.2.2)
   ·cases ad
  ·cases ad
 ·
  split at ad
  ·rename_i t x n eB ao;simp at ad;obtain⟨rfl,rfl⟩:=ad;obtain⟨a,rfl,aC⟩:=iu N;exact dW.val aA (Vt aA aC eB ao h)
  ·rename_i t x n eB;simp at ad;obtain⟨rfl,rfl⟩:=ad;obtain⟨a,rfl,aC⟩:=iu N;exact dW.val aA (Vu aA aC eB h)
  ·cases ad
 ·
  split at ad
  ·rename_i t x y n ao;simp at ad;obtain⟨rfl,rfl⟩:=ad;obtain⟨a,b,rfl,aC,af⟩:=mf N;obtain⟨aB,aKO,cY,fY,fc⟩:=akA aA aC af ao h;exact dW.unit cY fY aKO fc
  ·cases ad
 ·
  simp at ad;obtain⟨rfl,rfl⟩:=ad;obtain⟨a,rfl,aC⟩:=iu N;cases a<;>simp only[aM] at h
  ·have uC:=aC;rw[Rep] at uC;obtain⟨_,⟨dK,e⟩,_⟩:=uC;refine⟨.value _,_,_,C,?_,.inl rfl,aC,aA,cm.refl C,h⟩;simp[execOp,e]
  ·have uC:=aC;rw[Rep] at uC;obtain⟨b,V,e,_⟩:=uC;refine⟨.value _,_,_,C,?_,.inl rfl,aC,aA,cm.refl C,h⟩;simp[execOp,e]
 ·
  rename_i py t x y aJo;split at ad
  ·simp at ad;obtain⟨rfl,rfl⟩:=ad;obtain⟨a,b,rfl,aC,af⟩:=mf N;exact dW.val aA (Vl (K:=λv=>K v C.r) aC af h)
  ·simp at ad;obtain⟨rfl,rfl⟩:=ad;obtain⟨a,b,rfl,aC,af⟩:=mf N;exact dW.val aA (Vl (K:=λv=>K v C.r) aC af h)
  ·rename_i bc;split at ad
   ·simp at ad;obtain⟨rfl,rfl⟩:=ad;exact dW.val aA (Vm (neg:=false) rfl bc N h)
   ·simp at ad;obtain⟨rfl,rfl⟩:=ad;exact dW.val aA (Vm (neg:=true) rfl bc N h)
   ·cases ad
  ·rename_i pz bc;split at ad
   ·rename_i Y mg;split at ad
    ·cases ad
    rename_i aw;split at ad
    ·simp at ad;obtain⟨rfl,rfl⟩:=ad;exact dW.val aA (Vn (neg:=false) rfl bc mg (by simpa using aw) N h)
    ·simp at ad;obtain⟨rfl,rfl⟩:=ad;exact dW.val aA (Vn (neg:=true) rfl bc mg (by simpa using aw) N h)
    ·cases ad
   ·cases ad
  ·rename_i e bc;split at ad
   ·simp at ad;obtain⟨rfl,rfl⟩:=ad;obtain⟨a,rfl,aC⟩:=iu N;simp only[aM] at h;have hh:=Vp (oR:=x) (oS:= .const (.slice none 0 0)) (neg:=false) rfl aA bc aC h;exact dW.val aA (by rw[Vs];exact hh)
   ·simp at ad;obtain⟨rfl,rfl⟩:=ad;obtain⟨a,rfl,aC⟩:=iu N;simp only[aM] at h;have hh:=Vp (oR:=x) (oS:= .const (.slice none 0 0)) (neg:=true) rfl aA bc aC h;exact dW.val aA (by rw[Vs];exact hh)
   ·cases ad
  ·cases ad
 ·
  simp at ad;obtain⟨rfl,rfl⟩:=ad;obtain⟨a,rfl,aC⟩:=iu N;cases a<;>simp only[aM] at h;rw[Rep] at aC;exact dW.val aA ⟨_,_,by simp only[aC,Op.unary];rfl,by rw[Rep],h⟩
 ·
  simp at ad;obtain⟨rfl,rfl⟩:=ad;obtain⟨a,rfl,aC⟩:=iu N;cases a<;>simp only[aM] at h;rw[Rep] at aC;exact dW.val aA ⟨_,_,by simp only[aC,Op.unary,Op.intArith];rfl,by rw[Rep],h⟩
 ·
  rename_i I B x;split at ad
  ·rename_i Y aJp ao ay;simp at ad;obtain⟨rfl,rfl⟩:=ad;obtain⟨a,rfl,aC⟩:=iu N;cases a<;>simp only[aM] at h;rw[Rep] at aC;refine dW.val aA ⟨_,_,?_,by rw[Rep],h⟩;simp[aC,convert,run_underlying ao,run_underlying ay,Conv.intToInt]
  ·rename_i e ao ay;split at ad
   ·rename_i he;simp at ad;obtain⟨rfl,rfl⟩:=ad;obtain⟨a,rfl,aC⟩:=iu N;simp only[aM] at h;exact dW.val aA (aks aA ao he ay aC h)
   ·cases ad
  ·rename_i e cO ao ay;split at ad
   ·rename_i OI;subst OI;split at ad
    ·rename_i he;simp at ad;obtain⟨rfl,rfl⟩:=ad;obtain⟨a,rfl,aC⟩:=iu N;simp only[aM] at h;exact dW.ri (akt aA ao he aC h)
    ·cases ad
   ·cases ad
  ·cases ad
 ·
  rename_i I x f;split at ad
  ·rename_i pz bc;split at ad
   ·rename_i pC hf;split at ad
    ·rename_i n ao;split at ad
     ·cases ad
     rename_i aH;simp at ad;obtain⟨rfl,rfl⟩:=ad;obtain⟨a,rfl,aC⟩:=iu N;simp only[aM] at h;cases a<;>simp only[Gu] at h
     ·rename_i z m c off;rw[Rep] at aC;obtain⟨hC,⟨dK,er⟩,fA,aj⟩:=aC;refine dW.val aA ⟨.pointer (some (dK.add pC.offset)),_,?_,?_,h⟩
      ·simp[Instr.fieldAt,Instr.sureAddr,fieldPlace,run_underlying bc,hf,er,mL ao,aH]
      ·rw[Rep];refine⟨hC,⟨_,rfl⟩,fA,λe U am an=>⟨(aj e U am an).1,λhm=> ?_⟩⟩;obtain⟨aKH,b,J,bR,dq⟩:=(aj e U am an).2 hm;rw[er] at dq;simp at dq;subst dq;exact⟨aKH,b,J,bR,by rw[sZ,aM9]⟩
     ·rename_i cells off;rw[Rep] at aC;obtain⟨b,V,er,af,gN⟩:=aC;refine dW.val aA ⟨.pointer (some ⟨b,V+off+pC.offset,none⟩),_,?_,?_,h⟩
      ·simp[Instr.fieldAt,Instr.sureAddr,fieldPlace,run_underlying bc,hf,er,mL ao,aH,sZ]
      ·rw[Rep];exact⟨b,V,by rw[aM9],af,gN⟩
    ·cases ad
   ·cases ad
  ·cases ad
 ·
  rename_i I x f;split at ad
  ·rename_i pz bc;split at ad
   ·rename_i pC hf;split at ad
    ·rename_i n eB ao;simp at ad;obtain⟨rfl,rfl⟩:=ad;obtain⟨a,rfl,aC⟩:=iu N;cases a<;>simp only[aM] at h;rename_i ap;rw[Rep] at aC;obtain⟨vs,er,an⟩:=aC;have hl:=an.length;obtain⟨v,aK6,iT⟩:=Gd (P:=P) (w:=C.w) (off:=pC.offset) (vs:=vs.toList) eB ao (by omega) (by intro h;cases h);rcases iT with ⟨_,rfl⟩|⟨G,_⟩
     ·refine dW.val aA ⟨.agg ((vs.toList.drop pC.offset).take n).toArray,_,?_,?_,h.2⟩
      ·simp only[Instr.field,Sem.run_bind,run_underlying bc,Result.andThen_ok,hf,er,asAgg,Sem.run_pure];simpa using aK6
      ·rw[Rep];exact⟨_,rfl,by simpa using (an.drop pC.offset).take n⟩
     ·rw[eB] at G;cases G
    ·rename_i n eB;simp at ad;obtain⟨rfl,rfl⟩:=ad;obtain⟨a,rfl,aC⟩:=iu N;cases a<;>simp only[aM] at h;rename_i ap;rw[Rep] at aC;obtain⟨vs,er,an⟩:=aC;obtain⟨v,aKH,bR⟩:=an.oL pC.offset h.1;refine dW.val aA ⟨v,_,?_,bR,h.2⟩;have xo:vs[pC.offset]? =some v:=by simpa using aKH
     simp[Instr.field,run_underlying bc,hf,er,asAgg,part,Bi eB,xo]
    ·cases ad
   ·cases ad
  ·cases ad
 ·
  rename_i t x c;split at ad
  ·rename_i e bc;split at ad
   ·rename_i n ao;simp at ad;obtain⟨rfl,rfl⟩:=ad;obtain⟨a,b,rfl,aC,af⟩:=mf N;exact dW.val aA (ajM aA bc ao aC af h)
   ·cases ad
  ·rename_i len e bc;split at ad
   ·rename_i n ao;split at ad
    ·rename_i jK;simp at ad;obtain⟨rfl,rfl⟩:=ad;obtain⟨a,b,rfl,aC,af⟩:=mf N;exact dW.val aA (akl bc ao jK aC af h)
    ·cases ad
   ·cases ad
  ·cases ad
 ·
  rename_i t x c;split at ad
  ·rename_i bc;simp at ad;obtain⟨rfl,rfl⟩:=ad;obtain⟨a,b,rfl,aC,af⟩:=mf N;cases a<;>simp only[aM] at h;cases b<;>simp only at h;rename_i I k n;simp only[Rep] at aC af;obtain⟨h0,d,O⟩:=h;have aI:n.toNat<I.size:=by omega
   refine dW.val aA ⟨_,_,?_,by rw[Rep],O⟩;have bF:I[n.toNat]? =some (I.data.getD n.toNat 0):=by
    rw[getElem?_pos I n.toNat aI];have G:n.toNat<I.data.size:=aI;simp only[Array.getD,G,aN0];rfl
   simp[aC,af,Instr.index,asIntOf,run_underlying bc,h0,bF]
  ·rename_i len e bc;split at ad
   ·rename_i n eB ao;simp at ad;obtain⟨rfl,rfl⟩:=ad;obtain⟨a,b,rfl,aC,af⟩:=mf N;cases a<;>simp only[aM] at h;cases b<;>simp only at h;rename_i ap k j;obtain⟨⟨xz,rh⟩,aI,O⟩:=h;simp only[Rep] at aC af;obtain⟨vs,er,an⟩:=aC;have hl:=an.length;obtain⟨v,aK6,iT⟩:=Gd (P:=P) (w:=C.w) (off:=j.toNat*n) (vs:=vs.toList) eB ao (by omega) (by intro h;cases h);rcases iT with ⟨_,rfl⟩|⟨G,_⟩
    ·refine dW.val aA ⟨.agg ((vs.toList.drop (j.toNat*n)).take n).toArray,_,?_,?_,O⟩
     ·simp only[Instr.index,af,asIntOf,Sem.run_bind,Sem.run_pure,run_underlying bc,Result.andThen_ok,er,xz,rh,aOn,aK5,mL ao];simpa using aK6
     ·rw[Rep];exact⟨_,rfl,by simpa using (an.drop (j.toNat*n)).take n⟩
    ·rw[eB] at G;cases G
   ·rename_i eB ao;simp at ad;obtain⟨rfl,rfl⟩:=ad;obtain⟨a,b,rfl,aC,af⟩:=mf N;cases a<;>simp only[aM] at h;cases b<;>simp only at h;rename_i ap k j;obtain⟨⟨xz,rh⟩,aI,O⟩:=h;simp only[Rep] at aC af;obtain⟨vs,er,an⟩:=aC;obtain⟨v,aKH,bR⟩:=an.oL j.toNat aI;refine dW.val aA ⟨v,_,?_,bR,O⟩;have xo:vs[j.toNat]? =some v:=by simpa using aKH
    simp[Instr.index,af,asIntOf,run_underlying bc,er,xz,rh,mL ao,part,Bi eB,xo]
   ·cases ad
  ·cases ad
 ·
  rename_i t x ft av;have et:∀{x:F} {vs:List F},am=x::vs->aE C vs ((ft.toList++av.toList).map ρ)->
   ∃zr zs:Option F,((∃l fX,zr=some l/\ft.map ρ=some fX/\Rep C l fX)\/(zr=none/\ft.map ρ=none))/\((∃l fX,zs=some l/\av.map ρ=some fX/\Rep C l fX)\/(zs=none/\av.map ρ=none))/\
    vs=zr.toList++zs.toList/\ft.isSome=zr.isSome/\av.isSome=zs.isSome:=by
   intro x vs _ an;cases ft with
   |none=>
    cases av with
    |none=>
     have:=Gt (C:=C) (as:=vs) (by simpa using an);subst this;exact⟨none,none,.inr ⟨rfl,rfl⟩,.inr ⟨rfl,rfl⟩,rfl,rfl,rfl⟩
    |some b=>
     obtain⟨vH,rfl,af⟩:=iu (C:=C) (as:=vs) (by simpa using an);exact⟨none,some vH,.inr ⟨rfl,rfl⟩,.inl ⟨vH,_,rfl,rfl,af⟩,rfl,rfl,rfl⟩
   |some a=>
    cases av with
    |none=>
     obtain⟨Gv,rfl,aC⟩:=iu (C:=C) (as:=vs) (by simpa using an);exact⟨some Gv,none,.inl ⟨Gv,_,rfl,rfl,aC⟩,.inr ⟨rfl,rfl⟩,rfl,rfl,rfl⟩
    |some b=>
     obtain⟨Gv,vH,rfl,aC,af⟩:=mf (C:=C) (as:=vs) (by simpa using an);exact⟨some Gv,some vH,.inl ⟨Gv,_,rfl,rfl,aC⟩,.inl ⟨vH,_,rfl,rfl,af⟩,rfl,rfl,rfl⟩
  have first:∀{ys:List Operand},aE C am ((x::ys).map ρ)-> ∃a as,am=a::as/\Rep C a (ρ x)/\aE C as (ys.map ρ):=by
   intro ys an;cases am with
   |nil=>rw[aKP,aE] at an;cases an
   |cons a as=>
    rw[aKP,aE] at an;obtain⟨v,bS,he,d,G⟩:=an;simp at he;obtain⟨rfl,rfl⟩:=he;exact⟨a,as,rfl,d,G⟩
  split at ad
  ·rename_i e bc;split at ad
   ·rename_i n ao;simp only[aLj,aLH] at ad;obtain⟨rfl,rfl⟩:=ad;obtain⟨a,as,rfl,aC,an⟩:=first N
    obtain⟨zr,zs,nu,xk,rfl,bF,bK⟩:=et rfl an;refine dW.val aA (ajO aC bc ao nu xk ?_);rw[bF,bK] at h;cases zr<;>cases zs<;>exact h
   ·cases ad
  ·rename_i bc;simp only[aLj,aLH] at ad;obtain⟨rfl,rfl⟩:=ad;obtain⟨a,as,rfl,aC,an⟩:=first N
   obtain⟨zr,zs,nu,xk,rfl,bF,bK⟩:=et rfl an;refine dW.val aA (ajP aC bc nu xk ?_);rw[bF,bK] at h;cases zr<;>cases zs<;>exact h
  ·cases ad
 ·
  simp at ad;obtain⟨rfl,rfl⟩:=ad;obtain⟨a,rfl,aC⟩:=iu N;cases a<;>simp only[aM] at h;rename_i c ap;rw[Rep] at aC;obtain⟨vs,er,an⟩:=aC;obtain⟨v,aKH,bR⟩:=an.oL _ h.1;refine dW.val aA ⟨v,_,?_,bR,h.2⟩;have xo:vs[c]? =some v:=by simpa using aKH
  simp[Instr.extract,er,xo]
 ·
  rename_i x t;split at ad
  ·rename_i e bc;simp at ad;obtain⟨rfl,rfl⟩:=ad;obtain⟨a,rfl,aC⟩:=iu N;simp only[aM] at h;split at h
   ·rename_i l hl;have an:∃cy J,ρ x= .slice cy l J:=by
     cases a<;>simp[td] at hl<;>subst hl
     case pure=>rw[Rep] at aC;obtain⟨cy,J,e,_⟩:=aC;exact⟨cy,J,e⟩
     case bH=>rw[Rep] at aC;obtain⟨cy,e⟩:=aC;exact⟨cy,0,e⟩
     case own=>rw[Rep] at aC;obtain⟨_,⟨cy,J,e⟩,_⟩:=aC;exact⟨cy,J,e⟩
    obtain⟨cy,J,e⟩:=an;refine⟨.value (goInt l),goInt l,_,C,?_,.inl rfl,?_,aA,cm.refl C,h⟩
    ·simp[execOp,resolve,invoke,builtin,Builtin.len_,run_underlying bc,e]
    ·rw[Rep];rfl
   ·exact h.elim
  ·rename_i bc;simp at ad;obtain⟨rfl,rfl⟩:=ad;obtain⟨a,rfl,aC⟩:=iu N;cases a<;>simp only[aM] at h;rw[Rep] at aC;rename_i I;refine⟨.value (goInt I.size),goInt I.size,_,C,?_,.inl rfl,?_,aA,cm.refl C,h⟩
   ·simp[execOp,resolve,invoke,builtin,Builtin.len_,run_underlying bc,aC]
   ·rw[Rep];rfl
  ·rename_i cZ qm bc;simp at ad;obtain⟨rfl,rfl⟩:=ad;obtain⟨a,rfl,aC⟩:=iu N;cases a<;>simp only[aM] at h;rename_i z;split at h
   ·rename_i aK Y ents hrow;obtain⟨b,J,ar,hm,e⟩:=Do aA aC hrow;refine⟨.value (goInt ar.size),goInt ar.size,_,C,?_,.inl rfl,?_,aA,cm.refl C,h⟩
    ·simp[execOp,resolve,invoke,builtin,Builtin.len_,run_underlying bc,e,Go.run_getObj_map _ _ _ _ hm.heap]
    ·rw[Rep,hm.size];rfl
   ·exact h.elim
  ·cases ad
 ·
  rename_i x y t u;split at ad
  ·rename_i By;subst By;split at ad
   ·rename_i e bc;split at ad
    ·rename_i M jW ba af;split at ad
     ·cases ad
     rename_i lZ;simp at ad;obtain⟨rfl,rfl⟩:=ad;obtain⟨a,b,rfl,aC,jX⟩:=mf N;obtain⟨c,cC,av,jC,lY,hl,iG,dJ⟩:=sW ba;have sX:c.bytes=jW:=by simpa[av] using af
     subst sX;simp only[aM,hl] at h;obtain⟨aZ,v,aB,aKO,cY,fY,fc,sd⟩:=akB (gW:=type) aA bc av jC dJ lZ aC jX h;refine⟨.value aZ,aZ,v,aB,?_,.inl rfl,cY,fY,fc,sd⟩;simp[execOp,resolve,invoke,builtin,aKO]
    ·cases ad
   ·cases ad
  ·split at ad
   ·rename_i e ht bc;split at ad
    ·rename_i M jW ba af;split at ad
     ·cases ad
     ·rename_i lZ;simp at ad;obtain⟨rfl,rfl⟩:=ad;obtain⟨a,b,rfl,aC,jX⟩:=mf N;cases a<;>simp only[aM] at h;cases b<;>simp only at h;rename_i k n;rw[Rep] at jX;obtain⟨aZ,v,aB,aKO,cY,fY,fc,sd⟩:=ajL (gW:=type) (k:=k) aA ht bc ba af lZ aC h.1 h.2.1 h.2.2;rw[<-jX] at aKO;refine⟨.value aZ,aZ,v,aB,?_,.inl rfl,cY,fY,fc,sd⟩;simp[execOp,resolve,invoke,builtin,aKO]
    ·cases ad
   ·cases ad
 ·
  rename_i x y vM;simp at ad;obtain⟨rfl,rfl⟩:=ad;obtain⟨a,b,rfl,aC,af⟩:=mf N;cases a<;>simp only[aM] at h;cases b<;>simp only at h;rename_i k p br q;rw[Rep] at aC af;obtain⟨rfl,O⟩:=h;refine⟨.value (.int k (min p q)),.int k (min p q),.int k (min p q),C,?_,.inl rfl,by rw[Rep],aA,cm.refl C,O⟩;have: (if q<p then q else p)=min p q:=by simp only[Int.min_def];split<;>split<;>omega
  simp[execOp,resolve,invoke,builtin,Builtin.min_,Builtin.min2,aC,af,this]
 ·
  rename_i x y vM;simp at ad;obtain⟨rfl,rfl⟩:=ad;obtain⟨a,b,rfl,aC,af⟩:=mf N;cases a<;>simp only[aM] at h;cases b<;>simp only at h;rename_i k p br q;rw[Rep] at aC af;obtain⟨rfl,O⟩:=h;refine⟨.value (.int k (max p q)),.int k (max p q),.int k (max p q),C,?_,.inl rfl,by rw[Rep],aA,cm.refl C,O⟩;have: (if p<q then q else p)=max p q:=by simp only[Int.max_def];split<;>split<;>omega
  simp[execOp,resolve,invoke,builtin,Builtin.max_,Builtin.max2,aC,af,this]
 ·
  rename_i x y M vM;simp at ad;obtain⟨rfl,rfl⟩:=ad;obtain⟨a,b,J,rfl,aC,af,ob⟩:=J1 N;cases a<;>simp only[aM] at h;cases b<;>(try simp only at h)
  all_goals (cases J<;>(try simp only at h))
  rename_i k p br q Vv z;rw[Rep] at aC af ob;obtain⟨⟨rfl,rfl⟩,O⟩:=h;refine⟨.value (.int k (max (max p q) z)),.int k (max (max p q) z),.int k (max (max p q) z),C,?_,.inl rfl,by rw[Rep],aA,cm.refl C,O⟩;have bF: (if p<q then q else p)=max p q:=by simp only[Int.max_def];split<;>split<;>omega
  have bK: (if max p q<z then z else max p q)=max (max p q) z:=by simp only[Int.max_def];split<;>split<;>split<;>omega
  simp[execOp,resolve,invoke,builtin,Builtin.max_,Builtin.max2,aC,af,ob,bF,bK]
 ·
  split at ad
  ·split at ad
   ·simp at ad;exact (JZ _ ad.1.symm).elim
   ·cases ad
  ·cases ad
 ·
  rename_i x y t u;split at ad
  ·rename_i By;subst By;split at ad
   ·rename_i e bc;split at ad
    ·rename_i n ao;simp at ad;obtain⟨rfl,rfl⟩:=ad;obtain⟨a,b,rfl,aC,af⟩:=mf N;simp only[aM] at h;obtain⟨aZ,v,aB,aKO,cY,fY,fc,sd⟩:=aki (gW:=type) aA bc ao aC af h;refine⟨.value aZ,aZ,v,aB,?_,.inl rfl,cY,fY,fc,sd⟩;simp[execOp,resolve,invoke,builtin,aKO]
    ·cases ad
   ·cases ad
  ·cases ad
 ·
  rename_i f OJ;simp at ad;obtain⟨rfl,rfl⟩:=ad;simp only[aM] at h;refine⟨.value (.func (.func f) #[] (OJ.map ρ)),_,_,C,?_,.inl rfl,?_,aA,cm.refl C,h⟩
  ·simp[execOp,Instr.makeFunc]
  ·rw[Rep];exact⟨_,rfl,by simpa using N⟩
 ·
  rename_i t;split at ad
  ·rename_i cZ qm bc;split at ad
   ·rename_i aK Y O;simp at ad;obtain⟨rfl,rfl⟩:=ad;rw[Gt N] at h;simp only[aM] at h;obtain⟨aKH,bR⟩:=Vi aA (.map aK Y []) (.map #[] 0) 0 (C.w.alloc (.map #[] 0)) ⟨rfl,rfl,rfl,rfl⟩ λaB he bp aP uz=>by
     rw[dQ];refine⟨_,_,#[],uz,?_,by rw[aP,heap_alloc_new];rfl,by simp,by simp[aE],by simp[aE],by simp⟩;rw[bp];intro aV;have:=aA.bY _ aV;omega
    refine dW.ri ⟨.map (some C.w.heap.size),_,_,?_,?_,aKH,bR,h⟩
    ·simp only[aNG,Instr.makeMap];rfl
    ·rw[Rep];exact⟨aA.bZ,⟨_,rfl⟩,by simp,λV _=>⟨C.w.heap.size,0,by simp[<-aA.dw],rfl⟩⟩
   ·cases ad
  ·cases ad
 ·
  rename_i t x c ok;split at ad
  ·rename_i cZ qm bc;split at ad
   ·rename_i aK Y M O ba;simp at ad;obtain⟨rfl,rfl⟩:=ad;obtain⟨a,b,rfl,aC,af⟩:=mf N;exact dW.val aA (ajV aA bc O ba aC af h)
   ·cases ad
  ·cases ad
 ·
  rename_i t m c v;split at ad
  ·rename_i cZ qm bc;split at ad
   ·rename_i aK Y O;simp at ad;obtain⟨rfl,rfl⟩:=ad;obtain⟨a,b,J,rfl,aC,af,an⟩:=J1 N;obtain⟨aB,aKO,cY,fY,fc⟩:=ajW aA bc O aC af an h;exact dW.unit cY fY aKO fc
   ·cases ad
  ·cases ad
 ·
  rename_i t m c;split at ad
  ·rename_i cZ qm bc;split at ad
   ·rename_i aK Y M O ba;simp at ad;obtain⟨rfl,rfl⟩:=ad;obtain⟨a,b,rfl,aC,af⟩:=mf N;exact dW.ri (ajX aA bc O ba aC af h)
   ·cases ad
  ·cases ad
 ·
  simp at ad;obtain⟨rfl,rfl⟩:=ad;obtain⟨a,b,J,rfl,aC,af,an⟩:=J1 N;obtain⟨aB,aKO,cY,fY,fc⟩:=ajZ aA aC af an h;exact dW.unit cY fY aKO fc
 ·
  rename_i t x;split at ad
  ·rename_i cZ qm bc;simp at ad;obtain⟨rfl,rfl⟩:=ad;obtain⟨a,rfl,aC⟩:=iu N;exact dW.ri (aka aA bc aC h)
  ·cases ad
 ·
  simp at ad;obtain⟨rfl,rfl⟩:=ad;simp[aM] at h
 ·
  simp at ad;obtain⟨rfl,rfl⟩:=ad;obtain⟨a,rfl,aC⟩:=iu N;exact dW.val aA (akf aA aC h)
 ·
  rename_i x t;split at ad
  ·rename_i e bc;simp at ad;obtain⟨rfl,rfl⟩:=ad;obtain⟨a,rfl,aC⟩:=iu N;cases a<;>simp only[aM] at h;rw[Rep] at aC;obtain⟨cy,aC⟩:=aC;refine⟨.value (goInt 0),goInt 0,_,C,?_,.inl rfl,?_,aA,cm.refl C,h⟩
   ·simp[execOp,resolve,invoke,builtin,Builtin.cap_,run_underlying bc,aC]
   ·rw[Rep];rfl
  ·cases ad
 ·
  rename_i x t;split at ad
  ·rename_i e bc;split at ad
   ·rename_i M ba;simp at ad;obtain⟨rfl,rfl⟩:=ad;obtain⟨a,rfl,aC⟩:=iu N;simp only[aM] at h;obtain⟨aZ,v,aB,aKO,cY,fY,fc,sd⟩:=akk (gW:=type) aA bc ba aC h;refine⟨.value aZ,aZ,v,aB,?_,.inl rfl,cY,fY,fc,sd⟩;simp[execOp,resolve,invoke,builtin,aKO]
   ·cases ad
  ·cases ad
 ·
  simp at ad;obtain⟨rfl,rfl⟩:=ad;simp[aM] at h
 ·cases ad
theorem akC {V:Oper}{aq:List Operand}(ad:pB P V=some (.next,aq))(aA:ci C)(ρ:Operand->Value){x:F}
 (N:aE C [x] (aq.map ρ)) (h:sa C.r x K):dW P C (execOp ρ V) K:=by
 obtain⟨dst,op,type,J0,after,guard⟩:=V;have key:∃y,op= .next y false/\aq=[y]:=by
  unfold pB at ad;simp only at ad;split at ad<;>(repeat' (split at ad))<;>simp at ad;exact⟨_,rfl,ad.symm⟩
 obtain⟨y,rfl,rfl⟩:=key;rw[aKP,aLC,aE] at N;obtain⟨v,bS,he,d,_⟩:=N;simp at he;obtain⟨rfl,_⟩:=he;exact dW.ri (akc (gW:=type) aA d h)
end
end Go.Abs
namespace Go.Abs
mutual
def oT:F->Bool
 | .pure _ am=>am.isEmpty
 | .en .. =>false
 | .agg ap=>ny ap
 | .bo ap=>ny ap
 | .fn _ ap=>ny ap
 |_=>true
def ny:List F->Bool
 | []=>true
 |J::ap=>oT J&&ny ap
end
def Dv:List (List F)->Bool
 | []=>true
 |e::ar=>ny e&&Dv ar
def Bz:Z->Bool
 | .fP=>true
 | .ag _ _ am=>Dv am
 | .be (.map _ _ ents)=>ny (ents.map (·.1))&&ny (ents.map (·.2))
 | .be (.eh _ _)=>true
mutual
def dS (f:Nat->Nat):F->F
 | .own z n off len=> .own (f z) n off len
 | .bd z n c off=> .bd (f z) n c off
 | .agg ap=> .agg (jm f ap)
 | .bo ap=> .bo (jm f ap)
 | .fn g ap=> .fn g (jm f ap)
 | .bE z=> .bE (f z)
 | .fO z m=> .fO (f z) (f m)
 |v=>v
def jm (f:Nat->Nat):List F->List F
 | []=> []
 |J::ap=>dS f J::jm f ap
end
def rk (f:Nat->Nat)(ar:List (List F)):List (List F):=if dY ar then ar else ar.map (jm f)
def gD (f:Nat->Nat):Z->Z
 | .fP=> .fP
 | .ag e U am=> .ag e U (rk f am)
 | .be (.map aK Y ents)=> .be (.map aK Y (ents.map λp=>(dS f p.1,dS f p.2)))
 | .be (.eh n bX)=> .be (.eh n bX)
mutual
theorem uD (f:Nat->Nat):∀(a:F),bJ a=true->dS f a=a
 | .own ..,h=>by simp[bJ] at h
 | .bd ..,h=>by simp[bJ] at h
 | .agg ap,h=>by rw[bJ] at h;rw[dS,Dw f ap h]
 | .bo ap,h=>by rw[bJ] at h;rw[dS,Dw f ap h]
 | .int ..,_=>rfl
 | .bool ..,_=>rfl
 | .str ..,_=>rfl
 | .bH,_=>rfl
 | .kt,_=>rfl
 | .cj,_=>rfl
 | .pure ..,_=>rfl
 | .en ..,_=>rfl
 | .fn g ap,h=>by rw[bJ] at h;rw[dS,Dw f ap h]
 | .kH,_=>rfl
 | .bE _,h=>by simp[bJ] at h
 | .fO ..,h=>by simp[bJ] at h
theorem Dw (f:Nat->Nat):∀(as:List F),bU as=true->jm f as=as
 | [],_=>rfl
 |a::as,h=>by
  simp only[bU,aKJ] at h;rw[jm,uD f a h.1,Dw f as h.2]
end
theorem Gw (f:Nat->Nat)(ar:List (List F)):rk f ar=ar.map (jm f):=by
 unfold rk;split
 ·rename_i h
  induction ar with
  |nil=>rfl
  |cons e ar ih=>
   simp only[dY,aKJ] at h;rw[aKP,Dw f e h.1,<-ih h.2]
 ·rfl
theorem OK (f:Nat->Nat):∀(as:List F),(jm f as).length=as.length
 | []=>rfl
 |a::as=>by simp[jm,OK f as]
structure OL (f:Nat->Nat) (C aB:bD):Prop where
 bZ:aB.bZ=C.bZ
 oI:∀b,C.ku b->aB.w.heap[b]? =C.w.heap[b]? /\aB.ku b
 r:∀z,z<C.r.length->f z<aB.r.length/\ ∀e U dk,aB.r[f z]? =some (.ag e U dk)->
  ∃am,C.r[z]? =some (.ag e U am)/\am.length<=dk.length/\(am.length=dk.length->aB.bu[f z]? =C.bu[z]?)
 rc:∀z,z<C.r.length-> ∀fa,aB.r[f z]? =some (.be fa)-> ∃V,C.r[z]? =some (.be V)/\aB.bu[f z]? =C.bu[z]?
mutual
theorem Rep.mR {C aB:bD}(O:∀b,C.ku b->aB.w.heap[b]? =C.w.heap[b]? /\aB.ku b)(lI:C.bZ=true)(ti:aB.bZ=true):∀(a:F) (v:Value),Rep C a v->Rep aB a v
 | .int ..,_,z=>by simpa[Rep] using z
 | .bool ..,_,z=>by simpa[Rep] using z
 | .str ..,_,z=>by simpa[Rep] using z
 | .bH,_,z=>by simpa[Rep] using z
 | .kt,_,z=>by simpa[Rep] using z
 | .cj,_,_=>by simp[Rep]
 | .agg ap,v,z=>by
  rw[Rep] at z ⊢;obtain⟨vs,rfl,N⟩:=z;exact⟨vs,rfl,aE.mR O lI ti ap _ N⟩
 | .bo ap,v,z=>by
  rw[Rep] at z ⊢;obtain⟨vs,rfl,N⟩:=z;exact⟨vs,rfl,aE.mR O lI ti ap _ N⟩
 | .pure U am,v,z=>by
  rw[Rep] at z ⊢;obtain⟨cy,cap,rfl,eA,N⟩:=z;refine⟨cy,cap,rfl,eA,?_⟩;rcases N with N|⟨b,V,rfl,af,he⟩
  ·exact .inl N
  ·exact .inr ⟨b,V,rfl,(O b af).2,dh.mR (C:=C.p) (aB:=aB.p) O rfl rfl b V U af am he⟩
 | .own ..,v,N=>by rw[Rep,lI] at N;cases N.1
 | .bd ..,v,N=>by rw[Rep,lI] at N;cases N.1
 | .en cells off,v,N=>by
  rw[Rep] at N ⊢;obtain⟨b,V,rfl,af,ad⟩:=N;exact⟨b,V,rfl,(O b af).2,dC.mR (C:=C.p) (aB:=aB.p) O rfl rfl b V af cells ad⟩
 | .fn f ap,v,z=>by
  rw[Rep] at z ⊢;obtain⟨vs,rfl,N⟩:=z;exact⟨vs,rfl,aE.mR O lI ti ap _ N⟩
 | .kH,_,z=>by simpa[Rep] using z
 | .bE _,v,N=>by rw[Rep,lI] at N;cases N.1
 | .fO ..,v,N=>by rw[Rep,lI] at N;cases N.1
theorem aE.mR {C aB:bD}(O:∀b,C.ku b->aB.w.heap[b]? =C.w.heap[b]? /\aB.ku b)(lI:C.bZ=true)(ti:aB.bZ=true):∀(as:List F) (vs:List Value),aE C as vs->aE aB as vs
 | [],vs,z=>by simpa[aE] using z
 |a::as,vs,z=>by
  rw[aE] at z ⊢;obtain⟨v,bS,rfl,d,G⟩:=z;exact⟨v,bS,rfl,Rep.mR O lI ti a v d,aE.mR O lI ti as bS G⟩
theorem dC.mR {C aB:bD}(O:∀b,C.ku b->aB.w.heap[b]? =C.w.heap[b]? /\aB.ku b)(lI:C.bZ=true)(ti:aB.bZ=true)(b V:Nat)(af:C.ku b):∀(as:List F),dC C b V as->dC aB b V as
 | [],_=>by simp[dC]
 |a::as,z=>by
  rw[dC] at z ⊢;obtain⟨⟨v,d,G,au⟩,bv⟩:=z;exact⟨⟨v,by rw[World.cell?_of_block (w:=C.w) (O b af).1];exact d,G,Rep.mR O lI ti a v au⟩,dC.mR O lI ti b (V+1) af as bv⟩
theorem dh.mR {C aB:bD}(O:∀b,C.ku b->aB.w.heap[b]? =C.w.heap[b]? /\aB.ku b)(lI:C.bZ=true)(ti:aB.bZ=true)(b V U:Nat)(af:C.ku b):∀(ar:List (List F)),dh C b V U ar->dh aB b V U ar
 | [],_=>by simp[dh]
 |e::ar,z=>by
  rw[dh] at z ⊢;exact⟨z.1,dC.mR O lI ti b V af e z.2.1,dh.mR O lI ti b (V+U) U af ar z.2.2⟩
end
mutual
theorem Rep.uE {f:Nat->Nat}{C aB:bD}(h:OL f C aB):∀(a:F) (v:Value),Rep C a v->Rep aB (dS f a) v
 | .int ..,_,z=>by simpa[dS,Rep] using z
 | .bool ..,_,z=>by simpa[dS,Rep] using z
 | .str ..,_,z=>by simpa[dS,Rep] using z
 | .bH,_,z=>by simpa[dS,Rep] using z
 | .kt,_,z=>by simpa[dS,Rep] using z
 | .cj,_,_=>by simp[dS,Rep]
 | .agg ap,v,z=>by
  rw[Rep] at z;rw[dS,Rep];obtain⟨vs,rfl,N⟩:=z;exact⟨vs,rfl,aE.uE h ap _ N⟩
 | .bo ap,v,z=>by
  rw[Rep] at z;rw[dS,Rep];obtain⟨vs,rfl,N⟩:=z;exact⟨vs,rfl,aE.uE h ap _ N⟩
 | .pure U am,v,z=>by
  have e:dS f (.pure U am)= .pure U am:=by simp[dS]
  rw[Rep] at z;rw[e,Rep];obtain⟨cy,cap,rfl,eA,N⟩:=z;refine⟨cy,cap,rfl,eA,?_⟩;rcases N with N|⟨b,V,rfl,af,he⟩
  ·exact .inl N
  ·exact .inr ⟨b,V,rfl,(h.oI b af).2,dh.mR (C:=C.p) (aB:=aB.p) h.oI rfl rfl b V U af am he⟩
 | .own z n off len,v,N=>by
  rw[Rep] at N;rw[dS,Rep];obtain⟨hm,h0,d,G⟩:=N;refine⟨h.bZ.trans hm,h0,(h.r z d).1,λe U dk an=> ?_⟩;obtain⟨am,cH,ff,a3⟩:=(h.r z d).2 e U dk an;obtain⟨aKU,eJ⟩:=G e U am cH;refine⟨by omega,λaH=> ?_⟩;obtain⟨c1,p,c2,c3⟩:=eJ (by omega);exact⟨c1,p,by rw[a3 (by omega)];exact c2,c3⟩
 | .bd z n c off,v,N=>by
  rw[Rep] at N;rw[dS,Rep];obtain⟨hm,h0,d,G⟩:=N;refine⟨h.bZ.trans hm,h0,(h.r z d).1,λe U dk an=> ?_⟩;obtain⟨am,cH,ff,a3⟩:=(h.r z d).2 e U dk an;obtain⟨aKU,eJ⟩:=G e U am cH;refine⟨by omega,λaH=> ?_⟩;obtain⟨c1,b,J,c2,c3⟩:=eJ (by omega);exact⟨c1,b,J,by rw[a3 (by omega)];exact c2,c3⟩
 | .en cells off,v,N=>by
  have e:dS f (.en cells off)= .en cells off:=by simp[dS]
  rw[Rep] at N;rw[e,Rep];obtain⟨b,V,rfl,af,ad⟩:=N;exact⟨b,V,rfl,(h.oI b af).2,dC.mR (C:=C.p) (aB:=aB.p) h.oI rfl rfl b V af cells ad⟩
 | .fn g ap,v,z=>by
  rw[Rep] at z;rw[dS,Rep];obtain⟨vs,rfl,N⟩:=z;exact⟨vs,rfl,aE.uE h ap _ N⟩
 | .kH,_,z=>by simpa[dS,Rep] using z
 | .bE z,v,N=>by
  rw[Rep] at N;rw[dS,Rep];obtain⟨hm,h0,d,G⟩:=N;refine⟨h.bZ.trans hm,h0,(h.r z d).1,λfa bp=> ?_⟩;obtain⟨V,cH,ff⟩:=h.rc z d fa bp;rw[ff];exact G V cH
 | .fO z m,v,N=>by
  rw[Rep] at N;rw[dS,Rep];obtain⟨hm,h0,d,G,au⟩:=N;refine⟨h.bZ.trans hm,h0,(h.r z d).1,(h.r m G).1,λlh li up xh=> ?_⟩;obtain⟨aK6,cH,ff⟩:=h.rc z d lh up;obtain⟨iT,aKU,eJ⟩:=h.rc m G li xh;rw[ff,eJ];exact au aK6 iT cH aKU
theorem aE.uE {f:Nat->Nat}{C aB:bD}(h:OL f C aB):∀(as:List F) (vs:List Value),aE C as vs->aE aB (jm f as) vs
 | [],vs,z=>by simpa[jm,aE] using z
 |a::as,vs,z=>by
  rw[aE] at z;rw[jm,aE];obtain⟨v,bS,rfl,d,G⟩:=z;exact⟨v,bS,rfl,Rep.uE h a v d,aE.uE h as bS G⟩
end
theorem Vw (f:Nat->Nat)(ar:List (List F)): (rk f ar).flatten=jm f ar.flatten:=by
 have mh:∀aq ys:List F,jm f (aq++ys)=jm f aq++jm f ys:=by
  intro aq ys
  induction aq with
  |nil=>rfl
  |cons x aq ih=>simp[jm,ih]
 rw[Gw]
 induction ar with
 |nil=>rfl
 |cons e ar ih=>simp[mh,ih]
theorem fs.uE {f:Nat->Nat}{C aB:bD}{U:Nat}{am:List (List F)}{vs:List Value}(h:OL f C aB)(k:fs C U am vs):fs aB U (rk f am) vs:=by
 refine⟨λe he=> ?_,?_,k.cV⟩
 ·rw[Gw] at he;obtain⟨x,aj,rfl⟩:=aKZ.1 he;rw[OK];exact k.jl x aj
 ·rw[Vw];exact aE.uE h _ _ k.kO
theorem J2:∀{Y:List cW} {ap:List F},cE Y ap->bU ap=true
 | [],[],_=>rfl
 | [],J::ap,h=>by simp[cE] at h
 |k::Y,[],h=>by cases k<;>simp[cE] at h
 |k::Y,J::ap,h=>by
  cases k<;>cases J<;>simp only[cE] at h<;>simp only[bU,bJ,aLw]
  ·exact J2 h.2
  ·exact J2 h
  ·exact J2 h
theorem Vx {aK:Bool}{Y:List cW}{k:F}(h:gb aK Y k):bJ k=true:=by
 have:=J2 h.2;cases k<;>simp only[cp,bU,bJ,aK0] at this ⊢ <;>first|exact this|simpa using this
theorem OM (f:Nat->Nat):∀(as:List F),jm f as=as.map (dS f)
 | []=>rfl
 |a::as=>by simp[jm,OM f as]
theorem J3 (f:Nat->Nat)(ar:List (List F)): (rk f ar).length=ar.length:=by rw[Gw];simp
end Go.Abs
namespace Go.Abs
mutual
theorem Rep.xA {f:Nat->Nat}{C aB:bD}(ak:aB.bZ=C.bZ) (h:∀z,z<C.r.length->f z<aB.r.length/\ ∀e U dk,aB.r[f z]? =some (.ag e U dk)->
 ∃am,C.r[z]? =some (.ag e U am)/\am.length<=dk.length/\(am.length=dk.length->aB.bu[f z]? =C.bu[z]?))
 (se:∀z,z<C.r.length-> ∀fa,aB.r[f z]? =some (.be fa)-> ∃V,C.r[z]? =some (.be V)/\aB.bu[f z]? =C.bu[z]?):∀(a:F) (v:Value),oT a=true->Rep C a v->Rep aB (dS f a) v
 | .int ..,_,_,z=>by simpa[dS,Rep] using z
 | .bool ..,_,_,z=>by simpa[dS,Rep] using z
 | .str ..,_,_,z=>by simpa[dS,Rep] using z
 | .bH,_,_,z=>by simpa[dS,Rep] using z
 | .kt,_,_,z=>by simpa[dS,Rep] using z
 | .cj,_,_,_=>by simp[dS,Rep]
 | .agg ap,v,hf,z=>by
  rw[oT] at hf;rw[Rep] at z;rw[dS,Rep];obtain⟨vs,rfl,N⟩:=z;exact⟨vs,rfl,aE.xA ak h se ap _ hf N⟩
 | .bo ap,v,hf,z=>by
  rw[oT] at hf;rw[Rep] at z;rw[dS,Rep];obtain⟨vs,rfl,N⟩:=z;exact⟨vs,rfl,aE.xA ak h se ap _ hf N⟩
 | .pure U am,v,hf,z=>by
  have e:dS f (.pure U am)= .pure U am:=by simp[dS]
  rw[oT] at hf;rw[Rep] at z;rw[e,Rep];obtain⟨cy,cap,rfl,eA,N⟩:=z;refine⟨cy,cap,rfl,eA,.inl ?_⟩;simpa using hf
 | .own z n off len,v,_,N=>by
  rw[Rep] at N;rw[dS,Rep];obtain⟨hm,h0,d,G⟩:=N;refine⟨ak.trans hm,h0,(h z d).1,λe U dk an=> ?_⟩;obtain⟨am,cH,ff,a3⟩:=(h z d).2 e U dk an;obtain⟨aKU,eJ⟩:=G e U am cH;refine⟨by omega,λaH=> ?_⟩;obtain⟨c1,p,c2,c3⟩:=eJ (by omega);exact⟨c1,p,by rw[a3 (by omega)];exact c2,c3⟩
 | .bd z n c off,v,_,N=>by
  rw[Rep] at N;rw[dS,Rep];obtain⟨hm,h0,d,G⟩:=N;refine⟨ak.trans hm,h0,(h z d).1,λe U dk an=> ?_⟩;obtain⟨am,cH,ff,a3⟩:=(h z d).2 e U dk an;obtain⟨aKU,eJ⟩:=G e U am cH;refine⟨by omega,λaH=> ?_⟩;obtain⟨c1,b,J,c2,c3⟩:=eJ (by omega);exact⟨c1,b,J,by rw[a3 (by omega)];exact c2,c3⟩
 | .en cells off,v,hf,N=>by simp[oT] at hf
 | .fn g ap,v,hf,z=>by
  rw[oT] at hf;rw[Rep] at z;rw[dS,Rep];obtain⟨vs,rfl,N⟩:=z;exact⟨vs,rfl,aE.xA ak h se ap _ hf N⟩
 | .kH,_,_,z=>by simpa[dS,Rep] using z
 | .bE z,v,_,N=>by
  rw[Rep] at N;rw[dS,Rep];obtain⟨hm,h0,d,G⟩:=N;refine⟨ak.trans hm,h0,(h z d).1,λfa bp=> ?_⟩;obtain⟨V,cH,ff⟩:=se z d fa bp;rw[ff];exact G V cH
 | .fO z m,v,_,N=>by
  rw[Rep] at N;rw[dS,Rep];obtain⟨hm,h0,d,G,au⟩:=N;refine⟨ak.trans hm,h0,(h z d).1,(h m G).1,λlh li up xh=> ?_⟩;obtain⟨aK6,cH,ff⟩:=se z d lh up;obtain⟨iT,aKU,eJ⟩:=se m G li xh;rw[ff,eJ];exact au aK6 iT cH aKU
theorem aE.xA {f:Nat->Nat}{C aB:bD}(ak:aB.bZ=C.bZ) (h:∀z,z<C.r.length->f z<aB.r.length/\ ∀e U dk,aB.r[f z]? =some (.ag e U dk)->
 ∃am,C.r[z]? =some (.ag e U am)/\am.length<=dk.length/\(am.length=dk.length->aB.bu[f z]? =C.bu[z]?))
 (se:∀z,z<C.r.length-> ∀fa,aB.r[f z]? =some (.be fa)-> ∃V,C.r[z]? =some (.be V)/\aB.bu[f z]? =C.bu[z]?):∀(as:List F) (vs:List Value),ny as=true->aE C as vs->aE aB (jm f as) vs
 | [],vs,_,z=>by simpa[jm,aE] using z
 |a::as,vs,hf,z=>by
  simp only[ny,aKJ] at hf;rw[aE] at z;rw[jm,aE];obtain⟨v,bS,rfl,d,G⟩:=z;exact⟨v,bS,rfl,Rep.xA ak h se a v hf.1 d,aE.xA ak h se as bS hf.2 G⟩
end
theorem Vy:∀{ar:List (List F)},Dv ar=true->ny ar.flatten=true
 | [],_=>rfl
 |e::ar,h=>by
  simp only[Dv,aKJ] at h;have mh:∀aq ys:List F,ny aq=true->ny ys=true->ny (aq++ys)=true:=by
   intro aq ys aj bt
   induction aq with
   |nil=>exact bt
   |cons x aq ih=>
    simp only[ny,aKJ] at aj;simp only[aLx,ny,aKJ];exact⟨aj.1,ih aj.2⟩
  rw[aLS];exact mh _ _ h.1 (Vy h.2)
def hE:List (Option Nat)->Nat->Option Nat
 | [],_=>none
 |none::bV,z=>(hE bV z).map (·+1)
 |some I::bV,z=>if I=z then some 0 else (hE bV z).map (·+1)
theorem BA:∀{ax:List (Option Nat)} {z c:Nat},hE ax z=some c->ax[c]? =some (some z)
 | [],z,c,h=>by simp[hE] at h
 |none::bV,z,c,h=>by
  simp only[hE] at h;cases ak:hE bV z with
  |none=>rw[ak] at h;simp at h
  |some j=>rw[ak] at h;simp at h;subst h;simpa using BA ak
 |some I::bV,z,c,h=>by
  simp only[hE] at h;split at h
  ·rename_i he;simp at h;subst h;simp[he]
  ·cases ak:hE bV z with
   |none=>rw[ak] at h;simp at h
   |some j=>rw[ak] at h;simp at h;subst h;simpa using BA ak
theorem J4:∀{ax:List (Option Nat)} {z:Nat},hE ax z=none->some z∉ax
 | [],z,_=>by simp
 |none::bV,z,h=>by
  simp only[hE] at h;cases ak:hE bV z with
  |none=>have:=J4 ak;simp[this]
  |some j=>rw[ak] at h;simp at h
 |some I::bV,z,h=>by
  simp only[hE] at h;split at h
  ·cases h
  ·rename_i hne;cases ak:hE bV z with
   |none=>have:=J4 ak;simp[this,Ne.symm hne]
   |some j=>rw[ak] at h;simp at h
mutual
def bW (r:List Z)(ax:List (Option Nat))(bn:List Nat):F->F
 | .own z n off len=>
  match hE ax z with
  |some c=> .own c n off len
  |none=>
   if bn.contains z then
    match r[z]? with
    |some (.ag _ U am)=>if n=am.length/\off+len<=n/\dY am=true then .pure U ((am.drop off).take len) else .cj
    |_=> .cj
   else .cj
 | .bd z n c off=>
  match hE ax z with
  |some j=> .bd j n c off
  |none=>
   if bn.contains z then
    match r[z]? with
    |some (.ag _ _ am)=>if n=am.length/\dY am=true then .en (am.getD c []) off else .cj
    |_=> .cj
   else .cj
 | .agg ap=> .agg (dT r ax bn ap)
 | .bo ap=> .bo (dT r ax bn ap)
 | .fn f ap=> .fn f (dT r ax bn ap)
 | .bE z=>
  match hE ax z with
  |some c=> .bE c
  |none=> .cj
 | .fO z m=>
  match hE ax z,hE ax m with
  |some c,some j=> .fO c j
  |_,_=> .cj
 |v=>v
def dT (r:List Z)(ax:List (Option Nat))(bn:List Nat):List F->List F
 | []=> []
 |J::ap=>bW r ax bn J::dT r ax bn ap
end
def lJ (r:List Z)(ax:List (Option Nat))(bn:List Nat)(ar:List (List F)):List (List F):=if dY ar then ar else ar.map (dT r ax bn)
def hr (r:List Z)(ax:List (Option Nat))(bn:List Nat):Z->Z
 | .fP=> .fP
 | .ag e U am=> .ag e U (lJ r ax bn am)
 | .be (.map aK Y ents)=> .be (.map aK Y (ents.map λp=>(bW r ax bn p.1,bW r ax bn p.2)))
 | .be (.eh n bX)=> .be (.eh n bX)
def eC (r:List Z)(bn:List Nat)(all:List (Option Nat)):List (Option Nat)->Option (List Z)
 | []=>some []
 |none::rs=>
  match eC r bn all rs with
  |some ys=>some (.fP::ys)
  |none=>none
 |some z::rs=>
  match r[z]?,eC r bn all rs with
  |some x,some ys=>some (hr r all bn x::ys)
  |_,_=>none
class dE extends Dr where
 n:Nat
 H:World->Prop
 oI:∀w w':World,(∀b,b<n->w'.heap[b]? =w.heap[b]?)->H w->H w'
def GOk [dE](C:bD):Prop:=dE.n<=C.w.heap.size/\(∀b,b<dE.n-> ∀z J:Nat,C.bu[z]? ≠some (some (b,J)))/\dE.H C.w
theorem GOk.later [dE]{n:Nat}{C aB:bD}(h:GOk C)(hl:cm n C aB):GOk aB:=by
 obtain⟨d,G,au⟩:=h;refine⟨aLk d hl.size,λb af z J ad=> ?_,dE.oI _ _ (λb af=>hl.block b (aLI af d) (G b af)) au⟩;rcases hl.vF z b J ad with ⟨cG,dR,cR⟩|cR
 ·exact G b af cG dR cR
 ·omega
class vN [dE] (C:bD):Prop where
 ok:GOk C
variable [dE]
def aO (P:Program)(f:FuncId)(args:List F)(r:List Z)(bh:F->List Z->Prop):Prop:=
 ∀(C:bD) (dA:List Value),C.r=r->ci C->GOk C->aE C args dA->
  Calls P f dA.toArray C.w λe w'=> ∃aZ v aB,e= .returned aZ/\aB.w=w'/\Rep aB v aZ/\ci aB/\cm r.length C aB/\bh v aB.r
theorem aO.mono {P:Program}{f:FuncId}{args:List F}{r:List Z}{bh Gx:F->List Z->Prop}(h:aO P f args r bh)(aV:∀v rs,bh v rs->Gx v rs):aO P f args r Gx:=
 λC dA d G hG au=>(h C dA d G hG au).mono λ_ _ ⟨aZ,v,aB,a,b,J,B,e,q⟩=>⟨aZ,v,aB,a,b,J,B,e,aV _ _ q⟩
def eU (n:Nat):List Nat->Nat->Nat
 | [],c=>n+c
 |I::_,0=>I
 |_::bV,c+1=>eU n bV c
def fu {bj:Type}:List bj->List Nat->List bj->List bj
 |aq,[],ys=>aq++ys
 |aq,z::ax,y::ys=>fu (aq.set z y) ax ys
 |aq,_::_,[]=>aq
theorem ON {bj:Type}:∀(ax:List Nat) (aq ys:List bj),ax.length<=ys.length->(fu aq ax ys).length=aq.length+(ys.length-ax.length)
 | [],aq,ys,_=>by simp[fu]
 |z::ax,aq,[],h=>by simp at h
 |z::ax,aq,y::ys,h=>by
  rw[fu,ON ax _ ys (by simpa using h)];simp
theorem Dx {bj:Type}:∀(ax:List Nat) (aq ys:List bj) (z:Nat),z<aq.length->z∉ax->(fu aq ax ys)[z]? =aq[z]?
 | [],aq,ys,z,h,_=>by rw[fu,aK9,Rc h]
 |I::ax,aq,[],z,h,aH=>by rw[fu]
 |I::ax,aq,y::ys,z,h,aH=>by
  simp at aH;rw[fu,Dx ax _ ys z (by simpa using h) aH.2,aKQ,S (λe=>aH.1 e.symm)]
theorem OO {bj:Type}:∀(ax:List Nat) (aq ys:List bj) (c:Nat),ax.Nodup->(∀z∈ax,z<aq.length)->c<ys.length->ax.length<=ys.length->(fu aq ax ys)[eU aq.length ax c]? =ys[c]?
 | [],aq,ys,c,_,_,av,_=>by rw[fu,eU,aK9,S (by omega)];congr 1;omega
 |z::ax,aq,[],c,_,_,av,_=>by simp at av
 |z::ax,aq,y::ys,0,aH,hl,av,_=>by
  simp at aH;rw[fu,eU,Dx ax _ ys z (by simpa using hl z (by simp)) aH.1,aKQ,Rc rfl,Rc (hl z (by simp))];rfl
 |z::ax,aq,y::ys,c+1,aH,hl,av,eA=>by
  simp at aH;have:=OO ax (aq.set z y) ys c aH.2 (λI ao=>by simpa using hl I (by simp[ao])) (by simpa using av) (by simpa using eA);rw[aLg] at this;rw[fu,eU,this];simp
theorem J5:∀(ax:List Nat) (n c:Nat),(av:c<ax.length)->eU n ax c=ax[c]
 |I::bV,n,0,_=>rfl
 |I::bV,n,c+1,h=>by rw[eU,J5 bV n c (by simpa using h)];simp
theorem Vz:∀(ax:List Nat) (n c:Nat),ax.length<=c->eU n ax c=n+(c-ax.length)
 | [],n,c,_=>by simp[eU]
 |I::bV,n,0,h=>by simp at h
 |I::bV,n,c+1,h=>by rw[eU,Vz bV n c (by simpa using h)];simp
theorem akD (ax:List Nat)(n m k:Nat)(aJq:∀z∈ax,z<n)(eA:ax.length<=m)(O:k<n+(m-ax.length)): (k<n/\k∉ax)\/ ∃c,c<m/\k=eU n ax c:=by
 by_cases h:k<n
 ·by_cases ao:k∈ax
  ·obtain⟨c,av,rfl⟩:=aL9 ao;exact .inr ⟨c,by omega,(J5 ax n c av).symm⟩
  ·exact .inl ⟨h,ao⟩
 ·refine .inr ⟨ax.length+(k-n),by omega,?_⟩;rw[Vz ax n _ (by omega)];omega
end Go.Abs
namespace Go.Abs
variable [dE]
theorem uF {r:List Z}{bn:List Nat}{all:List (Option Nat)}:∀{ax:List (Option Nat)} {ys:List Z},eC r bn all ax=some ys->
 ys.length=ax.length/\(∀(c z:Nat),ax[c]? =some (some z)-> ∃x,r[z]? =some x/\ys[c]? =some (hr r all bn x))/\(∀(c:Nat),ax[c]? =some none->ys[c]? =some .fP)
 | [],ys,h=>by simp[eC] at h;subst h;simp
 |none::rs,ys,h=>by
  simp only[eC] at h;split at h
  ·rename_i ce ba;simp at h;subst h;obtain⟨d,G,au⟩:=uF ba;refine⟨by simp[d],λc I ao=> ?_,λc ao=> ?_⟩
   ·cases c with
    |zero=>simp at ao
    |succ c=>simpa using G c I (by simpa using ao)
   ·cases c with
    |zero=>rfl
    |succ c=>simpa using au c (by simpa using ao)
  ·cases h
 |some z::rs,ys,h=>by
  simp only[eC] at h;split at h
  ·rename_i x ce aj ba;simp at h;subst h;obtain⟨d,G,au⟩:=uF ba;refine⟨by simp[d],λc I ao=> ?_,λc ao=> ?_⟩
   ·cases c with
    |zero=>simp at ao;subst ao;exact⟨x,aj,rfl⟩
    |succ c=>simpa using G c I (by simpa using ao)
   ·cases c with
    |zero=>simp at ao
    |succ c=>simpa using au c (by simpa using ao)
  ·cases h
theorem VA {r:List Z}{ax:List (Option Nat)}{bn:List Nat}:∀(ar:List F),(dT r ax bn ar).length=ar.length
 | []=>rfl
 |e::ar=>by simp[dT,VA ar]
theorem Gy {r:List Z}{ax:List (Option Nat)}{bn:List Nat}(ar:List (List F)): (lJ r ax bn ar).length=ar.length:=by
 unfold lJ;split<;>simp
theorem J6 {r:List Z}{ax:List (Option Nat)}{bn:List Nat}{x:Z}{e:TypeId}{U:Nat}{dk:List (List F)}(h:hr r ax bn x= .ag e U dk):
 ∃am,x= .ag e U am/\dk=lJ r ax bn am:=by
 cases x with
 |fP=>simp[hr] at h
 |ag cO bz am=>simp[hr] at h;obtain⟨rfl,rfl,rfl⟩:=h;exact⟨am,rfl,rfl⟩
 |be V=>cases V<;>simp[hr] at h
theorem Gz {r:List Z}{ax:List (Option Nat)}{bn:List Nat}{x:Z}{fa:zd}(h:hr r ax bn x= .be fa):∃V,x= .be V:=by
 cases x with
 |fP=>simp[hr] at h
 |ag cO bz am=>simp[hr] at h
 |be V=>exact⟨V,rfl⟩
def gY (C:bD)(ax:List (Option Nat))(bn:List Nat)(srows:List Z):bD:=
 ⟨srows,ax.map (λV=>V.bind λz=>(C.bu[z]?).getD none),λb=>C.bY b\/ ∃z J:Nat,some z∉ax/\z∉bn/\C.bu[z]? =some (some (b,J)),C.w,false⟩
section
variable {C:bD} {ax:List (Option Nat)} {bn:List Nat} {srows:List Z}
theorem uG (aA:ci C)(aw:eC C.r bn ax ax=some srows){c z:Nat}(av:ax[c]? =some (some z)): (gY C ax bn srows).bu[c]? =C.bu[z]? :=by
 obtain⟨x,d,_⟩:=(uF aw).2.1 c z av;have N:z<C.bu.length:=by rw[aA.dw];exact (aLy.1 d).1
 simp[gY,av,aKS N]
theorem zt (aA:ci C)(aw:eC C.r bn ax ax=some srows){c b J:Nat}(h: (gY C ax bn srows).bu[c]? =some (some (b,J))):∃z,ax[c]? =some (some z)/\C.bu[z]? =some (some (b,J)):=by
 cases ao:ax[c]? with
 |none=>simp[gY,ao] at h
 |some V=>
  cases V with
  |none=>simp[gY,ao] at h
  |some z=>exact⟨z,rfl,by rw[<-uG aA aw ao];exact h⟩
theorem Dy (aA:ci C)(aw:eC C.r bn ax ax=some srows)(b:Nat)(af:C.ku b): (gY C ax bn srows).w.heap[b]? =C.w.heap[b]? /\(gY C ax bn srows).ku b:=by
 obtain⟨d,G,au⟩:=af;refine⟨rfl,d,?_,λc J ad=> ?_⟩
 ·rintro (h|⟨z,J,_,_,h⟩)
  ·exact G h
  ·exact au z J h
 ·obtain⟨z,_,N⟩:=zt aA aw ad;exact au z J N
theorem VB (aA:ci C)(aw:eC C.r bn ax ax=some srows){z b J:Nat}(N:some z∉ax)(an:z∈bn)(ak:C.bu[z]? =some (some (b,J)))(bp:¬C.bY b): (gY C ax bn srows).ku b:=by
 refine⟨aA.lt ak,?_,λc dR ad=> ?_⟩
 ·rintro (h|⟨cG,dR,d,G,au⟩)
  ·exact bp h
  ·exact G (aA.inj _ _ _ _ _ au ak▸an)
 ·obtain⟨cG,d,G⟩:=zt aA aw ad;have:=aA.inj _ _ _ _ _ G ak;subst this;exact N (aMA d)
theorem VC (aA:ci C)(aw:eC C.r bn ax ax=some srows){b V U:Nat}{am:List (List F)}(ad:dY am=true)(h:dh C b V U am):dh (gY C ax bn srows).p b V U am:=by
 obtain⟨vs,d,G⟩:=(dh.qr b U V am ad h).tg;have au:fs (gY C ax bn srows).p U am vs:=⟨d.jl,aE.mR (C:=C.p) (aB:=(gY C ax bn srows).p) (λx aj=>Dy (C:=C) aA aw x aj) rfl rfl _ _ d.kO,d.cV⟩;exact au.xB G
mutual
theorem Rep.bind (aA:ci C)(aw:eC C.r bn ax ax=some srows):∀(a:F) (v:Value),Rep C a v->Rep (gY C ax bn srows) (bW C.r ax bn a) v
 | .int ..,_,z=>by simpa[bW,Rep] using z
 | .bool ..,_,z=>by simpa[bW,Rep] using z
 | .str ..,_,z=>by simpa[bW,Rep] using z
 | .bH,_,z=>by simpa[bW,Rep] using z
 | .kt,_,z=>by simpa[bW,Rep] using z
 | .cj,_,_=>by simp[bW,Rep]
 | .agg ap,v,z=>by
  rw[Rep] at z;rw[bW,Rep];obtain⟨vs,rfl,N⟩:=z;exact⟨vs,rfl,aE.bind aA aw ap _ N⟩
 | .bo ap,v,z=>by
  rw[Rep] at z;rw[bW,Rep];obtain⟨vs,rfl,N⟩:=z;exact⟨vs,rfl,aE.bind aA aw ap _ N⟩
 | .pure U am,v,z=>by
  have e:bW C.r ax bn (.pure U am)= .pure U am:=by simp[bW]
  rw[Rep] at z;rw[e,Rep];obtain⟨cy,cap,rfl,eA,N⟩:=z;refine⟨cy,cap,rfl,eA,?_⟩;rcases N with N|⟨b,V,rfl,af,he⟩
  ·exact .inl N
  ·exact .inr ⟨b,V,rfl,(Dy aA aw b af).2,dh.mR (C:=C.p) (aB:=(gY C ax bn srows).p) (λx aj=>Dy (C:=C) aA aw x aj) rfl rfl b V U af am he⟩
 | .en cells off,v,z=>by
  have e:bW C.r ax bn (.en cells off)= .en cells off:=by simp[bW]
  rw[Rep] at z;rw[e,Rep];obtain⟨b,V,rfl,af,ad⟩:=z;exact⟨b,V,rfl,(Dy aA aw b af).2,dC.mR (C:=C.p) (aB:=(gY C ax bn srows).p) (λx aj=>Dy (C:=C) aA aw x aj) rfl rfl b V af cells ad⟩
 | .own z n off len,v,N=>by
  rw[bW];rw[Rep] at N;obtain⟨hm,h0,d,G⟩:=N;split
  ·rename_i c av;have ao:=BA av;obtain⟨x,aKH,dq⟩:=(uF aw).2.1 c z ao;rw[Rep];refine⟨rfl,h0,(aLy.1 dq).1,λe U dk an=> ?_⟩;rw[show (gY C ax bn srows).r=srows from rfl,dq] at an;simp only[aLj] at an;obtain⟨am,rfl,rfl⟩:=J6 an;rw[Gy];obtain⟨bO,cd⟩:=G e U am aKH;refine⟨by omega,λaH=> ?_⟩;rw[uG aA aw ao];exact cd (by omega)
  ·rename_i av;have ur:=J4 av;split
   ·rename_i OP;split
    ·rename_i e U am hrow;split
     ·rename_i ad;obtain⟨aH,ta,gN⟩:=ad;obtain⟨_,p,ak,vO⟩:=(G e U am hrow).2 aH;have cK: ((am.drop off).take len).length=len:=by rw[aLd,aLt];omega
      rw[Rep,cK];rcases aA.ag hrow with ⟨hl,iW⟩|⟨b,cap,ap,hl,bO,cd,fk,hB,jE,jF⟩
      ·rw[ak] at hl;simp at hl;subst hl;simp only[oH] at vO;obtain⟨⟨cy,rfl⟩,_,rfl⟩:=vO;exact⟨cy,0,rfl,aKM _,.inl rfl⟩
      ·rw[ak] at hl;simp at hl;subst hl;simp only[oH] at vO;obtain⟨a,J,rfl,xm,ho,hp,_,bp⟩:=vO;refine⟨some a,J,rfl,xm,?_⟩
       by_cases ba:len=0
       ·exact .inl ba
       ·right
        have aC:a=⟨b,off*U,none⟩:=by
         obtain⟨x,y,M⟩:=a;simp only at ho hp bp;rw[ho,hp,bp (by omega)]
        refine⟨b,off*U,by rw[aC],VB aA aw ur (by simpa using OP) ak bO,?_⟩;have:=((VC aA aw gN jF).drop off).take len;simpa using this
     ·simp[Rep]
    ·simp[Rep]
   ·simp[Rep]
 | .bd z n c off,v,N=>by
  rw[bW];rw[Rep] at N;obtain⟨hm,h0,d,G⟩:=N;split
  ·rename_i j av;have ao:=BA av;obtain⟨x,aKH,dq⟩:=(uF aw).2.1 j z ao;rw[Rep];refine⟨rfl,h0,(aLy.1 dq).1,λe U dk an=> ?_⟩;rw[show (gY C ax bn srows).r=srows from rfl,dq] at an;simp only[aLj] at an;obtain⟨am,rfl,rfl⟩:=J6 an;rw[Gy];obtain⟨bO,cd⟩:=G e U am aKH;refine⟨by omega,λaH=> ?_⟩;rw[uG aA aw ao];exact cd (by omega)
  ·rename_i av;have ur:=J4 av;split
   ·rename_i OP;split
    ·rename_i e U am hrow;split
     ·rename_i ad;obtain⟨aH,gN⟩:=ad;obtain⟨vP,b,J,ak,rfl⟩:=(G e U am hrow).2 aH;rcases aA.ag hrow with ⟨hl,iW⟩|⟨eE,cap,ap,hl,bO,cd,fk,hB,jE,jF⟩
      ·rw[ak] at hl;simp at hl
      ·rw[ak] at hl;simp at hl;obtain⟨rfl,rfl⟩:=hl;have:=((VC (ax:=ax) (bn:=bn) (srows:=srows) aA aw gN jF).oL c (by omega)).2;rw[Rep];refine⟨b,c*U,rfl,VB aA aw ur (by simpa using OP) ak bO,?_⟩;simpa using this
     ·simp[Rep]
    ·simp[Rep]
   ·simp[Rep]
 | .fn f ap,v,z=>by
  rw[Rep] at z;rw[bW,Rep];obtain⟨vs,rfl,N⟩:=z;exact⟨vs,rfl,aE.bind aA aw ap _ N⟩
 | .kH,_,z=>by simpa[bW,Rep] using z
 | .bE z,v,N=>by
  rw[bW];rw[Rep] at N;obtain⟨hm,h0,d,G⟩:=N;split
  ·rename_i c av;have ao:=BA av;obtain⟨x,aKH,dq⟩:=(uF aw).2.1 c z ao;rw[Rep];refine⟨rfl,h0,(aLy.1 dq).1,λfa bp=> ?_⟩;rw[show (gY C ax bn srows).r=srows from rfl,dq] at bp;simp only[aLj] at bp;obtain⟨V,rfl⟩:=Gz bp;rw[uG aA aw ao];exact G V aKH
  ·simp[Rep]
 | .fO z m,v,N=>by
  rw[bW];rw[Rep] at N;obtain⟨hm,h0,d,G,au⟩:=N;split
  ·rename_i c j av hj;have ao:=BA av;have xC:=BA hj;obtain⟨x,aKH,dq⟩:=(uF aw).2.1 c z ao;obtain⟨x',xo,VD⟩:=(uF aw).2.1 j m xC;rw[Rep];refine⟨rfl,h0,(aLy.1 dq).1,(aLy.1 VD).1,λlh li up xh=> ?_⟩;rw[show (gY C ax bn srows).r=srows from rfl,dq] at up;rw[show (gY C ax bn srows).r=srows from rfl,VD] at xh;simp only[aLj] at up xh;obtain⟨aK6,rfl⟩:=Gz up;obtain⟨iT,rfl⟩:=Gz xh;rw[uG aA aw ao,uG aA aw xC];exact au aK6 iT aKH xo
  ·simp[Rep]
theorem aE.bind (aA:ci C)(aw:eC C.r bn ax ax=some srows):∀(as:List F) (vs:List Value),aE C as vs->aE (gY C ax bn srows) (dT C.r ax bn as) vs
 | [],vs,z=>by simpa[dT,aE] using z
 |a::as,vs,z=>by
  rw[aE] at z;rw[dT,aE];obtain⟨v,bS,rfl,bO,cd⟩:=z;exact⟨v,bS,rfl,Rep.bind aA aw a v bO,aE.bind aA aw as bS cd⟩
end
theorem OQ {r:List Z}:∀(as:List F),dT r ax bn as=as.map (bW r ax bn)
 | []=>rfl
 |a::as=>by simp[dT,OQ as]
mutual
theorem VE {r:List Z}{ax:List (Option Nat)}{bn:List Nat}:∀(a:F),bJ a=true->bW r ax bn a=a
 | .own ..,h=>by simp[bJ] at h
 | .bd ..,h=>by simp[bJ] at h
 | .agg ap,h=>by rw[bJ] at h;rw[bW,J7 ap h]
 | .bo ap,h=>by rw[bJ] at h;rw[bW,J7 ap h]
 | .fn f ap,h=>by rw[bJ] at h;rw[bW,J7 ap h]
 | .int ..,_=>by simp[bW]
 | .bool ..,_=>by simp[bW]
 | .str ..,_=>by simp[bW]
 | .bH,_=>by simp[bW]
 | .kt,_=>by simp[bW]
 | .cj,_=>by simp[bW]
 | .pure ..,_=>by simp[bW]
 | .en ..,_=>by simp[bW]
 | .kH,_=>by simp[bW]
 | .bE _,h=>by simp[bJ] at h
 | .fO ..,h=>by simp[bJ] at h
theorem J7 {r:List Z}{ax:List (Option Nat)}{bn:List Nat}:∀(as:List F),bU as=true->dT r ax bn as=as
 | [],_=>rfl
 |a::as,h=>by
  simp only[bU,aKJ] at h;rw[dT,VE a h.1,J7 as h.2]
end
theorem VF {r:List Z}:∀(aq ys:List F),dT r ax bn (aq++ys)=dT r ax bn aq++dT r ax bn ys
 | [],ys=>rfl
 |x::aq,ys=>by simp[dT,VF aq ys]
theorem VG:∀(aq ys:List F),bU aq=true->bU ys=true->bU (aq++ys)=true
 | [],ys,_,h=>h
 |x::aq,ys,aj,bt=>by
  simp only[bU,aKJ] at aj;simp only[aLx,bU,aKJ];exact⟨aj.1,VG aq ys aj.2 bt⟩
theorem VH:∀{ar:List (List F)},dY ar=true->bU ar.flatten=true
 | [],_=>rfl
 |e::ar,h=>by
  simp only[dY,aKJ] at h;rw[aLS];exact VG _ _ h.1 (VH h.2)
theorem fs.bind (aA:ci C)(aw:eC C.r bn ax ax=some srows){U:Nat}{am:List (List F)}{vs:List Value}
 (he:fs C U am vs):fs (gY C ax bn srows) U (lJ C.r ax bn am) vs:=by
 unfold lJ;split
 ·rename_i ad;refine⟨he.jl,aE.oJ _ _ ?_,he.cV⟩;exact aE.mR (C:=C.p) (aB:=(gY C ax bn srows).p) (λx aj=>Dy (C:=C) aA aw x aj) rfl rfl _ _ (aE.qr _ _ (VH ad) he.kO)
 ·refine⟨λe hm=> ?_,?_,he.cV⟩
  ·obtain⟨x,aj,rfl⟩:=aKZ.1 hm;rw[VA];exact he.jl x aj
  ·have lj:∀ar:List (List F),(ar.map (dT C.r ax bn)).flatten=dT C.r ax bn ar.flatten:=by
    intro ar
    induction ar with
    |nil=>rfl
    |cons e ar ih=>simp[VF,ih]
   rw[lj];exact aE.bind aA aw _ _ he.kO
def J8 (ax:List (Option Nat)):Prop:= ∀c j z:Nat,ax[c]? =some (some z)->ax[j]? =some (some z)->c=j
theorem VI (aA:ci C)(aH:J8 ax)(aw:eC C.r bn ax ax=some srows):ci (gY C ax bn srows):=by
 obtain⟨hl,eR,J9⟩:=uF aw;refine⟨rfl,by simp[gY,hl],λc bG av=> ?_,λc j b J dR d G=> ?_,λb af=> ?_⟩
 ·have kv:c<ax.length:=by rw[<-hl];exact (aLy.1 av).1
  have Dz:srows[c]? =some bG:=av;cases bp:ax[c] with
  |none=>
   have:=J9 c (by rw[aKS kv,bp]);rw[Dz] at this;simp at this;subst this;rw[dQ];simp[gY,aKS kv,bp]
  |some z=>
   have qs:ax[c]? =some (some z):=by rw[aKS kv,bp]
   obtain⟨x,aKH,dq⟩:=eR c z qs;rw[Dz] at dq;simp at dq;subst dq;have rl:=uG aA aw qs;cases x with
   |fP=>rw[hr,dQ,rl];exact aA.r _ _ aKH
   |ag e U am=>
    rw[hr,dQ,rl];rcases aA.ag aKH with ⟨d,rfl⟩|⟨b,cap,ap,d,bO,cd,fk,hB,jE,jF⟩
    ·exact⟨none,d,by simp[lJ,dY]⟩
    ·obtain⟨vs,bF,bK⟩:=jF.tg;refine⟨_,d,?_,ap,cd,fk,hB,by rw[Gy];exact jE,(fs.bind aA aw bF).xB bK⟩;rintro (h|⟨cG,J,GA,_,OR⟩)
     ·exact bO h
     ·have:=aA.inj _ _ _ _ _ OR d;subst this;exact GA (aMA qs)
   |be V=>
    have kx:∀{b J:Nat},C.bu[z]? =some (some (b,J))-> ¬C.bY b-> ¬(gY C ax bn srows).bY b:=by
     intro b J ak bp;rintro (h|⟨cG,dR,GA,_,OR⟩)
     ·exact bp h
     ·have:=aA.inj _ _ _ _ _ OR ak;subst this;exact GA (aMA qs)
    have hrow:=aA.r _ _ aKH;cases V with
    |map aK Y ents=>
     rw[dQ] at hrow;obtain⟨b,J,ar,d,G,au,bv,cx,dx,oN⟩:=hrow;rw[hr,dQ,rl];refine⟨b,J,ar,d,kx d G,au,bv,?_,?_,λp ak=> ?_⟩
     ·have:=aE.bind aA aw _ _ cx;rw[OQ] at this;simpa[aLr,aO3] using this
     ·have:=aE.bind aA aw _ _ dx;rw[OQ] at this;simpa[aLr,aO3] using this
     ·obtain⟨q,aV,rfl⟩:=aKZ.1 ak;have:=oN q aV;simpa only[VE _ (Vx this)] using this
    |eh n bX=>
     rw[dQ] at hrow;obtain⟨b,jA,d,G,au⟩:=hrow;rw[hr,dQ,rl];exact⟨b,jA,d,kx d G,au⟩
 ·obtain⟨z,xu,aK6⟩:=zt aA aw d;obtain⟨cG,vJ,iT⟩:=zt aA aw G;have:=aA.inj _ _ _ _ _ aK6 iT;subst this;exact aH c j z xu vJ
 ·rcases af with h|⟨z,J,_,_,h⟩
  ·exact aA.bY b h
  ·exact aA.lt h
end
end Go.Abs
namespace Go.Abs
variable [dE]
def jL (C:bD)(ax:List Nat)(aD:bD):bD:=
 ⟨fu C.r ax (aD.r.map (gD (eU C.r.length ax))),fu C.bu ax aD.bu,C.bY,aD.w,C.bZ⟩
theorem VJ {f:Nat->Nat}{bG:Z}{e:TypeId}{U:Nat}{am:List (List F)}(h:gD f bG= .ag e U am):∃dk,bG= .ag e U dk/\am=rk f dk:=by
 cases bG with
 |fP=>simp[gD] at h
 |ag cO bz dk=>simp[gD] at h;obtain⟨rfl,rfl,rfl⟩:=h;exact⟨dk,rfl,rfl⟩
 |be V=>cases V<;>simp[gD] at h
theorem VK {f:Nat->Nat}{bG:Z}{fa:zd}(h:gD f bG= .be fa):∃V,bG= .be V:=by
 cases bG with
 |fP=>simp[gD] at h
 |ag cO bz am=>simp[gD] at h
 |be V=>exact⟨V,rfl⟩
section
variable {C aD:bD} {ax bn:List Nat} {srows:List Z}
theorem akE (aA:ci C)(aH:ax.Nodup)(aw:eC C.r bn (ax.map some) (ax.map some)=some srows)(fC:ci aD)(hl:cm srows.length (gY C (ax.map some) bn srows) aD)
 (hf:bn=[]\/(aD.r.all Bz)=true):
 ci (jL C ax aD)/\cm C.r.length C (jL C ax aD)/\ ∀v aZ,(bn=[]\/oT v=true)->Rep aD v aZ->Rep (jL C ax aD) (dS (eU C.r.length ax) v) aZ:=by
 obtain⟨fF,eR,_⟩:=uF aw;rw[aLe] at fF;have VL:∀{c z:Nat},(ax.map some)[c]? =some (some z)->ax[c]? =some z:=by
  intro c z h;simpa using h
 have GB:∀{c:Nat} (av:c<ax.length),(ax.map some)[c]? =some (some ax[c]):=by
  intro c av;simp[av]
 have aI:∀z∈ax,z<C.r.length:=by
  intro z N;obtain⟨c,av,rfl⟩:=aL9 N;obtain⟨x,aKH,_⟩:=eR c ax[c] (GB av);exact (aLy.1 aKH).1
 have eA:ax.length<=aD.r.length:=by rw[<-fF];exact hl.len
 have VM:ax.length<=(aD.r.map (gD (eU C.r.length ax))).length:=by simpa using eA
 have VN:ax.length<=aD.bu.length:=by rw[fC.dw];exact eA
 have akF:∀z∈ax,z<C.bu.length:=by rw[aA.dw];exact aI
 have OS: (jL C ax aD).r.length=C.r.length+(aD.r.length-ax.length):=by
  show (fu _ _ _).length=_;rw[ON ax _ _ VM];simp
 have nY:∀c,c<aD.r.length->(jL C ax aD).r[eU C.r.length ax c]? =(aD.r[c]?).map (gD (eU C.r.length ax)):=by
  intro c av;show (fu _ _ _)[_]? =_;rw[OO ax _ _ c aH aI (by simpa using av) VM];simp
 have tj:∀c,c<aD.r.length->(jL C ax aD).bu[eU C.r.length ax c]? =aD.bu[c]? :=by
  intro c av;show (fu _ _ _)[_]? =_;rw[<-aA.dw];exact OO ax _ _ c aH akF (by rw[fC.dw];exact av) VN
 have OT:∀z,z<C.r.length->z∉ax->(jL C ax aD).r[z]? =C.r[z]? :=λz d G=>Dx ax _ _ z d G;have Ka:∀z,z<C.r.length->z∉ax->(jL C ax aD).bu[z]? =C.bu[z]? :=λz d G=>Dx ax _ _ z (by rw[aA.dw];exact d) G;have VO:∀k,k<(jL C ax aD).r.length->(k<C.r.length/\k∉ax)\/ ∃c,c<aD.r.length/\k=eU C.r.length ax c:=by
  intro k O;rw[OS] at O;exact akD ax _ _ k aI eA O
 have VP: (jL C ax aD).bu.length=(jL C ax aD).r.length:=by
  rw[OS];show (fu _ _ _).length=_;rw[ON ax _ _ VN,aA.dw,fC.dw]
 have Kb:∀k b J:Nat,(jL C ax aD).bu[k]? =some (some (b,J))->(k<C.r.length/\k∉ax/\C.bu[k]? =some (some (b,J)))\/ ∃c:Nat,c<aD.r.length/\k=eU C.r.length ax c/\aD.bu[c]? =some (some (b,J)):=by
  intro k b J O;have gO:k<(jL C ax aD).r.length:=by
   rw[<-VP];exact (aLy.1 O).1
  rcases VO k gO with ⟨d,G⟩|⟨c,d,rfl⟩
  ·exact .inl ⟨d,G,by rw[<-Ka k d G];exact O⟩
  ·exact .inr ⟨c,d,rfl,by rw[<-tj c d];exact O⟩
 have vF:∀c b J:Nat,aD.bu[c]? =some (some (b,J))->(∃z dR:Nat,z∈ax/\C.bu[z]? =some (some (b,dR)))\/C.w.heap.size<=b:=by
  intro c b J av;rcases hl.vF c b J av with ⟨j,dR,h⟩|h
  ·obtain⟨z,d,G⟩:=zt aA aw h;exact .inl ⟨z,dR,aMA (VL d),G⟩
  ·exact .inr h
 have akG:∀b,(∀z J:Nat,z∈ax->C.bu[z]? ≠some (some (b,J)))-> ∀c J:Nat,(gY C (ax.map some) bn srows).bu[c]? ≠some (some (b,J)):=by
  intro b af c J ad;obtain⟨z,d,G⟩:=zt aA aw ad;exact af z J (aMA (VL d)) G
 have VQ:∀b,b<C.w.heap.size->(∀z J:Nat,z∈ax->C.bu[z]? ≠some (some (b,J)))->aD.w.heap[b]? =C.w.heap[b]? :=λb af bp=>hl.block b af (akG b bp);have later:cm C.r.length C (jL C ax aD):=by
  refine⟨hl.os,hl.tape,hl.output,hl.size,λb af bp=>VQ b af λz J _=>bp z J,λk b J O=> ?_,rfl,rfl,by rw[OS];omega,λz e U dk N an=> ?_,λz fa N an=> ?_,hl.drawn⟩
  ·rcases Kb k b J O with ⟨_,_,h⟩|⟨c,_,_,h⟩
   ·exact .inl ⟨k,J,h⟩
   ·rcases vF c b J h with ⟨z,dR,_,h⟩|h
    ·exact .inl ⟨z,dR,h⟩
    ·exact .inr h
  ·by_cases ao:z∈ax
   ·obtain⟨c,av,rfl⟩:=aL9 ao;have hp:=J5 ax C.r.length c av;rw[<-hp,nY c (by omega)] at an;have BB:c<aD.r.length:=by omega
    rw[aKS BB] at an;simp at an;obtain⟨rU,ay,rfl⟩:=VJ an;obtain⟨aMp,c1,c2,c3⟩:=hl.r c e U rU (by omega) (by rw[aKS BB,ay]);obtain⟨x,aKH,dq⟩:=eR c ax[c] (GB av);rw[show (gY C (ax.map some) bn srows).r=srows from rfl,dq] at c1;simp only[aLj] at c1;obtain⟨am,rfl,rfl⟩:=J6 c1;rw[Gy] at c2 c3;refine⟨am,aKH,by rw[J3];omega,λnx=> ?_⟩;rw[J3] at nx;have:=c3 (by omega);rw[uG aA aw (GB av)] at this;rw[<-hp,tj c BB,hp];exact this
   ·rw[OT z N ao] at an;exact⟨dk,an,aKM _,λ_=>Ka z N ao⟩
  ·by_cases ao:z∈ax
   ·obtain⟨c,av,rfl⟩:=aL9 ao;have hp:=J5 ax C.r.length c av;rw[<-hp,nY c (by omega)] at an;have BB:c<aD.r.length:=by omega
    rw[aKS BB] at an;simp at an;obtain⟨li,ay⟩:=VK an;obtain⟨lh,c1,c2⟩:=hl.rc c li (by omega) (by rw[aKS BB,ay]);obtain⟨x,aKH,dq⟩:=eR c ax[c] (GB av);rw[show (gY C (ax.map some) bn srows).r=srows from rfl,dq] at c1;simp only[aLj] at c1;obtain⟨V,rfl⟩:=Gz c1;refine⟨V,aKH,?_⟩;rw[uG aA aw (GB av)] at c2;rw[<-hp,tj c BB,hp];exact c2
   ·rw[OT z N ao] at an;exact⟨fa,an,Ka z N ao⟩
 have DA:∀z,z<aD.r.length->eU C.r.length ax z<(jL C ax aD).r.length/\ ∀e U dk,(jL C ax aD).r[eU C.r.length ax z]? =some (.ag e U dk)->
  ∃am,aD.r[z]? =some (.ag e U am)/\am.length<=dk.length/\(am.length=dk.length->(jL C ax aD).bu[eU C.r.length ax z]? =aD.bu[z]?):=by
  intro z N;have OU:=nY z N;rw[aKS N] at OU;refine⟨(aLy.1 (by simpa using OU)).1,λe U dk an=> ?_⟩;rw[OU] at an;simp at an;obtain⟨rU,ay,rfl⟩:=VJ an;exact⟨rU,by rw[aKS N,ay],by rw[J3];exact aKM _,λ_=>tj z N⟩
 have DB:∀z,z<aD.r.length-> ∀fa,(jL C ax aD).r[eU C.r.length ax z]? =some (.be fa)-> ∃V,aD.r[z]? =some (.be V)/\(jL C ax aD).bu[eU C.r.length ax z]? =aD.bu[z]? :=by
  intro z N fa an;rw[nY z N,aKS N] at an;simp at an;obtain⟨V,ay⟩:=VK an;exact⟨V,by rw[aKS N,ay],tj z N⟩
 have hC: (jL C ax aD).bZ=aD.bZ:=by rw[fC.bZ];exact aA.bZ
 have OV:bn=[]-> ∀b,aD.ku b->(jL C ax aD).w.heap[b]? =aD.w.heap[b]? /\(jL C ax aD).ku b:=by
  intro an b af;obtain⟨d,G,au⟩:=af;rw[hl.bY] at G;refine⟨rfl,d,λbp=>G (.inl bp),λk J O=> ?_⟩;rcases Kb k b J O with ⟨aKY,eQ,eF⟩|⟨c,_,_,q⟩
  ·exact G (.inr ⟨k,J,by simpa using eQ,by simp[an],eF⟩)
  ·exact au c J q
 have akH:∀v aZ,(bn=[]\/oT v=true)->Rep aD v aZ->Rep (jL C ax aD) (dS (eU C.r.length ax) v) aZ:=by
  intro v aZ OW N;rcases OW with an|an
  ·exact Rep.uE ⟨hC,OV an,DA,DB⟩ v aZ N
  ·exact Rep.xA hC DA DB v aZ an N
 have xB:∀(c:Nat) (e:TypeId) (U:Nat) (am:List (List F)) (vs:List Value),aD.r[c]? =some (.ag e U am)->fs aD U am vs->fs (jL C ax aD) U (rk (eU C.r.length ax) am) vs:=by
  intro c e U am vs av he;rcases hf with an|an
  ·exact fs.uE ⟨hC,OV an,DA,DB⟩ he
  ·have akI:Dv am=true:=aLW.1 an _ (aMA av);refine⟨λx aj=> ?_,?_,he.cV⟩
   ·rw[Gw] at aj;obtain⟨y,bt,rfl⟩:=aKZ.1 aj;rw[OK];exact he.jl y bt
   ·rw[Vw];exact aE.xA hC DA DB _ _ (Vy akI) he.kO
 refine⟨⟨aA.bZ,VP,λk bG O=> ?_,λk br b J dR d G=> ?_,λb af=>aLI (aA.bY b af) hl.size⟩,later,akH⟩
 ·have gO:k<(jL C ax aD).r.length:=(aLy.1 O).1;rcases VO k gO with ⟨d,G⟩|⟨c,av,rfl⟩
  ·rw[OT k d G] at O;refine dQ.move later.ext rfl (Ka k d G) (λb J af=> ?_) (aA.r k bG O);refine VQ b (aA.lt af) λz dR N cq=> ?_;have:=aA.inj _ _ _ _ _ af cq;subst this;exact G N
  ·rw[nY c av,aKS av] at O;simp at O;have hrow:=fC.r c _ (aKS av);cases ay:aD.r[c] with
   |fP=>
    rw[ay] at O hrow;simp[gD] at O;subst O;rw[dQ] at hrow ⊢;rw[tj c av];exact hrow
   |ag e U am=>
    rw[ay] at O;simp[gD] at O;subst O;have zu:aD.r[c]? =some (.ag e U am):=by rw[aKS av,ay]
    rw[dQ,tj c av];rcases fC.ag zu with ⟨aK6,rfl⟩|⟨b,cap,ap,aK6,bO,cd,fk,hB,jE,jF⟩
    ·exact⟨none,aK6,by simp[rk,dY]⟩
    ·obtain⟨vs,bF,bK⟩:=jF.tg;refine⟨_,aK6,λbp=>bO ?_,ap,cd,fk,hB,by rw[J3];exact jE,(xB c e U am vs zu bF).xB bK⟩;rw[hl.bY];exact .inl bp
   |be V=>
    have zu:aD.r[c]? =some (.be V):=by rw[aKS av,ay]
    cases V with
    |map aK Y ents=>
     rw[ay] at O hrow;simp only[gD] at O;subst O;rw[dQ] at hrow;obtain⟨b,J,ar,d,G,au,bv,cx,dx,oN⟩:=hrow;have kO:∀as vs,(bn=[]\/ny as=true)->aE aD as vs->aE (jL C ax aD) (jm (eU C.r.length ax) as) vs:=by
      intro as vs OW N;rcases OW with an|an
      ·exact aE.uE ⟨hC,OV an,DA,DB⟩ as vs N
      ·exact aE.xA hC DA DB as vs an N
     have lj:bn=[]\/(ny (ents.map (·.1))=true/\ny (ents.map (·.2))=true):=by
      rcases hf with an|an
      ·exact .inl an
      ·right
       have:=aLW.1 an _ (aMA zu);simpa[Bz] using this
     rw[dQ,tj c av];refine⟨b,J,ar,d,λbp=>G ?_,au,bv,?_,?_,λp ak=> ?_⟩
     ·rw[hl.bY];exact .inl bp
     ·have:=kO _ _ (lj.imp id (·.1)) cx;rw[OM] at this;simpa[aLr,aO3] using this
     ·have:=kO _ _ (lj.imp id (·.2)) dx;rw[OM] at this;simpa[aLr,aO3] using this
     ·obtain⟨q,aV,rfl⟩:=aKZ.1 ak;have:=oN q aV;simpa only[uD _ _ (Vx this)] using this
    |eh n bX=>
     rw[ay] at O hrow;simp only[gD] at O;subst O;rw[dQ] at hrow;obtain⟨b,jA,d,G,au⟩:=hrow;rw[dQ,tj c av];exact⟨b,jA,d,λbp=>G (by rw[hl.bY];exact .inl bp),au⟩
 ·have VR:∀{k c b J dR:Nat},k<C.r.length->k∉ax->C.bu[k]? =some (some (b,J))->aD.bu[c]? =some (some (b,dR))->False:=by
   intro k c b J dR d G au bv;rcases vF c b dR bv with ⟨z,c2,N,h⟩|h
   ·have:=aA.inj _ _ _ _ _ au h;subst this;exact G N
   ·have:=aA.lt au;omega
  rcases Kb k b J d with ⟨cH,ff,a3⟩|⟨c,cH,ff,a3⟩<;>rcases Kb br b dR G with ⟨aKU,eJ,lX⟩|⟨j,aKU,eJ,lX⟩
  ·exact aA.inj _ _ _ _ _ a3 lX
  ·exact (VR cH ff a3 lX).elim
  ·exact (VR aKU eJ lX a3).elim
  ·have:=fC.inj _ _ _ _ _ a3 lX;rw[ff,eJ,this]
end
def uH (P:Program)(f:FuncId)(args:List F)(r:List Z)(K:F->List Z->Prop):Prop:=
 ∃(ax bn:List Nat) (srows:List Z),ax.Nodup/\eC r bn (ax.map some) (ax.map some)=some srows/\
  aO P f (dT r (ax.map some) bn args) srows λv rs=>(bn=[]\/(oT v=true/\(rs.all Bz)=true))/\K (dS (eU r.length ax) v) (fu r ax (rs.map (gD (eU r.length ax))))
theorem VS {ax:List Nat}(h:ax.Nodup):J8 (ax.map some):=by
 intro c j z d G;have ii:ax[c]? =some z:=by simpa using d
 have px:ax[j]? =some z:=by simpa using G
 obtain⟨OX,bF⟩:=aLy.1 ii;obtain⟨gm,bK⟩:=aLy.1 px;exact (aPT h).1 (bF.trans bK.symm)
theorem akJ {C:bD}{ax:List (Option Nat)}{bn:List Nat}{srows:List Z}(aA:ci C)(aw:eC C.r bn ax ax=some srows)(hG:GOk C):GOk (gY C ax bn srows):=by
 obtain⟨d,G,au⟩:=hG;refine⟨d,λb af z J ad=> ?_,au⟩;obtain⟨cG,_,cR⟩:=zt aA aw ad;exact G b af cG J cR
theorem GC {P:Program}{C:bD}(aA:ci C)(hG:GOk C){f:FuncId}{args:List F}{dA:List Value}(N:aE C args dA){K:F->List Z->Prop}(h:uH P f args C.r K):
 Calls P f dA.toArray C.w λe w'=> ∃aZ v aB,e= .returned aZ/\aB.w=w'/\Rep aB v aZ/\ci aB/\cm C.r.length C aB/\K v aB.r:=by
 obtain⟨ax,bn,srows,aH,aw,hA⟩:=h;refine (hA (gY C (ax.map some) bn srows) dA rfl (VI aA (VS aH) aw) (akJ aA aw hG) (aE.bind aA aw _ _ N)).mono ?_;rintro e w' ⟨aZ,v,aD,rfl,rfl,an,fC,hl,aV,O⟩;obtain⟨aKU,eJ,lX⟩:=akE aA aH aw fC hl (aV.imp id (·.2));exact⟨aZ,_,jL C ax aD,rfl,rfl,lX v aZ (aV.imp id (·.1)) an,aKU,eJ,O⟩
end Go.Abs
namespace Go.Abs
variable [dE]
abbrev aQ:=List (Nat×F)
def bs:aQ->Nat->F
 | [],_=> .cj
 | (I,v)::z,t=>if I=t then v else bs z t
structure tl (n:Nat) (D:aQ) (C:bD) (a:Act):Prop where
 ok:ci C
 size:a.tmps.size=n
 defers:a.defers=[]
 jo:∀t,Rep C (bs D t) (a.tmps.getD t undef)
def keeps (bb:Nat)(ax:List (Option Nat)):Prop:=bb<=ax.length/\ ∀c,c<bb->ax[c]? =some (some c)\/ax[c]? =some none
inductive fv (bb:Nat):aQ->List Z->aQ->List Z->Prop
 |refl (D:aQ) (r:List Z):fv bb D r D r
 |trans {bF bK gX:aQ} {aKO cY fY:List Z} (h:fv bb bF aKO bK cY) (k:fv bb bK cY gX fY):fv bb bF aKO gX fY
 |D {bF bK:aQ} {r:List Z} (h:∀t,bs bK t=bs bF t\/bs bK t= .cj):fv bb bF r bK r
 |iv {D:aQ} {r:List Z} (I:Nat) (e:TypeId) (U:Nat) (h:bs D I= .bH):fv bb D r ((I,.own r.length 0 0 0)::D) (r++[.ag e U []])
 |vQ {D:aQ} {r:List Z} {cO:TypeId} {bz:Nat} {am:List (List F)} (z c off:Nat) (e:TypeId) (U:Nat) (h:r[z]? =some (.ag cO bz am)) (av:c<am.length) (bp:off<bz)
  (an: (am.getD c []).getD off .cj= .bH):fv bb D r D (r.set z (.ag cO bz (am.set c (fb (am.getD c []) off [.own r.length 0 0 0])))++[.ag e U []])
 |ei {D:aQ} {r:List Z} {e:TypeId} {U:Nat} {am:List (List F)} (I z n k:Nat) (h:bs D I= .own z n 0 k) (N:r[z]? =some (.ag e U am)) (aH:n=am.length):
  fv bb D r ((I,.own r.length k 0 k)::D) (r.set z .fP++[.ag e U (am.take k)])
 |ll {D:aQ} {r srows:List Z} (ax:List (Option Nat)) (bn:List Nat) (d:J8 ax) (G:keeps bb ax) (aw:eC r bn ax ax=some srows):
  fv bb D r (D.map λp=>(p.1,bW r ax bn p.2)) srows
theorem VT (f:F->F)(hf:f .cj= .cj):∀(D:aQ) (t:Nat),bs (D.map λp=>(p.1,f p.2)) t=f (bs D t)
 | [],t=>by simp[bs,hf]
 | (I,v)::z,t=>by
  simp only[aKP,bs];split
  ·rfl
  ·exact VT f hf z t
theorem jB.bY {C:bD}{VU:Nat->Prop}(h:∀b,VU b->C.bY b):jB C {C with bY:=VU}:=
 ⟨rfl,λb af=>⟨rfl,af.1,λbp=>af.2.1 (h b bp),af.2.2⟩,aKM _,λ_ _ _ am _ h=>⟨am,h,aKM _,λ_=>rfl⟩,λ_ V _ h=>⟨V,h,rfl⟩⟩
theorem Kc {n bb:Nat}{fG:bD}{a:Act}{D:aQ}{r:List Z}{fl:aQ}{ca:List Z}(h:fv bb D r fl ca):∀(C:bD),C.r=r->tl n D C a->cm bb fG C->
 ∃aB,aB.w=C.w/\aB.r=ca/\tl n fl aB a/\cm bb fG aB:=by
 induction h with
 |refl D r=>intro C N ao hl;exact⟨C,rfl,N,ao,hl⟩
 |trans _ _ GD DC=>
  intro C N ao hl;obtain⟨BC,cH,ff,a3,a4⟩:=GD C N ao hl;obtain⟨xD,aKU,eJ,lX,Kd⟩:=DC BC ff a3 a4;exact⟨xD,aKU.trans cH,eJ,lX,Kd⟩
 |D h=>
  intro C N ao hl;refine⟨C,rfl,N,⟨ao.ok,ao.size,ao.defers,λt=> ?_⟩,hl⟩;rcases h t with h|h
  ·rw[h];exact ao.jo t
  ·rw[h];simp[Rep]
 | @iv D r I e U h=>
  intro C N ao hl;subst N;obtain⟨d,G⟩:=GE ao.ok e U;refine⟨⟨C.r++[.ag e U []],C.bu++[none],C.bY,C.w,C.bZ⟩,rfl,rfl,⟨d,ao.size,ao.defers,λt=> ?_⟩,hl.trans G hl.len⟩;simp only[bs];split
  ·rename_i cn;subst cn;have:=ao.jo I;rw[h,Rep] at this;obtain⟨cy,this⟩:=this;rw[this,Rep];refine⟨ao.ok.bZ,⟨_,_,rfl⟩,by simp,λbK pu mM an=> ?_⟩;simp at an;obtain⟨rfl,rfl,rfl⟩:=an;exact⟨by simp,λ_=>⟨by simp,none,by simp[<-ao.ok.dw],⟨_,rfl⟩,rfl,rfl⟩⟩
  ·exact Rep.ext G.ext _ _ (ao.jo t)
 | @ei D r e U am I z n k h iV aH=>
  intro C N ao hl;subst N;have aA:=ao.ok;have fA:z<C.r.length:=(aLy.1 iV).1;have Bu:z<C.bu.length:=by rw[aA.dw];exact fA
  have pD:=ao.jo I;rw[h,Rep] at pD;obtain⟨_,akK,_,pD⟩:=pD;obtain⟨aJs,p,ak,an⟩:=(pD _ _ _ iV).2 aH;have qq:∀{br:Nat} {q:Nat×Nat},(C.bu.set z none++[p])[br]? =some (some q)->(br≠z/\br<C.bu.length/\C.bu[br]? =some (some q))\/(br=C.bu.length/\p=some q):=by
   intro br q O;rw[aK9] at O;split at O
   ·rename_i aI;rw[aLg] at aI;rw[aKQ] at O;split at O
    ·rename_i he;subst he;simp[Bu] at O
    ·rename_i hne;exact .inl ⟨λe=>hne e.symm,aI,O⟩
   ·rename_i Bh;rw[aLg] at O Bh;cases ba:br-C.bu.length with
    |zero=>rw[ba] at O;simp at O;exact .inr ⟨by omega,O⟩
    |succ m=>rw[ba] at O;simp at O
  have pA:∀{br:Nat},br<C.r.length->br≠z->(C.bu.set z none++[p])[br]? =C.bu[br]? :=by
   intro br O hne;rw[aK9,Rc (by rw[aLg,aA.dw];exact O),aKQ,S (λe=>hne e.symm)]
  have ca:∀{br:Nat},br<C.r.length->br≠z->(C.r.set z .fP++[.ag e U (am.take k)])[br]? =C.r[br]? :=by
   intro br O hne;rw[aK9,Rc (by rw[aLg];exact O),aKQ,S (λe=>hne e.symm)]
  have OY: (C.r.set z .fP++[.ag e U (am.take k)])[z]? =some .fP:=by
   rw[aK9,Rc (by rw[aLg];exact fA),aKQ,Rc rfl,Rc fA]
  have later:cm C.r.length C ⟨C.r.set z .fP++[.ag e U (am.take k)],C.bu.set z none++[p],C.bY,C.w,C.bZ⟩:=by
   refine⟨rfl,rfl,rfl,aKM _,λ_ _ _=>rfl,λbr b J O=> ?_,rfl,rfl,by simp,λbr bK pu mM O gl=> ?_,λbr li O gl=> ?_,λ_=>aKM _⟩
   ·rcases qq O with ⟨_,_,d⟩|⟨_,d⟩
    ·exact .inl ⟨br,J,d⟩
    ·exact .inl ⟨z,J,by rw[ak,d]⟩
   ·by_cases hne:br=z
    ·subst hne;have:some Z.fP=some (Z.ag bK pu mM):=OY.symm.trans gl;cases this
    ·exact⟨mM,(ca O hne).symm.trans gl,aKM _,λ_=>pA O hne⟩
   ·by_cases hne:br=z
    ·subst hne;have:some Z.fP=some (Z.be li):=OY.symm.trans gl;cases this
    ·exact⟨li,(ca O hne).symm.trans gl,pA O hne⟩
  refine⟨⟨C.r.set z .fP++[.ag e U (am.take k)],C.bu.set z none++[p],C.bY,C.w,C.bZ⟩,rfl,rfl,⟨⟨aA.bZ,by simp[aA.dw],λbr bG O=> ?_,λbO cd b J dR d G=> ?_,aA.bY⟩,ao.size,ao.defers,λt=> ?_⟩,hl.trans later hl.len⟩
  ·by_cases kL:br<C.r.length
   ·by_cases hne:br=z
    ·subst hne;have:some Z.fP=some bG:=OY.symm.trans O;cases this;rw[dQ];show (C.bu.set br none++[p])[br]? =_;rw[aK9,Rc (by rw[aLg];exact Bu),aKQ,Rc rfl,Rc Bu]
    ·exact dQ.move later.ext rfl (pA kL hne) (λb J af=>rfl) (aA.r br bG ((ca kL hne).symm.trans O))
   ·have sf:br=C.r.length:=by
     have:=(aLy.1 O).1;simp at this;omega
    subst sf;have hrow:bG= .ag e U (am.take k):=by
     rw[aK9,S (by simp)] at O;simp at O;exact O.symm
    subst hrow;rw[dQ];refine⟨p,?_,?_⟩
    ·show (C.bu.set z none++[p])[C.r.length]? =_;rw[aK9,S (by rw[aLg,aA.dw];omega)];simp[aA.dw]
    ·rcases aA.ag iV with ⟨iJ,iW⟩|⟨b,cap,ap,iJ,d,G,au,bv,cx,dx⟩
     ·rw[ak] at iJ;simp at iJ;subst iJ;simp[iW]
     ·rw[ak] at iJ;simp at iJ;subst iJ;exact⟨d,ap,G,au,bv,by rw[aLd];omega,((dh.take k dx).move later.ext rfl)⟩
  ·rcases qq d with ⟨aMq,mN,aKH⟩|⟨bF,aKH⟩<;>rcases qq G with ⟨eo,nv,bR⟩|⟨bK,bR⟩
   ·exact aA.inj bO cd b J dR aKH bR
   ·exact (aMq (aA.inj bO z b J dR aKH (by rw[ak,bR]))).elim
   ·exact (eo (aA.inj cd z b dR J bR (by rw[ak,aKH]))).elim
   ·rw[bF,bK]
  ·simp only[bs];split
   ·rename_i cn;subst cn;rw[Rep];refine⟨aA.bZ,?_,by simp,λbK pu mM gl=> ?_⟩
    ·exact akK
    ·simp at gl;obtain⟨rfl,rfl,rfl⟩:=gl;refine⟨by rw[aLd];omega,λ_=>⟨by omega,p,?_,an⟩⟩;show (C.bu.set z none++[p])[C.r.length]? =_;rw[aK9,S (by rw[aLg,aA.dw];omega)];simp[aA.dw]
   ·exact Rep.ext later.ext _ _ (ao.jo t)
 | @vQ D r cO bz am z c off e U h av bp an=>
  intro C N ao hl;subst N;have aA:=ao.ok;have fA:z<C.r.length:=(aLy.1 h).1;have later:cm C.r.length C ⟨C.r.set z (.ag cO bz (am.set c (fb (am.getD c []) off [.own C.r.length 0 0 0])))++[.ag e U []],C.bu++[none],C.bY,C.w,C.bZ⟩:=by
   refine⟨rfl,rfl,rfl,aKM _,λ_ _ _=>rfl,λk b J O=> ?_,rfl,rfl,by simp,λk bK pu mM O gl=> ?_,λk li O gl=> ?_,λ_=>aKM _⟩
   ·simp only[aK9] at O;split at O
    ·exact .inl ⟨k,J,O⟩
    ·cases ba:k-C.bu.length with
     |zero=>rw[ba] at O;simp at O
     |succ m=>rw[ba] at O;simp at O
   ·have BD: (C.bu++[none])[k]? =C.bu[k]? :=by
     rw[aK9,Rc (by rw[aA.dw];exact O)]
    simp only[aK9,aLg,O,aK5,aKQ] at gl;split at gl
    ·rename_i GF;subst GF;simp at gl;obtain⟨rfl,rfl,rfl⟩:=gl;exact⟨am,h,by simp,λ_=>BD⟩
    ·exact⟨mM,gl,aKM _,λ_=>BD⟩
   ·have BD: (C.bu++[none])[k]? =C.bu[k]? :=by
     rw[aK9,Rc (by rw[aA.dw];exact O)]
    simp only[aK9,aLg,O,aK5,aKQ] at gl;split at gl
    ·rename_i GF;subst GF;simp at gl
    ·exact⟨li,gl,BD⟩
  have akL: (C.r.set z (.ag cO bz (am.set c (fb (am.getD c []) off [.own C.r.length 0 0 0])))++[Z.ag e U []]).length=C.r.length+1:=by simp
  have akM:∀cy,Rep ⟨C.r.set z (.ag cO bz (am.set c (fb (am.getD c []) off [.own C.r.length 0 0 0])))++[.ag e U []],C.bu++[none],C.bY,C.w,C.bZ⟩ (.own C.r.length 0 0 0) (.slice cy 0 0):=by
   intro cy;rw[Rep];refine⟨aA.bZ,⟨_,_,rfl⟩,by simp,λbK pu mM gl=> ?_⟩;simp at gl;obtain⟨rfl,rfl,rfl⟩:=gl;exact⟨by simp,λ_=>⟨by simp,none,by simp[<-aA.dw],⟨_,rfl⟩,rfl,rfl⟩⟩
  refine⟨⟨C.r.set z (.ag cO bz (am.set c (fb (am.getD c []) off [.own C.r.length 0 0 0])))++[.ag e U []],C.bu++[none],C.bY,C.w,C.bZ⟩,rfl,rfl,⟨⟨aA.bZ,by simp[aA.dw],λk bG O=> ?_,λk br b J dR d G=> ?_,aA.bY⟩,ao.size,ao.defers,λt=>Rep.ext later.ext _ _ (ao.jo t)⟩,hl.trans later hl.len⟩
  ·have BD:k<C.r.length->(C.bu++[none])[k]? =C.bu[k]? :=λO=>by rw[aK9,Rc (by rw[aA.dw];exact O)]
   by_cases kL:k<C.r.length
   ·simp only[aK9,aLg,kL,aK5,aKQ] at O;split at O
    ·rename_i GF;subst GF;simp only[aLj] at O;subst O;rw[dQ];rcases aA.ag h with ⟨aK6,rfl⟩|⟨b,cap,ap,aK6,bO,cd,fk,hB,jE,jF⟩
     ·simp at av
     ·refine⟨some (b,cap),(BD kL).trans aK6,bO,ap,cd,fk,hB,by simpa using jE,?_⟩;obtain⟨vs,bF,bK⟩:=jF.tg;have cg:am.getD c []∈am:=by rw[aLn,aKS av];simp
      have jI:=bF.jl _ cg;have VV:=bF.ext later.ext;refine fs.xB (vs:=vs) ⟨λx aj=> ?_,?_,bF.cV⟩ bK
      ·rcases aNZ aj with aj|rfl
       ·exact bF.jl x aj
       ·rw[VW (by simp only[aL6];omega)];exact jI
      ·rw[Ke (U:=bz) [.own C.r.length 0 0 0] off am c bF.jl av (by simp;omega)];obtain⟨c1,c2⟩:=jF.oL c av;obtain⟨v,aKH,bR⟩:=c2.oL off (by omega);rw[an,Rep] at bR;obtain⟨cy,rfl⟩:=bR;have xx:=bF.length;have kv: (c+1)*bz<=am.length*bz:=aMF _ (by omega);rw[aLM] at kv;have aI:c*bz+off<vs.length:=by omega
       have nw:vs[c*bz+off]? =some (.slice cy 0 0):=by
        obtain⟨u,bc⟩:∃u,vs[c*bz+off]? =some u:=⟨_,aKS aI⟩;have:=bK _ _ bc;rw[aL5] at this aKH;rw[aKH] at this;rw[bc];exact this.symm
       have ho:vs=vs.take (c*bz+off)++[.slice cy 0 0]++vs.drop (c*bz+off+1):=by
        conv=>lhs;rw[<-aMt (c*bz+off) vs,aL4 aI]
        rw[aKS aI] at nw;simp at nw;rw[nw];simp
       rw[ho];refine aE.append (aE.append ?_ ?_) ?_
       ·exact VV.kO.take _
       ·rw[aE];exact⟨_,[],rfl,akM cy,by rw[aE]⟩
       ·exact VV.kO.drop _
    ·rename_i hne;exact dQ.move later.ext rfl (BD kL) (λb J af=>rfl) (aA.r k bG O)
   ·have sf:k=C.r.length:=by
     have:=(aLy.1 O).1;rw[akL] at this;omega
    subst sf;simp at O;subst O;rw[dQ];exact⟨none,by simp[<-aA.dw],rfl⟩
  ·have qq:∀{k:Nat} {q:Nat×Nat},(C.bu++[none])[k]? =some (some q)->C.bu[k]? =some (some q):=by
    intro k q O;simp only[aK9] at O;split at O
    ·exact O
    ·cases ba:k-C.bu.length with
     |zero=>rw[ba] at O;simp at O
     |succ m=>rw[ba] at O;simp at O
   exact aA.inj k br b J dR (qq d) (qq G)
 | @ll D r srows ax bn d G aw=>
  intro C N ao hl;subst N;have aA:=ao.ok;have ad:=VI aA d aw;obtain⟨fF,eR,J9⟩:=uF aw;have nz:jB (gY C ax bn srows) {gY C ax bn srows with bY:=C.bY}:=jB.bY λb af=> .inl af;refine⟨{gY C ax bn srows with bY:=C.bY},rfl,rfl,⟨⟨rfl,ad.dw,λc bG av=> ?_,ad.inj,aA.bY⟩,ao.size,ao.defers,λt=> ?_⟩,?_⟩
  ·have:=ad.r c bG av;cases bG with
   |fP=>exact this
   |ag e U am=>
    rw[dQ] at this ⊢;obtain⟨p,aK6,iT⟩:=this;refine⟨p,aK6,?_⟩;cases p with
    |none=>exact iT
    |some q=>
     obtain⟨b,cap⟩:=q;obtain⟨bO,ap,cd,fk,hB,jE,jF⟩:=iT;exact⟨λbp=>bO (.inl bp),ap,cd,fk,hB,jE,jF.move nz rfl⟩
   |be V=>
    cases V with
    |map aK Y ents=>
     rw[dQ] at this ⊢;obtain⟨b,J,ar,d,G,au,bv,cx,dx,oN⟩:=this;exact⟨b,J,ar,d,λbp=>G (.inl bp),au,bv,aE.ext nz _ _ cx,aE.ext nz _ _ dx,oN⟩
    |eh n bX=>
     rw[dQ] at this ⊢;obtain⟨b,jA,d,G,au⟩:=this;exact⟨b,jA,d,λbp=>G (.inl bp),au⟩
  ·rw[VT (bW C.r ax bn) (by simp[bW])];exact Rep.ext nz _ _ (Rep.bind aA aw _ _ (ao.jo t))
  ·have akN:cm bb C {gY C ax bn srows with bY:=C.bY}:=by
    refine⟨rfl,rfl,rfl,aKM _,λ_ _ _=>rfl,λc b J av=> ?_,rfl,aA.bZ.symm,by show bb<=srows.length;rw[fF];exact G.1,λc e U dk av an=> ?_,λc fa av an=> ?_,λ_=>aKM _⟩
    ·obtain⟨z,_,N⟩:=zt aA aw av;exact .inl ⟨z,J,N⟩
    ·rcases G.2 c av with qs|qs
     ·obtain⟨x,aKH,dq⟩:=eR c c qs;have df:srows[c]? =some (.ag e U dk):=an;rw[dq] at df;simp only[aLj] at df;obtain⟨am,rfl,rfl⟩:=J6 df;exact⟨am,aKH,by rw[Gy];exact aKM _,λ_=>uG aA aw qs⟩
     ·have df:srows[c]? =some (.ag e U dk):=an;rw[J9 c qs] at df;cases df
    ·have df:srows[c]? =some (.be fa):=an;rcases G.2 c av with qs|qs
     ·obtain⟨x,aKH,dq⟩:=eR c c qs;rw[dq] at df;simp only[aLj] at df;obtain⟨V,rfl⟩:=Gz df;exact⟨V,aKH,uG aA aw qs⟩
     ·rw[J9 c qs] at df;cases df
   exact hl.trans akN (aKM _)
def E (bb:Nat)(K:aQ->List Z->Prop)(D:aQ)(r:List Z):Prop:= ∃fl ca,fv bb D r fl ca/\K fl ca
theorem E.ac {bb:Nat}{K:aQ->List Z->Prop}{D:aQ}{r:List Z}(h:K D r):E bb K D r:=⟨D,r,.refl _ _,h⟩
set_option linter.defProp false in
def i:= @E.ac
theorem E.oc {bb:Nat}{K:aQ->List Z->Prop}{D fl:aQ}{r ca:List Z}(w:fv bb D r fl ca)(h:E bb K fl ca):E bb K D r:=by
 obtain⟨e,z,d,G⟩:=h;exact⟨e,z,w.trans d,G⟩
end Go.Abs
