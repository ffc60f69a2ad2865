/- The abstract machine. -/
import Derived.Test.YtpincjkjoeopkaaGreatDoorC1
set_option linter.all false
namespace Go.Abs
variable [dE]
inductive bi where
 |t (I:Nat)
 |J (v:F)
 deriving Inhabited
def bi.aM (D:aQ):bi->F
 | .t I=>bs D I
 | .J v=>v
structure dU where
 dst:Option Nat
 op:gc
 args:List bi
 guard:Option (Nat×Bool)
 deriving Inhabited
def put (D:aQ)(dst:Option Nat)(v:F):aQ:=
 match dst with
 |some B=>(B,v)::D
 |none=>D
def Kf (P:Program)(f:FuncId):Prop:= ∃fn,P.funcs[f]? =some fn/\(fn.body.isSome&&fn.name != "runtime.NumGoroutine")=true
def BE (P:Program)(vs:List F)(r:List Z)(K:F->List Z->Prop):Prop:=
 match vs with
 | .fn f ap::aq=>Kf P f/\uH P f (aq++ap) r K
 |_=>False
def eV (P:Program)(V:dU)(D:aQ)(r:List Z)(K:aQ->List Z->Prop):Prop:=
 match V.op with
 | .call f=>uH P f (V.args.map (bi.aM D)) r λv ca=>K (put D V.dst v) ca
 | .next=>
  match V.args.map (bi.aM D) with
  | [x]=>sa r x λv ca=>K (put D V.dst v) ca
  |_=>False
 | .xE=>BE P (V.args.map (bi.aM D)) r λv ca=>K (put D V.dst v) ca
 |op=>aM op (V.args.map (bi.aM D)) r λv ca=>K (put D V.dst v) ca
def tn (b ej:Bool)(A di:Prop):Prop:=if b=ej then A else di
def xF (P:Program)(V:dU)(D:aQ)(r:List Z)(K:aQ->List Z->Prop):Prop:=
 match V.guard with
 |none=>eV P V D r K
 |some (I,ej)=>
  match bs D I with
  | .bool b=>tn b ej (eV P V D r K) (K (put D V.dst (.bo [])) r)
  | .bo []=>K (put D V.dst (.bo [])) r
  |_=>False
def zv (P:Program):List dU->(aQ->List Z->Prop)->aQ->List Z->Prop
 | [],K,D,r=>K D r
 |V::os,K,D,r=>xF P V D r (zv P os K)
def sg:Operand->Option bi
 | .tmp t=>some (.t t)
 | .const v=>(BF v).map .J
 | .func f=>some (.J (.fn f []))
 |_=>none
def vR:List Operand->Option (List bi)
 | []=>some []
 |x::aq=>
  match sg x,vR aq with
  |some y,some ys=>some (y::ys)
  |_,_=>none
def Kg (dst:Option Nat)(n:Nat):Bool:=
 match dst with
 |some B=>decide (B<n)
 |none=>true
def Kh (n:Nat)(bq:Array Oper)(V:Oper):Option dU:=
 if Kg V.dst n then
  match V.guard with
  |none=>some ⟨V.dst,.qt,[],none⟩
  |some (j,ej)=>
   match (bq[j]?).bind (·.dst) with
   |some I=>if I<n then some ⟨V.dst,.qt,[],some (I,ej)⟩ else none
   |none=>none
 else none
def OZ (P:Program)(n:Nat)(bq:Array Oper)(V:Oper):Option dU:=
 match pB P V with
 |some (op,aq)=>
  match vR aq with
  |some args=>
   if Kg V.dst n then
    match V.guard with
    |none=>some ⟨V.dst,op,args,none⟩
    |some (j,ej)=>
     match (bq[j]?).bind (·.dst) with
     |some I=>if I<n then some ⟨V.dst,op,args,some (I,ej)⟩ else none
     |none=>none
   else none
  |none=>Kh n bq V
 |none=>Kh n bq V
structure zw (P:Program) (n:Nat) (bq:Array Oper) (V:Oper) (bI:dU):Prop where
 op: (∃aq,pB P V=some (bI.op,aq)/\vR aq=some bI.args)\/(bI.op= .qt/\bI.args=[])
 dst:bI.dst=V.dst/\ ∀B,V.dst=some B->B<n
 guard: (V.guard=none/\bI.guard=none)\/ ∃j ej I,V.guard=some (j,ej)/\(bq[j]?).bind (·.dst)=some I/\I<n/\bI.guard=some (I,ej)
theorem VX {P:Program}{n:Nat}{bq:Array Oper}{V:Oper}{bI:dU}(h:Kh n bq V=some bI):zw P n bq V bI:=by
 unfold Kh at h;split at h
 ·rename_i ay;have mS:∀B,V.dst=some B->B<n:=by
   intro B he;rw[he] at ay;simpa[Kg] using ay
  split at h
  ·rename_i aw;simp at h;subst h;exact⟨.inr ⟨rfl,rfl⟩,⟨rfl,mS⟩,.inl ⟨aw,rfl⟩⟩
  ·rename_i j ej aw;split at h
   ·rename_i I ao;split at h
    ·rename_i aI;simp at h;subst h;exact⟨.inr ⟨rfl,rfl⟩,⟨rfl,mS⟩,.inr ⟨j,ej,I,aw,ao,aI,rfl⟩⟩
    ·cases h
   ·cases h
 ·cases h
theorem akO {P:Program}{n:Nat}{bq:Array Oper}{V:Oper}{bI:dU}(h:OZ P n bq V=some bI):zw P n bq V bI:=by
 unfold OZ at h;split at h
 ·rename_i op aq dL;split at h
  ·rename_i args hargs;split at h
   ·rename_i ay;have mS:∀B,V.dst=some B->B<n:=by
     intro B he;rw[he] at ay;simpa[Kg] using ay
    split at h
    ·rename_i aw;simp at h;subst h;exact⟨.inl ⟨aq,dL,hargs⟩,⟨rfl,mS⟩,.inl ⟨aw,rfl⟩⟩
    ·rename_i j ej aw;split at h
     ·rename_i I ao;split at h
      ·rename_i aI;simp at h;subst h;exact⟨.inl ⟨aq,dL,hargs⟩,⟨rfl,mS⟩,.inr ⟨j,ej,I,aw,ao,aI,rfl⟩⟩
      ·cases h
     ·cases h
   ·cases h
  ·exact VX h
 ·exact VX h
section
variable {P:Program} {n bb:Nat} {fG:bD} [vN fG] {bq:Array Oper}
theorem O0 {D:aQ}{C:bD}{a:Act}(ao:tl n D C a){x:Operand}{y:bi}(h:sg x=some y):Rep C (y.aM D) (a.eval x):=by
 cases x with
 |tmp t=>simp[sg] at h;subst h;exact ao.jo t
 |const v=>
  simp only[sg] at h;cases an:BF v with
  |none=>rw[an] at h;simp at h
  |some b=>rw[an] at h;simp at h;subst h;exact (Ki an).1
 |global g=>simp[sg] at h
 |func f=>
  simp[sg] at h;subst h;simp only[bi.aM];rw[Rep];exact⟨#[],rfl,by simp[aE]⟩
theorem VY {D:aQ}{C:bD}{a:Act}(ao:tl n D C a):∀{aq:List Operand} {ys:List bi},vR aq=some ys->aE C (ys.map (bi.aM D)) (aq.map a.eval)
 | [],ys,h=>by simp[vR] at h;subst h;simp[aE]
 |x::aq,ys,h=>by
  simp only[vR] at h;split at h
  ·rename_i y ce bt ba;simp at h;subst h;rw[aKP,aKP,aE];exact⟨_,_,rfl,O0 ao bt,VY ao ba⟩
  ·cases h
theorem GG {D:aQ}{C aB:bD}{a:Act}(ao:tl n D C a)(aA:ci aB)(he:jB C aB){dst:Option Nat}(ay:∀B,dst=some B->B<n){v:F}{aZ:Value}(an:Rep aB v aZ):
 tl n (put D dst v) aB (a.put dst aZ):=by
 cases dst with
 |none=>exact⟨aA,ao.size,ao.defers,λt=>Rep.ext he _ _ (ao.jo t)⟩
 |some B=>
  have BG:=ay B rfl;refine⟨aA,by simp[Act.put,ao.size],ao.defers,λt=> ?_⟩;simp only[put,bs,Act.put];split
  ·rename_i BH;subst BH;have:B<a.tmps.size:=by rw[ao.size];exact BG
   simpa[Array.getD,this] using an
  ·rename_i BH;have:=Rep.ext he _ _ (ao.jo t);rw[show (a.tmps.setIfInBounds B aZ).getD t undef=a.tmps.getD t undef from ?_]
   ·exact this
   ·simp[aO1 BH]
def Holds (n bb:Nat)(fG:bD)(K:aQ->List Z->Prop)(a:Act)(w:World):Prop:= ∃D C,C.w=w/\tl n D C a/\cm bb fG C/\K D C.r
theorem akP {V:Oper}{f:FuncId}{aq:List Operand}(h:pB P V=some (.call f,aq)):
 ∃args vM fn,V.op= .call {callee:= .value (.func f),args:=args,argTypes:=vM}/\aq=args.toList/\P.funcs[f]? =some fn/\(fn.body.isSome&&fn.name != "runtime.NumGoroutine")=true:=by
 obtain⟨dst,op,type,J0,after,guard⟩:=V;unfold pB at h;simp only at h;split at h
 case h_27=>
  rename_i VZ args vM;split at h
  ·rename_i fn hfn;split at h
   ·rename_i af;simp at h;obtain⟨rfl,rfl⟩:=h;exact⟨args,vM,fn,rfl,rfl,hfn,af⟩
   ·cases h
  ·cases h
 all_goals (repeat' (split at h))<;>simp at h
theorem V0 {a:Act}{V:Oper}{f:FuncId}{aq:List Operand}(h:pB P V=some (.call f,aq))(w:World): (execOp a.eval V).run P w= .ok (.enter f (aq.map a.eval).toArray) w:=by
 obtain⟨args,vM,fn,bp,rfl,hfn,af⟩:=akP h;simp only[aKJ,aNo,ne_eq] at af;have O1:fn.body.isNone=false:=by rw[Option.isNone_eq_false_iff];exact af.1
 have GH: (fn.name== "runtime.NumGoroutine")=false:=aLO.2 af.2
 have hargs:args.map a.eval=(args.toList.map a.eval).toArray:=aOY (by simp);unfold execOp;simp only[bp,resolve,Deferred.ofValue,Act.eval,Sem.run_bind,Sem.run_pure,Result.andThen_ok,invoke,callFunc,run_program,hfn,GH,O1,aLK,aLi];simp[hargs]
theorem akQ {V:Oper}{aq:List Operand}(h:pB P V=some (.xE,aq)):
 ∃t args vM,V.op= .call {callee:= .value (.tmp t),args:=args,argTypes:=vM}/\aq= .tmp t::args.toList:=by
 obtain⟨dst,op,type,J0,after,guard⟩:=V;unfold pB at h;simp only at h;split at h
 all_goals (repeat' (split at h))<;>simp at h
 exact⟨_,_,_,rfl,h.symm⟩
theorem V1 {a:Act}{V:Oper}{aq:List Operand}(h:pB P V=some (.xE,aq)){C:bD}{f:FuncId}{ap as:List F}(N:aE C (.fn f ap::as) (aq.map a.eval))(hf:Kf P f)(w:World):
 ∃dA,aE C (as++ap) dA/\(execOp a.eval V).run P w= .ok (.enter f dA.toArray) w:=by
 obtain⟨t,args,vM,bp,rfl⟩:=akQ h;rw[aKP,aE] at N;obtain⟨v,bS,he,d,G⟩:=N;simp only[aO4] at he;obtain⟨rfl,rfl⟩:=he;rw[Rep] at d;obtain⟨vs,d,au⟩:=d;obtain⟨fn,hfn,af⟩:=hf;simp only[aKJ,aNo,ne_eq] at af;have O1:fn.body.isNone=false:=by rw[Option.isNone_eq_false_iff];exact af.1
 have GH: (fn.name== "runtime.NumGoroutine")=false:=aLO.2 af.2
 refine⟨args.toList.map a.eval++vs.toList,G.append au,?_⟩;have hargs: #[]++args.map a.eval++vs=(args.toList.map a.eval++vs.toList).toArray:=aOY (by simp);unfold execOp;simp only[bp,resolve,Deferred.ofValue,d,Sem.run_bind,Sem.run_pure,Result.andThen_ok,invoke,callFunc,run_program,hfn,GH,O1,aLK,aLi,hargs]
theorem akR {D:aQ}{C:bD}{a:Act}{c:Nat}{V:Oper}{bI:dU}(av:bq[c]? =some V)(hf:zw P n bq V bI)(ao:tl n D C a)(hl:cm bb fG C)
 {K:aQ->List Z->Prop} {sh:Act->World->Prop} {bh:Exit->Act->World->Prop} (cA:∀a w,Holds n bb fG K a w->sh a w) (h:xF P bI D C.r K):wpOp P bq bh c sh a C.w:=by
 obtain⟨O2,⟨tp,BG⟩,aw⟩:=hf;have vS:∀B,bI.dst=some B->B<n:=by rw[tp];exact BG
 have skip:K (put D bI.dst (.bo [])) C.r->sh (a.put V.dst undef) C.w:=by
  intro O;refine cA _ _ ⟨_,C,rfl,?_,hl,O⟩;rw[<-tp];exact GG ao ao.ok (jB.refl C) vS (by rw[Rep];exact⟨#[],rfl,by simp[aE]⟩)
 have run:eV P bI D C.r K->V.wp P a C.w sh bh:=by
  intro N;rcases O2 with ⟨aq,dL,hargs⟩|⟨aKU,eJ⟩
  rotate_left
  ·exact (by simp[eV,aKU,eJ,aM] at N)
  have dv:=VY ao hargs;unfold eV at N;unfold Oper.wp;split at N
  ·rename_i f iH;rw[iH] at dL;rw[V0 dL,Oper.upon_enter];refine (GC ao.ok ((vN.ok (C:=fG)).later hl) dv N).mono ?_;rintro e w' ⟨aZ,v,aB,rfl,rfl,d,G,au,bv⟩;refine cA _ _ ⟨_,aB,rfl,?_,hl.trans au hl.len,bv⟩;rw[<-tp];exact GG ao G au.ext vS d
  ·rename_i iH;rw[iH] at dL;split at N
   ·rename_i x aj;rw[aj] at dv;obtain⟨xG,aZ,v,aB,d,G,au,bv,cx,dx⟩:=akC dL ao.ok a.eval dv N;rw[d];have:sh (a.put V.dst aZ) aB.w:=by
     refine cA _ _ ⟨_,aB,rfl,?_,hl.trans cx hl.len,dx⟩;rw[<-tp];exact GG ao bv cx.ext vS au
    rcases G with rfl|⟨rfl,rfl⟩
    ·exact this
    ·exact this
   ·exact N.elim
  ·rename_i iH;rw[iH] at dL;unfold BE at N;split at N
   ·rename_i f ap as aj;rw[aj] at dv;obtain⟨dA,aKH,bR⟩:=V1 dL dv N.1 C.w;rw[bR,Oper.upon_enter];refine (GC ao.ok ((vN.ok (C:=fG)).later hl) aKH N.2).mono ?_;rintro e w' ⟨aZ,v,aB,rfl,rfl,d,G,au,bv⟩;refine cA _ _ ⟨_,aB,rfl,?_,hl.trans au hl.len,bv⟩;rw[<-tp];exact GG ao G au.ext vS d
   ·exact N.elim
  ·rename_i Kj _ _;obtain⟨xG,aZ,v,aB,d,G,au,bv,cx,dx⟩:=Vr dL (λf hf=>Kj f hf) ao.ok a.eval (λ_=>rfl) dv N;rw[d];have:sh (a.put V.dst aZ) aB.w:=by
    refine cA _ _ ⟨_,aB,rfl,?_,hl.trans cx hl.len,dx⟩;rw[<-tp];exact GG ao bv cx.ext vS au
   rcases G with rfl|⟨rfl,rfl⟩
   ·exact this
   ·exact this
 unfold wpOp;rw[av];simp only;rcases aw with ⟨aKH,bR⟩|⟨j,ej,I,aKH,bR,dq,gP⟩
 ·have aP:Region.wanted V (yielded bq a.tmps)=true:=by simp[Region.wanted,aKH]
  rw[Rc aP];simp only[xF,bR] at h;exact .inl (run h)
 ·simp only[xF,gP] at h;have pD:=ao.jo I;have dJ:I<a.tmps.size:=by rw[ao.size];exact dq
  have bt:∀v,a.tmps.getD I undef=v->yielded bq a.tmps j=(match v with| .bool b=>some b|_=>none):=by
   intro v an;have d:a.tmps[I]? =some v:=by
    rw[aLN dJ];simpa[Array.getD,dJ] using an
   unfold yielded;rw[bR];simp only[aPU,d];cases v<;>rfl
  split at h
  ·rename_i b af;rw[af,Rep] at pD;have si:=bt _ pD;simp only at si;unfold tn at h;split at h
   ·rename_i mT;have aP:Region.wanted V (yielded bq a.tmps)=true:=by simp[Region.wanted,aKH,si,mT]
    rw[Rc aP];exact .inl (run h)
   ·rename_i mT;have aP:¬Region.wanted V (yielded bq a.tmps)=true:=by simp[Region.wanted,aKH,si,mT]
    rw[S aP];exact skip h
  ·rename_i af;rw[af,Rep] at pD;obtain⟨vs,an,_⟩:=pD;have si:=bt _ an;simp only at si;have aP:¬Region.wanted V (yielded bq a.tmps)=true:=by simp[Region.wanted,aKH,si]
   rw[S aP];exact skip h
  ·exact h.elim
theorem V2 {K:aQ->List Z->Prop}{bh:Exit->Act->World->Prop}(vT:∀a w,Holds n bb fG K a w->bh .normal a w):∀(l:List Nat) (eu:List dU),
 eu.length=l.length->(∀k (O:k<l.length),∃V bI,bq[l[k]]? =some V/\eu[k]? =some bI/\zw P n bq V bI)-> ∀a w,Holds n bb fG (zv P eu K) a w->wpOps P bq bh l a w
 | [],eu,hl,_,a,w,h=>by
  have:eu=[]:=aNm (by simpa using hl);subst this;exact vT a w h
 |c::l,[],hl,_,a,w,h=>by simp at hl
 |c::l,bI::eu,hl,hf,a,w,h=>by
  obtain⟨V,aJt,d,G,au⟩:=hf 0 (by simp);simp at d G;subst G;obtain⟨D,C,rfl,ao,akS,O⟩:=h;rw[wpOps_cons];refine akR d au ao akS ?_ O;intro lm w' cR;exact V2 vT l eu (by simpa using hl) (λk gj=>hf (k+1) (by simpa using gj)) lm w' cR
end
end Go.Abs
namespace Go.Abs
variable [dE]
abbrev fD:=Nat->F
abbrev dr:=List (Nat×Nat×Bool)
def gE (ρ:fD)(B:Option Nat)(v:F):fD:=
 match B with
 |some B=>λt=>if B=t then v else ρ t
 |none=>ρ
def bi.ln (ρ:fD):bi->F
 | .t I=>ρ I
 | .J v=>v
theorem GI (D:aQ)(B:Option Nat)(v:F):bs (put D B v)=gE (bs D) B v:=by
 cases B with
 |none=>rfl
 |some B=>funext t;simp[put,bs,gE]
theorem akT (D:aQ)(x:bi):x.ln (bs D)=x.aM D:=by cases x<;>rfl
structure fd where
 bI:dU
 fo:Option Nat
 bL:List Nat
 deriving Inhabited
def db:F->List Nat
 | .own z _ _ _=> [z]
 | .bd z _ _ _=> [z]
 | .bE z=> [z]
 | .fO z m=> [z,m]
 |_=> []
def jM:gc->List F->List Nat
 | .store _,x::_=>db x
 | .append ..,x::_=>db x
 | .jN,x::_=>db x
 | .copy _,x::_=>db x
 | .clear ..,x::_=>db x
 | .pE ..,x::_=>db x
 | .oU ..,x::_=>db x
 | .sj,x::_=>db x
 |_,_=> []
def fw:gc->List F->List Nat
 | .pF,x::_=>db x
 | .pG _,x::_=>db x
 | .indexAddr _,x::_=>db x
 | .slice ..,x::_=>db x
 | .Kk,x::_=>db x
 | .zx ..,x::_=>db x
 | .append ..,[_,y]=>db y
 | .copy _,[_,y]=>db y
 | .iw ..,x::_=>db x
 | .Kl,x::_=>db x
 | .eh,x::_=>db x
 | .entry,x::_=>db x
 |_,_=> []
def od:gc->Bool
 | .store _| .append .. | .jN| .call _| .xE| .clear .. | .BI .. | .uI .. | .alloc .. | .box .. | .sk .. =>true
 | .copy _| .zy .. | .pE .. | .oU .. | .sj| .eh| .next=>true
 |_=>false
def eL (bL:List Nat)(tk:dr)(W aF:List Nat):Prop:= ∀c z w,(c,z,w)∈tk->c∈bL->z∉W/\(w=true->z∉aF)
def jp (op:gc)(args:List F)(k:Nat)(r:List Z)(K:F->List Z->Prop):Prop:=
 match op,args with
 | .alloc e zero,[]=>r[k]? =some (.ag e zero.length [])/\K (.bd k 1 0 0) (r.set k (.ag e zero.length [zero]))
 | .box e U,[x]=>((cp x).length=U/\(cp x).all cV=true)/\r[k]? =some (.ag e U [])/\K (.bd k 1 0 0) (r.set k (.ag e U [cp x]))
 | .sk e U zero len jq,vs=>
  match oV (List.replicate len zero) U jq vs with
  |some ar=>((vs.all λv=>(cp v).all cV)=true/\0<len)/\r[k]? =some (.ag e U [])/\K (.own k len 0 len) (r.set k (.ag e U ar))
  |none=>False
 | .uI e U b zero,[.int _ l,.int _ J]=>(0<l/\l<=J/\J*b<=140737488355328/\J<=140737488355328)/\r[k]? =some (.ag e U [])/\K (.own k l.toNat 0 l.toNat) (r.set k (.ag e U (List.replicate l.toNat zero)))
 |_,_=>False
def xH (P:Program)(f:FuncId)(args:List F)(bL:List Nat)(tk:dr)(r:List Z)(K:F->List Z->Prop):Prop:=
 ∃(ax bn:List Nat) (srows:List Z),eL bL tk ax bn/\ax.Nodup/\eC r bn (ax.map some) (ax.map some)=some srows/\
  aO P f (dT r (ax.map some) bn args) srows λv rs=>(bn=[]\/(oT v=true/\(rs.all Bz)=true))/\K (dS (eU r.length ax) v) (fu r ax (rs.map (gD (eU r.length ax))))
def uJ (P:Program)(vs:List F)(bL:List Nat)(tk:dr)(r:List Z)(K:F->List Z->Prop):Prop:=
 match vs with
 | .fn f ap::aq=>Kf P f/\xH P f (aq++ap) bL tk r K
 |_=>False
def sl (P:Program)(base:Nat)(B:fd)(tk:dr)(ρ:fD)(r:List Z)(K:fD->List Z->Prop):Prop:=
 match B.fo with
 |some q=>eL B.bL tk [base+q] []/\jp B.bI.op (B.bI.args.map (bi.ln ρ)) (base+q) r λv ca=>K (gE ρ B.bI.dst v) ca
 |none=>
  match B.bI.op with
  | .call f=>xH P f (B.bI.args.map (bi.ln ρ)) B.bL tk r λv ca=>K (gE ρ B.bI.dst v) ca
  | .xE=>uJ P (B.bI.args.map (bi.ln ρ)) B.bL tk r λv ca=>K (gE ρ B.bI.dst v) ca
  |op=>eL B.bL tk (jM op (B.bI.args.map (bi.ln ρ))) (fw op (B.bI.args.map (bi.ln ρ)))/\aM op (B.bI.args.map (bi.ln ρ)) r λv ca=>K (gE ρ B.bI.dst v) ca
def oe (g:Option (Nat×Bool))(ρ:fD):Option Bool:=
 match g with
 |none=>some true
 |some (I,ej)=>
  match ρ I with
  | .bool b=>some (b==ej)
  | .bo []=>some false
  |_=>none
def ix (P:Program)(base:Nat)(B:fd)(tk:dr)(ρ:fD)(r:List Z)(K:fD->List Z->Prop):Prop:=
 match oe B.bI.guard ρ with
 |some true=>sl P base B tk ρ r K
 |some false=>K (gE ρ B.bI.dst (.bo [])) r
 |none=>False
def ext (base c:Nat)(B:fd)(ρ:fD)(tk:dr):dr:=
 if oe B.bI.guard ρ=some true then
  match B.fo with
  |some q=>(c,base+q,true)::tk
  |none=>if od B.bI.op then tk else (fw B.bI.op (B.bI.args.map (bi.ln ρ))).map (λz=>(c,z,false))++tk
 else tk
def DD (P:Program)(base:Nat)(ds:List fd):List Nat->dr->(fD->List Z->Prop)->fD->List Z->Prop
 | [],_,K,ρ,r=>K ρ r
 |c::is,tk,K,ρ,r=>ix P base (ds.getD c default) tk ρ r (DD P base ds is (ext base c (ds.getD c default) ρ tk) K)
def zz (P:Program)(base:Nat)(bq:Array Oper)(ds:List fd):Nat->Array Bool->dr->(fD->List Z->Prop)->fD->List Z->Prop
 |0,dZ,_,K,ρ,r=>Region.ready .any bq dZ=[]/\K ρ r
 |hH+1,dZ,tk,K,ρ,r=>(Region.ready .any bq dZ=[]->K ρ r)/\
  ∀c∈Region.ready .any bq dZ,ix P base (ds.getD c default) tk ρ r (zz P base bq ds hH (dZ.setIfInBounds c true) tk K)
inductive og where
 |none
 |set (z:Nat) (x:Z)
 |push (x:Z)
def og.jY:og->List Z->List Z
 | .none,r=>r
 | .set z x,r=>r.set z x
 | .push x,r=>r++[x]
def gQ (W aF:List Nat)(pure:Bool)(bm:List Z->(F->List Z->Prop)->Prop):Prop:=
 ∀r K,bm r K-> ∃(v:F) (a:og),K v (a.jY r)/\(pure=true->a= .none)/\(∀z x,a= .set z x->z∈W)/\(∀z,z∈W\/z∈aF->z<r.length)/\
  ∀cP aL,(∀x,a= .push x->cP.length=r.length)->(∀z,z∈W\/z∈aF->cP[z]? =r[z]?)->aL v (a.jY cP)->bm cP aL
theorem vU {bm:List Z->(F->List Z->Prop)->Prop}{b:Bool}(h:∀r K,bm r K-> ∃v,K v r/\ ∀cP aL,aL v cP->bm cP aL):gQ [] [] b bm:=by
 intro r K hf;obtain⟨v,d,G⟩:=h r K hf;exact⟨v,.none,d,λ_=>rfl,λz x e=>(by cases e),λz N=>(by simp at N),λcP aL _ _ O=>G cP aL O⟩
theorem xI {bm:List Z->(F->List Z->Prop)->Prop}{aF:List Nat}{b:Bool}(h:∀r K,bm r K-> ∃v,K v r/\(∀z∈aF,z<r.length)/\ ∀cP aL,(∀z∈aF,cP[z]? =r[z]?)->aL v cP->bm cP aL):gQ [] aF b bm:=by
 intro r K hf;obtain⟨v,d,au,G⟩:=h r K hf;exact⟨v,.none,d,λ_=>rfl,λz x e=>(by cases e),λz N=>au z (by simpa using N),λcP aL _ N O=>G cP aL (λz cq=>N z (.inr cq)) O⟩
theorem kP {r:List Z}{z:Nat}{x:Z}(h:r[z]? =some x):z<r.length:=(aLy.1 h).1
theorem akU (x:F):gQ [] (db x) true (λr K=>qu r x λv=>K v r):=by
 refine xI λr K h=> ?_;simp only[qu] at h;split at h
 ·split at h
  ·rename_i N;refine⟨_,h.2.2,λcG cq=> ?_,λcP aL he O=> ?_⟩
   ·simp[db] at cq;subst cq;exact kP N
   ·simp only[qu,(he _ (aMu _)).trans N];exact⟨h.1,h.2.1,O⟩
  ·exact h.elim
 ·exact⟨_,h.2,by simp[db],λcP aL _ O=>⟨h.1,O⟩⟩
 ·exact h.elim
theorem akV (n:Nat)(x:F):gQ [] (db x) true (λr K=>oW r n x λv=>K v r):=by
 refine xI λr K h=> ?_;simp only[oW] at h;split at h
 ·split at h
  ·rename_i N;refine⟨_,h.2.2,λcG cq=> ?_,λcP aL he O=> ?_⟩
   ·simp[db] at cq;subst cq;exact kP N
   ·simp only[oW,(he _ (aMu _)).trans N];exact⟨h.1,h.2.1,O⟩
  ·exact h.elim
 ·exact⟨_,h.2,by simp[db],λcP aL _ O=>⟨h.1,O⟩⟩
 ·exact h.elim
theorem akW (n:Nat)(x y:F):gQ [] (db x) true (λr K=>xj r n x y λv=>K v r):=by
 refine xI λr K h=> ?_;simp only[xj] at h;split at h
 ·exact⟨_,h.2.2.2,by simp[db],λcP aL _ O=>⟨h.1,h.2.1,h.2.2.1,O⟩⟩
 ·split at h
  ·rename_i N;refine⟨_,h.2.2.2.2,λcG cq=> ?_,λcP aL he O=> ?_⟩
   ·simp[db] at cq;subst cq;exact kP N
   ·simp only[xj,(he _ (aMu _)).trans N];exact⟨h.1,h.2.1,h.2.2.1,h.2.2.2.1,O⟩
  ·exact h.elim
 ·exact h.elim
theorem Km (ft av:Option F)(n:Nat)(x:F):gQ [] (db x) true (λr K=>qj r ft av n x λv=>K v r):=by
 refine xI λr K h=> ?_;simp only[qj] at h;split at h
 ·exact h.elim
 ·rename_i l hl;split at h
  ·rename_i a b aC af;obtain⟨d,G,au,h⟩:=h;split at h
   ·exact⟨_,h.2,by simp[db],λcP aL _ O=>by simp only[qj,hl,aC,af];exact⟨d,G,au,h.1,O⟩⟩
   ·exact⟨_,h,by simp[db],λcP aL _ O=>by simp only[qj,hl,aC,af];exact⟨d,G,au,O⟩⟩
   ·split at h
    ·rename_i N;refine⟨_,h.2.2,λcG cq=> ?_,λcP aL he O=> ?_⟩
     ·simp[db] at cq;subst cq;exact kP N
     ·simp only[qj,hl,aC,af,(he _ (aMu _)).trans N];exact⟨d,G,au,h.1,h.2.1,O⟩
    ·exact h.elim
   ·exact h.elim
  ·exact h.elim
theorem Kn (ft av:Option F)(x:F):gQ [] [] true (λr K=>ut ft av x λv=>K v r):=by
 refine vU λr K h=> ?_;simp only[ut] at h;split at h
 ·split at h
  ·rename_i aC af;exact⟨_,h.2.2.2,λcP aL O=>by simp only[ut,aC,af];exact⟨h.1,h.2.1,h.2.2.1,O⟩⟩
  ·exact h.elim
 ·exact h.elim
theorem akX (op:BinOp)(x y:F):gQ [] [] true (λr K=>me op x y λv=>K v r):=by
 refine vU λr K h=> ?_;simp only[me] at h;split at h
 ·split at h<;>first
   |exact h.elim
   |exact⟨_,h.2,λcP aL O=>⟨h.1,O⟩⟩
   |exact⟨_,h.2.2,λcP aL O=>⟨h.1,h.2.1,O⟩⟩
 ·split at h<;>first
   |exact h.elim
   |exact⟨_,h,λcP aL O=>O⟩
   |exact⟨_,h.2,λcP aL O=>⟨h.1,O⟩⟩
 ·exact h.elim
theorem akY (n:Nat)(x y:F):gQ (db x) [] false (λr K=>xJ r n x y λr=>K (.bo []) r):=by
 intro r K h;simp only[xJ] at h;split at h
 ·split at h
  ·rename_i N;refine⟨_,.set _ _,h.2.2.2.2,λe=>(by cases e),λz x e=> ?_,λcG cq=> ?_,λcP aL _ he O=> ?_⟩
   ·cases e;simp[db]
   ·simp[db] at cq;subst cq;exact kP N
   ·simp only[xJ,(he _ (.inl (aMu _))).trans N];exact⟨h.1,h.2.1,h.2.2.1,h.2.2.2.1,O⟩
  ·exact h.elim
 ·exact h.elim
theorem GJ {r cP:List Z}{U:Nat}{y:F}(he:∀z∈db y,cP[z]? =r[z]?):jr cP U y=jr r U y:=by
 cases y<;>simp[jr,db] at he ⊢;rw[he]
theorem Ko {r:List Z}{U:Nat}{y:F}{ys:List (List F)}(h:jr r U y=some ys):∀z∈db y,z<r.length:=by
 intro z N;cases y<;>simp only[jr] at h<;>first| (cases h;done)|skip
 all_goals simp[db] at N
 subst N;split at h
 ·exact kP ‹_›
 ·cases h
theorem akZ (e:TypeId)(U bytes:Nat)(x y:F):gQ (db x) (db y) false (λr K=>uK r e U bytes x y K):=by
 intro r K h;simp only[uK] at h;split at h
 ·exact h.elim
 ·rename_i ys kN;have aI:=Ko kN;split at h
  ·refine⟨_,.push _,h.2,λe=>(by cases e),λz x e=>(by cases e),λz N=> ?_,λcP aL hl he O=> ?_⟩
   ·exact aI z (by simpa[db] using N)
   ·simp only[uK,GJ (λz N=>he z (.inr N)),kN,hl _ rfl];exact⟨h.1,O⟩
  ·split at h
   ·rename_i N;obtain⟨d,G,au,bv,cx,dx,h⟩:=h;refine⟨_,.set _ _,h,λe=>(by cases e),λz x e=> ?_,λcG cq=> ?_,λcP aL _ he O=> ?_⟩
    ·cases e;simp[db]
    ·rcases cq with cq|cq
     ·simp[db] at cq;subst cq;exact kP N
     ·exact aI _ cq
    ·simp only[uK,GJ (λz N=>he z (.inr N)),kN,(he _ (.inl (aMu _))).trans N];exact⟨d,G,au,bv,cx,dx,O⟩
   ·exact h.elim
  ·exact h.elim
theorem ala (x:F):gQ [] (db x) true (λr K=>zp r x λv=>K v r):=by
 refine xI λr K h=> ?_;simp only[zp] at h;split at h
 ·exact h.elim
 ·rename_i ys kN;split at h
  ·rename_i jJ ur;refine⟨_,h,Ko kN,λcP aL he O=> ?_⟩;simp only[zp,GJ he,kN,ur];exact O
  ·exact h.elim
theorem alb (U:Nat)(neg:Bool)(x:F):gQ [] (db x) true (λr K=>Br r U neg x λv=>K v r):=by
 refine xI λr K h=> ?_;simp only[Br] at h;split at h
 ·rename_i ys kN;refine⟨_,h.2,Ko kN,λcP aL he O=> ?_⟩;simp only[Br,GJ he,kN];exact⟨h.1,O⟩
 ·exact h.elim
theorem alc (x:F):gQ (db x) [] false (λr K=>zq r x K):=by
 intro r K h;simp only[zq] at h;split at h
 ·split at h
  ·rename_i N;refine⟨_,.set _ _,h.2.2.2.2.2,λe=>(by cases e),λz x e=> ?_,λcG cq=> ?_,λcP aL _ he O=> ?_⟩
   ·cases e;simp[db]
   ·simp[db] at cq;subst cq;exact kP N
   ·simp only[zq,(he _ (.inl (aMu _))).trans N];exact⟨h.1,h.2.1,h.2.2.1,h.2.2.2.1,h.2.2.2.2.1,O⟩
  ·exact h.elim
 ·exact h.elim
theorem ald (U:Nat)(x y:F):gQ (db x) (db y) false (λr K=>zj r U x y K):=by
 intro r K h;simp only[zj] at h;split at h
 ·exact h.elim
 ·rename_i ys kN;have aI:=Ko kN;split at h
  ·split at h
   ·rename_i N;obtain⟨d,G,au,h⟩:=h;refine⟨_,.set _ _,h,λe=>(by cases e),λz x e=> ?_,λcG cq=> ?_,λcP aL _ he O=> ?_⟩
    ·cases e;simp[db]
    ·rcases cq with cq|cq
     ·simp[db] at cq;subst cq;exact kP N
     ·exact aI _ cq
    ·simp only[zj,GJ (λz N=>he z (.inr N)),kN,(he _ (.inl (aMu _))).trans N];exact⟨d,G,au,O⟩
   ·exact h.elim
  ·exact h.elim
theorem ale {r cP:List Z}{aK:Bool}{Y:List cW}{x:F}(he:∀z∈db x,cP[z]? =r[z]?):qn cP aK Y x=qn r aK Y x:=by
 cases x<;>simp[qn,db] at he ⊢;rw[he]
theorem alf (ok aK:Bool)(Y:List cW)(M x k:F):gQ [] (db x) true (λr K=>uy r ok aK Y M x k λv=>K v r):=by
 refine xI λr K h=> ?_;simp only[uy] at h;split at h
 ·exact h.elim
 ·rename_i ents oO;refine⟨_,h.2,λz N=> ?_,λcP aL he O=> ?_⟩
  ·cases x<;>simp[db] at N<;>simp only[qn] at oO<;>first| (cases oO;done)|skip
   subst N;split at oO
   ·exact kP ‹_›
   ·cases oO
  ·simp only[uy,ale he,oO];exact⟨h.1,O⟩
theorem alg (aK:Bool)(Y:List cW)(x k v:F):gQ (db x) [] false (λr K=>xr r aK Y x k v λr=>K (.bo []) r):=by
 intro r K h;simp only[xr] at h;split at h
 ·split at h
  ·rename_i N;refine⟨_,.set _ _,h.2.2,λe=>(by cases e),λz x e=> ?_,λcG cq=> ?_,λcP aL _ he O=> ?_⟩
   ·cases e;simp[db]
   ·simp[db] at cq;subst cq;exact kP N
   ·simp only[xr,(he _ (.inl (aMu _))).trans N];exact⟨h.1,h.2.1,O⟩
  ·exact h.elim
 ·exact h.elim
theorem alh (aK:Bool)(Y:List cW)(M x k:F):gQ (db x) [] false (λr K=>vI r aK Y M x k K):=by
 intro r K h;simp only[vI] at h;split at h
 ·split at h
  ·rename_i N;refine⟨_,.set _ _,h.2.2,λe=>(by cases e),λz x e=> ?_,λcG cq=> ?_,λcP aL _ he O=> ?_⟩
   ·cases e;simp[db]
   ·simp[db] at cq;subst cq;exact kP N
   ·simp only[vI,(he _ (.inl (aMu _))).trans N];exact⟨h.1,h.2.1,O⟩
  ·exact h.elim
 ·exact h.elim
theorem ali (x c v:F):gQ (db x) [] false (λr K=>xs r x c v λr=>K (.bo []) r):=by
 intro r K h;simp only[xs] at h;split at h
 ·split at h
  ·rename_i N;refine⟨_,.set _ _,h.2.2,λe=>(by cases e),λz x e=> ?_,λcG cq=> ?_,λcP aL _ he O=> ?_⟩
   ·cases e;simp[db]
   ·simp[db] at cq;subst cq;exact kP N
   ·simp only[xs,(he _ (.inl (aMu _))).trans N];exact⟨h.1,h.2.1,O⟩
  ·exact h.elim
 ·exact h.elim
theorem alj (x:F):gQ [] (db x) false (λr K=>xt r x K):=by
 intro r K h;simp only[xt] at h;split at h
 ·split at h
  ·rename_i N;refine⟨_,.push _,h,λe=>(by cases e),λz x e=>(by cases e),λcG cq=> ?_,λcP aL hl he O=> ?_⟩
   ·simp[db] at cq;subst cq;exact kP N
   ·simp only[xt,(he _ (.inr (aMu _))).trans N,hl _ rfl];exact O
  ·exact h.elim
 ·exact h.elim
theorem alk (x:F):gQ [] (db x) true (λr K=>xv r x λv=>K v r):=by
 refine xI λr K h=> ?_;simp only[xv] at h;split at h
 ·split at h
  ·rename_i N hm;refine⟨_,h.2.2.2,λcG cq=> ?_,λcP aL he O=> ?_⟩
   ·simp[db] at cq;rcases cq with rfl|rfl
    ·exact kP N
    ·exact kP hm
   ·simp only[xv,(he _ (aLa)).trans N,(he _ (aK1 _ (aMu _))).trans hm];exact⟨h.1,h.2.1,h.2.2.1,O⟩
  ·exact h.elim
 ·exact h.elim
theorem alm (U:Nat)(zero:List F)(x:F):gQ (db x) [] false (λr K=>xy r U zero x λr=>K (.bo []) r):=by
 intro r K h;simp only[xy] at h;split at h
 ·split at h
  ·rename_i N;refine⟨_,.set _ _,h.2.2.2,λe=>(by cases e),λz x e=> ?_,λcG cq=> ?_,λcP aL hl he O=> ?_⟩
   ·cases e;simp[db]
   ·simp[db] at cq;subst cq;exact kP N
   ·simp only[xy,(he _ (.inl (aMu _))).trans N];exact⟨h.1,h.2.1,h.2.2.1,O⟩
  ·exact h.elim
 ·exact h.elim
theorem aln (len U:Nat)(x y:F):gQ [] [] true (λr K=>Bq len U x y λv=>K v r):=by
 refine vU λr K h=> ?_;simp only[Bq] at h;split at h
 ·exact⟨_,h.2.2,λcP aL O=>⟨h.1,h.2.1,O⟩⟩
 ·exact⟨_,h.2.2,λcP aL O=>⟨h.1,h.2.1,O⟩⟩
 ·exact h.elim
theorem alo (z:Nat):gQ [] [z] true (λr K=>match r[z]? with|some (.be (.map _ _ ents))=>K (.int .i64 ents.length) r|_=>False):=by
 refine xI λr K h=> ?_;split at h
 ·rename_i N;refine⟨_,h,λcG cq=> ?_,λcP aL he O=> ?_⟩
  ·simp at cq;subst cq;exact kP N
  ·simp only[(he _ (aMu _)).trans N];exact O
 ·exact h.elim
theorem DF {bm:List Z->(F->List Z->Prop)->Prop}{b:Bool}(af:b=false)(h:∀r K,bm r K-> ∃v x,K v (r++[x])/\ ∀cP aL,cP.length=r.length->aL v (cP++[x])->bm cP aL):gQ [] [] b bm:=by
 intro r K hf;obtain⟨v,x,d,G⟩:=h r K hf;exact⟨v,.push x,d,λe=>(by rw[af] at e;cases e),λz x e=>(by cases e),λz N=>(by simp at N),λcP aL hl _ O=>G cP aL (hl x rfl) O⟩
theorem gQ.O3 {W' V3:List Nat}{b:Bool}{bm:List Z->(F->List Z->Prop)->Prop}(h:gQ [] [] b bm)(hW:W'=[])(dc:V3=[]):gQ W' V3 b bm:=by subst hW;subst dc;exact h
theorem alp {W aF:List Nat}{b:Bool}{bm:List Z->(F->List Z->Prop)->Prop}(h:∀r K,¬bm r K):gQ W aF b bm:=λr K hf=>absurd hf (h r K)
theorem DG (op:gc)(args:List F):gQ (jM op args) (fw op args) (!od op) (aM op args):=by
 unfold aM;split
 case h_3=>exact DF rfl λr K h=>⟨_,_,h,λcP aL hl O=>by rw[hl];exact O⟩
 case h_4=>exact DF rfl λr K h=>⟨_,_,h.2.2,λcP aL hl O=>by rw[hl];exact⟨h.1,h.2.1,O⟩⟩
 case h_5=>
  refine gQ.O3 ?_ (by rfl) (by rfl);refine vU λr K h=> ?_;split at h
  ·exact⟨_,h.2,λcP aL O=>⟨h.1,O⟩⟩
  ·exact h.elim
 case h_6=>
  refine gQ.O3 ?_ (by rfl) (by rfl);refine DF rfl λr K h=> ?_;split at h
  ·exact⟨_,_,h.2,λcP aL hl O=>by rw[hl];exact⟨h.1,O⟩⟩
  ·exact h.elim
 case h_8=>exact DF rfl λr K h=>⟨_,_,h.2.2.2.2,λcP aL hl O=>by rw[hl];exact⟨h.1,h.2.1,h.2.2.1,h.2.2.2.1,O⟩⟩
 case h_9=>exact akU _
 case h_10=>exact akV _ _
 case h_11=>exact akY _ _ _
 case h_14=>exact akX _ _ _
 case h_20=>
  refine vU λr K h=> ?_;simp only[Gu] at h;split at h
  ·exact⟨_,h,λcP aL O=>O⟩
  ·exact⟨_,h,λcP aL O=>O⟩
  ·exact h.elim
 case h_23=>exact akW _ _ _
 case h_25=>exact Km _ _ _ _
 case h_26=>exact Km _ _ _ _
 case h_27=>exact Km _ _ _ _
 case h_28=>exact Km _ _ _ _
 case h_29=>exact Kn _ _ _
 case h_30=>exact Kn _ _ _
 case h_31=>exact Kn _ _ _
 case h_32=>exact Kn _ _ _
 case h_34=>
  refine vU λr K h=> ?_;split at h
  ·exact⟨_,h,λcP aL O=>O⟩
  ·exact h.elim
 case h_35=>exact akZ _ _ _ _ _
 case h_39=>exact ala _
 case h_40=>exact alc _
 case h_41=>exact ald _ _ _
 case h_42=>exact aln _ _ _ _
 case h_45=>refine gQ.O3 ?_ (by rfl) (by rfl);exact vU λr K h=>⟨_,h,λcP aL O=>O⟩
 case h_46=>exact DF rfl λr K h=>⟨_,_,h,λcP aL hl O=>by rw[hl];exact O⟩
 case h_47=>exact alf _ _ _ _ _ _
 case h_48=>exact alg _ _ _ _ _
 case h_49=>exact alh _ _ _ _ _
 case h_50=>exact ali _ _ _
 case h_51=>exact alo _
 case h_52=>exact alj _
 case h_53=>exact alk _
 case h_55=>exact DF rfl λr K h=>⟨_,_,h.2.2,λcP aL hl O=>by rw[hl];exact⟨h.1,h.2.1,O⟩⟩
 case h_56=>exact alm _ _ _
 case h_57=>exact alb _ _ _
 case h_58=>exact alp λr K h=>h
 all_goals first
  |exact vU λr K h=>⟨_,h,λcP aL O=>O⟩
  |exact vU λr K h=>⟨_,h.2,λcP aL O=>⟨h.1,O⟩⟩
  |exact vU λr K h=>⟨_,h.2.2,λcP aL O=>⟨h.1,h.2.1,O⟩⟩
theorem O4 {op:gc}{args:List F}{k:Nat}{r:List Z}{K:F->List Z->Prop}(h:jp op args k r K):
 ∃(v:F) (y:Z),K v (r.set k y)/\k<r.length/\ ∀cP (aL:F->List Z->Prop),cP[k]? =r[k]? ->aL v (cP.set k y)->jp op args k cP aL:=by
 have bg:∀{x y:Z} {v:F},r[k]? =some x->K v (r.set k y)->(∀cP (aL:F->List Z->Prop),cP[k]? =some x->aL v (cP.set k y)->jp op args k cP aL)->
  ∃(v:F) (y:Z),K v (r.set k y)/\k<r.length/\ ∀cP (aL:F->List Z->Prop),cP[k]? =r[k]? ->aL v (cP.set k y)->jp op args k cP aL:=by
  intro x y v d G au;exact⟨v,y,G,kP d,λcP aL he O=>au cP aL (he.trans d) O⟩
 unfold jp at h;split at h
 ·exact bg h.1 h.2 λcP aL d G=>⟨d,G⟩
 ·exact bg h.2.1 h.2.2 λcP aL d G=>⟨h.1,d,G⟩
 ·rename_i e U aJu len jq _;split at h
  ·rename_i ar kM;refine bg h.2.1 h.2.2 λcP aL d G=> ?_;simp only[jp,kM];exact⟨h.1,d,G⟩
  ·exact h.elim
 ·exact bg h.2.1 h.2.2 λcP aL d G=>⟨h.1,d,G⟩
 ·exact h.elim
theorem Kp (op:gc)(args:List F)(k:Nat):gQ [k] [] false (λr K=>jp op args k r K):=by
 intro r K h;obtain⟨v,y,d,G,au⟩:=O4 h;refine⟨v,.set k y,d,λe=>(by cases e),λz x e=> ?_,λz N=> ?_,λcP aL _ he O=> ?_⟩
 ·cases e;simp
 ·simp at N;subst N;exact G
 ·exact au cP aL (he k (by simp)) O
theorem alq {op:gc}{args:List F}(h:od op=false):jM op args=[]:=by
 cases op<;>first|rfl| (simp[od] at h)
theorem gQ.mono {W aF:List Nat}{b:Bool}{bm:List Z->(F->List Z->Prop)->Prop}(h:gQ W aF b bm){r:List Z}{K aL:F->List Z->Prop}(hf:bm r K)(O:∀v rs,K v rs->aL v rs):bm r aL:=by
 obtain⟨v,a,d,_,_,_,cx⟩:=h _ _ hf;exact cx r aL (λ_ _=>rfl) (λ_ _=>rfl) (O _ _ d)
theorem eL.mono {bL:List Nat}{tk lK:dr}{W aF:List Nat}(ht:∀e∈tk,e∈lK)(h:eL bL lK W aF):eL bL tk W aF:=λj z w hm hj=>h j z w (ht _ hm) hj
theorem xK {P:Program}{base:Nat}{B:fd}{tk lK:dr}(ht:∀e∈tk,e∈lK){ρ:fD}{r:List Z}{K aL:fD->List Z->Prop}(h:ix P base B lK ρ r K)(O:∀dD ca,K dD ca->aL dD ca):ix P base B tk ρ r aL:=by
 unfold ix at h ⊢;split
 ·rename_i hl;rw[hl] at h;simp only at h;unfold sl at h ⊢;split
  ·rename_i q aV;rw[aV] at h;exact⟨h.1.mono ht,(Kp _ _ _).mono h.2 λv rs hh=>O _ _ hh⟩
  ·rename_i aV;rw[aV] at h;simp only at h;split
   ·rename_i f dL;rw[dL] at h;simp only at h;obtain⟨ax,bn,srows,aKH,bR,dq,gP⟩:=h;exact⟨ax,bn,srows,aKH.mono ht,bR,dq,gP.mono λv rs hh=>⟨hh.1,O _ _ hh.2⟩⟩
   ·rename_i dL;rw[dL] at h;simp only at h;unfold uJ at h ⊢;split at h
    ·rename_i aj;obtain⟨hfn,ax,bn,srows,aKH,bR,dq,gP⟩:=h;exact⟨hfn,ax,bn,srows,aKH.mono ht,bR,dq,gP.mono λv rs hh=>⟨hh.1,O _ _ hh.2⟩⟩
    ·exact h.elim
   ·rename_i op dL DH;split at h
    ·rename_i f hf;exact absurd hf (dL f)
    ·rename_i hf;exact absurd hf DH
    ·exact⟨h.1.mono ht,(DG _ _).mono h.2 λv rs hh=>O _ _ hh⟩
 ·rename_i hl;rw[hl] at h;exact O _ _ h
 ·rename_i hl;rw[hl] at h;exact h
end Go.Abs
namespace Go.Abs
variable [dE]
def og.GW:og->Bool
 | .push _=>false
 |_=>true
theorem apm {a b:og}{r:List Z}(aC:a.GW=true)(d:∀k y,a= .set k y->k<r.length)(G:∀k y z x,a= .set k y->b= .set z x->k≠z):a.jY (b.jY r)=b.jY (a.jY r):=by
 cases a with
 |none=>rfl
 |push=>cases aC
 |set k y=>
  have O:=d k y rfl;cases b with
  |none=>rfl
  |push x=>simp only[og.jY];rw[List.set_append,Rc O]
  |set z x=>simp only[og.jY];rw[aPY];exact λe=>G k y z x rfl rfl e.symm
theorem Wi {a:og}{r:List Z}{z:Nat}(N:z<r.length)(h:∀k y,a= .set k y->k≠z): (a.jY r)[z]? =r[z]? :=by
 cases a with
 |none=>rfl
 |push x=>simp only[og.jY];rw[aK9,Rc N]
 |set k y=>simp only[og.jY];rw[aKQ,S (h k y rfl)]
theorem Wj {a:og}{r:List Z}(h:a.GW=true): (a.jY r).length=r.length:=by
 cases a with
 |none=>rfl
 |push=>cases h
 |set k y=>simp[og.jY]
theorem apn {W aF:List Nat}{b:Bool}{bm:List Z->(F->List Z->Prop)->Prop}(h:gQ W aF b bm){a:og}{r:List Z}{nA:List Nat}(aC:a.GW=true)
 (O:∀k y,a= .set k y->k<r.length/\k∉W/\k∉aF) (dc:∀z∈nA,z<r.length/\z∉W) {K:F->List Z->Prop} (hf:bm (a.jY r) K):
 bm r (λv ca=>(∀z∈nA,ca[z]? =r[z]?)/\K v (a.jY ca)):=by
 obtain⟨v,e,d,G,au,bv,cx⟩:=h _ _ hf;refine cx r _ (λx _=>(Wj aC).symm) (λz N=> ?_) ⟨λz N=> ?_,?_⟩
 ·have:=bv z N;rw[Wj aC] at this;refine (Wi this λk y he gh=> ?_).symm;subst gh;obtain⟨_,aKH,bR⟩:=O k y he;rcases N with N|N
  ·exact aKH N
  ·exact bR N
 ·exact Wi (dc z N).1 λk y he gh=>by subst gh;exact (dc k N).2 (au k y he)
 ·rw[apm aC (λk y he=>(O k y he).1) (λk y z x he Py gh=> ?_)]
  ·exact d
  ·subst gh;exact (O k y he).2.1 (au k x Py)
mutual
theorem Wk {r:List Z}{k:Nat}{y:Z}(ax:List (Option Nat)){bn:List Nat}(O:k∉bn):∀(v:F),bW (r.set k y) ax bn v=bW r ax bn v
 | .int .. | .bool _| .str _| .bH| .pure .. | .en .. | .kt| .cj| .kH| .bE _| .fO .. =>by simp[bW]
 | .fn f ap=>by rw[bW,bW,DU ax O ap]
 | .agg ap=>by rw[bW,bW,DU ax O ap]
 | .bo ap=>by rw[bW,bW,DU ax O ap]
 | .own z n off len=>by
  rw[bW,bW];split
  ·rfl
  ·split
   ·rename_i ad;have:k≠z:=λe=>O (by subst e;simpa using ad);rw[aPZ this]
   ·rfl
 | .bd z n c off=>by
  rw[bW,bW];split
  ·rfl
  ·split
   ·rename_i ad;have:k≠z:=λe=>O (by subst e;simpa using ad);rw[aPZ this]
   ·rfl
theorem DU {r:List Z}{k:Nat}{y:Z}(ax:List (Option Nat)){bn:List Nat}(O:k∉bn):∀(vs:List F),dT (r.set k y) ax bn vs=dT r ax bn vs
 | []=>by simp[dT]
 |v::vs=>by rw[dT,dT,Wk ax O v,DU ax O vs]
end
theorem apo {r:List Z}{k:Nat}{y:Z}(ax:List (Option Nat)){bn:List Nat}(O:k∉bn)(x:Z):hr (r.set k y) ax bn x=hr r ax bn x:=by
 cases x with
 |fP=>rfl
 |ag e U am=>
  simp only[hr,lJ];have: (dT (r.set k y) ax bn)=dT r ax bn:=funext λvs=>DU ax O vs;rw[this]
 |be V=>
  cases V with
  |map aK Y ents=>simp only[hr,Wk ax O]
  |eh n bX=>rfl
theorem Pz {r:List Z}{k:Nat}{y:Z}(all:List (Option Nat)){bn:List Nat}(O:k∉bn):∀(ax:List (Option Nat)),some k∉ax->eC (r.set k y) bn all ax=eC r bn all ax
 | [],_=>rfl
 |none::rs,h=>by rw[eC,eC,Pz all O rs (λhm=>h (by simp[hm]))]
 |some z::rs,h=>by
  have hne:k≠z:=λe=>h (by simp[e]);rw[eC,eC,Pz all O rs (λhm=>h (by simp[hm])),aPZ hne];split
  ·rename_i x ys d G;simp only[apo all O]
  ·rfl
theorem Wl {bj:Type}:∀(ax:List Nat) (aq ys:List bj) (k:Nat) (y:bj),k<aq.length->k∉ax->fu (aq.set k y) ax ys=(fu aq ax ys).set k y
 | [],aq,ys,k,y,O,_=>by rw[fu,fu,List.set_append,Rc O]
 |z::ax,aq,[],k,y,_,_=>by rw[fu,fu]
 |z::ax,aq,y'::ys,k,y,O,aH=>by
  simp at aH;rw[fu,fu,aPY _ _ aH.1,Wl ax (aq.set z y') ys k y (by simpa using O) aH.2]
theorem Wm {P:Program}{f:FuncId}{args:List F}{bL:List Nat}{tk lK:dr}{a:og}{r:List Z}{nA:List Nat}{c:Nat}(av:c∈bL)(ht:∀e∈tk,e∈lK)(aC:a.GW=true)
 (O:∀k y,a= .set k y->k<r.length/\(c,k,true)∈lK) (dc:∀z∈nA,z<r.length/\ ∃w,(c,z,w)∈lK) {K:F->List Z->Prop} (hf:xH P f args bL lK (a.jY r) K):
 xH P f args bL tk r (λv ca=>(∀z∈nA,ca[z]? =r[z]?)/\K v (a.jY ca)):=by
 obtain⟨ax,bn,srows,d,G,au,bv⟩:=hf;have Kz:∀z∈nA,z<r.length/\z∉ax:=λz N=>by
  obtain⟨aKH,w,bR⟩:=dc z N;exact⟨aKH,(d c z w bR av).1⟩
 refine⟨ax,bn,srows,λj z w hm hj=>d j z w (ht _ hm) hj,G,?_,?_⟩
 ·cases a with
  |none=>exact au
  |push=>cases aC
  |set k y=>
   obtain⟨aKH,bR⟩:=O k y rfl;have dq:=d c k true bR av;simp only[og.jY] at au;rw[Pz _ (dq.2 rfl) _ (by simpa using dq.1)] at au;exact au
 ·cases a with
  |none=>
   refine bv.mono λv rs ⟨aKY,eQ⟩=>⟨aKY,λz N=> ?_,eQ⟩;exact Dx _ _ _ _ (Kz z N).1 (Kz z N).2
  |push=>cases aC
  |set k y=>
   obtain⟨aKH,bR⟩:=O k y rfl;have dq:=d c k true bR av;simp only[og.jY] at bv;rw[DU _ (dq.2 rfl),aLg] at bv;refine bv.mono λv rs ⟨aKY,eQ⟩=>⟨aKY,λz N=>Dx _ _ _ _ (Kz z N).1 (Kz z N).2,?_⟩;rw[Wl _ _ _ _ _ aKH dq.1] at eQ;exact eQ
def looks (V:dU):List Nat:=(V.args.filterMap fun| .t I=>some I| .J _=>none)++(match V.guard with|some (I,_)=> [I]|none=> [])
structure KA (x y:dU):Prop where
 KB:∀B,x.dst=some B->B∉looks y
 we:∀B,y.dst=some B->B∉looks x
 xR:∀B,x.dst=some B->y.dst≠some B
theorem Wn {ρ:fD}{B:Option Nat}{v:F}{t:Nat}(h:B≠some t):gE ρ B v t=ρ t:=by
 cases B with
 |none=>rfl
 |some B=>simp only[gE];rw[S (λe=>h (by rw[e]))]
theorem GX {ρ:fD}{B e:Option Nat}{u v:F}(h:∀x,B=some x->e≠some x):gE (gE ρ B u) e v=gE (gE ρ e v) B u:=by
 cases B with
 |none=>rfl
 |some B=>
  cases e with
  |none=>rfl
  |some e=>
   funext t;have:=h B rfl;simp only[ne_eq,aLj] at this;simp only[gE]
   by_cases d:e=t<;>by_cases G:B=t<;>simp[d,G]
   subst d;subst G;exact absurd rfl this
theorem BQ {V:dU}{ρ:fD}{B:Option Nat}{v:F}(h:∀x,B=some x->x∉looks V):V.args.map (bi.ln (gE ρ B v))=V.args.map (bi.ln ρ):=by
 refine aMy λx aj=> ?_;cases x with
 |J v=>rfl
 |t I=>
  refine Wn λe=>h I e ?_;exact aMa _ (aN2.2 ⟨.t I,aj,rfl⟩)
theorem DV {V:dU}{ρ:fD}{B:Option Nat}{v:F}(h:∀x,B=some x->x∉looks V):oe V.guard (gE ρ B v)=oe V.guard ρ:=by
 unfold oe;cases aw:V.guard with
 |none=>rfl
 |some g=>
  obtain⟨I,ej⟩:=g;simp only;rw[Wn λe=>h I e (by simp[looks,aw])]
section
variable {P:Program} {base:Nat}
theorem PC {iL:fd}{c:Nat}(av:c∈iL.bL){tk lK:dr}(ht:∀e∈tk,e∈lK){a:og}(aC:a.GW=true){r:List Z}{nA:List Nat}
 (O:∀k y,a= .set k y->k<r.length/\(c,k,true)∈lK) (dc:∀z∈nA,z<r.length/\ ∃w,(c,z,w)∈lK) {B:Option Nat} {v:F} {ρ:fD}
 (d:∀x,B=some x->x∉looks iL.bI) (G:∀x,B=some x->iL.bI.dst≠some x) {K:fD->List Z->Prop} (ao:ix P base iL lK (gE ρ B v) (a.jY r) K):
 ix P base iL tk ρ r (λkz kQ=>(∃u,kz=gE ρ iL.bI.dst u)/\(∀z∈nA,kQ[z]? =r[z]?)/\K (gE kz B v) (a.jY kQ)):=by
 have Wo:∀{bL:List Nat} {W aF:List Nat},eL bL lK W aF->eL bL tk W aF:=λh j z w hm hj=>h j z w (ht _ hm) hj;have swap:∀{W aF:List Nat} {b:Bool} {bm:List Z->(F->List Z->Prop)->Prop},gQ W aF b bm->eL iL.bL lK W aF->bm (a.jY r) (λu ca=>K (gE (gE ρ B v) iL.bI.dst u) ca)->
  bm r (λu ca=>(∃apq,gE ρ iL.bI.dst u=gE ρ iL.bI.dst apq)/\(∀z∈nA,ca[z]? =r[z]?)/\K (gE (gE ρ iL.bI.dst u) B v) (a.jY ca)):=by
  intro W aF b bm ay aA hf;have:=apn ay (nA:=nA) aC (λk y he=> ?_) (λz N=> ?_) hf
  ·obtain⟨u,e,aKH,_,_,_,uN⟩:=ay _ _ this;refine uN r _ (λ_ _=>rfl) (λ_ _=>rfl) ⟨⟨u,rfl⟩,aKH.1,?_⟩;rw[GX λx aj rY=>G x rY aj];exact aKH.2
  ·obtain⟨aKH,bR⟩:=O k y he;have:=aA c k true bR av;exact⟨aKH,this.1,this.2 rfl⟩
  ·obtain⟨aKH,w,bR⟩:=dc z N;exact⟨aKH,(aA c z w bR av).1⟩
 unfold ix at ao ⊢;rw[DV d] at ao;split
 ·rename_i hl;rw[hl] at ao;simp only at ao;unfold sl at ao ⊢;rw[BQ d] at ao;split
  ·rename_i q aV;rw[aV] at ao;simp only at ao;exact⟨Wo ao.1,swap (Kp _ _ _) ao.1 ao.2⟩
  ·rename_i aV;rw[aV] at ao;simp only at ao;split
   ·rename_i f dL;rw[dL] at ao;simp only at ao;have:=Wm (nA:=nA) av ht aC O dc ao;obtain⟨ax,bn,srows,aKH,bR,dq,gP⟩:=this;refine⟨ax,bn,srows,aKH,bR,dq,gP.mono λu rs ⟨aKY,eQ,eF⟩=>⟨aKY,⟨_,rfl⟩,eQ,?_⟩⟩;rw[GX λx aj rY=>G x rY aj];exact eF
   ·rename_i dL;rw[dL] at ao;simp only at ao;unfold uJ at ao ⊢;split at ao
    ·rename_i f ap aq aj;obtain⟨hfn,ao⟩:=ao;have:=Wm (nA:=nA) av ht aC O dc ao;obtain⟨ax,bn,srows,aKH,bR,dq,gP⟩:=this;refine⟨hfn,ax,bn,srows,aKH,bR,dq,gP.mono λu rs ⟨aKY,eQ,eF⟩=>⟨aKY,⟨_,rfl⟩,eQ,?_⟩⟩;rw[GX λx aj rY=>G x rY aj];exact eF
    ·exact ao.elim
   ·rename_i op dL DH;split at ao
    ·rename_i f hf;exact absurd hf (dL f)
    ·rename_i hf;exact absurd hf DH
    ·exact⟨Wo ao.1,swap (DG _ _) ao.1 ao.2⟩
 ·rename_i hl;rw[hl] at ao;simp only at ao;refine⟨⟨_,rfl⟩,λz N=>rfl,?_⟩;rw[GX λx aj rY=>G x rY aj];exact ao
 ·rename_i hl;rw[hl] at ao;exact ao
def fd.pJ (B:fd):Bool:=B.fo.isSome|| !od B.bI.op
theorem apr {hU iL:fd}{c:Nat}(he:hU.pJ=true)(jO:KA hU.bI iL.bI)(av:c∈iL.bL){tk:dr}{ρ:fD}{r:List Z}{K:fD->List Z->Prop}
 (h:ix P base hU tk ρ r (λkz kQ=>ix P base iL (ext base c hU ρ tk) kz kQ K)):
 ix P base iL tk ρ r (λkz kQ=>ext base c hU kz tk=ext base c hU ρ tk/\ix P base hU tk kz kQ K):=by
 have BR:∀u,ext base c hU (gE ρ iL.bI.dst u) tk=ext base c hU ρ tk:=λu=>by
  unfold ext;rw[DV jO.we,BQ jO.we]
 have mono:∀{K aL:fD->List Z->Prop},ix P base iL tk ρ r K->(∀kz kQ,K kz kQ->aL kz kQ)->ix P base iL tk ρ r aL:=λh O=>xK (λ_ h=>h) h O;unfold ix at h;split at h
 ·rename_i hl;unfold sl at h;split at h
  ·rename_i q aV;obtain⟨d,G⟩:=h;have nz:ext base c hU ρ tk=(c,base+q,true)::tk:=by simp[ext,hl,aV]
   obtain⟨v,BS,aKH,gP,uN⟩:=O4 G;rw[nz] at aKH;have:=PC (tk:=tk) (a:= .set (base+q) BS) (nA:=[base+q]) av (λe hm=>aK1 _ hm) rfl (λk y he=> ?_) (λz N=> ?_) jO.KB jO.xR aKH
   ·refine mono this λkz kQ ⟨⟨u,bc⟩,eQ,eF⟩=> ?_;subst bc;refine⟨BR u,?_⟩;simp only[ix,DV jO.we,hl,sl,aV,BQ jO.we];exact⟨d,uN kQ _ (eQ _ (by simp)) eF⟩
   ·cases he;exact⟨gP,by simp⟩
   ·simp at N;subst N;exact⟨gP,true,by simp⟩
  ·rename_i aV;have rr:od hU.bI.op=false:=by simpa[fd.pJ,aV] using he
   split at h
   ·rename_i f dL;rw[dL] at rr;simp[od] at rr
   ·rename_i dL;rw[dL] at rr;simp[od] at rr
   ·rename_i op dL DH;obtain⟨d,G⟩:=h;have nz:ext base c hU ρ tk=(fw hU.bI.op (hU.bI.args.map (bi.ln ρ))).map (λz=>(c,z,false))++tk:=by simp[ext,hl,aV,rr]
    obtain⟨v,a,aKH,bR,dq,gP,uN⟩:=DG _ _ _ _ G;have aC:a= .none:=bR (by rw[rr];rfl);subst aC;rw[nz] at aKH;have:=PC (tk:=tk) (nA:=fw hU.bI.op (hU.bI.args.map (bi.ln ρ))) av (λe hm=>aNb _ hm) rfl (λk y he=>(by cases he)) (λz N=>⟨gP z (.inr N),false,aMa _ (aKZ.2 ⟨z,N,rfl⟩)⟩) jO.KB jO.xR aKH;refine mono this λkz kQ ⟨⟨u,bc⟩,eQ,eF⟩=> ?_;subst bc;refine⟨BR u,?_⟩;have hW:=alq (args:=hU.bI.args.map (bi.ln ρ)) rr;simp only[ix,DV jO.we,hl,sl,aV,BQ jO.we];refine⟨d,uN kQ _ (λx aj=>(by cases aj)) (λz N=> ?_) eF⟩;rcases N with N|N
    ·rw[hW] at N;simp at N
    ·exact eQ z N
 ·rename_i hl;have nz:ext base c hU ρ tk=tk:=by simp[ext,hl]
  rw[nz] at h;have:=PC (tk:=tk) (a:= .none) (nA:=[]) av (λe hm=>hm) rfl (λk y he=>(by cases he)) (λz N=>(by simp at N)) jO.KB jO.xR h;refine mono this λkz kQ ⟨⟨u,bc⟩,eQ,eF⟩=> ?_;subst bc;refine⟨BR u,?_⟩;simp only[ix,DV jO.we,hl];exact eF
 ·exact h.elim
theorem KC:∀{Y:List cW} {a b:List F},cE Y a->cE Y b->ed a b=ed b a
 | [],a,b,aC,af=>by cases a<;>cases b<;>simp[cE,ed] at *
 |k::Y,a,b,aC,af=>by
  cases a with
  |nil=>cases k<;>simp[cE] at aC
  |cons x a=>
   cases b with
   |nil=>cases k<;>simp[cE] at af
   |cons y b=>
    cases k<;>cases x<;>simp only[cE] at aC<;>cases y<;>simp only[cE] at af<;>simp only[ed]
    ·rw[KC aC.2 af.2,aO5]
    ·rw[KC aC af,aO5]
    ·rw[KC aC af,aO5]
theorem KD:∀{Y:List cW} {a b J:List F},cE Y a->cE Y b->cE Y J->ed a b=true->ed J a=ed J b
 | [],a,b,J,aC,af,ad,_=>by cases a<;>cases b<;>cases J<;>simp[cE,ed] at *
 |k::Y,a,b,J,aC,af,ad,h=>by
  cases a with
  |nil=>cases k<;>simp[cE] at aC
  |cons x a=>
   cases b with
   |nil=>cases k<;>simp[cE] at af
   |cons y b=>
    cases J with
    |nil=>cases k<;>simp[cE] at ad
    |cons M J=>
     cases k<;>cases x<;>simp only[cE] at aC<;>cases y<;>simp only[cE] at af<;>cases M<;>simp only[cE] at ad<;>simp only[ed,aKJ,aLu] at h ⊢
     ·rw[KD aC.2 af.2 ad.2 h.2,h.1]
     ·rw[KD aC af ad h.2,h.1]
     ·rw[KD aC af ad h.2,h.1]
theorem KE {aK:Bool}{Y:List cW}{a b:F}(aC:gb aK Y a)(af:gb aK Y b):fB a b=fB b a:=KC aC.2 af.2
theorem PD {aK:Bool}{Y:List cW}{a b J:F}(aC:gb aK Y a)(af:gb aK Y b)(ad:gb aK Y J)(h:fB a b=true):fB J a=fB J b:=KD aC.2 af.2 ad.2 h
theorem Wp {aK:Bool}{Y:List cW}{k br v:F}(O:gb aK Y k)(gj:gb aK Y br):∀{ents:List (F×F)},zD aK Y ents->dm k (dy br v ents)=if fB k br then some v else dm k ents
 | [],_=>rfl
 |p::aa,he=>by
  have ak:=he p aLa;have ih:=Wp (v:=v) O gj (ents:=aa) λq aV=>he q (aK1 _ aV);rw[dy];split
  ·rename_i d;rw[dm,dm,PD gj ak O d];split<;>rfl
  ·rename_i d;rw[dm,dm,ih]
   by_cases G:fB k p.1=true
   ·rw[Rc G,Rc G];have:fB k br=false:=by
     cases au:fB k br with
     |false=>rfl
     |true=>
      have:=PD O gj ak au;rw[KE ak O,G,KE ak gj] at this;exact absurd this.symm d
    rw[this];rfl
   ·rw[S G,S G]
theorem Wq {aK:Bool}{Y:List cW}{k br:F}(O:gb aK Y k)(gj:gb aK Y br)(h:fB k br=true):∀{ents:List (F×F)},zD aK Y ents->dm k ents=dm br ents
 | [],_=>rfl
 |p::aa,he=>by
  have ak:=he p aLa;have ih:=Wq O gj h (ents:=aa) λq aV=>he q (aK1 _ aV);have e:=PD O gj ak h;rw[KE ak O,KE ak gj] at e;rw[dm,dm,e,ih]
theorem aps {aK:Bool}{Y:List cW}{k br M:F}{ents:List (F×F)}(O:gb aK Y k)(gj:gb aK Y br)(he:zD aK Y ents): (dm k (dy br ((dm br ents).getD M) ents)).getD M=(dm k ents).getD M:=by
 rw[Wp O gj he];split
 ·rename_i h;rw[Wq O gj h he];rfl
 ·rfl
def DW (x y:dU):Bool:=
 match x.op,x.guard,y.op,y.guard with
 | .iw false aK Y (.int q n),none,.oU gC fV (.int wg lq),none=>decide (aK=gC/\Y=fV/\q=wg/\n=lq)
 |_,_,_,_=>false
theorem apt {x y:dU}(h:DW x y=true):∃aK Y M,x.op= .iw false aK Y M/\x.guard=none/\y.op= .oU aK Y M/\y.guard=none:=by
 unfold DW at h;split at h
 ·rename_i aK Y q n gC fV wg lq d G au bv;obtain⟨rfl,rfl,rfl,rfl⟩:=aNc h;exact⟨_,_,_,d,G,au,bv⟩
 ·cases h
theorem apu {hU iL:fd}{c:Nat}(jO:KA hU.bI iL.bI)(af:DW hU.bI iL.bI=true)(Wr:hU.fo=none)(apv:iL.fo=none){tk:dr}{ρ:fD}{r:List Z}{K:fD->List Z->Prop}
 (h:ix P base hU tk ρ r (λkz kQ=>ix P base iL (ext base c hU ρ tk) kz kQ K)):
 ix P base iL tk ρ r (λkz kQ=>ext base c hU kz tk=ext base c hU ρ tk/\ix P base hU tk kz kQ K):=by
 obtain⟨aK,Y,M,lh,aKH,li,bR⟩:=apt af;have BR:∀u,ext base c hU (gE ρ iL.bI.dst u) tk=ext base c hU ρ tk:=λu=>by
  unfold ext;rw[DV jO.we,BQ jO.we]
 have apw:∀e∈tk,e∈ext base c hU ρ tk:=λe he=>by
  unfold ext;simp only[oe,aKH,aK5,Wr,lh,od];exact aNb _ he
 simp only[ix,oe,aKH,bR,sl,Wr,apv,lh,li] at h ⊢;obtain⟨d,G⟩:=h;generalize ts:hU.bI.args.map (bi.ln ρ)=aq at d G;have apx:∀v,iL.bI.args.map (bi.ln (gE ρ hU.bI.dst v))=iL.bI.args.map (bi.ln ρ):=λv=>BQ jO.KB;have apy:∀u,hU.bI.args.map (bi.ln (gE ρ iL.bI.dst u))=aq:=λu=>by rw[BQ jO.we,ts]
 simp only[apx] at G
 match aq,d,G with
 | [x,k],d,G=>
  simp only[aM] at G;unfold uy at G;cases hm:qn r aK Y x with
  |none=>rw[hm] at G;exact G.elim
  |some ents=>
   rw[hm] at G;obtain⟨O,au,bv⟩:=G;refine⟨eL.mono apw au,?_⟩;generalize iL.bI.args.map (bi.ln ρ)=ys at au bv
   match ys,bv with
   | [y,br],bv=>
    simp only[aM] at bv ⊢;unfold vI at bv ⊢;split at bv
    ·rename_i z;split at bv
     ·rename_i gC fV Oz N;obtain⟨⟨rfl,rfl⟩,⟨gj,he⟩,cx⟩:=bv;simp only[N];refine⟨by simp,⟨gj,he⟩,BR _,?_⟩;rw[apy];refine⟨d,?_⟩;simp only[aM];unfold uy;have an:∃PE,qn (r.set z (.be (.map gC fV (dy br ((dm br Oz).getD M) Oz)))) gC fV x=some PE/\(dm k PE).getD M=(dm k ents).getD M:=by
       cases x with
       |bE cY=>
        by_cases e:cY=z
        ·subst e;simp only[qn,N,aOn,aK5,aLj] at hm;subst hm;refine⟨_,?_,aps O gj he⟩;simp only[qn,aKQ,aK5,(aLy.1 N).1,aOn]
        ·refine⟨ents,?_,rfl⟩;rw[<-hm];simp only[qn,aKQ,S (λcO=>e cO.symm:¬z=cY)]
       |kH=>exact⟨ents,by rw[<-hm];rfl,rfl⟩
       |_=>simp[qn] at hm
      obtain⟨PE,bF,bK⟩:=an;rw[bF];refine⟨O,?_⟩;simp only[aLK,aLi] at cx ⊢;rw[bK,GX λx aj rY=>jO.xR x rY aj];exact cx
     ·exact bv.elim
    ·exact bv.elim
end
end Go.Abs
namespace Go.Abs
variable [dE]
section
variable {P:Program} {base:Nat} {bq:Array Oper} {ds:List fd} {dG:List (List Nat)}
def GY (dG:List (List Nat))(dZ:Array Bool):Prop:= ∀j,dZ.getD j false=true-> ∀c∈dG.getD j [],dZ.getD c false=true
def GZ (bq:Array Oper)(dG:List (List Nat)):Prop:= ∀j V,bq[j]? =some V-> ∀c∈dG.getD j [],∃e∈V.after,Region.binds .any e=true/\(e.on=c\/c∈dG.getD e.on [])
theorem PF (aC:GZ bq dG){dZ:Array Bool}(ay:GY dG dZ){j:Nat}(hj:j∈Region.ready .any bq dZ):∀c∈dG.getD j [],dZ.getD c false=true:=by
 intro c av;obtain⟨_,V,bp,hall⟩:=mem_ready.1 hj;obtain⟨e,he,af,h⟩:=aC j V bp c av;have:=hall e he af;rcases h with rfl|h
 ·exact this
 ·exact ay _ this c h
theorem Ws {dZ:Array Bool}{c:Nat}(h:dZ.getD c true=false):dZ.getD c false=false:=by
 rcases aNa c dZ.size with cR|cR
 ·simp[cR] at h ⊢;exact h
 ·simp[aO6 cR]
theorem Wt (aC:GZ bq dG){dZ:Array Bool}(ay:GY dG dZ){j:Nat}(hj:j∈Region.ready .any bq dZ):GY dG (dZ.setIfInBounds j true):=by
 intro k O c av
 by_cases KF:j=k
 ·subst KF;exact getD_set_true (PF aC ay hj c av)
 ·rw[getD_set_ne false KF] at O;exact getD_set_true (ay k O c av)
theorem KG {K:fD->List Z->Prop}:∀(hH:Nat) (dZ:Array Bool) (tk lK:dr) (ρ:fD) (r:List Z),(∀e∈tk,e∈lK)->zz P base bq ds hH dZ lK K ρ r->zz P base bq ds hH dZ tk K ρ r
 |0,_,_,_,_,_,_,h=>h
 |hH+1,_,tk,lK,_,_,ht,h=>⟨h.1,λc av=>xK ht (h.2 c av) λdD ca cR=>KG hH _ tk lK dD ca ht cR⟩
theorem PG {c:Nat}{B:fd}{ρ:fD}{tk:dr}:∀e∈tk,e∈ext base c B ρ tk:=by
 intro e he;unfold ext;split
 ·split
  ·exact aK1 _ he
  ·split
   ·exact he
   ·exact aNb _ he
 ·exact he
theorem apz {B:fd}(he:B.pJ=true){tk:dr}{ρ:fD}{r:List Z}{K:fD->List Z->Prop}(h:ix P base B tk ρ r K):∃dD ca,K dD ca:=by
 unfold ix at h;split at h
 ·unfold sl at h;split at h
  ·obtain⟨v,y,g,_⟩:=O4 h.2;exact⟨_,_,g⟩
  ·rename_i aV;have rr:od B.bI.op=false:=by simpa[fd.pJ,aV] using he
   split at h
   ·rename_i f dL;rw[dL] at rr;simp[od] at rr
   ·rename_i dL;rw[dL] at rr;simp[od] at rr
   ·obtain⟨v,a,g,_⟩:=DG _ _ _ _ h.2;exact⟨_,_,g⟩
 ·exact⟨_,_,h⟩
 ·exact h.elim
def KH (ds:List fd)(dG:List (List Nat))(c j:Nat):Prop:=
 c∈dG.getD j []\/j∈dG.getD c []\/(KA (ds.getD c default).bI (ds.getD j default).bI/\(c∈(ds.getD j default).bL\/(DW (ds.getD c default).bI (ds.getD j default).bI=true/\(ds.getD c default).fo=none/\(ds.getD j default).fo=none)))
theorem take (aC:GZ bq dG){c:Nat}(he: (ds.getD c default).pJ=true)(ak:∀j,j<bq.size->j≠c->KH ds dG c j){K:fD->List Z->Prop}:∀(hH:Nat) (dZ:Array Bool) (tk:dr) (ρ:fD) (r:List Z),
 GY dG dZ->c∈Region.ready .any bq dZ->ix P base (ds.getD c default) tk ρ r (zz P base bq ds hH (dZ.setIfInBounds c true) (ext base c (ds.getD c default) ρ tk) K)->
 zz P base bq ds (hH+1) dZ tk K ρ r:=by
 intro hH
 induction hH with
 |zero=>
  intro dZ tk ρ r ay N h;refine⟨λh0=>(by rw[h0] at N;cases N),λj hj=> ?_⟩
  by_cases lL:j=c
  ·subst lL;exact xK (λ_ h=>h) h λdD ca cR=>KG 0 _ tk _ dD ca PG cR
  ·have oo:=ready_mono hj lL;obtain⟨dD,ca,g⟩:=apz he h;rw[g.1] at oo;cases oo
 |succ hH ih=>
  intro dZ tk ρ r ay N h;refine⟨λh0=>(by rw[h0] at N;cases N),λj hj=> ?_⟩
  by_cases lL:j=c
  ·subst lL;exact xK (λ_ h=>h) h λdD ca cR=>KG _ _ tk _ dD ca PG cR
  ·have aI:j<bq.size:=by
    obtain⟨_,V,bp,_⟩:=mem_ready.1 hj;exact (aLp.1 bp).1
   rcases ak j aI lL with d|d|⟨d,G⟩
   ·have:=PF aC ay hj c d;rw[Ws (mem_ready.1 N).1] at this;cases this
   ·have:=PF aC ay N j d;rw[Ws (mem_ready.1 hj).1] at this;cases this
   ·have ad:=(show ix P base (ds.getD j default) tk ρ r (λkz kQ=>ext base c (ds.getD c default) kz tk=ext base c (ds.getD c default) ρ tk/\ix P base (ds.getD c default) tk kz kQ _) from by
     rcases G with G|⟨G,au,bv⟩
     ·exact apr (P:=P) (base:=base) he d G (xK (λ_ h=>h) h λkz kQ cR=>cR.2 j (ready_mono hj lL))
     ·exact apu (P:=P) (base:=base) d G au bv (xK (λ_ h=>h) h λkz kQ cR=>cR.2 j (ready_mono hj lL)))
    refine xK (λ_ h=>h) ad λkz kQ ⟨aKH,bR⟩=> ?_;refine ih (dZ.setIfInBounds j true) tk kz kQ (Wt aC ay hj) (ready_mono N (Ne.symm lL)) ?_;rw[aKH,Array.setIfInBounds_comm _ _ lL];exact bR
def DL (bq:Array Oper)(ds:List fd):Array Bool->List Nat->Bool
 |dZ,[]=>Region.ready .any bq dZ==[]
 |dZ,c::is=>(Region.ready .any bq dZ).contains c&&((ds.getD c default).pJ||Region.ready .any bq dZ==[c])&&DL bq ds (dZ.setIfInBounds c true) is
theorem apA {K:fD->List Z->Prop}{dZ:Array Bool}(h:Region.ready .any bq dZ=[]){tk:dr}{ρ:fD}{r:List Z}(O:K ρ r):∀hH,zz P base bq ds hH dZ tk K ρ r
 |0=>⟨h,O⟩
 |_+1=>⟨λ_=>O,by rw[h];simp⟩
theorem Wu (aC:GZ bq dG)(ak:∀c j,c<bq.size->j<bq.size->j≠c->(ds.getD c default).pJ=true->KH ds dG c j){K:fD->List Z->Prop}:∀(oX:List Nat) (dZ:Array Bool) (tk:dr) (ρ:fD) (r:List Z) (hH:Nat),
 DL bq ds dZ oX=true->GY dG dZ->oX.length<=hH->DD P base ds oX tk K ρ r->zz P base bq ds hH dZ tk K ρ r
 | [],dZ,tk,ρ,r,hH,ad,ay,hl,h=>by
  simp[DL] at ad;exact apA ad h hH
 |c::is,dZ,tk,ρ,r,0,ad,ay,hl,h=>by simp at hl
 |c::is,dZ,tk,ρ,r,hH+1,ad,ay,hl,h=>by
  simp only[DL,aKJ,aLP,aLu,aP0] at ad;obtain⟨⟨d,G⟩,au⟩:=ad;have aI:c<bq.size:=by
   obtain⟨_,V,bp,_⟩:=mem_ready.1 d;exact (aLp.1 bp).1
  have ih:=λtk ρ r=>Wu aC ak is (dZ.setIfInBounds c true) tk ρ r hH au (Wt aC ay d) (by simpa using hl) (K:=K);rcases G with G|G
  ·exact take aC G (λj hj lL=>ak c j aI hj lL G) hH dZ tk ρ r ay d (xK (λ_ h=>h) h λdD ca cR=>ih _ dD ca cR)
  ·refine⟨λh0=>(by rw[h0] at G;cases G),λj hj=> ?_⟩;rw[G] at hj;simp at hj;subst hj;exact xK (λ_ h=>h) h λdD ca cR=>KG _ _ tk _ dD ca PG (ih _ dD ca cR)
end
end Go.Abs
namespace Go.Abs
variable [dE]
section
variable {P:Program} {C:bD}
theorem apB (h:ci C):ci {C with w:=C.w.drew}/\cm C.r.length C {C with w:=C.w.drew}:=by
 have later:cm C.r.length C {C with w:=C.w.drew}:=
  ⟨rfl,rfl,rfl,aKM _,λb af _=>rfl,λz _ J h=> .inl ⟨z,J,h⟩,rfl,rfl,aKM _,λ_ _ _ am _ h=>⟨am,h,aKM _,λ_=>rfl⟩,λ_ V _ h=>⟨V,h,rfl⟩,λ_=>aNE _⟩
 refine⟨⟨h.bZ,h.dw,λz bG N=> ?_,h.inj,λb af=>h.bY b af⟩,later⟩;exact dQ.move later.ext rfl rfl (λb J af=>rfl) (h.r z bG N)
def tr (fo:List (TypeId×Nat)):List Z:=fo.map λp=> .ag p.1 p.2 []
theorem Wv:∀(fo:List (TypeId×Nat)) (C:bD),ci C-> ∃aB,aB.w=C.w/\aB.r=C.r++tr fo/\ci aB/\cm C.r.length C aB
 | [],C,h=>⟨C,rfl,by simp[tr],h,cm.refl C⟩
 | (e,U)::fo,C,h=>by
  obtain⟨d,G⟩:=GE h e U;obtain⟨aB,aKH,bR,dq,gP⟩:=Wv fo _ d;refine⟨aB,aKH,?_,dq,G.trans gP (by simp)⟩;rw[bR];simp[tr]
theorem KI (h:ci C){k:Nat}{e:TypeId}{U:Nat}(N:C.r[k]? =some (.ag e U []))(cap:Nat)(ap:Array Value)(am:List (List F))(vs:List Value)
 (ao:ap.size=cap*U) (hm:cap<=maxLen) (an:am.length<=cap) (he:fs C U am vs) (ht:ap.toList.take vs.length=vs) (iG:0<am.length):
 ci ⟨C.r.set k (.ag e U am),C.bu.set k (some (C.w.heap.size,cap)),C.bY,C.w.alloc (.cells ap e),C.bZ⟩/\
 cm C.r.length C ⟨C.r.set k (.ag e U am),C.bu.set k (some (C.w.heap.size,cap)),C.bY,C.w.alloc (.cells ap e),C.bZ⟩:=by
 have O:k<C.r.length:=kP N;obtain⟨p,ak⟩:∃p,C.bu[k]? =some p:=⟨_,aKS (by rw[h.dw];exact O)⟩;refine zl h N ak C.w.heap.size cap ap am vs (C.w.alloc (.cells ap e)) ⟨rfl,rfl,rfl,by simp,λb af _=>heap_alloc_old C.w _ af⟩ (.inr (aKM _)) (heap_alloc_new C.w _) ao hm an he ht (aOp _) λh0=> ?_;simp at h0;omega
theorem Ww {r:List Z}{bu:List (Option (Nat×Nat))}{bY:Nat->Prop}{w:World}{e:TypeId}{U b cap k:Nat}{cells:List F}(hl:bu.length=r.length)(O:k<r.length):
 Rep ⟨r.set k (.ag e U [cells]),bu.set k (some (b,cap)),bY,w,false⟩ (.bd k 1 0 0) (.pointer (some ⟨b,0,none⟩)):=by
 rw[Rep];refine⟨rfl,⟨_,rfl⟩,by simpa using O,λcO bz am h=> ?_⟩;simp only[aKQ,aK5,O] at h;simp at h;obtain⟨rfl,rfl,rfl⟩:=h;exact⟨by simp,λ_=>⟨by simp,b,cap,by simp[aKQ,hl,O],by simp⟩⟩
theorem Wx {r:List Z}{bu:List (Option (Nat×Nat))}{bY:Nat->Prop}{w:World}{e:TypeId}{U b cap k:Nat}{am:List (List F)}(hl:bu.length=r.length)(O:k<r.length)(ad:am.length<=cap):
 Rep ⟨r.set k (.ag e U am),bu.set k (some (b,cap)),bY,w,false⟩ (.own k am.length 0 am.length) (.slice (some ⟨b,0,none⟩) am.length cap):=by
 rw[Rep];refine⟨rfl,⟨_,_,rfl⟩,by simpa using O,λcO bz dk h=> ?_⟩;simp only[aKQ,aK5,O] at h;simp at h;obtain⟨rfl,rfl,rfl⟩:=h;exact⟨by simp,λ_=>⟨by simp,some (b,cap),by simp[aKQ,hl,O],⟨b,0,none⟩,cap,rfl,ad,rfl,rfl,λ_=>⟨rfl,rfl⟩,λ_=>by simp⟩⟩
variable {K:F->List Z->Prop}
theorem apC (aA:ci C){t:TypeId}{M:List F}(ba:nt P t=some M){k:Nat}(O:C.r[k]? =some (.ag t M.length []))(h:K (.bd k 1 0 0) (C.r.set k (.ag t M.length [M]))):
 ∃aZ v aB,(Instr.alloc t true (.tuple #[])).run P C.w= .ok aZ aB.w/\Rep aB v aZ/\ci aB/\cm C.r.length C aB/\K v aB.r:=by
 obtain⟨c,cC,av,jC,lY,hl,iG,dJ⟩:=sW ba;obtain⟨bO,cd⟩:=rV (C:=C) lY;have cK:=bO.length;have ak:=KI aA O 1 cC.cells [M] cC.cells.toList (by omega) (by simp[maxLen]) (by simp) (DX rfl bO (vG bO cd)) aLb (by simp);refine⟨.pointer (some ⟨C.w.heap.size,0,none⟩),_,_,?_,(aA.bZ▸Ww aA.dw (kP O)),ak.1,ak.2,h⟩;simp[Instr.alloc,sY av jC,newVar,newRow]
theorem apD (aA:ci C){t:TypeId}{n:Nat}{x:F}{cz:Value}(aj:Rep C x cz)(d: (cp x).length=n)(G: (cp x).all cV=true){k:Nat}(O:C.r[k]? =some (.ag t n []))
 (h:K (.bd k 1 0 0) (C.r.set k (.ag t n [cp x]))):
 ∃aZ v aB,(Instr.box t cz).run P C.w= .ok aZ aB.w/\Rep aB v aZ/\ci aB/\cm C.r.length C aB/\K v aB.r:=by
 obtain⟨bO,cd⟩:=DJ aj G;have cK:=bO.length;simp only[aLE] at cK;have ak:=KI aA O 1 cz.cells [cp x] cz.cells.toList (by omega) (by simp[maxLen]) (by simp) (DX d bO cd) aLb (by simp);refine⟨.pointer (some ⟨C.w.heap.size,0,none⟩),_,_,?_,(aA.bZ▸Ww aA.dw (kP O)),ak.1,ak.2,h⟩;simp[Instr.box,newVar,newRow]
theorem apE (aA:ci C){t e:TypeId}{M:List F}{len:Nat}{et:Array (Nat×Operand)}{ρ:Operand->Value}{vs:List F}{ar:List (List F)}
 (bc:P.underlying t=some (.slice e)) (ba:nt P e=some M) (cK:len*M.length<=16777216) (oY:0<len)
 (N:aE C vs ((et.toList.map (·.2)).map ρ)) (hf:oV (List.replicate len M) M.length (et.toList.map (·.1)) vs=some ar) (d: (vs.all λv=>(cp v).all cV)=true)
 {k:Nat} (O:C.r[k]? =some (.ag e M.length [])) (h:K (.own k len 0 len) (C.r.set k (.ag e M.length ar))):
 ∃aZ v aB,(Instr.buildSlice t len (et.map λ(c,x)=>(c,ρ x))).run P C.w= .ok aZ aB.w/\Rep aB v aZ/\ci aB/\cm C.r.length C aB/\K v aB.r:=by
 obtain⟨c,cC,av,jC,lY,hl,iG,dJ⟩:=sW ba;obtain⟨bO,cd⟩:=rV (C:=C) lY;have bp:=vG bO cd;obtain⟨es,ig,f3⟩:=PH _ vs _ ar hf (by intro x aj;rw[aNY aj]);rw[aMz] at f3;have jD:aE C (List.replicate len M).flatten (List.replicate len cC.cells.toList).flatten/\iU (List.replicate len cC.cells.toList).flatten:=by
  clear hf es f3 cK h oY
  induction len with
  |zero=>simp[aE,iU]
  |succ n ih=>
   rw[aME,aME,aLS,aLS];refine⟨bO.append ih.1,λv an=> ?_⟩;rcases aK3.1 an with an|an
   ·exact bp v an
   ·exact ih.2 v an
 have Bt:c.size=M.length:=hl.symm;have xi: ((Array.range (len*c.size)).map (cC.cells[·%cC.cells.size]!)).toList=(List.replicate len cC.cells.toList).flatten:=by
  rw[<-dJ];exact Be cC.cells len
 obtain⟨z,aKO,cY,fY⟩:=Gr (C:=C) (λj=>some (j*M.length,M.length)) (et.toList.map (·.1)) ((et.toList.map (·.1)).map λj=>(j*M.length,M.length)) vs _ _ ar.flatten
  ((Array.range (len*c.size)).map (cC.cells[·%cC.cells.size]!)) (by rw[<-List.filterMap_eq_map];rfl) (by simp) N es d (by rw[xi];exact jD.1)
 have fc:=fY (by rw[xi];exact jD.2);have uq:fs C M.length ar z.toList:=⟨ig,cY,fc⟩;have fA:=uq.length;simp only[aLE] at fA;have KJ:len<=maxLen:=by
  have:len<=len*M.length:=aOj _ (by omega);simp only[maxLen];omega
 have ak:=KI aA O len z ar z.toList (by rw[fA,f3]) KJ (by omega) uq aLb (by omega);refine⟨.slice (some ⟨C.w.heap.size,0,none⟩) len len,.own k len 0 len,_,?_,?_,ak.1,ak.2,h⟩
 ·have th: (et.map λ(c,x)=>(c,ρ x)).toList=(et.toList.map (·.1)).zip ((et.toList.map (·.2)).map ρ):=by
   rw[aOm];exact JW _ _
  have rW: (sizeOf e).run P C.w= .ok c.size C.w:=by simp[sizeOf,typeInfo,av]
  rw[<-Bt] at aKO cK;simp only[Instr.buildSlice,Sem.run_bind,run_underlying bc,Result.andThen_ok,rW,Sem.run_ite];rw[S (by omega)];have h0:¬len*c.size=0:=by
   intro h0;rcases aOi.1 h0 with h|h<;>omega
  simp only[h0,aLi,Sem.run_bind,sY av jC,Sem.run_pure,Result.andThen_ok];rw[th,aKO];simp[newRow]
 ·have:=Wx (r:=C.r) (bu:=C.bu) (bY:=C.bY) (w:=C.w.alloc (.cells z e)) (e:=e) (U:=M.length) (b:=C.w.heap.size) (cap:=len) (am:=ar) aA.dw (kP O) (by omega);rw[f3] at this;rw[aA.bZ];exact this
theorem apF (aA:ci C){t e:TypeId}{M:List F}{jW:Nat}(bc:P.underlying t=some (.slice e))(ba:nt P e=some M)(af: (P.info? e).map (·.bytes)=some jW)
 {k br:IntKind} {l J:Int} (d:0<l) (G:l<=J) (au:J*jW<=140737488355328) (bv:J<=140737488355328)
 {q:Nat} (O:C.r[q]? =some (.ag e M.length [])) (h:K (.own q l.toNat 0 l.toNat) (C.r.set q (.ag e M.length (List.replicate l.toNat M)))):
 ∃aZ v aB,(Instr.makeSlice t (.int k l) (.int br J)).run P C.w= .ok aZ aB.w/\Rep aB v aZ/\ci aB/\cm C.r.length C aB/\K v aB.r:=by
 obtain⟨c,cC,av,jC,lY,hl,iG,dJ⟩:=sW ba;obtain⟨bO,cd⟩:=rV (C:=C) lY;have bp:=vG bO cd;have sX:c.bytes=jW:=by simpa[av] using af
 subst sX;have jD:∀n,aE C (List.replicate n M).flatten (List.replicate n cC.cells.toList).flatten/\iU (List.replicate n cC.cells.toList).flatten:=by
  intro n
  induction n with
  |zero=>simp[aE,iU]
  |succ n ih=>
   rw[aME,aME,aLS,aLS];refine⟨bO.append ih.1,λv an=> ?_⟩;rcases aK3.1 an with an|an
   ·exact bp v an
   ·exact ih.2 v an
 have xi: ((Array.range (J.toNat*c.size)).map (cC.cells[·%cC.cells.size]!)).toList=(List.replicate J.toNat cC.cells.toList).flatten:=by
  rw[<-dJ];exact Be cC.cells J.toNat
 have eK: ((Array.range (J.toNat*c.size)).map (cC.cells[·%cC.cells.size]!)).size=J.toNat*M.length:=by simp[hl]
 have uq:fs C M.length (List.replicate l.toNat M) (List.replicate l.toNat cC.cells.toList).flatten:=
  ⟨λx aj=>by rw[aNY aj],(jD _).1,(jD _).2⟩
 have pt: ((Array.range (J.toNat*c.size)).map (cC.cells[·%cC.cells.size]!)).toList.take (List.replicate l.toNat cC.cells.toList).flatten.length=(List.replicate l.toNat cC.cells.toList).flatten:=by
  rw[xi,show J.toNat=l.toNat+(J.toNat-l.toNat) from by omega,<-List.replicate_append_replicate,aM5];exact aM6
 have ak:=KI aA O J.toNat _ (List.replicate l.toNat M) _ eK (by simp only[maxLen];omega) (by simp;omega) uq pt (by simp;omega);refine⟨.slice (some ⟨C.w.heap.size,0,none⟩) l.toNat J.toNat,.own q l.toNat 0 l.toNat,_,?_,?_,ak.1,ak.2,h⟩
 ·have Ga:IntKind.i64.wrap l=l:=by simp only[IntKind.wrap,IntKind.bits,IntKind.signed];simp;omega
  have wc:IntKind.i64.wrap J=J:=by simp only[IntKind.wrap,IntKind.bits,IntKind.signed];simp;omega
  have rW: (sizeOf e).run P C.w= .ok c.size C.w:=by simp[sizeOf,typeInfo,av]
  have Ok: (typeInfo e).run P C.w= .ok c C.w:=by simp[typeInfo,av]
  have rX: (c.bytes:Int)*J<=140737488355328:=by rw[Int.mul_comm];exact au
  simp only[Instr.makeSlice,Sem.run_bind,run_underlying bc,Result.andThen_ok,asInt,asIntOf,Sem.run_pure,Ok,Ga,wc];have JI:¬((decide (J<0)||decide ((c.bytes:Int)*J>2^48)||decide (l<0)||decide (l>J))=true):=by
   simp;omega
  rw[S JI];simp only[Sem.run_bind,run_askRoom,Result.andThen_ok,rW,Sem.run_pure,Sem.run_ite];have h0:¬J.toNat*c.size=0:=by
   intro h0;rcases aOi.1 h0 with h|h<;>omega
  rw[S h0];simp[sY av jC,newRow]
 ·have:=Wx (r:=C.r) (bu:=C.bu) (bY:=C.bY) (w:=C.w.alloc (.cells ((Array.range (J.toNat*c.size)).map (cC.cells[·%cC.cells.size]!)) e)) (e:=e) (U:=M.length) (b:=C.w.heap.size) (cap:=J.toNat) (am:=List.replicate l.toNat M) aA.dw (kP O) (by simp;omega);rw[aMz] at this;rw[aA.bZ];exact this
theorem apG {V:Oper}{Du:gc}{aq:List Operand}(ad:pB P V=some (Du,aq))(aA:ci C)(ρ:Operand->Value){am:List F}
 (N:aE C am (aq.map ρ)) {k:Nat} (h:jp Du am k C.r K):dW P C (execOp ρ V) K:=by
 obtain⟨dst,op,type,J0,after,guard⟩:=V;unfold pB at ad;simp only at ad;unfold jp at h;split at h
 ·
  rename_i e M;split at ad
  case h_4=>
   split at ad
   ·rename_i t PI ba;simp at ad;obtain⟨⟨rfl,rfl⟩,rfl⟩:=ad;exact dW.ri (apC aA ba h.1 h.2)
   ·cases ad
  all_goals (repeat' (split at ad))<;>simp at ad
 ·
  split at ad
  case h_5=>
   split at ad
   ·rename_i t x n ao;simp at ad;obtain⟨⟨rfl,rfl⟩,rfl⟩:=ad;obtain⟨a,BT,aC⟩:=iu N;simp at BT;subst BT;exact dW.ri (apD aA aC h.1.1 h.1.2 h.2.1 h.2.2)
   ·cases ad
  all_goals (repeat' (split at ad))<;>simp at ad
 ·
  split at ad
  case h_7=>
   split at ad
   ·rename_i t len et _ e bc;split at ad
    ·rename_i M ba;split at ad
     ·simp at ad
     split at ad
     ·rename_i hl;simp only[aLj,aLH,gc.sk.injEq] at ad;obtain⟨⟨rfl,rfl,rfl,rfl,rfl⟩,rfl⟩:=ad;split at h
      ·rename_i ar hf;exact dW.ri (apE aA bc ba hl h.1.2 N hf h.1.1 h.2.1 h.2.2)
      ·exact h.elim
     ·cases ad
    ·cases ad
   ·cases ad
  all_goals (repeat' (split at ad))<;>simp at ad
 ·
  split at ad
  case h_8=>
   split at ad
   ·rename_i t l J e bc;split at ad
    ·rename_i M jW ba af;split at ad
     ·cases ad
     simp only[aLj,aLH,gc.uI.injEq] at ad;obtain⟨⟨rfl,rfl,rfl,rfl⟩,rfl⟩:=ad;obtain⟨a,b,pv,aC,jX⟩:=mf N;simp only[aO4,aMi] at pv;obtain⟨rfl,rfl⟩:=pv;rw[Rep] at aC jX;simp only[execOp,aC,jX];exact dW.ri (apF aA bc ba af h.1.1 h.1.2.1 h.1.2.2.1 h.1.2.2.2 h.2.1 h.2.2)
    ·cases ad
   ·cases ad
  all_goals (repeat' (split at ad))<;>simp at ad
 ·exact h.elim
end
structure DY (n:Nat) (ρ:fD) (C:bD) (a:Act):Prop where
 ok:ci C
 size:a.tmps.size=n
 defers:a.defers=[]
 jo:∀t,Rep C (ρ t) (a.tmps.getD t undef)
section
variable {P:Program} {n bb base:Nat} {fG:bD} [vN fG] {bq:Array Oper}
theorem apH {ρ:fD}{C:bD}{a:Act}(ao:DY n ρ C a){x:Operand}{y:bi}(h:sg x=some y):Rep C (y.ln ρ) (a.eval x):=by
 cases x with
 |tmp t=>simp[sg] at h;subst h;exact ao.jo t
 |const v=>
  simp only[sg] at h;cases an:BF v with
  |none=>rw[an] at h;simp at h
  |some b=>rw[an] at h;simp at h;subst h;exact (Ki an).1
 |global g=>simp[sg] at h
 |func f=>
  simp[sg] at h;subst h;simp only[bi.ln];rw[Rep];exact⟨#[],rfl,by simp[aE]⟩
theorem Wy {ρ:fD}{C:bD}{a:Act}(ao:DY n ρ C a):∀{aq:List Operand} {ys:List bi},vR aq=some ys->aE C (ys.map (bi.ln ρ)) (aq.map a.eval)
 | [],ys,h=>by simp[vR] at h;subst h;simp[aE]
 |x::aq,ys,h=>by
  simp only[vR] at h;split at h
  ·rename_i y ce bt ba;simp at h;subst h;rw[aKP,aKP,aE];exact⟨_,_,rfl,apH ao bt,Wy ao ba⟩
  ·cases h
theorem KL {ρ:fD}{C aB:bD}{a:Act}(ao:DY n ρ C a)(aA:ci aB)(he:jB C aB){dst:Option Nat}(ay:∀B,dst=some B->B<n){v:F}{aZ:Value}(an:Rep aB v aZ):
 DY n (gE ρ dst v) aB (a.put dst aZ):=by
 cases dst with
 |none=>exact⟨aA,ao.size,ao.defers,λt=>Rep.ext he _ _ (ao.jo t)⟩
 |some B=>
  have BG:=ay B rfl;refine⟨aA,by simp[Act.put,ao.size],ao.defers,λt=> ?_⟩;simp only[gE,Act.put];split
  ·rename_i BH;subst BH;have:B<a.tmps.size:=by rw[ao.size];exact BG
   simpa[Array.getD,this] using an
  ·rename_i BH;have:=Rep.ext he _ _ (ao.jo t);rw[show (a.tmps.setIfInBounds B aZ).getD t undef=a.tmps.getD t undef from ?_]
   ·exact this
   ·simp[aO1 BH]
def G0 (n bb:Nat)(fG:bD)(K:fD->List Z->Prop)(a:Act)(w:World):Prop:= ∃ρ C,C.w=w/\DY n ρ C a/\cm bb fG C/\K ρ C.r
theorem apI {ρ:fD}{C:bD}{a:Act}{c:Nat}{V:Oper}{B:fd}{tk:dr}(av:bq[c]? =some V)(hf:zw P n bq V B.bI)(ao:DY n ρ C a)(hl:cm bb fG C)
 {K:fD->List Z->Prop} {sh:Act->World->Prop} {bh:Exit->Act->World->Prop} (cA:∀a w,G0 n bb fG K a w->sh a w) (h:ix P base B tk ρ C.r K):wpOp P bq bh c sh a C.w:=by
 obtain⟨O2,⟨tp,BG⟩,aw⟩:=hf;have vS:∀e,B.bI.dst=some e->e<n:=by rw[tp];exact BG
 have skip:K (gE ρ B.bI.dst (.bo [])) C.r->sh (a.put V.dst undef) C.w:=by
  intro O;refine cA _ _ ⟨_,C,rfl,?_,hl,O⟩;rw[<-tp];exact KL ao ao.ok (jB.refl C) vS (by rw[Rep];exact⟨#[],rfl,by simp[aE]⟩)
 have bg:dW P C (execOp a.eval V) (λv ca=>K (gE ρ B.bI.dst v) ca)->V.wp P a C.w sh bh:=by
  intro N;unfold Oper.wp;obtain⟨xG,aZ,v,aB,d,G,au,bv,cx,dx⟩:=N;rw[d];have:sh (a.put V.dst aZ) aB.w:=by
   refine cA _ _ ⟨_,aB,rfl,?_,hl.trans cx hl.len,dx⟩;rw[<-tp];exact KL ao bv cx.ext vS au
  rcases G with rfl|⟨rfl,rfl⟩
  ·exact this
  ·exact this
 have run:sl P base B tk ρ C.r K->V.wp P a C.w sh bh:=by
  intro N;rcases O2 with ⟨aq,dL,hargs⟩|⟨aKU,eJ⟩
  rotate_left
  ·exfalso;unfold sl at N;rw[aKU,eJ] at N;split at N
   ·simp[jp] at N
   ·simp[aM] at N
  have dv:=Wy ao hargs;unfold sl at N;split at N
  ·exact bg (apG dL ao.ok a.eval dv N.2)
  ·split at N
   ·rename_i f iH;rw[iH] at dL;unfold Oper.wp;rw[V0 dL,Oper.upon_enter];have cq:uH P f (B.bI.args.map (bi.ln ρ)) C.r λv ca=>K (gE ρ B.bI.dst v) ca:=by
     obtain⟨ax,bn,srows,aKH,bR,dq,gP⟩:=N;exact⟨ax,bn,srows,bR,dq,gP⟩
    refine (GC ao.ok ((vN.ok (C:=fG)).later hl) dv cq).mono ?_;rintro e w' ⟨aZ,v,aB,rfl,rfl,d,G,au,bv⟩;refine cA _ _ ⟨_,aB,rfl,?_,hl.trans au hl.len,bv⟩;rw[<-tp];exact KL ao G au.ext vS d
   ·rename_i iH;rw[iH] at dL;unfold uJ at N;split at N
    ·rename_i f ap as aj;rw[aj] at dv;obtain⟨hfn,N⟩:=N;obtain⟨dA,aKH,bR⟩:=V1 dL dv hfn C.w;unfold Oper.wp;rw[bR,Oper.upon_enter];have cq:uH P f (as++ap) C.r λv ca=>K (gE ρ B.bI.dst v) ca:=by
      obtain⟨ax,bn,srows,aKH,bR,dq,gP⟩:=N;exact⟨ax,bn,srows,bR,dq,gP⟩
     refine (GC ao.ok ((vN.ok (C:=fG)).later hl) aKH cq).mono ?_;rintro e w' ⟨aZ,v,aB,rfl,rfl,d,G,au,bv⟩;refine cA _ _ ⟨_,aB,rfl,?_,hl.trans au hl.len,bv⟩;rw[<-tp];exact KL ao G au.ext vS d
    ·exact N.elim
   ·rename_i Kj _;exact bg (Vr dL (λf hf=>Kj f hf) ao.ok a.eval (λ_=>rfl) dv N.2)
 unfold wpOp;rw[av];simp only;unfold ix at h;rcases aw with ⟨aKH,bR⟩|⟨j,ej,I,aKH,bR,dq,gP⟩
 ·have aP:Region.wanted V (yielded bq a.tmps)=true:=by simp[Region.wanted,aKH]
  rw[Rc aP];simp only[bR,oe] at h;exact .inl (run h)
 ·simp only[gP,oe] at h;have pD:=ao.jo I;have dJ:I<a.tmps.size:=by rw[ao.size];exact dq
  have bt:∀v,a.tmps.getD I undef=v->yielded bq a.tmps j=(match v with| .bool b=>some b|_=>none):=by
   intro v an;have d:a.tmps[I]? =some v:=by
    rw[aLN dJ];simpa[Array.getD,dJ] using an
   unfold yielded;rw[bR];simp only[aPU,d];cases v<;>rfl
  cases af:ρ I with
  |bool b=>
   rw[af] at h pD;rw[Rep] at pD;have si:=bt _ pD;simp only at si h
   by_cases mT:b=ej
   ·have aP:Region.wanted V (yielded bq a.tmps)=true:=by simp[Region.wanted,aKH,si,mT]
    rw[Rc aP];have: (b==ej)=true:=by simp[mT]
    rw[this] at h;exact .inl (run h)
   ·have aP:¬Region.wanted V (yielded bq a.tmps)=true:=by simp[Region.wanted,aKH,si,mT]
    rw[S aP];have: (b==ej)=false:=by simp[mT]
    rw[this] at h;exact skip h
  |bo ap=>
   rw[af] at h pD;cases ap with
   |cons=>simp at h
   |nil=>
    rw[Rep] at pD;obtain⟨vs,an,_⟩:=pD;have si:=bt _ an;simp only at si;have aP:¬Region.wanted V (yielded bq a.tmps)=true:=by simp[Region.wanted,aKH,si]
    rw[S aP];exact skip h
  |_=>rw[af] at h;exact h.elim
theorem Wz {ds:List fd}(hf:∀c V,bq[c]? =some V->zw P n bq V (ds.getD c default).bI){K:fD->List Z->Prop}{bh:Exit->Act->World->Prop}(vT:∀a w,G0 n bb fG K a w->bh .normal a w):
 ∀(hH:Nat) (dZ:Array Bool) (a:Act) (w:World),G0 n bb fG (zz P base bq ds hH dZ [] K) a w->wpAny P .any bq bh hH dZ a w
 |0,dZ,a,w,⟨ρ,C,d,G,au,bv⟩=>⟨bv.1,vT a w ⟨ρ,C,d,G,au,bv.2⟩⟩
 |hH+1,dZ,a,w,⟨ρ,C,d,G,au,bv⟩=>by
  refine⟨λh0=>vT a w ⟨ρ,C,d,G,au,bv.1 h0⟩,λc av=> ?_⟩;obtain⟨_,V,bp,_⟩:=mem_ready.1 av;subst d;exact apI bp (hf c V bp) G au (λa w h=>Wz hf vT hH _ a w h) (bv.2 c av)
theorem als {id:Nat}{ds:List fd}{dG:List (List Nat)}{oX:List Nat}{fo:List (TypeId×Nat)}(hm:P.follows .mixedOrders=true)
 (hf:∀c V,bq[c]? =some V->zw P n bq V (ds.getD c default).bI) (aC:GZ bq dG) (ak:∀c j,c<bq.size->j<bq.size->j≠c->(ds.getD c default).pJ=true->KH ds dG c j)
 (ad:DL bq ds (Array.replicate bq.size false) oX=true) (cK:oX.length<=bq.size) {K:fD->List Z->Prop} {bh:Exit->Act->World->Prop} (vT:∀a w,G0 n bb fG K a w->bh .normal a w)
 {a:Act} {w:World} (h:G0 n bb fG (λρ r=>DD P r.length ds oX [] K ρ (r++tr fo)) a w): (Code.region id bq true).wp P bh a w:=by
 obtain⟨ρ,C,rfl,ao,hl,O⟩:=h;obtain⟨aLA,ky⟩:=apB ao.ok;obtain⟨aB,bF,bK,gX,rt⟩:=Wv fo _ aLA;have apJ:aB.r=C.r++tr fo:=bK;refine wp_region_any hm ?_;refine Wz (base:=C.r.length) hf vT bq.size _ a _ ⟨ρ,aB,bF,⟨gX,ao.size,ao.defers,λt=>Rep.ext rt.ext _ _ (Rep.ext ky.ext _ _ (ao.jo t))⟩,(hl.trans ky hl.len).trans rt (hl.trans ky hl.len).len,?_⟩;rw[apJ];refine Wu aC ak oX _ [] ρ _ bq.size ad (λj hj=> ?_) cK O;simp[Array.getD] at hj
end
end Go.Abs
namespace Go.Abs
variable [dE]
def iM (c:Nat):List Nat->dr->dr
 | [],tk=>tk
 |z::rs,tk=>(c,z,false)::iM c rs tk
theorem WA (c:Nat)(tk:dr):∀rs,iM c rs tk=rs.map (λz=>(c,z,false))++tk
 | []=>rfl
 |z::rs=>by simp[iM,WA c tk rs]
def gZ (P:Program)(base c:Nat)(B:fd)(tk:dr)(D:aQ)(r:List Z)(K:dr->aQ->List Z->Prop):Prop:=
 match B.fo with
 |some q=>eL B.bL tk [base+q] []/\jp B.bI.op (B.bI.args.map (bi.aM D)) (base+q) r λv ca=>K ((c,base+q,true)::tk) (put D B.bI.dst v) ca
 |none=>
  match B.bI.op with
  | .call f=>xH P f (B.bI.args.map (bi.aM D)) B.bL tk r λv ca=>K tk (put D B.bI.dst v) ca
  | .xE=>uJ P (B.bI.args.map (bi.aM D)) B.bL tk r λv ca=>K tk (put D B.bI.dst v) ca
  |op=>eL B.bL tk (jM op (B.bI.args.map (bi.aM D))) (fw op (B.bI.args.map (bi.aM D)))/\
   aM op (B.bI.args.map (bi.aM D)) r λv ca=>K (if od op then tk else iM c (fw op (B.bI.args.map (bi.aM D))) tk) (put D B.bI.dst v) ca
def ru (P:Program)(base:Nat)(v:F)(ej:Bool)(c:Nat)(B:fd)(tk:dr)(D:aQ)(r:List Z)(K:dr->aQ->List Z->Prop):Prop:=
 match v with
 | .bool b=>tn b ej (gZ P base c B tk D r K) (K tk (put D B.bI.dst (.bo [])) r)
 | .bo []=>K tk (put D B.bI.dst (.bo [])) r
 |_=>False
def oi (P:Program)(base:Nat):List (Nat×fd)->List Nat->(aQ->List Z->Prop)->dr->aQ->List Z->Prop
 | [],ag,K,_,D,r=>K (ag.map λI=>(I,bs D I)) r
 | (c,B)::ds,ag,K,tk,D,r=>
  match B.bI.guard with
  |none=>gZ P base c B tk D r (oi P base ds ag K)
  |some (I,ej)=>ru P base (bs D I) ej c B tk D r (oi P base ds ag K)
theorem WB {P:Program}{base c:Nat}{B:fd}{tk:dr}{D:aQ}{r:List Z}{K:dr->aQ->List Z->Prop}{aL:fD->List Z->Prop}(hl:oe B.bI.guard (bs D)=some true)
 (cA:∀fl ca,K (ext base c B (bs D) tk) fl ca->aL (bs fl) ca) (N:gZ P base c B tk D r K):sl P base B tk (bs D) r aL:=by
 have hargs:B.bI.args.map (bi.ln (bs D))=B.bI.args.map (bi.aM D):=aMy λx _=>akT D x;unfold gZ at N;unfold sl;rw[hargs];cases aV:B.fo with
 |some q=>
  rw[aV] at N;have he:ext base c B (bs D) tk=(c,base+q,true)::tk:=by simp[ext,hl,aV]
  rw[he] at cA;refine⟨N.1,(Kp _ _ _).mono N.2 λv rs O=> ?_⟩;rw[<-GI];exact cA _ _ O
 |none=>
  rw[aV] at N;simp only at N ⊢;split
  ·rename_i f dL;rw[dL] at N;simp only at N;have he:ext base c B (bs D) tk=tk:=by simp[ext,hl,aV,dL,od]
   rw[he] at cA;obtain⟨ax,bn,srows,aKH,bR,dq,gP⟩:=N;refine⟨ax,bn,srows,aKH,bR,dq,gP.mono λv rs O=>⟨O.1,?_⟩⟩;show aL (gE (bs D) B.bI.dst _) _;rw[<-GI];exact cA _ _ O.2
  ·rename_i dL;rw[dL] at N;simp only at N;have he:ext base c B (bs D) tk=tk:=by simp[ext,hl,aV,dL,od]
   rw[he] at cA;unfold uJ at N ⊢;split at N
   ·rename_i f ap aq aj;obtain⟨hfn,ax,bn,srows,aKH,bR,dq,gP⟩:=N;refine⟨hfn,ax,bn,srows,aKH,bR,dq,gP.mono λv rs O=>⟨O.1,?_⟩⟩;show aL (gE (bs D) B.bI.dst _) _;rw[<-GI];exact cA _ _ O.2
   ·exact N.elim
  ·rename_i op dL DH;have he:ext base c B (bs D) tk=if od B.bI.op then tk else iM c (fw B.bI.op (B.bI.args.map (bi.aM D))) tk:=by
    simp only[ext,hl,aV,hargs,WA,aK5]
   rw[he] at cA;split at N
   ·rename_i f hf;exact absurd hf (dL f)
   ·rename_i hf;exact absurd hf DH
   refine⟨N.1,(DG _ _).mono N.2 λv rs O=> ?_⟩;rw[<-GI];exact cA _ _ O
theorem Wa {P:Program}{base:Nat}{ds:List fd}{ag:List Nat}{K:aQ->List Z->Prop}:∀(oX:List Nat) (tk:dr) (D:aQ) (r:List Z),
 oi P base (oX.map λc=>(c,ds.getD c default)) ag K tk D r->DD P base ds oX tk (λρ r=>K (ag.map λI=>(I,ρ I)) r) (bs D) r
 | [],tk,D,r,h=>h
 |c::is,tk,D,r,h=>by
  have ih:=Wa (P:=P) (base:=base) (ds:=ds) (ag:=ag) (K:=K) is;rw[DD];simp only[aKP,oi] at h;unfold ix;have skip:oe (ds.getD c default).bI.guard (bs D)=some false->oi P base (is.map λc=>(c,ds.getD c default)) ag K tk (put D (ds.getD c default).bI.dst (.bo [])) r->
   DD P base ds is (ext base c (ds.getD c default) (bs D) tk) (λρ r=>K (ag.map λI=>(I,ρ I)) r) (gE (bs D) (ds.getD c default).bI.dst (.bo [])) r:=by
   intro hl O;have he:ext base c (ds.getD c default) (bs D) tk=tk:=by unfold ext;rw[hl];simp
   rw[he,<-GI];exact ih _ _ _ O
  split at h
  ·rename_i aw;have hl:oe (ds.getD c default).bI.guard (bs D)=some true:=by rw[aw];rfl
   rw[hl];exact WB hl (λfl ca O=>ih _ _ _ O) h
  ·rename_i I ej aw;unfold ru at h;split at h
   ·rename_i b af;have hl:oe (ds.getD c default).bI.guard (bs D)=some (b==ej):=by rw[aw];simp[oe,af]
    unfold tn at h;split at h
    ·rename_i mT;have iJ:oe (ds.getD c default).bI.guard (bs D)=some true:=by rw[hl];simp[mT]
     rw[iJ];exact WB iJ (λfl ca O=>ih _ _ _ O) h
    ·rename_i mT;have iJ:oe (ds.getD c default).bI.guard (bs D)=some false:=by rw[hl];simp[mT]
     rw[iJ];exact skip iJ h
   ·rename_i af;have iJ:oe (ds.getD c default).bI.guard (bs D)=some false:=by rw[aw];simp[oe,af]
    rw[iJ];exact skip iJ h
   ·exact h.elim
structure pH where
 ag:List Nat
 dG:List (List Nat)
 oX:List Nat
 deriving Inhabited
def PK (x y:dU):Bool:=
 (match x.dst with|some B=> !(looks y).contains B|none=>true)&&(match y.dst with|some B=> !(looks x).contains B|none=>true)&&
 (match x.dst,y.dst with|some B,some e=>B != e|_,_=>true)
theorem apK {x y:dU}(h:PK x y=true):KA x y:=by
 simp only[PK,aKJ] at h;refine⟨λB ay=> ?_,λB ay=> ?_,λB ay mS=> ?_⟩
 ·rw[ay] at h;simpa using h.1.1
 ·rw[ay] at h;simpa using h.1.2
 ·rw[ay,mS] at h;simp at h
def DN:gc->Option (TypeId×Nat)
 | .alloc e M=>some (e,M.length)
 | .box e U=>some (e,U)
 | .sk e U _ len _=>if len=0 then none else some (e,U)
 |_=>none
def Kr:gc->Option (TypeId×Nat)
 | .uI e U _ _=>some (e,U)
 |op=>DN op
def WC (dG:List (List Nat))(n:Nat)(all:List dU)(j:Nat):List Nat:=
 (List.range n).filter λc=>c != j&& !((dG.getD j []).contains c)&& !((dG.getD c []).contains j)&& !(DW (all.getD c default) (all.getD j default))
def zA (dM:gc->Option (TypeId×Nat))(dG:List (List Nat))(n:Nat)(all:List dU):Nat->Nat->List dU->List fd
 |_,_,[]=> []
 |j,q,bI::eu=>
  match dM bI.op with
  |some _=>⟨bI,some q,WC dG n all j⟩::zA dM dG n all (j+1) (q+1) eu
  |none=>⟨bI,none,WC dG n all j⟩::zA dM dG n all (j+1) q eu
theorem O8 {dM:gc->Option (TypeId×Nat)}{dG:List (List Nat)}{n:Nat}{all:List dU}:∀(eu:List dU) (j q k:Nat) (bI:dU),eu[k]? =some bI->((zA dM dG n all j q eu).getD k default).bI=bI
 | [],_,_,_,_,h=>by simp at h
 |x::eu,j,q,k,bI,h=>by
  rw[zA];cases k with
  |zero=>simp at h;subst h;split<;>simp
  |succ k=>
   simp at h;split
   ·simpa using O8 eu (j+1) (q+1) k bI h
   ·simpa using O8 eu (j+1) q k bI h
def Kq (bq:Array Oper)(dG:List (List Nat)):Nat->List Oper->Bool
 |_,[]=>true
 |j,V::os=>(dG.getD j []).all (λc=>V.after.toList.any λe=>Region.binds .any e&&(e.on==c||(dG.getD e.on []).contains c))&&Kq bq dG (j+1) os
theorem V9 {bq:Array Oper}{dG:List (List Nat)}:∀(os:List Oper) (j:Nat),Kq bq dG j os=true-> ∀k V,os[k]? =some V-> ∀c∈dG.getD (j+k) [],∃e∈V.after,Region.binds .any e=true/\(e.on=c\/c∈dG.getD e.on [])
 | [],j,_,k,V,h=>by simp at h
 |x::os,j,af,k,V,h=>by
  simp only[Kq,aKJ] at af;cases k with
  |zero=>
   simp at h;subst h;intro c av;have:=aLW.1 af.1 c av;obtain⟨e,he,G⟩:=aNp.1 this;simp only[aKJ,aLP,aLu,aP0] at G;exact⟨e,by simpa using he,G.1,G.2⟩
  |succ k=>
   have:=V9 os (j+1) af.2 k V (by simpa using h);rw[show j+(k+1)=j+1+k by omega];exact this
def V5 (ds:List fd)(dG:List (List Nat))(n:Nat):Bool:=
 (List.range n).all λc=> !(ds.getD c default).pJ||(List.range n).all λj=>
  j==c||(dG.getD j []).contains c||(dG.getD c []).contains j||(((ds.getD j default).bL.contains c||(DW (ds.getD c default).bI (ds.getD j default).bI&&(ds.getD c default).fo.isNone&&(ds.getD j default).fo.isNone))&&PK (ds.getD c default).bI (ds.getD j default).bI)
theorem alt {ds:List fd}{dG:List (List Nat)}{n:Nat}(h:V5 ds dG n=true):∀c j,c<n->j<n->j≠c->(ds.getD c default).pJ=true->KH ds dG c j:=by
 intro c j av hj hne he;have d:=aLW.1 h c (aMj.2 av);rw[he] at d;simp only[Bool.not_true,aNd] at d;have G:=aLW.1 d j (aMj.2 hj);simp only[aLP,aLu,hne,aMX,aKJ,aP0,Option.isNone_iff_eq_none] at G;rcases G with (G|G)|G
 ·exact .inl G
 ·exact .inr (.inl G)
 ·exact .inr (.inr ⟨apK G.2,G.1.imp (λh=>h) λh=>⟨h.1.1,h.1.2,h.2⟩⟩)
end Go.Abs
namespace Go.Abs
variable [dE]
inductive gd where
 |skip
 |region (bq:List dU) (ag:List Nat)
 |tq (bq:List (Nat×fd)) (fo:List (TypeId×Nat)) (ag:List Nat)
 |seq (a b:gd)
 |cond (J:bi) (a b:gd)
 |block (id:Nat) (J:gd)
 |loop (J:gd)
 |exit (id:Nat)
 |ret
 deriving Inhabited
structure oh where
 n:aQ->List Z->Prop
 x:Nat->aQ->List Z->Prop
 z:aQ->List Z->Prop
def eW (ag:List Nat)(D:aQ):aQ:=ag.map λI=>(I,bs D I)
def rm (v:F)(A di:Prop):Prop:=
 match v with
 | .bool b=>(b=true->A)/\(b=false->di)
 |_=>False
def fh (P:Program)(bb:Nat):gd->oh->aQ->List Z->Prop
 | .skip,K,D,r=>K.n D r
 | .region bq ag,K,D,r=>zv P bq (λD r=>K.n (eW ag D) r) D r
 | .tq bq fo ag,K,D,r=>oi P r.length bq ag K.n [] D (r++tr fo)
 | .seq a b,K,D,r=>fh P bb a ⟨fh P bb b K,K.x,K.z⟩ D r
 | .cond J a b,K,D,r=>rm (J.aM D) (fh P bb a K D r) (fh P bb b K D r)
 | .block id J,K,D,r=>fh P bb J ⟨K.n,λj=>if j=id then K.n else K.x j,K.z⟩ D r
 | .loop J,K,D,r=> ∃(hI:aQ->List Z->Prop) (iX:aQ->List Z->Nat),E bb hI D r/\
  ∀D r,hI D r->fh P bb J ⟨E bb λfl ca=>hI fl ca/\iX fl ca<iX D r,K.x,K.z⟩ D r
 | .exit id,K,D,r=>K.x id D r
 | .ret,K,D,r=>K.z D r
def DK (P:Program)(n:Nat)(bq:Array Oper):List Oper->Option (List dU)
 | []=>some []
 |V::os=>
  match OZ P n bq V,DK P n bq os with
  |some x,some aq=>some (x::aq)
  |_,_=>none
theorem O5 {P:Program}{n:Nat}{bq:Array Oper}:∀{os:List Oper} {eu:List dU},DK P n bq os=some eu->eu.length=os.length/\ ∀(k:Nat) (V:Oper),os[k]? =some V-> ∃bI,eu[k]? =some bI/\zw P n bq V bI
 | [],eu,h=>by simp[DK] at h;subst h;simp
 |V::os,eu,h=>by
  simp only[DK] at h;split at h
  ·rename_i x aq aj ts;simp at h;subst h;obtain⟨d,G⟩:=O5 ts;refine⟨by simp[d],λk fa O=> ?_⟩;cases k with
   |zero=>simp at O;subst O;exact⟨x,rfl,akO aj⟩
   |succ k=>simpa using G k fa (by simpa using O)
  ·cases h
def GK (dM:gc->Option (TypeId×Nat))(P:Program)(f:pH)(bq:Array Oper)(eu:List dU):Option gd:=
 if P.follows .mixedOrders&&Kq bq f.dG 0 bq.toList&&V5 (zA dM f.dG bq.size eu 0 0 eu) f.dG bq.size&&DL bq (zA dM f.dG bq.size eu 0 0 eu) (Array.replicate bq.size false) f.oX&&decide (f.oX.length<=bq.size) then
  some (.tq (f.oX.map λc=>(c,(zA dM f.dG bq.size eu 0 0 eu).getD c default)) (eu.filterMap λbI=>dM bI.op) f.ag)
 else none
def O6 (P:Program)(f:pH)(bq:Array Oper)(eu:List dU):Option gd:=
 match GK DN P f bq eu with
 |some J=>some J
 |none=>GK Kr P f bq eu
theorem V6 {P:Program}{f:pH}{bq:Array Oper}{eu:List dU}{dz:gd}(h:O6 P f bq eu=some dz):∃dM,GK dM P f bq eu=some dz:=by
 unfold O6 at h;split at h
 ·exact⟨DN,by rw[<-h];assumption⟩
 ·exact⟨Kr,h⟩
def gF (P:Program)(n:Nat)(ag:Nat->pH):Code->Option gd
 | .skip=>some .skip
 | .region id bq false=>
  match DK P n bq bq.toList with
  |some eu=>some (.region eu (ag id).ag)
  |none=>none
 | .region id bq true=>
  match DK P n bq bq.toList with
  |some eu=>O6 P (ag id) bq eu
  |none=>none
 | .seq a b=>
  match gF P n ag a,gF P n ag b with
  |some x,some y=>some (.seq x y)
  |_,_=>none
 | .cond J a b=>
  match sg J,gF P n ag a,gF P n ag b with
  |some V,some x,some y=>some (.cond V x y)
  |_,_,_=>none
 | .block id J=>
  match gF P n ag J with
  |some x=>some (.block id x)
  |none=>none
 | .loop J=>
  match gF P n ag J with
  |some x=>some (.loop x)
  |none=>none
 | .exit id=>some (.exit id)
 | .ret=>some .ret
 |_=>none
section
variable {P:Program} {n bb:Nat} {fG:bD} [vN fG] {ag:Nat->pH}
def Ks (n bb:Nat)(fG:bD)(K:oh):Exit->Act->World->Prop
 | .normal,a,w=>Holds n bb fG K.n a w
 | .exit id,a,w=>Holds n bb fG (K.x id) a w
 | .ret,a,w=>Holds n bb fG K.z a w
 |_,_,_=>False
theorem V7 (ag:List Nat)(D:aQ)(t:Nat):bs (eW ag D) t=bs D t\/bs (eW ag D) t= .cj:=by
 unfold eW
 induction ag with
 |nil=>right;rfl
 |cons I bV ih=>
  simp only[aKP,bs];split
  ·rename_i h;subst h;exact .inl rfl
  ·exact ih
theorem alr {K:aQ->List Z->Prop}{l:List Nat}{a:Act}{w:World}(h:Holds n bb fG (λD r=>K (eW l D) r) a w):Holds n bb fG K a w:=by
 obtain⟨D,C,rfl,ao,hl,O⟩:=h;refine⟨eW l D,C,rfl,⟨ao.ok,ao.size,ao.defers,λt=> ?_⟩,hl,O⟩;rcases V7 l D t with h|h
 ·rw[h];exact ao.jo t
 ·rw[h];simp[Rep]
theorem GL {K:aQ->List Z->Prop}{a:Act}{w:World}(h:Holds n bb fG (E bb K) a w):Holds n bb fG K a w:=by
 obtain⟨D,C,rfl,ao,hl,fl,ca,aP,O⟩:=h;obtain⟨aB,d,G,au,bv⟩:=Kc aP C rfl ao hl;exact⟨fl,aB,d,au,bv,by rw[G];exact O⟩
theorem vV:∀(J:Code) (dz:gd),gF P n ag J=some dz-> ∀(K:oh) (a:Act) (w:World),Holds n bb fG (fh P bb dz K) a w->J.wp P (Ks n bb fG K) a w
 | .skip,dz,ad,K,a,w,h=>by
  simp[gF] at ad;subst ad;exact wp_skip h
 | .region id bq false,dz,ad,K,a,w,h=>by
  simp only[gF] at ad;split at ad
  ·rename_i eu O7;simp at ad;subst ad;obtain⟨d,G⟩:=O5 O7;refine wp_region (V2 (K:=λD r=>K.n (eW (ag id).ag D) r) (λa w h=>alr h) _ eu (by simp[d]) (λk O=> ?_) a w h);simp at O;obtain⟨bI,aKH,bR⟩:=G k bq[k] (by simp[O]);exact⟨bq[k],bI,by simp[O],aKH,bR⟩
  ·cases ad
 | .region id bq true,dz,ad,K,a,w,h=>by
  simp only[gF] at ad;split at ad
  ·rename_i eu O7;obtain⟨dM,ad⟩:=V6 ad;unfold GK at ad;split at ad
   ·rename_i V8;simp at ad;subst ad;simp only[aKJ,aKN] at V8;obtain⟨⟨⟨⟨c1,c2⟩,c3⟩,c4⟩,c5⟩:=V8;obtain⟨d,G⟩:=O5 O7;obtain⟨D,C,rfl,ao,hl,O⟩:=h;refine als (n:=n) (bb:=bb) (fG:=fG) (dG:=(ag id).dG) (oX:=(ag id).oX) (ds:=zA dM (ag id).dG bq.size eu 0 0 eu) (fo:=eu.filterMap λbI=>dM bI.op)
     (K:=λρ r=>K.n ((ag id).ag.map λI=>(I,ρ I)) r) c1 (λc V bp=> ?_) (λj V bp c av=> ?_) (alt c3) c4 c5 (λa w hh=> ?_) ⟨bs D,C,rfl,⟨ao.ok,ao.size,ao.defers,ao.jo⟩,hl,?_⟩
    ·obtain⟨bI,aKH,bR⟩:=G c V (by simpa using bp);rw[O8 eu 0 0 c bI aKH];exact bR
    ·have:=V9 bq.toList 0 c2 j V (by simpa using bp) c (by simpa using av);exact this
    ·obtain⟨ρ,aB,aKH,bR,dq,gP⟩:=hh;refine⟨_,aB,aKH,⟨bR.ok,bR.size,bR.defers,λt=> ?_⟩,dq,gP⟩;have fF:∀l:List Nat,bs (l.map λI=>(I,ρ I)) t=ρ t\/bs (l.map λI=>(I,ρ I)) t= .cj:=by
      intro l
      induction l with
      |nil=>right;rfl
      |cons I bV ih=>
       simp only[aKP,bs];split
       ·rename_i he;subst he;exact .inl rfl
       ·exact ih
     rcases fF (ag id).ag with h|h
     ·rw[h];exact bR.jo t
     ·rw[h];simp[Rep]
    ·exact Wa _ [] D _ O
   ·cases ad
  ·cases ad
 | .seq x y,dz,ad,K,a,w,h=>by
  simp only[gF] at ad;split at ad
  ·rename_i jk xL aj bt;simp at ad;subst ad;refine wp_seq (wp_mono (vV x jk aj ⟨fh P bb xL K,K.x,K.z⟩ a w h) ?_);intro e lm w' aV;cases e with
   |normal=>exact vV y xL bt K lm w' aV
   |exit id=>exact aV
   |ret=>exact aV
   |goto l=>exact aV
   |panic cS=>exact aV
   |outgrown=>exact aV
  ·cases ad
 | .cond J x y,dz,ad,K,a,w,h=>by
  simp only[gF] at ad;split at ad
  ·rename_i V jk xL bp aj bt;simp at ad;subst ad;obtain⟨D,C,rfl,ao,hl,O⟩:=h;have N:=O0 ao bp;simp only[fh,rm] at O;split at O
   ·rename_i b af;rw[af,Rep] at N;refine wp_cond N ?_;cases b with
    |true=>exact vV x jk aj K a C.w ⟨D,C,rfl,ao,hl,O.1 rfl⟩
    |false=>exact vV y xL bt K a C.w ⟨D,C,rfl,ao,hl,O.2 rfl⟩
   ·exact O.elim
  ·cases ad
 | .block id x,dz,ad,K,a,w,h=>by
  simp only[gF] at ad;split at ad
  ·rename_i jk aj;simp at ad;subst ad;refine wp_block (wp_mono (vV x jk aj _ a w h) ?_);intro e lm w' aV;cases e with
   |normal=>exact aV
   |exit j=>
    simp only[Exit.inBlock];simp only[Ks] at aV;split
    ·rename_i hj;rw[Rc hj] at aV;exact aV
    ·rename_i hj;rw[S hj] at aV;exact aV
   |ret=>exact aV
   |goto l=>exact aV
   |panic cS=>exact aV
   |outgrown=>exact aV
  ·cases ad
 | .loop x,dz,ad,K,a,w,h=>by
  simp only[gF] at ad;split at ad
  ·rename_i jk aj;simp at ad;subst ad;obtain⟨D,C,rfl,ao,hl,hI,iX,h0,O9⟩:=h;obtain⟨GM,BC,dn,lo,jK,vW⟩:=GL ⟨D,C,rfl,ao,hl,h0⟩;rw[<-dn];refine wp_loop_ghost (λm a w=>Holds n bb fG (λD r=>hI D r/\iX D r=m) a w) (iX GM BC.r) ⟨GM,BC,rfl,lo,jK,vW,rfl⟩ ?_;rintro m lm w' ⟨GN,xD,rfl,vX,lp,BJ,rfl⟩;refine wp_mono (vV x jk aj _ lm xD.w ⟨GN,xD,rfl,vX,lp,O9 GN xD.r BJ⟩) ?_;intro e a3 pI aV;cases e with
   |normal=>
    obtain⟨GO,GP,rfl,vY,sm,Pa,aI⟩:=GL aV;exact⟨iX GO GP.r,aI,GO,GP,rfl,vY,sm,Pa,rfl⟩
   |exit j=>exact aV
   |ret=>exact aV
   |goto l=>exact aV
   |panic cS=>exact aV
   |outgrown=>exact aV
  ·cases ad
 | .exit id,dz,ad,K,a,w,h=>by
  simp[gF] at ad;subst ad;exact wp_exit h
 | .ret,dz,ad,K,a,w,h=>by
  simp[gF] at ad;subst ad;exact wp_ret h
 | .rangeFunc ..,dz,ad,K,a,w,h=>by simp[gF] at ad
 | .scope ..,dz,ad,K,a,w,h=>by simp[gF] at ad
 | .label ..,dz,ad,K,a,w,h=>by simp[gF] at ad
 | .goto ..,dz,ad,K,a,w,h=>by simp[gF] at ad
 | .refuse ..,dz,ad,K,a,w,h=>by simp[gF] at ad
end
inductive uL where
 |tmp (t:Nat)
 |GQ (t:Nat)
 |uM (t n:Nat)
 deriving Inhabited
def mU (r:List Z)(D:aQ):List uL->(List F->Prop)->Prop
 | [],K=>K []
 | .tmp t::rs,K=>mU r D rs λvs=>K (bs D t::vs)
 | .GQ t::rs,K=>qu r (bs D t) λv=>mU r D rs λvs=>K (v::vs)
 | .uM t n::rs,K=>oW r n (bs D t) λv=>mU r D rs λvs=>K (v::vs)
def mi:List F->F
 | [v]=>v
 |vs=> .bo vs
structure aN where
 ntmps:Nat
 results:List uL
 body:gd
 deriving Inhabited
def zB (P:Program):List ResultVar->Option (List uL)
 | []=>some []
 | .tmp t::rs=>
  match zB P rs with
  |some aq=>some (.tmp t::aq)
  |none=>none
 | .cell a t::rs=>
  match hq P t,ie P t,zB P rs with
  |some true,some n,some aq=>some (.uM a n::aq)
  |some false,_,some aq=>some (.GQ a::aq)
  |_,_,_=>none
def xM (P:Program)(ag:Nat->pH)(fn:Func):Option aN:=
 match fn.body with
 |some J=>
  match gF P fn.ntmps ag J,zB P fn.results.toList with
  |some dz,some rs=>some ⟨fn.ntmps,rs,dz⟩
  |_,_=>none
 |none=>none
def ro:List F->Nat->aQ
 | [],_=> []
 |a::as,k=>(k,a)::ro as (k+1)
def Wb (P:Program)(aG:aN)(args:List F)(r:List Z)(bh:F->List Z->Prop):Prop:=
 let K:aQ->List Z->Prop:=λD rs=>mU rs D aG.results λvs=>E r.length (λfl hs=>bh (bs fl 0) hs) [(0,mi vs)] rs
 fh P r.length aG.body ⟨K,λ_ _ _=>False,K⟩ (ro args 0) r
theorem Pb {C:bD}:∀(as:List F) (vs:List Value) (k t:Nat),aE C as vs->k<=t->Rep C (bs (ro as k) t) (vs.getD (t-k) undef)
 | [],vs,k,t,_,_=>by simp[ro,bs,Rep]
 |a::as,vs,k,t,h,O=>by
  rw[aE] at h;obtain⟨v,bS,rfl,d,G⟩:=h;simp only[ro,bs];split
  ·rename_i Wc;subst Wc;simpa using d
  ·rename_i Wc;have:=Pb as bS (k+1) t G (by omega);rw[show t-k=(t-(k+1))+1 from by omega];simpa using this
def BK (tmps:Array Value):ResultVar->Sem Value
 | .tmp t=>pure (tmps.getD t undef)
 | .cell a t=>do loadVar t (<-asAddr (tmps.getD a undef))
theorem Wd (fn:Func)(tmps:Array Value):results fn tmps=(do let vs <-fn.results.mapM (BK tmps);pure (if h:vs.size=1 then vs[0] else .tuple vs)):=rfl
theorem GR {P:Program}{n:Nat}{D:aQ}{C:bD}{a:Act}(ao:tl n D C a):∀(rs:List ResultVar) (aq:List uL) (K:List F->Prop),zB P rs=some aq->mU C.r D aq K->
 ∃vs as,(rs.mapM (m:=Sem) (BK a.tmps)).run P C.w= .ok vs C.w/\aE C as vs/\K as
 | [],aq,K,ad,h=>by
  simp[zB] at ad;subst ad;exact⟨[],[],by simp,by simp[aE],h⟩
 | .tmp t::rs,aq,K,ad,h=>by
  simp only[zB] at ad;split at ad
  ·rename_i ys bt;simp at ad;subst ad;obtain⟨vs,as,d,G,au⟩:=GR ao rs ys _ bt h;exact⟨a.tmps.getD t undef::vs,bs D t::as,by simp only[aNH,BK,Sem.run_bind,Sem.run_pure,Result.andThen_ok,d],by rw[aE];exact⟨_,vs,rfl,ao.jo t,G⟩,au⟩
  ·cases ad
 | .cell x t::rs,aq,K,ad,h=>by
  have We:∀{y:F} {v:Value},Rep C y v->((∃z n c V,y= .bd z n c V)\/ ∃J V,y= .en J V)-> ∃dK,v= .pointer (some dK):=by
   rintro y v N (⟨z,n,c,V,rfl⟩|⟨J,V,rfl⟩)
   ·rw[Rep] at N;exact N.2.1
   ·rw[Rep] at N;obtain⟨b,V,e,_⟩:=N;exact⟨_,e⟩
  have shape:∀{aL:F->Prop},(qu C.r (bs D x) aL\/ ∃m,oW C.r m (bs D x) aL)->((∃z n c V,bs D x= .bd z n c V)\/ ∃J V,bs D x= .en J V):=by
   intro aL O;cases aw:bs D x<;>rw[aw] at O<;>simp[qu,oW] at O<;>simp
  simp only[zB] at ad;split at ad
  ·rename_i m ys eB dJ bt;simp at ad;subst ad;simp only[mU] at h;obtain⟨dK,DO⟩:=We (ao.jo x) (shape (.inr ⟨_,h⟩));obtain⟨aZ,v,aKO,cY,fY⟩:=Vt (P:=P) (K:=λv _=>mU C.r D ys λvs=>K (v::vs)) ao.ok (ao.jo x) eB dJ h;obtain⟨vs,as,d,G,au⟩:=GR ao rs ys _ bt fY;rw[DO] at aKO;simp only[Instr.loadAt,Instr.sureAddr,Sem.run_bind,Sem.run_pure,Result.andThen_ok] at aKO;have cn: (asAddr (a.tmps.getD x undef)).run P C.w= .ok dK C.w:=by rw[DO];rfl
   exact⟨aZ::vs,v::as,by simp only[aNH,BK,Sem.run_bind,Sem.run_pure,Result.andThen_ok,cn,aKO,d],by rw[aE];exact⟨_,vs,rfl,cY,G⟩,au⟩
  ·rename_i m ys eB bt;simp at ad;subst ad;simp only[mU] at h;obtain⟨dK,DO⟩:=We (ao.jo x) (shape (.inl h));obtain⟨aZ,v,aKO,cY,fY⟩:=Vu (P:=P) (K:=λv _=>mU C.r D ys λvs=>K (v::vs)) ao.ok (ao.jo x) eB h;obtain⟨vs,as,d,G,au⟩:=GR ao rs ys _ bt fY;rw[DO] at aKO;simp only[Instr.loadAt,Instr.sureAddr,Sem.run_bind,Sem.run_pure,Result.andThen_ok] at aKO;have cn: (asAddr (a.tmps.getD x undef)).run P C.w= .ok dK C.w:=by rw[DO];rfl
   exact⟨aZ::vs,v::as,by simp only[aNH,BK,Sem.run_bind,Sem.run_pure,Result.andThen_ok,cn,aKO,d],by rw[aE];exact⟨_,vs,rfl,cY,G⟩,au⟩
  ·cases ad
theorem alu {P:Program}{f:FuncId}{fn:Func}{ag:Nat->pH}{aG:aN}(hf:P.funcs[f]? =some fn)(ad:xM P ag fn=some aG){args:List F}{r:List Z}{bh:F->List Z->Prop}
 (aH:args.length<=aG.ntmps) (h:Wb P aG args r bh):aO P f args r bh:=by
 intro C dA N aA hG dv
 haveI:vN C:=⟨hG⟩
 subst N;unfold xM at ad;split at ad
 ·rename_i J af;split at ad
  ·rename_i dz rs tt xN;simp at ad;subst ad;have cK:=dv.length;have dJ: (dA.toArray++Array.replicate (fn.ntmps-dA.toArray.size) undef).size=fn.ntmps:=by
    have GS:args.length<=fn.ntmps:=aH;simp;omega
   refine calls_of_wp hf af (wp_mono (vV (fG:=C) J dz tt _ _ C.w ⟨_,C,rfl,⟨aA,dJ,rfl,λt=> ?_⟩,cm.refl C,h⟩) ?_)
   ·have:=Pb args dA 0 t dv (aOp _);rw[aPV] at this;have e: (dA.toArray++Array.replicate (fn.ntmps-dA.toArray.size) undef).getD t undef=dA.getD t undef:=by
     simp only[Array.getD_eq_getD_getElem?,Array.getElem?_append,aMG,List.getElem?_toArray,aLn];split
     ·rfl
     ·rename_i aI;rw[aLB (by omega)];simp only[Array.getElem?_replicate];split<;>rfl
    rw[e];exact this
   ·intro e lm w' aV;have bg:Holds fn.ntmps C.r.length C (λD hs=>mU hs D rs λvs=>E C.r.length (λfl hs=>bh (bs fl 0) hs) [(0,mi vs)] hs) lm w'->
     lm.defers=[]/\ ∃v,(results fn lm.tmps).run P w'= .ok v w'/\ ∃aZ gA aB,Ending.returned v= .returned aZ/\aB.w=w'/\Rep aB gA aZ/\ci aB/\cm C.r.length C aB/\bh gA aB.r:=by
     rintro⟨D,aD,rfl,ao,hl,O⟩;refine⟨ao.defers,?_⟩;obtain⟨vs,as,d,G,au⟩:=GR ao fn.results.toList rs _ xN O;have hval:∃aZ,(results fn lm.tmps).run P aD.w= .ok aZ aD.w/\Rep aD (mi as) aZ:=by
      have hm: (fn.results.mapM (m:=Sem) (BK lm.tmps)).run P aD.w= .ok vs.toArray aD.w:=by
       rw[aPW];simp only[Sem.run_map,d,Result.andThen_ok]
      rw[Wd];simp only[Sem.run_bind,hm,Result.andThen_ok,Sem.run_pure];refine⟨_,rfl,?_⟩;cases as with
      |nil=>
       have jZ:vs=[]:=by rw[aE] at G;exact G
       subst jZ;simp only[mi];rw[Rep];exact⟨#[],by simp,by simp[aE]⟩
      |cons x aq=>
       cases aq with
       |nil=>
        rw[aE] at G;obtain⟨v,bS,rfl,bv,cx⟩:=G;rw[aE] at cx;subst cx;simpa[mi] using bv
       |cons y ys=>
        have lp:=G.length;simp only[mi];rw[Rep];refine⟨vs.toArray,?_,by simpa using G⟩;rw[dif_neg (by simp at lp ⊢;omega)]
     obtain⟨aZ,aKO,cY⟩:=hval;refine⟨aZ,aKO,?_⟩;obtain⟨fl,ca,aP,BL⟩:=au;have GT:tl 1 [(0,mi as)] aD ⟨#[aZ],[]⟩:=by
      refine⟨ao.ok,rfl,rfl,λt=> ?_⟩;simp only[bs];split
      ·rename_i ht;subst ht;simpa using cY
      ·simp[Rep]
     obtain⟨BM,aLA,ky,vZ,zC⟩:=Kc aP aD rfl GT hl;refine⟨aZ,bs fl 0,BM,rfl,aLA,?_,vZ.ok,zC,by rw[ky];exact BL⟩;simpa using vZ.jo 0
    cases e with
    |normal=>exact bg aV
    |ret=>exact bg aV
    |exit id=>obtain⟨_,_,_,_,_,O⟩:=aV;exact O.elim
    |goto l=>exact aV.elim
    |panic cS=>exact aV.elim
    |outgrown=>exact aV.elim
  ·cases ad
 ·cases ad
def ev (l:List (Nat×pH))(id:Nat):pH:=
 match l with
 | []=>default
 | (c,x)::z=>if c=id then x else ev z id
end Go.Abs
namespace Go.Abs
variable [dE]
def BN (P:Program)(bq:List dU)(ag:List Nat)(K:aQ->List Z->Prop)(D:aQ)(r:List Z):Prop:=
 zv P bq (λD r=>K (eW ag D) r) D r
def BO (P:Program)(bb:Nat)(v:F)(a b:gd)(K:oh)(D:aQ)(r:List Z):Prop:=rm v (fh P bb a K D r) (fh P bb b K D r)
def xO (P:Program)(v:F)(ej:Bool)(V:dU)(D:aQ)(r:List Z)(K:aQ->List Z->Prop):Prop:=
 match v with
 | .bool b=>tn b ej (eV P V D r K) (K (put D V.dst (.bo [])) r)
 | .bo []=>K (put D V.dst (.bo [])) r
 |_=>False
def bA (op:gc)(args:List F)(r:List Z)(dst:Option Nat)(D:aQ)(K:aQ->List Z->Prop):Prop:=aM op args r λv ca=>K (put D dst v) ca
def rp (P:Program)(f:FuncId)(args:List F)(r:List Z)(dst:Option Nat)(D:aQ)(K:aQ->List Z->Prop):Prop:=uH P f args r λv ca=>K (put D dst v) ca
def Pd (bG:Option Z)(U:Nat)(M:List F)(z n off len:Nat)(r:List Z)(dst:Option Nat)(D:aQ)(K:aQ->List Z->Prop):Prop:=
 match bG with
 |some (.ag e bz am)=>bz=U/\n=am.length/\off+len<=n/\K (put D dst (.bo [])) (r.set z (.ag e U (kw am off (List.replicate len M))))
 |_=>False
def aJv (bG:Option Z)(ys:Option (List (List F)))(U z n off len:Nat)(r:List Z)(dst:Option Nat)(D:aQ)(K:aQ->List Z->Prop):Prop:=
 match ys,bG with
 |some ys,some (.ag e bz am)=>bz=U/\n=am.length/\off+len<=n/\K (put D dst (.int .i64 ((min ys.length len:Nat):Int))) (r.set z (.ag e U (kw am off (ys.take (min ys.length len)))))
 |_,_=>False
def Kt (bG:Option Z)(ok aK:Bool)(Y:List cW)(M k:F)(r:List Z)(dst:Option Nat)(D:aQ)(K:aQ->List Z->Prop):Prop:=
 match bG with
 |some (.be (.map gC fV ents))=>(gC=aK/\fV=Y)/\gb aK Y k/\K (put D dst (if ok then .bo [(dm k ents).getD M,.bool (dm k ents).isSome] else (dm k ents).getD M)) r
 |_=>False
def Pe (bG:Option Z)(z:Nat)(aK:Bool)(Y:List cW)(k v:F)(r:List Z)(dst:Option Nat)(D:aQ)(K:aQ->List Z->Prop):Prop:=
 match bG with
 |some (.be (.map gC fV ents))=>(gC=aK/\fV=Y)/\gb aK Y k/\K (put D dst (.bo [])) (r.set z (.be (.map aK Y (dy k v ents))))
 |_=>False
def Pf (bG:Option Z)(z:Nat)(aK:Bool)(Y:List cW)(M k:F)(r:List Z)(dst:Option Nat)(D:aQ)(K:aQ->List Z->Prop):Prop:=
 match bG with
 |some (.be (.map gC fV ents))=>(gC=aK/\fV=Y)/\(gb aK Y k/\zD aK Y ents)/\
  K (put D dst (.bo [(dm k ents).getD M,.int .i64 ((gB k ents).getD ents.length)])) (r.set z (.be (.map aK Y (dy k ((dm k ents).getD M) ents))))
 |_=>False
def Pg (bG:Option Z)(z:Nat)(n:Int)(v:F)(r:List Z)(dst:Option Nat)(D:aQ)(K:aQ->List Z->Prop):Prop:=
 match bG with
 |some (.be (.map aK Y ents))=>0<=n/\n<ents.length/\K (put D dst (.bo [])) (r.set z (.be (.map aK Y (ents.set n.toNat ((ents.getD n.toNat (.cj,.cj)).1,v)))))
 |_=>False
def Ph (bG:Option Z)(m:Nat)(r:List Z)(dst:Option Nat)(D:aQ)(K:aQ->List Z->Prop):Prop:=
 match bG with
 |some (.be (.map _ _ ents))=>K (put D dst (.fO r.length m)) (r++[.be (.eh ents.length [])])
 |_=>False
def Ku (bG alv:Option Z)(r:List Z)(dst:Option Nat)(D:aQ)(K:aQ->List Z->Prop):Prop:=
 match bG,alv with
 |some (.be (.eh n bX)),some (.be (.map _ _ ents))=>n=ents.length/\0<bX.length/\bX.getLastD 0<n/\
  K (put D dst (.bo [(ents.getD (bX.getLastD 0) (.cj,.cj)).1,(ents.getD (bX.getLastD 0) (.cj,.cj)).2])) r
 |_,_=>False
def Pi (x:F)(r:List Z)(dst:Option Nat)(D:aQ)(K:aQ->List Z->Prop):Prop:=sa r x λv ca=>K (put D dst v) ca
def GU (id:Nat)(K:oh)(j:Nat)(D:aQ)(r:List Z):Prop:=if j=id then K.n D r else K.x j D r
section
variable {P:Program} {bb:Nat} {K:oh} {D:aQ} {r:List Z}
theorem alw:fh P bb .skip K D r=K.n D r:=aKF rfl
theorem alx {bq:List dU}{ag:List Nat}:fh P bb (.region bq ag) K D r=BN P bq ag K.n D r:=aKF rfl
theorem aly {a b:gd}:fh P bb (.seq a b) K D r=fh P bb a ⟨fh P bb b K,K.x,K.z⟩ D r:=aKF rfl
theorem alz {J:bi}{a b:gd}:fh P bb (.cond J a b) K D r=BO P bb (J.aM D) a b K D r:=aKF rfl
theorem alA {id:Nat}{J:gd}:fh P bb (.block id J) K D r=fh P bb J ⟨K.n,GU id K,K.z⟩ D r:=by
 rw[fh];congr 1;congr 1;funext j D r;unfold GU;split<;>rfl
theorem alB {id:Nat}:fh P bb (.exit id) K D r=K.x id D r:=aKF rfl
theorem alC:fh P bb .ret K D r=K.z D r:=aKF rfl
theorem dN {J:gd}(hI:aQ->List Z->Prop)(iX:aQ->List Z->Nat)(h0:E bb hI D r)
 (h:∀D r,hI D r->fh P bb J ⟨E bb λfl ca=>hI fl ca/\iX fl ca<iX D r,K.x,K.z⟩ D r):fh P bb (.loop J) K D r:=⟨hI,iX,h0,h⟩
theorem alD {id j:Nat}:GU id K j D r=if j=id then K.n D r else K.x j D r:=aKF rfl
theorem alE {a b:gd}:BO P bb (.bool true) a b K D r=fh P bb a K D r:=by simp[BO,rm]
theorem alF {a b:gd}:BO P bb (.bool false) a b K D r=fh P bb b K D r:=by simp[BO,rm]
theorem cf {b:Bool}{x y:gd}(d:b=true->fh P bb x K D r)(G:b=false->fh P bb y K D r):BO P bb (.bool b) x y K D r:=⟨d,G⟩
end
section
variable {P:Program} {ag:List Nat} {K:aQ->List Z->Prop} {D:aQ} {r:List Z}
theorem alG:BN P [] ag K D r=K (eW ag D) r:=aKF rfl
theorem alH {B:Option Nat}{op:gc}{args:List bi}{os:List dU}:BN P (⟨B,op,args,none⟩::os) ag K D r=eV P ⟨B,op,args,none⟩ D r (BN P os ag K):=aKF rfl
theorem alI {B:Option Nat}{op:gc}{args:List bi}{I:Nat}{ej:Bool}{os:List dU}:
 BN P (⟨B,op,args,some (I,ej)⟩::os) ag K D r=xO P (bs D I) ej ⟨B,op,args,some (I,ej)⟩ D r (BN P os ag K):=aKF rfl
theorem alJ {V:dU}:xO P (.bool true) true V D r K=eV P V D r K:=aKF rfl
theorem alK {V:dU}:xO P (.bool false) false V D r K=eV P V D r K:=aKF rfl
theorem alL {V:dU}:xO P (.bool true) false V D r K=K (put D V.dst (.bo [])) r:=aKF rfl
theorem alM {V:dU}:xO P (.bool false) true V D r K=K (put D V.dst (.bo [])) r:=aKF rfl
theorem alN {V:dU}{ej:Bool}:xO P (.bo []) ej V D r K=K (put D V.dst (.bo [])) r:=aKF rfl
theorem gv {b ej:Bool}{V:dU}(d:b=true->xO P (.bool true) ej V D r K)(G:b=false->xO P (.bool false) ej V D r K):xO P (.bool b) ej V D r K:=by
 cases b
 ·exact G rfl
 ·exact d rfl
theorem alO {B:Option Nat}{f:FuncId}{args:List bi}{g:Option (Nat×Bool)}:eV P ⟨B,.call f,args,g⟩ D r K=rp P f (args.map (bi.aM D)) r B D K:=aKF rfl
end
section
variable {P:Program} {K:aQ->List Z->Prop} {D:aQ} {r:List Z} {B:Option Nat} {args:List bi} {g:Option (Nat×Bool)}
theorem alP {U neg}:eV P ⟨B,.zx U neg,args,g⟩ D r K=bA (.zx U neg) (args.map (bi.aM D)) r B D K:=aKF rfl
theorem alQ:eV P ⟨B,.cap,args,g⟩ D r K=bA .cap (args.map (bi.aM D)) r B D K:=aKF rfl
theorem alR {n M}:eV P ⟨B,.clear n M,args,g⟩ D r K=bA (.clear n M) (args.map (bi.aM D)) r B D K:=aKF rfl
theorem alS {e n b M}:eV P ⟨B,.BI e n b M,args,g⟩ D r K=bA (.BI e n b M) (args.map (bi.aM D)) r B D K:=aKF rfl
theorem alT:eV P ⟨B,.qt,args,g⟩ D r K=bA .qt (args.map (bi.aM D)) r B D K:=aKF rfl
theorem alU:eV P ⟨B,.pick,args,g⟩ D r K=bA .pick (args.map (bi.aM D)) r B D K:=aKF rfl
theorem alV {e M}:eV P ⟨B,.alloc e M,args,g⟩ D r K=bA (.alloc e M) (args.map (bi.aM D)) r B D K:=aKF rfl
theorem alW {e M}:eV P ⟨B,.box e M,args,g⟩ D r K=bA (.box e M) (args.map (bi.aM D)) r B D K:=aKF rfl
theorem alX {M p}:eV P ⟨B,.build M p,args,g⟩ D r K=bA (.build M p) (args.map (bi.aM D)) r B D K:=aKF rfl
theorem alY {e U M l c}:eV P ⟨B,.sk e U M l c,args,g⟩ D r K=bA (.sk e U M l c) (args.map (bi.aM D)) r B D K:=aKF rfl
theorem ama:eV P ⟨B,.DR,args,g⟩ D r K=bA .DR (args.map (bi.aM D)) r B D K:=aKF rfl
theorem amb:eV P ⟨B,.pF,args,g⟩ D r K=bA .pF (args.map (bi.aM D)) r B D K:=aKF rfl
theorem amc {n}:eV P ⟨B,.pG n,args,g⟩ D r K=bA (.pG n) (args.map (bi.aM D)) r B D K:=aKF rfl
theorem amd {n}:eV P ⟨B,.store n,args,g⟩ D r K=bA (.store n) (args.map (bi.aM D)) r B D K:=aKF rfl
theorem ame:eV P ⟨B,.tu,args,g⟩ D r K=bA .tu (args.map (bi.aM D)) r B D K:=aKF rfl
theorem amf {op}:eV P ⟨B,.iY op,args,g⟩ D r K=bA (.iY op) (args.map (bi.aM D)) r B D K:=aKF rfl
theorem amg {n Y}:eV P ⟨B,.rj n Y,args,g⟩ D r K=bA (.rj n Y) (args.map (bi.aM D)) r B D K:=aKF rfl
theorem amh:eV P ⟨B,.not,args,g⟩ D r K=bA .not (args.map (bi.aM D)) r B D K:=aKF rfl
theorem ami:eV P ⟨B,.neg,args,g⟩ D r K=bA .neg (args.map (bi.aM D)) r B D K:=aKF rfl
theorem amk {n}:eV P ⟨B,.fieldAddr n,args,g⟩ D r K=bA (.fieldAddr n) (args.map (bi.aM D)) r B D K:=aKF rfl
theorem aml {n}:eV P ⟨B,.indexAddr n,args,g⟩ D r K=bA (.indexAddr n) (args.map (bi.aM D)) r B D K:=aKF rfl
theorem amm:eV P ⟨B,.index,args,g⟩ D r K=bA .index (args.map (bi.aM D)) r B D K:=aKF rfl
theorem amn {a b n}:eV P ⟨B,.slice a b n,args,g⟩ D r K=bA (.slice a b n) (args.map (bi.aM D)) r B D K:=aKF rfl
theorem amo:eV P ⟨B,.len,args,g⟩ D r K=bA .len (args.map (bi.aM D)) r B D K:=aKF rfl
theorem amq:eV P ⟨B,.DT,args,g⟩ D r K=bA .DT (args.map (bi.aM D)) r B D K:=aKF rfl
theorem amr {e U b}:eV P ⟨B,.append e U b,args,g⟩ D r K=bA (.append e U b) (args.map (bi.aM D)) r B D K:=aKF rfl
theorem ams {c}:eV P ⟨B,.extract c,args,g⟩ D r K=bA (.extract c) (args.map (bi.aM D)) r B D K:=aKF rfl
theorem amt {m}:eV P ⟨B,.wa m,args,g⟩ D r K=bA (.wa m) (args.map (bi.aM D)) r B D K:=aKF rfl
theorem amu {l U}:eV P ⟨B,.wb l U,args,g⟩ D r K=bA (.wb l U) (args.map (bi.aM D)) r B D K:=aKF rfl
theorem amv {aK Y}:eV P ⟨B,.zy aK Y,args,g⟩ D r K=bA (.zy aK Y) (args.map (bi.aM D)) r B D K:=aKF rfl
theorem amw {ok aK Y M}:eV P ⟨B,.iw ok aK Y M,args,g⟩ D r K=bA (.iw ok aK Y M) (args.map (bi.aM D)) r B D K:=aKF rfl
theorem amx {aK Y}:eV P ⟨B,.pE aK Y,args,g⟩ D r K=bA (.pE aK Y) (args.map (bi.aM D)) r B D K:=aKF rfl
theorem amy:eV P ⟨B,.eh,args,g⟩ D r K=bA .eh (args.map (bi.aM D)) r B D K:=aKF rfl
theorem amz:eV P ⟨B,.entry,args,g⟩ D r K=bA .entry (args.map (bi.aM D)) r B D K:=aKF rfl
theorem amA {x:bi}:eV P ⟨B,.next,[x],g⟩ D r K=Pi (x.aM D) r B D K:=aKF rfl
end
def ep (k:IntKind)(a b:Int):Int:=k.wrap (BitVec.ofInt k.bits a&&& BitVec.ofInt k.bits b).toNat
def Kv (k:IntKind)(a b:Int):Int:=k.wrap (BitVec.ofInt k.bits a|||BitVec.ofInt k.bits b).toNat
def Kw (k:IntKind)(a b:Int):Int:=k.wrap (BitVec.ofInt k.bits a ^^^ BitVec.ofInt k.bits b).toNat
def BP (k:IntKind)(a:Int)(n:Nat):Int:=k.wrap (a*2^(min n k.bits))
def Kx (k:IntKind)(a:Int)(n:Nat):Int:=a.fdiv (2^(min n k.bits))
def Pj (z:Option Z)(n c off:Nat)(r:List Z)(dst:Option Nat)(D:aQ)(K:aQ->List Z->Prop):Prop:=
 match z with
 |some (.ag _ U am)=>n=am.length/\off<U/\K (put D dst ((am.getD c []).getD off .cj)) r
 |_=>False
def Pk (z:Option Z)(m n c off:Nat)(r:List Z)(dst:Option Nat)(D:aQ)(K:aQ->List Z->Prop):Prop:=
 match z with
 |some (.ag _ U am)=>n=am.length/\off+m<=U/\K (put D dst (.agg (((am.getD c []).drop off).take m))) r
 |_=>False
def Pl (bG:Option Z)(m z n c off:Nat)(cells:List F)(r:List Z)(dst:Option Nat)(D:aQ)(K:aQ->List Z->Prop):Prop:=
 match bG with
 |some (.ag e U am)=>n=am.length/\off+m<=U/\cells.length=m/\cells.all cV=true/\K (put D dst (.bo [])) (r.set z (.ag e U (am.set c (fb (am.getD c []) off cells))))
 |_=>False
def Pn (bG:Option Z)(U z n off len:Nat)(c:Int)(r:List Z)(dst:Option Nat)(D:aQ)(K:aQ->List Z->Prop):Prop:=
 match bG with
 |some (.ag _ bz am)=>bz=U/\n=am.length/\0<=c/\c<len/\K (put D dst (.bd z n (off+c.toNat) 0)) r
 |_=>False
def GV (bG:Option Z)(U z n off:Nat)(len:Nat)(a b:Int)(r:List Z)(dst:Option Nat)(D:aQ)(K:aQ->List Z->Prop):Prop:=
 match bG with
 |some (.ag _ bz am)=>0<=a/\a<=b/\b<=len/\bz=U/\n=am.length/\K (put D dst (.own z n (off+a.toNat) (b.toNat-a.toNat))) r
 |_=>False
def Po (bG:Option Z)(ys:Option (List (List F)))(e:TypeId)(U bytes z n off len:Nat)(r:List Z)(dst:Option Nat)(D:aQ)(K:aQ->List Z->Prop):Prop:=
 match ys,bG with
 |some ys,some (.ag cO bz am)=>cO=e/\bz=U/\n=am.length/\off=0/\len=n/\(n+ys.length)*bytes<=140737488355328/\
  K (put D dst (.own z (n+ys.length) 0 (n+ys.length))) (r.set z (.ag e U (am++ys)))
 |_,_=>False
def Pp (ys:Option (List (List F)))(e:TypeId)(U bytes:Nat)(r:List Z)(dst:Option Nat)(D:aQ)(K:aQ->List Z->Prop):Prop:=
 match ys with
 |some ys=>ys.length*bytes<=140737488355328/\K (put D dst (.own r.length ys.length 0 ys.length)) (r++[.ag e U ys])
 |none=>False
def Pq (ap:Option (List F))(vs:List F)(r:List Z)(dst:Option Nat)(D:aQ)(K:aQ->List Z->Prop):Prop:=
 match ap with
 |some ap=>(vs.all λv=>(cp v).all cV)=true/\K (put D dst (.agg ap)) r
 |none=>False
def Ps (ar:Option (List (List F)))(e:TypeId)(U len:Nat)(vs:List F)(r:List Z)(dst:Option Nat)(D:aQ)(K:aQ->List Z->Prop):Prop:=
 match ar with
 |some ar=>(vs.all λv=>(cp v).all cV)=true/\K (put D dst (.own r.length len 0 len)) (r++[.ag e U ar])
 |none=>False
def Wg (ys:Option (List (List F)))(neg:Bool)(r:List Z)(dst:Option Nat)(D:aQ)(K:aQ->List Z->Prop):Prop:=
 match ys with
 |some ys=>0<ys.length/\K (put D dst (.bool neg)) r
 |none=>False
def Pt (bG:Option Z)(U n off len:Nat):Option (List (List F)):=
 match bG with
 |some (.ag _ bz am)=>if bz=U/\n=am.length/\off+len<=n then some ((am.drop off).take len) else none
 |_=>none
section
variable {K:aQ->List Z->Prop} {D:aQ} {r:List Z} {B:Option Nat}
theorem amB:bA .DR [] r B D K=K (put D B .bH) r:=aKF rfl
theorem amC {x:F}:bA .qt [x] r B D K=K (put D B x) r:=aKF rfl
theorem amD {a b:F}:bA .pick [.bool true,a,b] r B D K=K (put D B a) r:=aKF rfl
theorem amE {a b:F}:bA .pick [.bool false,a,b] r B D K=K (put D B b) r:=aKF rfl
theorem amF {e M}:bA (.alloc e M) [] r B D K=K (put D B (.bd r.length 1 0 0)) (r++[.ag e M.length [M]]):=aKF rfl
theorem amG {e U x}:bA (.box e U) [x] r B D K=((cp x).length=U/\(cp x).all cV=true/\K (put D B (.bd r.length 1 0 0)) (r++[.ag e U [cp x]])):=aKF rfl
theorem amH {M p vs}:bA (.build M p) vs r B D K=Pq (oQ M p vs) vs r B D K:=by
 unfold bA Pq;simp only[aM];split<;>simp_all
theorem amI {e U M len jq vs}:bA (.sk e U M len jq) vs r B D K=Ps (oV (List.replicate len M) U jq vs) e U len vs r B D K:=by
 unfold bA Ps;simp only[aM];split<;>simp_all
theorem amK {z n c off}:bA .pF [.bd z n c off] r B D K=Pj r[z]? n c off r B D K:=by
 unfold bA Pj;simp only[aM,qu];exact aKF rfl
theorem amL {cells off}:bA .pF [.en cells off] r B D K=(off<cells.length/\K (put D B (cells.getD off .cj)) r):=aKF rfl
theorem amM {m z n c off}:bA (.pG m) [.bd z n c off] r B D K=Pk r[z]? m n c off r B D K:=by
 unfold bA Pk;simp only[aM,oW];exact aKF rfl
theorem amN {m cells off}:bA (.pG m) [.en cells off] r B D K=(off+m<=cells.length/\K (put D B (.agg ((cells.drop off).take m))) r):=aKF rfl
theorem amO {m z n c off y}:bA (.store m) [.bd z n c off,y] r B D K=Pl r[z]? m z n c off (cp y) r B D K:=by
 unfold bA Pl;simp only[aM,xJ];exact aKF rfl
theorem amP {z n c V}:bA .tu [.bd z n c V] r B D K=K (put D B (.bd z n c V)) r:=aKF rfl
theorem amQ {k a b}:bA (.iY .add) [.int k a,.int k b] r B D K=K (put D B (.int k (k.wrap (a+b)))) r:=by simp[bA,aM,me]
theorem amR {k a b}:bA (.iY .sub) [.int k a,.int k b] r B D K=K (put D B (.int k (k.wrap (a-b)))) r:=by simp[bA,aM,me]
theorem amS {k a b}:bA (.iY .mul) [.int k a,.int k b] r B D K=K (put D B (.int k (k.wrap (a*b)))) r:=by simp[bA,aM,me]
theorem amT {k a b}:bA (.iY .quo) [.int k a,.int k b] r B D K=(b≠0/\K (put D B (.int k (k.wrap (a.tdiv b)))) r):=by simp[bA,aM,me]
theorem amU {k a b}:bA (.iY .rem) [.int k a,.int k b] r B D K=(b≠0/\K (put D B (.int k (a.tmod b))) r):=by simp[bA,aM,me]
theorem amV {k a b}:bA (.iY .and) [.int k a,.int k b] r B D K=K (put D B (.int k (ep k a b))) r:=by simp[bA,aM,me,ep]
theorem amW {k a b}:bA (.iY .or) [.int k a,.int k b] r B D K=K (put D B (.int k (Kv k a b))) r:=by simp[bA,aM,me,Kv]
theorem amY {k br a b}:bA (.iY .shl) [.int k a,.int br b] r B D K=(0<=b/\K (put D B (.int k (BP k a b.toNat))) r):=aKF rfl
theorem amZ {k br a b}:bA (.iY .shr) [.int k a,.int br b] r B D K=(0<=b/\K (put D B (.int k (Kx k a b.toNat))) r):=aKF rfl
theorem ana {k a b}:bA (.iY .eql) [.int k a,.int k b] r B D K=K (put D B (.bool (a==b))) r:=by simp[bA,aM,me]
theorem anb {k a b}:bA (.iY .neq) [.int k a,.int k b] r B D K=K (put D B (.bool (a != b))) r:=by simp[bA,aM,me]
theorem anc {k a b}:bA (.iY .lss) [.int k a,.int k b] r B D K=K (put D B (.bool (decide (a<b)))) r:=by simp[bA,aM,me]
theorem ane {k a b}:bA (.iY .leq) [.int k a,.int k b] r B D K=K (put D B (.bool (decide (a<=b)))) r:=by simp[bA,aM,me]
theorem anf {k a b}:bA (.iY .gtr) [.int k a,.int k b] r B D K=K (put D B (.bool (decide (b<a)))) r:=by simp[bA,aM,me]
theorem ang {k a b}:bA (.iY .geq) [.int k a,.int k b] r B D K=K (put D B (.bool (decide (b<=a)))) r:=by simp[bA,aM,me]
theorem anh {a b}:bA (.iY .eql) [.str a,.str b] r B D K=K (put D B (.bool (a.toList==b.toList))) r:=aKF rfl
theorem ani {a b}:bA (.iY .neq) [.str a,.str b] r B D K=K (put D B (.bool !(a.toList==b.toList))) r:=aKF rfl
theorem anj {a b}:bA (.iY .lss) [.str a,.str b] r B D K=K (put D B (.bool (Op.bytesLess a.toList b.toList))) r:=aKF rfl
theorem ank {neg Y aq ys}:bA (.rj neg Y) [.agg aq,.agg ys] r B D K=(cE Y aq/\cE Y ys/\K (put D B (.bool (ed aq ys != neg))) r):=aKF rfl
theorem anl {b}:bA .not [.bool b] r B D K=K (put D B (.bool !b)) r:=aKF rfl
theorem anm {k n}:bA .neg [.int k n] r B D K=K (put D B (.int k (k.wrap (0-n)))) r:=aKF rfl
theorem ano {m z n c off}:bA (.fieldAddr m) [.bd z n c off] r B D K=K (put D B (.bd z n c (off+m))) r:=aKF rfl
theorem anp {m cells off}:bA (.fieldAddr m) [.en cells off] r B D K=K (put D B (.en cells (off+m))) r:=aKF rfl
theorem anq {U bz am k c}:bA (.indexAddr U) [.pure bz am,.int k c] r B D K=(bz=U/\0<=c/\c<am.length/\K (put D B (.en (am.getD c.toNat []) 0)) r):=aKF rfl
theorem anr {U z n off len k c}:bA (.indexAddr U) [.own z n off len,.int k c] r B D K=Pn r[z]? U z n off len c r B D K:=by
 unfold bA Pn;simp only[aM,xj];exact aKF rfl
theorem ans {I k c}:bA .index [.str I,.int k c] r B D K=(0<=c/\c<I.size/\K (put D B (.int .u8 ((I.data.getD c.toNat 0).toNat))) r):=aKF rfl
theorem anv {U bz am k b}:bA (.slice false true U) [.pure bz am,.int k b] r B D K=((0:Int)<=0/\0<=b/\b<=am.length/\bz=U/\K (put D B (.pure bz ((am.drop (0:Int).toNat).take (b.toNat-(0:Int).toNat)))) r):=aKF rfl
theorem anw {U z n off len k a}:bA (.slice true false U) [.own z n off len,.int k a] r B D K=GV r[z]? U z n off len a len r B D K:=by
 unfold bA GV;simp only[aM,qj,td,aMW,aPX];split<;>simp_all
theorem anx {U z n off len k b}:bA (.slice false true U) [.own z n off len,.int k b] r B D K=GV r[z]? U z n off len 0 b r B D K:=by
 unfold bA GV;simp only[aM,qj,td,aMW,aPX];split<;>simp_all
theorem anz {U am}:bA .len [.pure U am] r B D K=K (put D B (.int .i64 (am.length:Nat))) r:=aKF rfl
theorem anA {z n off len}:bA .len [.own z n off len] r B D K=K (put D B (.int .i64 len)) r:=aKF rfl
theorem anB:bA .len [.bH] r B D K=K (put D B (.int .i64 (0:Nat))) r:=aKF rfl
theorem anC {I}:bA .DT [.str I] r B D K=K (put D B (.int .i64 I.size)) r:=aKF rfl
theorem anD {e U b y}:bA (.append e U b) [.bH,y] r B D K=Pp (jr r U y) e U b r B D K:=by
 unfold bA Pp;simp only[aM,uK];split<;>simp_all
theorem anE {e U b z n off len y}:bA (.append e U b) [.own z n off len,y] r B D K=Po r[z]? (jr r U y) e U b z n off len r B D K:=by
 unfold bA Po;simp only[aM,uK];cases jr r U y with
 |none=>simp
 |some ys=>cases N:r[z]? with
  |none=>simp
  |some bG=>cases bG<;>simp
theorem anF {U neg x}:bA (.zx U neg) [x] r B D K=Wg (jr r U x) neg r B D K:=aKF rfl
theorem anG {ys neg}:Wg (some ys) neg r B D K=(0<ys.length/\K (put D B (.bool neg)) r):=aKF rfl
theorem anH {c vs}:bA (.extract c) [.bo vs] r B D K=(c<vs.length/\K (put D B (vs.getD c .cj)) r):=aKF rfl
theorem anI {k a b}:bA (.wa false) [.int k a,.int k b] r B D K=K (put D B (.int k (min a b))) r:=by simp[bA,aM]
theorem anJ {k a b}:bA (.wa true) [.int k a,.int k b] r B D K=K (put D B (.int k (max a b))) r:=by simp[bA,aM]
theorem anK:bA .cap [.bH] r B D K=K (put D B (.int .i64 0)) r:=aKF rfl
theorem anL {e U b M k n}:bA (.BI e U b M) [.bH,.int k n] r B D K=(0<n/\n*b<=140737488355328/\K (put D B (.own r.length n.toNat 0 n.toNat)) (r++[.ag e U (List.replicate n.toNat M)])):=aKF rfl
theorem anM {U M z n off len}:bA (.clear U M) [.own z n off len] r B D K=Pd r[z]? U M z n off len r B D K:=by
 unfold bA Pd;simp only[aM,xy];exact aKF rfl
theorem anN {e bz U M am z n off len}:Pd (some (.ag e bz am)) U M z n off len r B D K=(bz=U/\n=am.length/\off+len<=n/\K (put D B (.bo [])) (r.set z (.ag e U (kw am off (List.replicate len M))))):=aKF rfl
theorem aSx {U z n off len y}:bA (.copy U) [.own z n off len,y] r B D K=aJv r[z]? (jr r U y) U z n off len r B D K:=by
 unfold bA aJv;simp only[aM,zj];cases jr r U y with
 |none=>simp
 |some ys=>cases N:r[z]? with
  |none=>simp
  |some bG=>cases bG<;>simp
theorem aSy {e ys bz U am z n off len}:aJv (some (.ag e bz am)) (some ys) U z n off len r B D K=(bz=U/\n=am.length/\off+len<=n/\K (put D B (.int .i64 ((min ys.length len:Nat):Int))) (r.set z (.ag e U (kw am off (ys.take (min ys.length len)))))):=aKF rfl
theorem anO {l U z n c off k j}:bA (.wb l U) [.bd z n c off,.int k j] r B D K=(0<=j/\j<l/\K (put D B (.bd z n c (off+j.toNat*U))) r):=aKF rfl
theorem anP {aK Y}:bA (.zy aK Y) [] r B D K=K (put D B (.bE r.length)) (r++[.be (.map aK Y [])]):=aKF rfl
theorem anQ {ok aK Y M z k}:bA (.iw ok aK Y M) [.bE z,k] r B D K=Kt r[z]? ok aK Y M k r B D K:=by
 unfold bA Kt;simp only[aM,uy,qn];cases N:r[z]? with
 |none=>simp
 |some bG=>
  cases bG with
  |fP=>simp
  |ag=>simp
  |be V=>
   cases V with
   |eh=>simp
   |map gC fV ents=>
    simp only
    by_cases ad:gC=aK/\fV=Y
    ·simp[ad]
    ·rw[S ad];simp[ad]
theorem anR {gC fV ents aK Y M k}:Kt (some (.be (.map gC fV ents))) true aK Y M k r B D K=((gC=aK/\fV=Y)/\gb aK Y k/\K (put D B (.bo [(dm k ents).getD M,.bool (dm k ents).isSome])) r):=aKF rfl
theorem anS {gC fV ents aK Y M k}:Kt (some (.be (.map gC fV ents))) false aK Y M k r B D K=((gC=aK/\fV=Y)/\gb aK Y k/\K (put D B ((dm k ents).getD M)) r):=aKF rfl
theorem anT {aK Y z k v}:bA (.pE aK Y) [.bE z,k,v] r B D K=Pe r[z]? z aK Y k v r B D K:=by
 unfold bA Pe;simp only[aM,xr];exact aKF rfl
theorem anU {gC fV ents z aK Y k v}:Pe (some (.be (.map gC fV ents))) z aK Y k v r B D K=((gC=aK/\fV=Y)/\gb aK Y k/\K (put D B (.bo [])) (r.set z (.be (.map aK Y (dy k v ents))))):=aKF rfl
theorem anV {aK Y M z k}:bA (.oU aK Y M) [.bE z,k] r B D K=Pf r[z]? z aK Y M k r B D K:=by
 unfold bA Pf;simp only[aM,vI];exact aKF rfl
theorem anW {gC fV ents z aK Y M k}:Pf (some (.be (.map gC fV ents))) z aK Y M k r B D K=((gC=aK/\fV=Y)/\(gb aK Y k/\zD aK Y ents)/\
 K (put D B (.bo [(dm k ents).getD M,.int .i64 ((gB k ents).getD ents.length)])) (r.set z (.be (.map aK Y (dy k ((dm k ents).getD M) ents))))):=aKF rfl
theorem anX {z JR n v}:bA .sj [.bE z,.int JR n,v] r B D K=Pg r[z]? z n v r B D K:=by
 unfold bA Pg;simp only[aM,xs];exact aKF rfl
theorem anY {aK Y ents z n v}:Pg (some (.be (.map aK Y ents))) z n v r B D K=(0<=n/\n<ents.length/\K (put D B (.bo [])) (r.set z (.be (.map aK Y (ents.set n.toNat ((ents.getD n.toNat (.cj,.cj)).1,v)))))):=aKF rfl
theorem anZ {m}:bA .eh [.bE m] r B D K=Ph r[m]? m r B D K:=by
 unfold bA Ph;simp only[aM,xt];exact aKF rfl
theorem aoa {aK Y ents m}:Ph (some (.be (.map aK Y ents))) m r B D K=K (put D B (.fO r.length m)) (r++[.be (.eh ents.length [])]):=aKF rfl
theorem aob {z m}:bA .entry [.fO z m] r B D K=Ku r[z]? r[m]? r B D K:=by
 unfold bA Ku;simp only[aM,xv];exact aKF rfl
theorem aoc {aK Y ents n bX}:Ku (some (.be (.eh n bX))) (some (.be (.map aK Y ents))) r B D K=(n=ents.length/\0<bX.length/\bX.getLastD 0<n/\
 K (put D B (.bo [(ents.getD (bX.getLastD 0) (.cj,.cj)).1,(ents.getD (bX.getLastD 0) (.cj,.cj)).2])) r):=aKF rfl
theorem aod {aK:Bool}{Y:List cW}{k:F}:gb aK Y k=(mK k=aK/\cE Y (cp k)):=aKF rfl
theorem aoe {k:IntKind}{n:Int}:mK (.int k n)=false:=aKF rfl
theorem aof {I:ByteArray}:mK (.str I)=false:=aKF rfl
theorem aog {ap:List F}:mK (.agg ap)=true:=aKF rfl
theorem aoh {e U am n c off}:Pj (some (.ag e U am)) n c off r B D K=(n=am.length/\off<U/\K (put D B ((am.getD c []).getD off .cj)) r):=aKF rfl
theorem aoi {e U am m n c off}:Pk (some (.ag e U am)) m n c off r B D K=(n=am.length/\off+m<=U/\K (put D B (.agg (((am.getD c []).drop off).take m))) r):=aKF rfl
theorem aoj {e U am m z n c off cells}:Pl (some (.ag e U am)) m z n c off cells r B D K=
 (n=am.length/\off+m<=U/\cells.length=m/\cells.all cV=true/\K (put D B (.bo [])) (r.set z (.ag e U (am.set c (fb (am.getD c []) off cells))))):=aKF rfl
theorem aok {e bz am U z n off len c}:Pn (some (.ag e bz am)) U z n off len c r B D K=(bz=U/\n=am.length/\0<=c/\c<len/\K (put D B (.bd z n (off+c.toNat) 0)) r):=aKF rfl
theorem aol {e bz am U z n off len a b}:GV (some (.ag e bz am)) U z n off len a b r B D K=(0<=a/\a<=b/\b<=len/\bz=U/\n=am.length/\K (put D B (.own z n (off+a.toNat) (b.toNat-a.toNat))) r):=aKF rfl
theorem aom {ys cO bz am e U b z n off len}:Po (some (.ag cO bz am)) (some ys) e U b z n off len r B D K=(cO=e/\bz=U/\n=am.length/\off=0/\len=n/\(n+ys.length)*b<=140737488355328/\
 K (put D B (.own z (n+ys.length) 0 (n+ys.length))) (r.set z (.ag e U (am++ys)))):=aKF rfl
theorem aon {ys e U b}:Pp (some ys) e U b r B D K=(ys.length*b<=140737488355328/\K (put D B (.own r.length ys.length 0 ys.length)) (r++[.ag e U ys])):=aKF rfl
theorem aoo {ap vs}:Pq (some ap) vs r B D K=((vs.all λv=>(cp v).all cV)=true/\K (put D B (.agg ap)) r):=aKF rfl
theorem aop {ar e U len vs}:Ps (some ar) e U len vs r B D K=((vs.all λv=>(cp v).all cV)=true/\K (put D B (.own r.length len 0 len)) (r++[.ag e U ar])):=aKF rfl
end
theorem aoq {r:List Z}{U bz:Nat}{am:List (List F)}:jr r U (.pure bz am)=if bz=U then some am else none:=aKF rfl
theorem aor {r:List Z}{U z n off len:Nat}:jr r U (.own z n off len)=Pt r[z]? U n off len:=by
 unfold Pt;simp only[jr];exact aKF rfl
theorem aos {e:TypeId}{bz U n off len:Nat}{am:List (List F)}:Pt (some (.ag e bz am)) U n off len=if bz=U/\n=am.length/\off+len<=n then some ((am.drop off).take len) else none:=aKF rfl
theorem aot {cells:List F}:oQ cells [] []=some cells:=aKF rfl
theorem aou {cells:List F}{off U:Nat}{aa:List (Nat×Nat)}{v:F}{vs:List F}:oQ cells ((off,U)::aa) (v::vs)=if (cp v).length=U/\off+U<=cells.length then oQ (fb cells off (cp v)) aa vs else none:=aKF rfl
theorem aov {ar:List (List F)}{U:Nat}:oV ar U [] []=some ar:=aKF rfl
theorem aow {ar:List (List F)}{U c:Nat}{is:List Nat}{v:F}{vs:List F}:oV ar U (c::is) (v::vs)=if (cp v).length=U/\c<ar.length then oV (ar.set c (cp v)) U is vs else none:=aKF rfl
theorem aox {ap:List F}:cp (.agg ap)=ap:=aKF rfl
theorem aoy {k:IntKind}{n:Int}:cp (.int k n)=[.int k n]:=aKF rfl
theorem aoz {b:Bool}:cp (.bool b)=[.bool b]:=aKF rfl
theorem aoA {I:ByteArray}:cp (.str I)=[.str I]:=aKF rfl
theorem aoB:cp .bH=[.bH]:=aKF rfl
theorem aoC {U:Nat}{am:List (List F)}:cp (.pure U am)=[.pure U am]:=aKF rfl
theorem aoD {z n V l:Nat}:cp (.own z n V l)=[.own z n V l]:=aKF rfl
theorem aoE {z:Nat}:cp (.bE z)=[.bE z]:=aKF rfl
theorem aoF {z:Nat}:cV (.bE z)=true:=aKF rfl
theorem aoG {k:IntKind}{n:Int}:cV (.int k n)=true:=aKF rfl
theorem aoH {b:Bool}:cV (.bool b)=true:=aKF rfl
theorem aoI {I:ByteArray}:cV (.str I)=true:=aKF rfl
theorem aoJ:cV .bH=true:=aKF rfl
theorem aoK {U:Nat}{am:List (List F)}:cV (.pure U am)=true:=aKF rfl
theorem aoL {z n V l:Nat}:cV (.own z n V l)=true:=aKF rfl
theorem aoM {t:Nat}:bs [] t= .cj:=aKF rfl
theorem Pu {I t:Nat}{v:F}{z:aQ}:bs ((I,v)::z) t=if I=t then v else bs z t:=aKF rfl
theorem aoN {D:aQ}{B:Nat}{v:F}:put D (some B) v=(B,v)::D:=aKF rfl
theorem aoO {D:aQ}{v:F}:put D none v=D:=aKF rfl
theorem aoP {D:aQ}:eW [] D=[]:=aKF rfl
theorem aoQ {I:Nat}{bV:List Nat}{D:aQ}:eW (I::bV) D=(I,bs D I)::eW bV D:=aKF rfl
theorem aoR {D:aQ}{I:Nat}:bi.aM D (.t I)=bs D I:=aKF rfl
theorem aoS {D:aQ}{v:F}:bi.aM D (.J v)=v:=aKF rfl
theorem aoT {l:List F}{off:Nat}{ap:List F}:fb l off ap=l.take off++ap++l.drop (off+ap.length):=aKF rfl
theorem aoU {k br:IntKind}{a b:Int}{ap ds:List F}:ed (.int k a::ap) (.int br b::ds)=(a==b&&ed ap ds):=aKF rfl
theorem aoW:ed [] []=true:=aKF rfl
theorem aoX {k br:IntKind}{n:Int}{Y:List cW}{ap:List F}:cE (.int k::Y) (.int br n::ap)=(k=br/\cE Y ap):=aKF rfl
theorem aoY {I:ByteArray}{Y:List cW}{ap:List F}:cE (.str::Y) (.str I::ap)=cE Y ap:=aKF rfl
theorem aoZ:cE [] []=True:=aKF rfl
theorem apa {k:Nat}:ro [] k=[]:=aKF rfl
theorem apb {a:F}{as:List F}{k:Nat}:ro (a::as) k=(k,a)::ro as (k+1):=aKF rfl
def xP (bh:F->List Z->Prop)(D:aQ)(r:List Z):Prop:=bh (bs D 0) r
def ol (bb:Nat)(bh:F->List Z->Prop)(acc:List F)(rs:List uL)(D:aQ)(r:List Z):Prop:=
 mU r D rs λvs=>E bb (xP bh) [(0,mi (acc++vs))] r
def Pv (_:Nat)(_:aQ)(_:List Z):Prop:=False
def Pw (z:Option Z)(m n c off:Nat)(bb:Nat)(bh:F->List Z->Prop)(acc:List F)(rs:List uL)(D:aQ)(r:List Z):Prop:=
 match z with
 |some (.ag _ U am)=>n=am.length/\off+m<=U/\ol bb bh (acc++[.agg (((am.getD c []).drop off).take m)]) rs D r
 |_=>False
def uM (v:F)(m:Nat)(bb:Nat)(bh:F->List Z->Prop)(acc:List F)(rs:List uL)(D:aQ)(r:List Z):Prop:=
 oW r m v λv=>ol bb bh (acc++[v]) rs D r
section
variable {bb:Nat} {bh:F->List Z->Prop} {acc:List F} {rs:List uL} {D:aQ} {r:List Z}
theorem apc:ol bb bh acc [] D r=E bb (xP bh) [(0,mi acc)] r:=by simp[ol,mU]
theorem apd {t:Nat}:ol bb bh acc (.tmp t::rs) D r=ol bb bh (acc++[bs D t]) rs D r:=by simp[ol,mU]
theorem ape {t m:Nat}:ol bb bh acc (.uM t m::rs) D r=uM (bs D t) m bb bh acc rs D r:=by simp[ol,mU,uM]
theorem apf {m z n c off:Nat}:uM (.bd z n c off) m bb bh acc rs D r=Pw r[z]? m n c off bb bh acc rs D r:=by unfold uM Pw;simp only[oW];exact aKF rfl
theorem apg {e U am m n c off}:Pw (some (.ag e U am)) m n c off bb bh acc rs D r=(n=am.length/\off+m<=U/\ol bb bh (acc++[.agg (((am.getD c []).drop off).take m)]) rs D r):=aKF rfl
theorem aph {v:F}:mi [v]=v:=aKF rfl
theorem api:mi []= .bo []:=aKF rfl
theorem apj {v w:F}{vs:List F}:mi (v::w::vs)= .bo (v::w::vs):=aKF rfl
end
theorem apk {P:Program}{aG:aN}{args:List F}{r:List Z}{bh:F->List Z->Prop}
 (h:fh P r.length aG.body ⟨ol r.length bh [] aG.results,Pv,ol r.length bh [] aG.results⟩ (ro args 0) r):Wb P aG args r bh:=h
theorem cu {P:Program}{f:FuncId}{fn:Func}{ag:Nat->pH}{aG:aN}(hf:P.funcs[f]? =some fn)(ad:xM P ag fn=some aG){args:List F}{r:List Z}{bh:F->List Z->Prop}
 (aH:args.length<=aG.ntmps) (h:fh P r.length aG.body ⟨ol r.length bh [] aG.results,Pv,ol r.length bh [] aG.results⟩ (ro args 0) r):aO P f args r bh:=
 alu hf ad aH (apk h)
def xQ:List (Option Nat)->Bool
 | []=>true
 |none::bV=>xQ bV
 |some z::bV=> !bV.contains (some z)&&xQ bV
theorem Px:∀{ax:List (Option Nat)},xQ ax=true->J8 ax
 | [],_=>by intro c j z h;simp at h
 |none::bV,h=>by
  intro c j z d G;have ih:=Px (ax:=bV) h;cases c with
  |zero=>simp at d
  |succ c=>
   cases j with
   |zero=>simp at G
   |succ j=>rw[ih c j z (by simpa using d) (by simpa using G)]
 |some I::bV,h=>by
  simp only[xQ,aKJ,aMH,aOq,aLX] at h;have ih:=Px (ax:=bV) h.2;intro c j z d G;cases c with
  |zero=>
   simp at d;subst d;cases j with
   |zero=>rfl
   |succ j=>exact (h.1 (aMA (by simpa using G))).elim
  |succ c=>
   cases j with
   |zero=>
    simp at G;subst G;exact (h.1 (aMA (by simpa using d))).elim
   |succ j=>rw[ih c j z (by simpa using d) (by simpa using G)]
def wd:Nat->Nat->List (Option Nat)->Bool
 |0,_,_=>true
 |_+1,_,[]=>false
 |n+1,k,I::bV=>(I==some k||I==none)&&wd n (k+1) bV
theorem Wh:∀{n k:Nat} {ax:List (Option Nat)},wd n k ax=true->n<=ax.length/\ ∀c,c<n->ax[c]? =some (some (k+c))\/ax[c]? =some none
 |0,k,ax,_=>⟨by simp,λc av=>by omega⟩
 |n+1,k,[],h=>by simp[wd] at h
 |n+1,k,I::bV,h=>by
  simp only[wd,aKJ,aLP,aLu] at h;obtain⟨d,G⟩:=Wh h.2;refine⟨by simp;omega,λc av=> ?_⟩;cases c with
  |zero=>simpa using h.1
  |succ c=>
   have:=G c (by omega);rw[show k+(c+1)=k+1+c from by omega];simpa using this
theorem apl {bb:Nat}{ax:List (Option Nat)}(h:wd bb 0 ax=true):keeps bb ax:=by
 obtain⟨d,G⟩:=Wh h;exact⟨d,λc av=>by simpa using G c av⟩
theorem E.ll {bb:Nat}{K:aQ->List Z->Prop}{D:aQ}{r srows:List Z}(ax:List (Option Nat))(bn:List Nat)(d:xQ ax=true)(G:wd bb 0 ax=true)(aw:eC r bn ax ax=some srows)
 (h:E bb K (D.map λp=>(p.1,bW r ax bn p.2)) srows):E bb K D r:=E.oc (.ll ax bn (Px d) (apl G) aw) h
set_option linter.defProp false in
def aMd:= @E.ll
theorem E.iv {bb:Nat}{K:aQ->List Z->Prop}{D:aQ}{r:List Z}(I:Nat)(e:TypeId)(U:Nat)(h:bs D I= .bH)
 (k:E bb K ((I,.own r.length 0 0 0)::D) (r++[.ag e U []])):E bb K D r:=E.oc (.iv I e U h) k
theorem E.eW {bb:Nat}{K:aQ->List Z->Prop}{D:aQ}{r:List Z}(ag:List Nat)(h:E bb K (eW ag D) r):E bb K D r:=
 E.oc (.D λt=>V7 ag D t) h
mutual
theorem tv {r:List Z}{ax:List (Option Nat)}{bn:List Nat}:∀(a:F),bJ a=true->bW r ax bn a=a
 | .own ..,h=>by simp[bJ] at h
 | .bd ..,h=>by simp[bJ] at h
 | .agg ap,h=>by rw[bJ] at h;rw[bW,qw ap h]
 | .bo ap,h=>by rw[bJ] at h;rw[bW,qw ap h]
 | .fn _ ap,h=>by rw[bJ] at h;rw[bW,qw ap h]
 | .kH,_=>by simp[bW]
 | .bE _,h=>by simp[bJ] at h
 | .fO ..,h=>by simp[bJ] at h
 | .int ..,_=>by simp[bW]
 | .bool ..,_=>by simp[bW]
 | .str ..,_=>by simp[bW]
 | .bH,_=>by simp[bW]
 | .kt,_=>by simp[bW]
 | .cj,_=>by simp[bW]
 | .pure ..,_=>by simp[bW]
 | .en ..,_=>by simp[bW]
theorem qw {r:List Z}{ax:List (Option Nat)}{bn:List Nat}:∀(as:List F),bU as=true->dT r ax bn as=as
 | [],_=>by simp[dT]
 |a::as,h=>by
  simp only[bU,aKJ] at h;rw[dT,tv a h.1,qw as h.2]
end
theorem E.bg {bh:F->List Z->Prop}{v:F}{r:List Z}(an:bJ v=true)(h:bh v []):E 0 (xP bh) [(0,v)] r:=by
 refine E.ll (srows:=[]) [] [] (by decide) (by decide) (by exact aKF rfl) (i ?_);have af:∀(v:F),bJ v=true->bW r [] [] v=v:=λv an=>tv v an;simp only[xP,aKP,aLC,Pu,aK5,af v an];exact h
set_option linter.defProp false in
def aKG:= @E.bg
theorem om {P:Program}{f:FuncId}{args:List F}{r:List Z}{dst:Option Nat}{D:aQ}{K:aQ->List Z->Prop}(ax bn:List Nat){srows:List Z}{rq:List F}{bh:F->List Z->Prop}
 (aH:ax.Nodup) (aw:eC r bn (ax.map some) (ax.map some)=some srows) (af:dT r (ax.map some) bn args=rq) (hA:aO P f rq srows bh)
 (O:∀v rs,bh v rs->(bn=[]\/(oT v=true/\(rs.all Bz)=true))/\K (put D dst (dS (eU r.length ax) v)) (fu r ax (rs.map (gD (eU r.length ax))))):
 rp P f args r dst D K:=
 ⟨ax,bn,srows,aH,aw,by rw[af];exact hA.mono O⟩
end Go.Abs
