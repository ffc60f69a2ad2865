/- The abstract machine. -/
import Derived.Test.YtpincjkjoeopkaaGreatDoorK1
set_option linter.unusedSimpArgs false
set_option linter.unusedVariables false
set_option linter.unusedSectionVars false
namespace Go.Abs
variable [dw]
inductive bc where
 |t (E:Nat)
 |F (v:z)
 deriving Inhabited
def bc.aI (r:aJ):bc→z
 | .t E=>bn r E
 | .F v=>v
structure dJ where
 dst:Option Nat
 op:fV
 args:List bc
 guard:Option (Nat×Bool)
 deriving Inhabited
def put (r:aJ)(dst:Option Nat)(v:z):aJ:=
 match dst with
 |some o=>(o,v)::r
 |none=>r
def I3 (P:Program)(f:FuncId):Prop:= ∃ fn,P.funcs[f]? =some fn∧(fn.body.isSome&&fn.name != "runtime.NumGoroutine")=true
def Az (P:Program)(vs:List z)(d:List R)(K:z→List R→Prop):Prop:=
 match vs with
 | .fn f aj::ai=>I3 P f∧tG P f (ai++aj) d K
 |_=>False
def eV (P:Program)(L:dJ)(r:aJ)(d:List R)(K:aJ→List R→Prop):Prop:=
 match L.op with
 | .call f=>tG P f (L.args.map (bc.aI r)) d fun v bY=>K (put r L.dst v) bY
 | .next=>
  match L.args.map (bc.aI r) with
  | [x]=>rk d x fun v bY=>K (put r L.dst v) bY
  |_=>False
 | .wx=>Az P (L.args.map (bc.aI r)) d fun v bY=>K (put r L.dst v) bY
 |op=>aI op (L.args.map (bc.aI r)) d fun v bY=>K (put r L.dst v) bY
def ss (b dZ:Bool)(A cZ:Prop):Prop:=if b=dZ then A else cZ
def wy (P:Program)(L:dJ)(r:aJ)(d:List R)(K:aJ→List R→Prop):Prop:=
 match L.guard with
 |none=>eV P L r d K
 |some (E,dZ)=>
  match bn r E with
  | .bool b=>ss b dZ (eV P L r d K) (K (put r L.dst (.bg [])) d)
  | .bg []=>K (put r L.dst (.bg [])) d
  |_=>False
def yj (P:Program):List dJ→(aJ→List R→Prop)→aJ→List R→Prop
 | [],K,r,d=>K r d
 |L::os,K,r,d=>wy P L r d (yj P os K)
def rr:Operand→Option bc
 | .tmp t=>some (.t t)
 | .const v=>(AA v).map .F
 | .func f=>some (.F (.fn f []))
 |_=>none
def uQ:List Operand→Option (List bc)
 | []=>some []
 |x::ai=>
  match rr x,uQ ai with
  |some y,some ys=>some (y::ys)
  |_,_=>none
def I4 (dst:Option Nat)(n:Nat):Bool:=
 match dst with
 |some o=>decide (o < n)
 |none=>true
def I5 (n:Nat)(bj:Array Oper)(L:Oper):Option dJ:=
 if I4 L.dst n then
  match L.guard with
  |none=>some ⟨L.dst,.pK,[],none⟩
  |some (j,dZ)=>
   match (bj[j]?).bind (·.dst) with
   |some E=>if E < n then some ⟨L.dst,.pK,[],some (E,dZ)⟩ else none
   |none=>none
 else none
def NY (P:Program)(n:Nat)(bj:Array Oper)(L:Oper):Option dJ:=
 match oN P L with
 |some (op,ai)=>
  match uQ ai with
  |some args=>
   if I4 L.dst n then
    match L.guard with
    |none=>some ⟨L.dst,op,args,none⟩
    |some (j,dZ)=>
     match (bj[j]?).bind (·.dst) with
     |some E=>if E < n then some ⟨L.dst,op,args,some (E,dZ)⟩ else none
     |none=>none
   else none
  |none=>I5 n bj L
 |none=>I5 n bj L
structure yk (P:Program) (n:Nat) (bj:Array Oper) (L:Oper) (bB:dJ):Prop where
 op: (∃ ai,oN P L=some (bB.op,ai)∧uQ ai=some bB.args)∨(bB.op= .pK∧bB.args= [])
 dst:bB.dst=L.dst∧ ∀ o,L.dst=some o→o < n
 guard: (L.guard=none∧bB.guard=none)∨ ∃ j dZ E,L.guard=some (j,dZ)∧(bj[j]?).bind (·.dst)=some E∧E < n∧bB.guard=some (E,dZ)
theorem UH {P:Program}{n:Nat}{bj:Array Oper}{L:Oper}{bB:dJ}(h:I5 n bj L=some bB):yk P n bj L bB:=by
 unfold I5 at h;split at h
 ·rename_i aq;have mh: ∀ o,L.dst=some o→o < n:=by
   intro o he;rw[he] at aq;simpa[I4] using aq
  split at h
  ·rename_i ao;simp at h;subst h;exact⟨.inr ⟨rfl,rfl⟩,⟨rfl,mh⟩,.inl ⟨ao,rfl⟩⟩
  ·rename_i j dZ ao;split at h
   ·rename_i E ak;split at h
    ·rename_i aC;simp at h;subst h;exact⟨.inr ⟨rfl,rfl⟩,⟨rfl,mh⟩,.inr ⟨j,dZ,E,ao,ak,aC,rfl⟩⟩
    ·cases h
   ·cases h
 ·cases h
theorem ajm {P:Program}{n:Nat}{bj:Array Oper}{L:Oper}{bB:dJ}(h:NY P n bj L=some bB):yk P n bj L bB:=by
 unfold NY at h;split at h
 ·rename_i op ai dC;split at h
  ·rename_i args hargs;split at h
   ·rename_i aq;have mh: ∀ o,L.dst=some o→o < n:=by
     intro o he;rw[he] at aq;simpa[I4] using aq
    split at h
    ·rename_i ao;simp at h;subst h;exact⟨.inl ⟨ai,dC,hargs⟩,⟨rfl,mh⟩,.inl ⟨ao,rfl⟩⟩
    ·rename_i j dZ ao;split at h
     ·rename_i E ak;split at h
      ·rename_i aC;simp at h;subst h;exact⟨.inl ⟨ai,dC,hargs⟩,⟨rfl,mh⟩,.inr ⟨j,dZ,E,ao,ak,aC,rfl⟩⟩
      ·cases h
     ·cases h
   ·cases h
  ·exact UH h
 ·exact UH h
section
variable {P:Program} {n aX:Nat} {fw:bv} [uM fw] {bj:Array Oper}
theorem NZ {r:aJ}{C:bv}{a:Act}(ak:sr n r C a){x:Operand}{y:bc}(h:rr x=some y):Rep C (y.aI r) (a.eval x):=by
 cases x with
 |tmp t=>simp[rr] at h;subst h;exact ak.iY t
 |const v=>
  simp only[rr] at h;cases ag:AA v with
  |none=>rw[ag] at h;simp at h
  |some b=>rw[ag] at h;simp at h;subst h;exact (I6 ag).1
 |global g=>simp[rr] at h
 |func f=>
  simp[rr] at h;subst h;simp only[bc.aI];rw[Rep];exact⟨#[],rfl,by simp[ay]⟩
theorem UI {r:aJ}{C:bv}{a:Act}(ak:sr n r C a): ∀ {ai:List Operand} {ys:List bc},uQ ai=some ys→ay C (ys.map (bc.aI r)) (ai.map a.eval)
 | [],ys,h=>by simp[uQ] at h;subst h;simp[ay]
 |x::ai,ys,h=>by
  simp only[uQ] at h;split at h
  ·rename_i y bQ bl aS;simp at h;subst h;rw[List.map_cons,List.map_cons,ay];exact⟨_,_,rfl,NZ ak bl,UI ak aS⟩
  ·cases h
theorem Fv {r:aJ}{C av:bv}{a:Act}(ak:sr n r C a)(ar:cb av)(he:jo C av){dst:Option Nat}(aq: ∀ o,dst=some o→o < n){v:z}{aV:Value}(ag:Rep av v aV):
 sr n (put r dst v) av (a.put dst aV):=by
 cases dst with
 |none=>exact⟨ar,ak.size,ak.defers,fun t=>Rep.ext he _ _ (ak.iY t)⟩
 |some o=>
  have AB:=aq o rfl;refine⟨ar,by simp[Act.put,ak.size],ak.defers,fun t=> ?_⟩;simp only[put,bn,Act.put];split
  ·rename_i AC;subst AC;have:o < a.tmps.size:=by rw[ak.size];exact AB
   simpa[Array.getD,this] using ag
  ·rename_i AC;have:=Rep.ext he _ _ (ak.iY t);rw[show (a.tmps.setIfInBounds o aV).getD t undef=a.tmps.getD t undef from ?_]
   ·exact this
   ·simp[Array.getElem?_setIfInBounds_ne AC]
def Holds (n aX:Nat)(fw:bv)(K:aJ→List R→Prop)(a:Act)(w:World):Prop:= ∃ r C,C.w=w∧sr n r C a∧cd aX fw C∧K r C.d
theorem ajn {L:Oper}{f:FuncId}{ai:List Operand}(h:oN P L=some (.call f,ai)):
 ∃ args aJd fn,L.op= .call {callee:= .value (.func f),args:=args,argTypes:=aJd}∧ai=args.toList∧P.funcs[f]? =some fn∧(fn.body.isSome&&fn.name != "runtime.NumGoroutine")=true:=by
 obtain⟨dst,op,type,IN,after,guard⟩:=L;unfold oN at h;simp only at h;split at h
 case h_26=>
  rename_i UJ args aJd;split at h
  ·rename_i fn hfn;split at h
   ·rename_i Z;simp at h;obtain⟨rfl,rfl⟩:=h;exact⟨args,aJd,fn,rfl,rfl,hfn,Z⟩
   ·cases h
  ·cases h
 all_goals (repeat' (split at h))<;>simp at h
theorem UK {a:Act}{L:Oper}{f:FuncId}{ai:List Operand}(h:oN P L=some (.call f,ai))(w:World): (execOp a.eval L).run P w= .ok (.enter f (ai.map a.eval).toArray) w:=by
 obtain⟨args,aJd,fn,bi,rfl,hfn,Z⟩:=ajn h;simp only[Bool.and_eq_true,bne_iff_ne,ne_eq] at Z;have N0:fn.body.isNone=false:=by rw[Option.isNone_eq_false_iff];exact Z.1
 have Fw: (fn.name== "runtime.NumGoroutine")=false:=beq_eq_false_iff_ne.2 Z.2
 have hargs:args.map a.eval=(args.toList.map a.eval).toArray:=Array.ext' (by simp);unfold execOp;simp only[bi,resolve,Deferred.ofValue,Act.eval,Sem.run_bind,Sem.run_pure,Result.andThen_ok,invoke,callFunc,run_program,hfn,Fw,N0,Bool.false_eq_true,if_false];simp[hargs]
theorem ajo {L:Oper}{ai:List Operand}(h:oN P L=some (.wx,ai)):
 ∃ t args aJd,L.op= .call {callee:= .value (.tmp t),args:=args,argTypes:=aJd}∧ai= .tmp t::args.toList:=by
 obtain⟨dst,op,type,IN,after,guard⟩:=L;unfold oN at h;simp only at h;split at h
 all_goals (repeat' (split at h))<;>simp at h
 exact⟨_,_,_,rfl,h.symm⟩
theorem UL {a:Act}{L:Oper}{ai:List Operand}(h:oN P L=some (.wx,ai)){C:bv}{f:FuncId}{aj as:List z}(G:ay C (.fn f aj::as) (ai.map a.eval))(hf:I3 P f)(w:World):
 ∃ du,ay C (as++aj) du∧(execOp a.eval L).run P w= .ok (.enter f du.toArray) w:=by
 obtain⟨t,args,aJd,bi,rfl⟩:=ajo h;rw[List.map_cons,ay] at G;obtain⟨v,bW,he,h1,B⟩:=G;simp only[List.cons.injEq] at he;obtain⟨rfl,rfl⟩:=he;rw[Rep] at h1;obtain⟨vs,h1,am⟩:=h1;obtain⟨fn,hfn,Z⟩:=hf;simp only[Bool.and_eq_true,bne_iff_ne,ne_eq] at Z;have N0:fn.body.isNone=false:=by rw[Option.isNone_eq_false_iff];exact Z.1
 have Fw: (fn.name== "runtime.NumGoroutine")=false:=beq_eq_false_iff_ne.2 Z.2
 refine⟨args.toList.map a.eval++vs.toList,B.append am,?_⟩;have hargs: #[]++args.map a.eval++vs=(args.toList.map a.eval++vs.toList).toArray:=Array.ext' (by simp);unfold execOp;simp only[bi,resolve,Deferred.ofValue,h1,Sem.run_bind,Sem.run_pure,Result.andThen_ok,invoke,callFunc,run_program,hfn,Fw,N0,Bool.false_eq_true,if_false,hargs]
theorem ajp {r:aJ}{C:bv}{a:Act}{c:Nat}{L:Oper}{bB:dJ}(an:bj[c]? =some L)(hf:yk P n bj L bB)(ak:sr n r C a)(hl:cd aX fw C)
 {K:aJ→List R→Prop} {rt:Act→World→Prop} {br:Exit→Act→World→Prop} (cs: ∀ a w,Holds n aX fw K a w→rt a w) (h:wy P bB r C.d K):wpOp P bj br c rt a C.w:=by
 obtain⟨N1,⟨st,AB⟩,ao⟩:=hf;have uR: ∀ o,bB.dst=some o→o < n:=by rw[st];exact AB
 have skip:K (put r bB.dst (.bg [])) C.d→rt (a.put L.dst undef) C.w:=by
  intro I;refine cs _ _ ⟨_,C,rfl,?_,hl,I⟩;rw[←st];exact Fv ak ak.ok (jo.refl C) uR (by rw[Rep];exact⟨#[],rfl,by simp[ay]⟩)
 have run:eV P bB r C.d K→L.wp P a C.w rt br:=by
  intro G;rcases N1 with ⟨ai,dC,hargs⟩|⟨b1,eA⟩
  rotate_left
  ·exact (by simp[eV,b1,eA,aI] at G)
  have dk:=UI ak hargs;unfold eV at G;unfold Oper.wp;split at G
  ·rename_i f ir;rw[ir] at dC;rw[UK dC,Oper.upon_enter];refine (Fr ak.ok ((uM.ok (C:=fw)).later hl) dk G).mono ?_;rintro e w' ⟨aV,v,av,rfl,rfl,h1,B,am,bp⟩;refine cs _ _ ⟨_,av,rfl,?_,hl.trans am hl.len,bp⟩;rw[←st];exact Fv ak B am.ext uR h1
  ·rename_i ir;rw[ir] at dC;split at G
   ·rename_i x ad;rw[ad] at dk;obtain⟨wz,aV,v,av,h1,B,am,bp,cn,dj⟩:=aja dC ak.ok a.eval dk G;rw[h1];have:rt (a.put L.dst aV) av.w:=by
     refine cs _ _ ⟨_,av,rfl,?_,hl.trans cn hl.len,dj⟩;rw[←st];exact Fv ak bp cn.ext uR am
    rcases B with rfl|⟨rfl,rfl⟩
    ·exact this
    ·exact this
   ·exact G.elim
  ·rename_i ir;rw[ir] at dC;unfold Az at G;split at G
   ·rename_i f aj as ad;rw[ad] at dk;obtain⟨du,g1,bM⟩:=UL dC dk G.1 C.w;rw[bM,Oper.upon_enter];refine (Fr ak.ok ((uM.ok (C:=fw)).later hl) g1 G.2).mono ?_;rintro e w' ⟨aV,v,av,rfl,rfl,h1,B,am,bp⟩;refine cs _ _ ⟨_,av,rfl,?_,hl.trans am hl.len,bp⟩;rw[←st];exact Fv ak B am.ext uR h1
   ·exact G.elim
  ·rename_i I7 _ _;obtain⟨wz,aV,v,av,h1,B,am,bp,cn,dj⟩:=Uc dC (fun f hf=>I7 f hf) ak.ok a.eval (fun _=>rfl) dk G;rw[h1];have:rt (a.put L.dst aV) av.w:=by
    refine cs _ _ ⟨_,av,rfl,?_,hl.trans cn hl.len,dj⟩;rw[←st];exact Fv ak bp cn.ext uR am
   rcases B with rfl|⟨rfl,rfl⟩
   ·exact this
   ·exact this
 unfold wpOp;rw[an];simp only;rcases ao with ⟨g1,bM⟩|⟨j,dZ,E,g1,bM,dh,gC⟩
 ·have aR:Region.wanted L (yielded bj a.tmps)=true:=by simp[Region.wanted,g1]
  rw[if_pos aR];simp only[wy,bM] at h;exact .inl (run h)
 ·simp only[wy,gC] at h;have oQ:=ak.iY E;have dt:E < a.tmps.size:=by rw[ak.size];exact dh
  have bl: ∀ v,a.tmps.getD E undef=v→yielded bj a.tmps j=(match v with| .bool b=>some b|_=>none):=by
   intro v ag;have h1:a.tmps[E]? =some v:=by
    rw[Array.getElem?_eq_getElem dt];simpa[Array.getD,dt] using ag
   unfold yielded;rw[bM];simp only[Option.bind_some,h1];cases v<;>rfl
  split at h
  ·rename_i b Z;rw[Z,Rep] at oQ;have ru:=bl _ oQ;simp only at ru;unfold ss at h;split at h
   ·rename_i mi;have aR:Region.wanted L (yielded bj a.tmps)=true:=by simp[Region.wanted,g1,ru,mi]
    rw[if_pos aR];exact .inl (run h)
   ·rename_i mi;have aR: ¬Region.wanted L (yielded bj a.tmps)=true:=by simp[Region.wanted,g1,ru,mi]
    rw[if_neg aR];exact skip h
  ·rename_i Z;rw[Z,Rep] at oQ;obtain⟨vs,ag,_⟩:=oQ;have ru:=bl _ ag;simp only at ru;have aR: ¬Region.wanted L (yielded bj a.tmps)=true:=by simp[Region.wanted,g1,ru]
   rw[if_neg aR];exact skip h
  ·exact h.elim
theorem UM {K:aJ→List R→Prop}{br:Exit→Act→World→Prop}(uS: ∀ a w,Holds n aX fw K a w→br .normal a w): ∀ (l:List Nat) (eh:List dJ),
 eh.length=l.length→(∀ k (I:k < l.length),∃ L bB,bj[l[k]]? =some L∧eh[k]? =some bB∧yk P n bj L bB)→ ∀ a w,Holds n aX fw (yj P eh K) a w→wpOps P bj br l a w
 | [],eh,hl,_,a,w,h=>by
  have:eh= []:=List.eq_nil_of_length_eq_zero (by simpa using hl);subst this;exact uS a w h
 |c::l,[],hl,_,a,w,h=>by simp at hl
 |c::l,bB::eh,hl,hf,a,w,h=>by
  obtain⟨L,aHY,h1,B,am⟩:=hf 0 (by simp);simp at h1 B;subst B;obtain⟨r,C,rfl,ak,ajq,I⟩:=h;rw[wpOps_cons];refine ajp h1 am ak ajq ?_ I;intro kL w' cJ;exact UM uS l eh (by simpa using hl) (fun k gc=>hf (k+1) (by simpa using gc)) kL w' cJ
end
end Go.Abs
namespace Go.Abs
variable [dw]
abbrev fs:=Nat→z
abbrev df:=List (Nat×Nat×Bool)
def gv (ρ:fs)(o:Option Nat)(v:z):fs:=
 match o with
 |some o=>fun t=>if o=t then v else ρ t
 |none=>ρ
def bc.kM (ρ:fs):bc→z
 | .t E=>ρ E
 | .F v=>v
theorem Fx (r:aJ)(o:Option Nat)(v:z):bn (put r o v)=gv (bn r) o v:=by
 cases o with
 |none=>rfl
 |some o=>funext t;simp[put,bn,gv]
theorem ajr (r:aJ)(x:bc):x.kM (bn r)=x.aI r:=by cases x<;>rfl
structure eQ where
 bB:dJ
 ff:Option Nat
 bC:List Nat
 deriving Inhabited
def cS:z→List Nat
 | .own i _ _ _=> [i]
 | .aW i _ _ _=> [i]
 | .bu i=> [i]
 | .fG i m=> [i,m]
 |_=> []
def jx:fV→List z→List Nat
 | .store _,x::_=>cS x
 | .append ..,x::_=>cS x
 | .kc,x::_=>cS x
 | .copy _,x::_=>cS x
 | .clear ..,x::_=>cS x
 | .oR ..,x::_=>cS x
 | .oa ..,x::_=>cS x
 | .rv,x::_=>cS x
 |_,_=> []
def gD:fV→List z→List Nat
 | .oS,x::_=>cS x
 | .oT _,x::_=>cS x
 | .indexAddr _,x::_=>cS x
 | .slice ..,x::_=>cS x
 | .I8,x::_=>cS x
 | .yl ..,x::_=>cS x
 | .append ..,[_,y]=>cS y
 | .copy _,[_,y]=>cS y
 | .ib ..,x::_=>cS x
 | .I9,x::_=>cS x
 | .dY,x::_=>cS x
 | .entry,x::_=>cS x
 |_,_=> []
def nu:fV→Bool
 | .store _| .append .. | .kc| .call _| .wx| .clear .. | .AD .. | .ym .. | .alloc .. | .box .. | .rx .. =>true
 | .copy _| .yn .. | .oR .. | .oa .. | .rv| .dY| .next=>true
 |_=>false
def ex (bC:List Nat)(tk:df)(W az:List Nat):Prop:= ∀ c i w,(c,i,w)∈tk→c∈bC→i∉W∧(w=true→i∉az)
def iZ (op:fV)(args:List z)(k:Nat)(d:List R)(K:z→List R→Prop):Prop:=
 match op,args with
 | .alloc e zero,[]=>d[k]? =some (.aa e zero.length [])∧K (.aW k 1 0 0) (d.set k (.aa e zero.length [zero]))
 | .box e N,[x]=>((cf x).length=N∧(cf x).all cM=true)∧d[k]? =some (.aa e N [])∧K (.aW k 1 0 0) (d.set k (.aa e N [cf x]))
 | .rx e N zero len ja,vs=>
  match ob (List.replicate len zero) N ja vs with
  |some al=>((vs.all fun v=>(cf v).all cM)=true∧0 < len)∧d[k]? =some (.aa e N [])∧K (.own k len 0 len) (d.set k (.aa e N al))
  |none=>False
 | .ym e N b zero,[.int _ l,.int _ F]=>(0 < l∧l≤F∧F*b≤140737488355328∧F≤140737488355328)∧d[k]? =some (.aa e N [])∧K (.own k l.toNat 0 l.toNat) (d.set k (.aa e N (List.replicate l.toNat zero)))
 |_,_=>False
def wA (P:Program)(f:FuncId)(args:List z)(bC:List Nat)(tk:df)(d:List R)(K:z→List R→Prop):Prop:=
 ∃ (ap bk:List Nat) (srows:List R),ex bC tk ap bk∧ap.Nodup∧ew d bk (ap.map some) (ap.map some)=some srows∧
  aK P f (dV d (ap.map some) bk args) srows fun v rs=>(bk= []∨(pI v=true∧(rs.all Au)=true))∧K (dI (eH d.length ap) v) (fq d ap (rs.map (gu (eH d.length ap))))
def tH (P:Program)(vs:List z)(bC:List Nat)(tk:df)(d:List R)(K:z→List R→Prop):Prop:=
 match vs with
 | .fn f aj::ai=>I3 P f∧wA P f (ai++aj) bC tk d K
 |_=>False
def ry (P:Program)(base:Nat)(o:eQ)(tk:df)(ρ:fs)(d:List R)(K:fs→List R→Prop):Prop:=
 match o.ff with
 |some q=>ex o.bC tk [base+q] []∧iZ o.bB.op (o.bB.args.map (bc.kM ρ)) (base+q) d fun v bY=>K (gv ρ o.bB.dst v) bY
 |none=>
  match o.bB.op with
  | .call f=>wA P f (o.bB.args.map (bc.kM ρ)) o.bC tk d fun v bY=>K (gv ρ o.bB.dst v) bY
  | .wx=>tH P (o.bB.args.map (bc.kM ρ)) o.bC tk d fun v bY=>K (gv ρ o.bB.dst v) bY
  |op=>ex o.bC tk (jx op (o.bB.args.map (bc.kM ρ))) (gD op (o.bB.args.map (bc.kM ρ)))∧aI op (o.bB.args.map (bc.kM ρ)) d fun v bY=>K (gv ρ o.bB.dst v) bY
def nv (g:Option (Nat×Bool))(ρ:fs):Option Bool:=
 match g with
 |none=>some true
 |some (E,dZ)=>
  match ρ E with
  | .bool b=>some (b==dZ)
  | .bg []=>some false
  |_=>none
def ic (P:Program)(base:Nat)(o:eQ)(tk:df)(ρ:fs)(d:List R)(K:fs→List R→Prop):Prop:=
 match nv o.bB.guard ρ with
 |some true=>ry P base o tk ρ d K
 |some false=>K (gv ρ o.bB.dst (.bg [])) d
 |none=>False
def ext (base c:Nat)(o:eQ)(ρ:fs)(tk:df):df:=
 if nv o.bB.guard ρ=some true then
  match o.ff with
  |some q=>(c,base+q,true)::tk
  |none=>if nu o.bB.op then tk else (gD o.bB.op (o.bB.args.map (bc.kM ρ))).map (fun i=>(c,i,false))++tk
 else tk
def Ct (P:Program)(base:Nat)(ds:List eQ):List Nat→df→(fs→List R→Prop)→fs→List R→Prop
 | [],_,K,ρ,d=>K ρ d
 |c::is,tk,K,ρ,d=>ic P base (ds.getD c default) tk ρ d (Ct P base ds is (ext base c (ds.getD c default) ρ tk) K)
def yo (P:Program)(base:Nat)(bj:Array Oper)(ds:List eQ):Nat→Array Bool→df→(fs→List R→Prop)→fs→List R→Prop
 |0,dO,_,K,ρ,d=>Region.ready .any bj dO= []∧K ρ d
 |hp+1,dO,tk,K,ρ,d=>(Region.ready .any bj dO= []→K ρ d)∧
  ∀ c∈Region.ready .any bj dO,ic P base (ds.getD c default) tk ρ d (yo P base bj ds hp (dO.setIfInBounds c true) tk K)
inductive nw where
 |none
 |set (i:Nat) (x:R)
 |push (x:R)
def nw.jI:nw→List R→List R
 | .none,d=>d
 | .set i x,d=>d.set i x
 | .push x,d=>d++ [x]
def gE (W az:List Nat)(pure:Bool)(be:List R→(z→List R→Prop)→Prop):Prop:=
 ∀ d K,be d K→ ∃ (v:z) (a:nw),K v (a.jI d)∧(pure=true→a= .none)∧(∀ i x,a= .set i x→i∈W)∧(∀ i,i∈W∨i∈az→i < d.length)∧
  ∀ cG aF,(∀ x,a= .push x→cG.length=d.length)→(∀ i,i∈W∨i∈az→cG[i]? =d[i]?)→aF v (a.jI cG)→be cG aF
theorem uT {be:List R→(z→List R→Prop)→Prop}{b:Bool}(h: ∀ d K,be d K→ ∃ v,K v d∧ ∀ cG aF,aF v cG→be cG aF):gE [] [] b be:=by
 intro d K hf;obtain⟨v,h1,B⟩:=h d K hf;exact⟨v,.none,h1,fun _=>rfl,fun i x e=>(by cases e),fun i G=>(by simp at G),fun cG aF _ _ I=>B cG aF I⟩
theorem wB {be:List R→(z→List R→Prop)→Prop}{az:List Nat}{b:Bool}(h: ∀ d K,be d K→ ∃ v,K v d∧(∀ i∈az,i < d.length)∧ ∀ cG aF,(∀ i∈az,cG[i]? =d[i]?)→aF v cG→be cG aF):gE [] az b be:=by
 intro d K hf;obtain⟨v,h1,am,B⟩:=h d K hf;exact⟨v,.none,h1,fun _=>rfl,fun i x e=>(by cases e),fun i G=>am i (by simpa using G),fun cG aF _ G I=>B cG aF (fun i ch=>G i (.inr ch)) I⟩
theorem ku {d:List R}{i:Nat}{x:R}(h:d[i]? =some x):i < d.length:=(List.getElem?_eq_some_iff.1 h).1
theorem ajs (x:z):gE [] (cS x) true (fun d K=>pL d x fun v=>K v d):=by
 refine wB fun d K h=> ?_;simp only[pL] at h;split at h
 ·split at h
  ·rename_i G;refine⟨_,h.2.2,fun cy ch=> ?_,fun cG aF he I=> ?_⟩
   ·simp[cS] at ch;subst ch;exact ku G
   ·simp only[pL,(he _ (List.mem_singleton_self _)).trans G];exact⟨h.1,h.2.1,I⟩
  ·exact h.elim
 ·exact⟨_,h.2,by simp[cS],fun cG aF _ I=>⟨h.1,I⟩⟩
 ·exact h.elim
theorem ajt (n:Nat)(x:z):gE [] (cS x) true (fun d K=>oc d n x fun v=>K v d):=by
 refine wB fun d K h=> ?_;simp only[oc] at h;split at h
 ·split at h
  ·rename_i G;refine⟨_,h.2.2,fun cy ch=> ?_,fun cG aF he I=> ?_⟩
   ·simp[cS] at ch;subst ch;exact ku G
   ·simp only[oc,(he _ (List.mem_singleton_self _)).trans G];exact⟨h.1,h.2.1,I⟩
  ·exact h.elim
 ·exact⟨_,h.2,by simp[cS],fun cG aF _ I=>⟨h.1,I⟩⟩
 ·exact h.elim
theorem aju (n:Nat)(x y:z):gE [] (cS x) true (fun d K=>vZ d n x y fun v=>K v d):=by
 refine wB fun d K h=> ?_;simp only[vZ] at h;split at h
 ·exact⟨_,h.2.2.2,by simp[cS],fun cG aF _ I=>⟨h.1,h.2.1,h.2.2.1,I⟩⟩
 ·split at h
  ·rename_i G;refine⟨_,h.2.2.2.2,fun cy ch=> ?_,fun cG aF he I=> ?_⟩
   ·simp[cS] at ch;subst ch;exact ku G
   ·simp only[vZ,(he _ (List.mem_singleton_self _)).trans G];exact⟨h.1,h.2.1,h.2.2.1,h.2.2.2.1,I⟩
  ·exact h.elim
 ·exact h.elim
theorem Ja (fk an:Option z)(n:Nat)(x:z):gE [] (cS x) true (fun d K=>pA d fk an n x fun v=>K v d):=by
 refine wB fun d K h=> ?_;simp only[pA] at h;split at h
 ·exact h.elim
 ·rename_i l hl;split at h
  ·rename_i a b aw Z;obtain⟨h1,B,am,h⟩:=h;split at h
   ·exact⟨_,h.2,by simp[cS],fun cG aF _ I=>by simp only[pA,hl,aw,Z];exact⟨h1,B,am,h.1,I⟩⟩
   ·exact⟨_,h,by simp[cS],fun cG aF _ I=>by simp only[pA,hl,aw,Z];exact⟨h1,B,am,I⟩⟩
   ·split at h
    ·rename_i G;refine⟨_,h.2.2,fun cy ch=> ?_,fun cG aF he I=> ?_⟩
     ·simp[cS] at ch;subst ch;exact ku G
     ·simp only[pA,hl,aw,Z,(he _ (List.mem_singleton_self _)).trans G];exact⟨h1,B,am,h.1,h.2.1,I⟩
    ·exact h.elim
   ·exact h.elim
  ·exact h.elim
theorem Jb (fk an:Option z)(x:z):gE [] [] true (fun d K=>tt fk an x fun v=>K v d):=by
 refine uT fun d K h=> ?_;simp only[tt] at h;split at h
 ·split at h
  ·rename_i aw Z;exact⟨_,h.2.2.2,fun cG aF I=>by simp only[tt,aw,Z];exact⟨h.1,h.2.1,h.2.2.1,I⟩⟩
  ·exact h.elim
 ·exact h.elim
theorem ajv (op:BinOp)(x y:z):gE [] [] true (fun d K=>me op x y fun v=>K v d):=by
 refine uT fun d K h=> ?_;simp only[me] at h;split at h
 ·split at h<;>first
   |exact h.elim
   |exact⟨_,h.2,fun cG aF I=>⟨h.1,I⟩⟩
   |exact⟨_,h.2.2,fun cG aF I=>⟨h.1,h.2.1,I⟩⟩
 ·split at h<;>first
   |exact h.elim
   |exact⟨_,h,fun cG aF I=>I⟩
   |exact⟨_,h.2,fun cG aF I=>⟨h.1,I⟩⟩
 ·exact h.elim
theorem ajw (n:Nat)(x y:z):gE (cS x) [] false (fun d K=>wC d n x y fun d=>K (.bg []) d):=by
 intro d K h;simp only[wC] at h;split at h
 ·split at h
  ·rename_i G;refine⟨_,.set _ _,h.2.2.2.2,fun e=>(by cases e),fun i x e=> ?_,fun cy ch=> ?_,fun cG aF _ he I=> ?_⟩
   ·cases e;simp[cS]
   ·simp[cS] at ch;subst ch;exact ku G
   ·simp only[wC,(he _ (.inl (List.mem_singleton_self _))).trans G];exact⟨h.1,h.2.1,h.2.2.1,h.2.2.2.1,I⟩
  ·exact h.elim
 ·exact h.elim
theorem Fy {d cG:List R}{N:Nat}{y:z}(he: ∀ i∈cS y,cG[i]? =d[i]?):jb cG N y=jb d N y:=by
 cases y<;>simp[jb,cS] at he ⊢;rw[he]
theorem Jc {d:List R}{N:Nat}{y:z}{ys:List (List z)}(h:jb d N y=some ys): ∀ i∈cS y,i < d.length:=by
 intro i G;cases y<;>simp only[jb] at h<;>first| (cases h;done)|skip
 all_goals simp[cS] at G
 subst G;split at h
 ·exact ku ‹_›
 ·cases h
theorem ajx (e:TypeId)(N bytes:Nat)(x y:z):gE (cS x) (cS y) false (fun d K=>tI d e N bytes x y K):=by
 intro d K h;simp only[tI] at h;split at h
 ·exact h.elim
 ·rename_i ys kr;have aC:=Jc kr;split at h
  ·refine⟨_,.push _,h.2,fun e=>(by cases e),fun i x e=>(by cases e),fun i G=> ?_,fun cG aF hl he I=> ?_⟩
   ·exact aC i (by simpa[cS] using G)
   ·simp only[tI,Fy (fun i G=>he i (.inr G)),kr,hl _ rfl];exact⟨h.1,I⟩
  ·split at h
   ·rename_i G;obtain⟨h1,B,am,bp,cn,dj,h⟩:=h;refine⟨_,.set _ _,h,fun e=>(by cases e),fun i x e=> ?_,fun cy ch=> ?_,fun cG aF _ he I=> ?_⟩
    ·cases e;simp[cS]
    ·rcases ch with ch|ch
     ·simp[cS] at ch;subst ch;exact ku G
     ·exact aC _ ch
    ·simp only[tI,Fy (fun i G=>he i (.inr G)),kr,(he _ (.inl (List.mem_singleton_self _))).trans G];exact⟨h1,B,am,bp,cn,dj,I⟩
   ·exact h.elim
  ·exact h.elim
theorem ajy (x:z):gE [] (cS x) true (fun d K=>yc d x fun v=>K v d):=by
 refine wB fun d K h=> ?_;simp only[yc] at h;split at h
 ·exact h.elim
 ·rename_i ys kr;split at h
  ·rename_i hk ts;refine⟨_,h,Jc kr,fun cG aF he I=> ?_⟩;simp only[yc,Fy he,kr,ts];exact I
  ·exact h.elim
theorem ajz (N:Nat)(neg:Bool)(x:z):gE [] (cS x) true (fun d K=>An d N neg x fun v=>K v d):=by
 refine wB fun d K h=> ?_;simp only[An] at h;split at h
 ·rename_i ys kr;refine⟨_,h.2,Jc kr,fun cG aF he I=> ?_⟩;simp only[An,Fy he,kr];exact⟨h.1,I⟩
 ·exact h.elim
theorem ajA (x:z):gE (cS x) [] false (fun d K=>yd d x K):=by
 intro d K h;simp only[yd] at h;split at h
 ·split at h
  ·rename_i G;refine⟨_,.set _ _,h.2.2.2.2.2,fun e=>(by cases e),fun i x e=> ?_,fun cy ch=> ?_,fun cG aF _ he I=> ?_⟩
   ·cases e;simp[cS]
   ·simp[cS] at ch;subst ch;exact ku G
   ·simp only[yd,(he _ (.inl (List.mem_singleton_self _))).trans G];exact⟨h.1,h.2.1,h.2.2.1,h.2.2.2.1,h.2.2.2.2.1,I⟩
  ·exact h.elim
 ·exact h.elim
theorem ajB (N:Nat)(x y:z):gE (cS x) (cS y) false (fun d K=>xZ d N x y K):=by
 intro d K h;simp only[xZ] at h;split at h
 ·exact h.elim
 ·rename_i ys kr;have aC:=Jc kr;split at h
  ·split at h
   ·rename_i G;obtain⟨h1,B,am,h⟩:=h;refine⟨_,.set _ _,h,fun e=>(by cases e),fun i x e=> ?_,fun cy ch=> ?_,fun cG aF _ he I=> ?_⟩
    ·cases e;simp[cS]
    ·rcases ch with ch|ch
     ·simp[cS] at ch;subst ch;exact ku G
     ·exact aC _ ch
    ·simp only[xZ,Fy (fun i G=>he i (.inr G)),kr,(he _ (.inl (List.mem_singleton_self _))).trans G];exact⟨h1,B,am,I⟩
   ·exact h.elim
  ·exact h.elim
theorem ajC {d cG:List R}{aE:Bool}{M:List cN}{x:z}(he: ∀ i∈cS x,cG[i]? =d[i]?):pE cG aE M x=pE d aE M x:=by
 cases x<;>simp[pE,cS] at he ⊢;rw[he]
theorem ajD (ok aE:Bool)(M:List cN)(D x k:z):gE [] (cS x) true (fun d K=>tx d ok aE M D x k fun v=>K v d):=by
 refine wB fun d K h=> ?_;simp only[tx] at h;split at h
 ·exact h.elim
 ·rename_i ents nU;refine⟨_,h.2,fun i G=> ?_,fun cG aF he I=> ?_⟩
  ·cases x<;>simp[cS] at G<;>simp only[pE] at nU<;>first| (cases nU;done)|skip
   subst G;split at nU
   ·exact ku ‹_›
   ·cases nU
  ·simp only[tx,ajC he,nU];exact⟨h.1,I⟩
theorem ajE (aE:Bool)(M:List cN)(x k v:z):gE (cS x) [] false (fun d K=>wh d aE M x k v fun d=>K (.bg []) d):=by
 intro d K h;simp only[wh] at h;split at h
 ·split at h
  ·rename_i G;refine⟨_,.set _ _,h.2.2,fun e=>(by cases e),fun i x e=> ?_,fun cy ch=> ?_,fun cG aF _ he I=> ?_⟩
   ·cases e;simp[cS]
   ·simp[cS] at ch;subst ch;exact ku G
   ·simp only[wh,(he _ (.inl (List.mem_singleton_self _))).trans G];exact⟨h.1,h.2.1,I⟩
  ·exact h.elim
 ·exact h.elim
theorem ajF (aE:Bool)(M:List cN)(D x k:z):gE (cS x) [] false (fun d K=>uJ d aE M D x k K):=by
 intro d K h;simp only[uJ] at h;split at h
 ·split at h
  ·rename_i G;refine⟨_,.set _ _,h.2.2,fun e=>(by cases e),fun i x e=> ?_,fun cy ch=> ?_,fun cG aF _ he I=> ?_⟩
   ·cases e;simp[cS]
   ·simp[cS] at ch;subst ch;exact ku G
   ·simp only[uJ,(he _ (.inl (List.mem_singleton_self _))).trans G];exact⟨h.1,h.2.1,I⟩
  ·exact h.elim
 ·exact h.elim
theorem ajG (x c v:z):gE (cS x) [] false (fun d K=>wi d x c v fun d=>K (.bg []) d):=by
 intro d K h;simp only[wi] at h;split at h
 ·split at h
  ·rename_i G;refine⟨_,.set _ _,h.2.2,fun e=>(by cases e),fun i x e=> ?_,fun cy ch=> ?_,fun cG aF _ he I=> ?_⟩
   ·cases e;simp[cS]
   ·simp[cS] at ch;subst ch;exact ku G
   ·simp only[wi,(he _ (.inl (List.mem_singleton_self _))).trans G];exact⟨h.1,h.2.1,I⟩
  ·exact h.elim
 ·exact h.elim
theorem ajH (x:z):gE [] (cS x) false (fun d K=>wj d x K):=by
 intro d K h;simp only[wj] at h;split at h
 ·split at h
  ·rename_i G;refine⟨_,.push _,h,fun e=>(by cases e),fun i x e=>(by cases e),fun cy ch=> ?_,fun cG aF hl he I=> ?_⟩
   ·simp[cS] at ch;subst ch;exact ku G
   ·simp only[wj,(he _ (.inr (List.mem_singleton_self _))).trans G,hl _ rfl];exact I
  ·exact h.elim
 ·exact h.elim
theorem ajI (x:z):gE [] (cS x) true (fun d K=>wk d x fun v=>K v d):=by
 refine wB fun d K h=> ?_;simp only[wk] at h;split at h
 ·split at h
  ·rename_i G hm;refine⟨_,h.2.2.2,fun cy ch=> ?_,fun cG aF he I=> ?_⟩
   ·simp[cS] at ch;rcases ch with rfl|rfl
    ·exact ku G
    ·exact ku hm
   ·simp only[wk,(he _ (List.mem_cons_self)).trans G,(he _ (List.mem_cons_of_mem _ (List.mem_singleton_self _))).trans hm];exact⟨h.1,h.2.1,h.2.2.1,I⟩
  ·exact h.elim
 ·exact h.elim
theorem ajJ (N:Nat)(zero:List z)(x:z):gE (cS x) [] false (fun d K=>wo d N zero x fun d=>K (.bg []) d):=by
 intro d K h;simp only[wo] at h;split at h
 ·split at h
  ·rename_i G;refine⟨_,.set _ _,h.2.2.2,fun e=>(by cases e),fun i x e=> ?_,fun cy ch=> ?_,fun cG aF hl he I=> ?_⟩
   ·cases e;simp[cS]
   ·simp[cS] at ch;subst ch;exact ku G
   ·simp only[wo,(he _ (.inl (List.mem_singleton_self _))).trans G];exact⟨h.1,h.2.1,h.2.2.1,I⟩
  ·exact h.elim
 ·exact h.elim
theorem ajK (len N:Nat)(x y:z):gE [] [] true (fun d K=>Am len N x y fun v=>K v d):=by
 refine uT fun d K h=> ?_;simp only[Am] at h;split at h
 ·exact⟨_,h.2.2,fun cG aF I=>⟨h.1,h.2.1,I⟩⟩
 ·exact⟨_,h.2.2,fun cG aF I=>⟨h.1,h.2.1,I⟩⟩
 ·exact h.elim
theorem ajL (i:Nat):gE [] [i] true (fun d K=>match d[i]? with|some (.aY (.map _ _ ents))=>K (.int .i64 ents.length) d|_=>False):=by
 refine wB fun d K h=> ?_;split at h
 ·rename_i G;refine⟨_,h,fun cy ch=> ?_,fun cG aF he I=> ?_⟩
  ·simp at ch;subst ch;exact ku G
  ·simp only[(he _ (List.mem_singleton_self _)).trans G];exact I
 ·exact h.elim
theorem Cu {be:List R→(z→List R→Prop)→Prop}{b:Bool}(Z:b=false)(h: ∀ d K,be d K→ ∃ v x,K v (d++ [x])∧ ∀ cG aF,cG.length=d.length→aF v (cG++ [x])→be cG aF):gE [] [] b be:=by
 intro d K hf;obtain⟨v,x,h1,B⟩:=h d K hf;exact⟨v,.push x,h1,fun e=>(by rw[Z] at e;cases e),fun i x e=>(by cases e),fun i G=>(by simp at G),fun cG aF hl _ I=>B cG aF (hl x rfl) I⟩
theorem gE.N2 {W' UN:List Nat}{b:Bool}{be:List R→(z→List R→Prop)→Prop}(h:gE [] [] b be)(hW:W'= [])(cU:UN= []):gE W' UN b be:=by subst hW;subst cU;exact h
theorem ajM {W az:List Nat}{b:Bool}{be:List R→(z→List R→Prop)→Prop}(h: ∀ d K,¬be d K):gE W az b be:=fun d K hf=>absurd hf (h d K)
theorem Cv (op:fV)(args:List z):gE (jx op args) (gD op args) (!nu op) (aI op args):=by
 unfold aI;split
 case h_3=>exact Cu rfl fun d K h=>⟨_,_,h,fun cG aF hl I=>by rw[hl];exact I⟩
 case h_4=>exact Cu rfl fun d K h=>⟨_,_,h.2.2,fun cG aF hl I=>by rw[hl];exact⟨h.1,h.2.1,I⟩⟩
 case h_5=>
  refine gE.N2 ?_ (by rfl) (by rfl);refine uT fun d K h=> ?_;split at h
  ·exact⟨_,h.2,fun cG aF I=>⟨h.1,I⟩⟩
  ·exact h.elim
 case h_6=>
  refine gE.N2 ?_ (by rfl) (by rfl);refine Cu rfl fun d K h=> ?_;split at h
  ·exact⟨_,_,h.2,fun cG aF hl I=>by rw[hl];exact⟨h.1,I⟩⟩
  ·exact h.elim
 case h_8=>exact Cu rfl fun d K h=>⟨_,_,h.2.2.2.2,fun cG aF hl I=>by rw[hl];exact⟨h.1,h.2.1,h.2.2.1,h.2.2.2.1,I⟩⟩
 case h_9=>exact ajs _
 case h_10=>exact ajt _ _
 case h_11=>exact ajw _ _ _
 case h_14=>exact ajv _ _ _
 case h_20=>
  refine uT fun d K h=> ?_;simp only[Fj] at h;split at h
  ·exact⟨_,h,fun cG aF I=>I⟩
  ·exact⟨_,h,fun cG aF I=>I⟩
  ·exact h.elim
 case h_23=>exact aju _ _ _
 case h_25=>exact Ja _ _ _ _
 case h_26=>exact Ja _ _ _ _
 case h_27=>exact Ja _ _ _ _
 case h_28=>exact Ja _ _ _ _
 case h_29=>exact Jb _ _ _
 case h_30=>exact Jb _ _ _
 case h_31=>exact Jb _ _ _
 case h_32=>exact Jb _ _ _
 case h_34=>
  refine uT fun d K h=> ?_;split at h
  ·exact⟨_,h,fun cG aF I=>I⟩
  ·exact h.elim
 case h_35=>exact ajx _ _ _ _ _
 case h_38=>exact ajy _
 case h_39=>exact ajA _
 case h_40=>exact ajB _ _ _
 case h_41=>exact ajK _ _ _ _
 case h_44=>refine gE.N2 ?_ (by rfl) (by rfl);exact uT fun d K h=>⟨_,h,fun cG aF I=>I⟩
 case h_45=>exact Cu rfl fun d K h=>⟨_,_,h,fun cG aF hl I=>by rw[hl];exact I⟩
 case h_46=>exact ajD _ _ _ _ _ _
 case h_47=>exact ajE _ _ _ _ _
 case h_48=>exact ajF _ _ _ _ _
 case h_49=>exact ajG _ _ _
 case h_50=>exact ajL _
 case h_51=>exact ajH _
 case h_52=>exact ajI _
 case h_54=>exact Cu rfl fun d K h=>⟨_,_,h.2.2,fun cG aF hl I=>by rw[hl];exact⟨h.1,h.2.1,I⟩⟩
 case h_55=>exact ajJ _ _ _
 case h_56=>exact ajz _ _ _
 case h_57=>exact ajM fun d K h=>h
 all_goals first
  |exact uT fun d K h=>⟨_,h,fun cG aF I=>I⟩
  |exact uT fun d K h=>⟨_,h.2,fun cG aF I=>⟨h.1,I⟩⟩
  |exact uT fun d K h=>⟨_,h.2.2,fun cG aF I=>⟨h.1,h.2.1,I⟩⟩
theorem N3 {op:fV}{args:List z}{k:Nat}{d:List R}{K:z→List R→Prop}(h:iZ op args k d K):
 ∃ (v:z) (y:R),K v (d.set k y)∧k < d.length∧ ∀ cG (aF:z→List R→Prop),cG[k]? =d[k]? →aF v (cG.set k y)→iZ op args k cG aF:=by
 have bb: ∀ {x y:R} {v:z},d[k]? =some x→K v (d.set k y)→(∀ cG (aF:z→List R→Prop),cG[k]? =some x→aF v (cG.set k y)→iZ op args k cG aF)→
  ∃ (v:z) (y:R),K v (d.set k y)∧k < d.length∧ ∀ cG (aF:z→List R→Prop),cG[k]? =d[k]? →aF v (cG.set k y)→iZ op args k cG aF:=by
  intro x y v h1 B am;exact⟨v,y,B,ku h1,fun cG aF he I=>am cG aF (he.trans h1) I⟩
 unfold iZ at h;split at h
 ·exact bb h.1 h.2 fun cG aF h1 B=>⟨h1,B⟩
 ·exact bb h.2.1 h.2.2 fun cG aF h1 B=>⟨h.1,h1,B⟩
 ·rename_i e N aHZ len ja _;split at h
  ·rename_i al iu;refine bb h.2.1 h.2.2 fun cG aF h1 B=> ?_;simp only[iZ,iu];exact⟨h.1,h1,B⟩
  ·exact h.elim
 ·exact bb h.2.1 h.2.2 fun cG aF h1 B=>⟨h.1,h1,B⟩
 ·exact h.elim
theorem Jd (op:fV)(args:List z)(k:Nat):gE [k] [] false (fun d K=>iZ op args k d K):=by
 intro d K h;obtain⟨v,y,h1,B,am⟩:=N3 h;refine⟨v,.set k y,h1,fun e=>(by cases e),fun i x e=> ?_,fun i G=> ?_,fun cG aF _ he I=> ?_⟩
 ·cases e;simp
 ·simp at G;subst G;exact B
 ·exact am cG aF (he k (by simp)) I
theorem ajN {op:fV}{args:List z}(h:nu op=false):jx op args= []:=by
 cases op<;>first|rfl| (simp[nu] at h)
theorem gE.mono {W az:List Nat}{b:Bool}{be:List R→(z→List R→Prop)→Prop}(h:gE W az b be){d:List R}{K aF:z→List R→Prop}(hf:be d K)(I: ∀ v rs,K v rs→aF v rs):be d aF:=by
 obtain⟨v,a,h1,_,_,_,cn⟩:=h _ _ hf;exact cn d aF (fun _ _=>rfl) (fun _ _=>rfl) (I _ _ h1)
theorem ex.mono {bC:List Nat}{tk lh:df}{W az:List Nat}(ht: ∀ e∈tk,e∈lh)(h:ex bC lh W az):ex bC tk W az:=fun j i w hm aT=>h j i w (ht _ hm) aT
theorem wD {P:Program}{base:Nat}{o:eQ}{tk lh:df}(ht: ∀ e∈tk,e∈lh){ρ:fs}{d:List R}{K aF:fs→List R→Prop}(h:ic P base o lh ρ d K)(I: ∀ dv bY,K dv bY→aF dv bY):ic P base o tk ρ d aF:=by
 unfold ic at h ⊢;split
 ·rename_i hl;rw[hl] at h;simp only at h;unfold ry at h ⊢;split
  ·rename_i q aQ;rw[aQ] at h;exact⟨h.1.mono ht,(Jd _ _ _).mono h.2 fun v rs hh=>I _ _ hh⟩
  ·rename_i aQ;rw[aQ] at h;simp only at h;split
   ·rename_i f dC;rw[dC] at h;simp only at h;obtain⟨ap,bk,srows,g1,bM,dh,gC⟩:=h;exact⟨ap,bk,srows,g1.mono ht,bM,dh,gC.mono fun v rs hh=>⟨hh.1,I _ _ hh.2⟩⟩
   ·rename_i dC;rw[dC] at h;simp only at h;unfold tH at h ⊢;split at h
    ·rename_i ad;obtain⟨hfn,ap,bk,srows,g1,bM,dh,gC⟩:=h;exact⟨hfn,ap,bk,srows,g1.mono ht,bM,dh,gC.mono fun v rs hh=>⟨hh.1,I _ _ hh.2⟩⟩
    ·exact h.elim
   ·rename_i op dC Cw;split at h
    ·rename_i f hf;exact absurd hf (dC f)
    ·rename_i hf;exact absurd hf Cw
    ·exact⟨h.1.mono ht,(Cv _ _).mono h.2 fun v rs hh=>I _ _ hh⟩
 ·rename_i hl;rw[hl] at h;exact I _ _ h
 ·rename_i hl;rw[hl] at h;exact h
end Go.Abs
namespace Go.Abs
variable [dw]
def nw.FL:nw→Bool
 | .push _=>false
 |_=>true
theorem anE {a b:nw}{d:List R}(aw:a.FL=true)(h1: ∀ k y,a= .set k y→k < d.length)(B: ∀ k y i x,a= .set k y→b= .set i x→k≠i):a.jI (b.jI d)=b.jI (a.jI d):=by
 cases a with
 |none=>rfl
 |push=>cases aw
 |set k y=>
  have I:=h1 k y rfl;cases b with
  |none=>rfl
  |push x=>simp only[nw.jI];rw[List.set_append,if_pos I]
  |set i x=>simp only[nw.jI];rw[List.set_comm];exact fun e=>B k y i x rfl rfl e.symm
theorem U2 {a:nw}{d:List R}{i:Nat}(G:i < d.length)(h: ∀ k y,a= .set k y→k≠i): (a.jI d)[i]? =d[i]? :=by
 cases a with
 |none=>rfl
 |push x=>simp only[nw.jI];rw[List.getElem?_append,if_pos G]
 |set k y=>simp only[nw.jI];rw[List.getElem?_set,if_neg (h k y rfl)]
theorem U3 {a:nw}{d:List R}(h:a.FL=true): (a.jI d).length=d.length:=by
 cases a with
 |none=>rfl
 |push=>cases h
 |set k y=>simp[nw.jI]
theorem anF {W az:List Nat}{b:Bool}{be:List R→(z→List R→Prop)→Prop}(h:gE W az b be){a:nw}{d:List R}{mP:List Nat}(aw:a.FL=true)
 (I: ∀ k y,a= .set k y→k < d.length∧k∉W∧k∉az) (cU: ∀ i∈mP,i < d.length∧i∉W) {K:z→List R→Prop} (hf:be (a.jI d) K):
 be d (fun v bY=>(∀ i∈mP,bY[i]? =d[i]?)∧K v (a.jI bY)):=by
 obtain⟨v,e,h1,B,am,bp,cn⟩:=h _ _ hf;refine cn d _ (fun x _=>(U3 aw).symm) (fun i G=> ?_) ⟨fun i G=> ?_,?_⟩
 ·have:=bp i G;rw[U3 aw] at this;refine (U2 this fun k y he ga=> ?_).symm;subst ga;obtain⟨_,g1,bM⟩:=I k y he;rcases G with G|G
  ·exact g1 G
  ·exact bM G
 ·exact U2 (cU i G).1 fun k y he ga=>by subst ga;exact (cU k G).2 (am k y he)
 ·rw[anE aw (fun k y he=>(I k y he).1) (fun k y i x he rA ga=> ?_)]
  ·exact h1
  ·subst ga;exact (I k y he).2.1 (am k x rA)
mutual
theorem U4 {d:List R}{k:Nat}{y:R}(ap:List (Option Nat)){bk:List Nat}(I:k∉bk): ∀ (v:z),bU (d.set k y) ap bk v=bU d ap bk v
 | .int .. | .bool _| .str _| .bD| .pure .. | .eb .. | .jW| .cc| .km| .bu _| .fG .. =>by simp[bU]
 | .fn f aj=>by rw[bU,bU,CG ap I aj]
 | .agg aj=>by rw[bU,bU,CG ap I aj]
 | .bg aj=>by rw[bU,bU,CG ap I aj]
 | .own i n off len=>by
  rw[bU,bU];split
  ·rfl
  ·split
   ·rename_i V;have:k≠i:=fun e=>I (by subst e;simpa using V);rw[List.getElem?_set_ne this]
   ·rfl
 | .aW i n c off=>by
  rw[bU,bU];split
  ·rfl
  ·split
   ·rename_i V;have:k≠i:=fun e=>I (by subst e;simpa using V);rw[List.getElem?_set_ne this]
   ·rfl
theorem CG {d:List R}{k:Nat}{y:R}(ap:List (Option Nat)){bk:List Nat}(I:k∉bk): ∀ (vs:List z),dV (d.set k y) ap bk vs=dV d ap bk vs
 | []=>by simp[dV]
 |v::vs=>by rw[dV,dV,U4 ap I v,CG ap I vs]
end
theorem anG {d:List R}{k:Nat}{y:R}(ap:List (Option Nat)){bk:List Nat}(I:k∉bk)(x:R):ho (d.set k y) ap bk x=ho d ap bk x:=by
 cases x with
 |fH=>rfl
 |aa e N ah=>
  simp only[ho,lD];have: (dV (d.set k y) ap bk)=dV d ap bk:=funext fun vs=>CG ap I vs;rw[this]
 |aY L=>
  cases L with
  |map aE M ents=>simp only[ho,U4 ap I]
  |dY n bR=>rfl
theorem Oz {d:List R}{k:Nat}{y:R}(all:List (Option Nat)){bk:List Nat}(I:k∉bk): ∀ (ap:List (Option Nat)),some k∉ap→ew (d.set k y) bk all ap=ew d bk all ap
 | [],_=>rfl
 |none::rs,h=>by rw[ew,ew,Oz all I rs (fun hm=>h (by simp[hm]))]
 |some i::rs,h=>by
  have hne:k≠i:=fun e=>h (by simp[e]);rw[ew,ew,Oz all I rs (fun hm=>h (by simp[hm])),List.getElem?_set_ne hne];split
  ·rename_i x ys h1 B;simp only[anG all I]
  ·rfl
theorem U5 {bd:Type}: ∀ (ap:List Nat) (ai ys:List bd) (k:Nat) (y:bd),k < ai.length→k∉ap→fq (ai.set k y) ap ys=(fq ai ap ys).set k y
 | [],ai,ys,k,y,I,_=>by rw[fq,fq,List.set_append,if_pos I]
 |i::ap,ai,[],k,y,_,_=>by rw[fq,fq]
 |i::ap,ai,anH::ys,k,y,I,aB=>by
  simp at aB;rw[fq,fq,List.set_comm _ _ aB.1,U5 ap (ai.set i anH) ys k y (by simpa using I) aB.2]
theorem U6 {P:Program}{f:FuncId}{args:List z}{bC:List Nat}{tk lh:df}{a:nw}{d:List R}{mP:List Nat}{c:Nat}(an:c∈bC)(ht: ∀ e∈tk,e∈lh)(aw:a.FL=true)
 (I: ∀ k y,a= .set k y→k < d.length∧(c,k,true)∈lh) (cU: ∀ i∈mP,i < d.length∧ ∃ w,(c,i,w)∈lh) {K:z→List R→Prop} (hf:wA P f args bC lh (a.jI d) K):
 wA P f args bC tk d (fun v bY=>(∀ i∈mP,bY[i]? =d[i]?)∧K v (a.jI bY)):=by
 obtain⟨ap,bk,srows,h1,B,am,bp⟩:=hf;have Jl: ∀ i∈mP,i < d.length∧i∉ap:=fun i G=>by
  obtain⟨g1,w,bM⟩:=cU i G;exact⟨g1,(h1 c i w bM an).1⟩
 refine⟨ap,bk,srows,fun j i w hm aT=>h1 j i w (ht _ hm) aT,B,?_,?_⟩
 ·cases a with
  |none=>exact am
  |push=>cases aw
  |set k y=>
   obtain⟨g1,bM⟩:=I k y rfl;have dh:=h1 c k true bM an;simp only[nw.jI] at am;rw[Oz _ (dh.2 rfl) _ (by simpa using dh.1)] at am;exact am
 ·cases a with
  |none=>
   refine bp.mono fun v rs ⟨q1,eF⟩=>⟨q1,fun i G=> ?_,eF⟩;exact Cn _ _ _ _ (Jl i G).1 (Jl i G).2
  |push=>cases aw
  |set k y=>
   obtain⟨g1,bM⟩:=I k y rfl;have dh:=h1 c k true bM an;simp only[nw.jI] at bp;rw[CG _ (dh.2 rfl),List.length_set] at bp;refine bp.mono fun v rs ⟨q1,eF⟩=>⟨q1,fun i G=>Cn _ _ _ _ (Jl i G).1 (Jl i G).2,?_⟩;rw[U5 _ _ _ _ _ g1 dh.1] at eF;exact eF
def looks (L:dJ):List Nat:=(L.args.filterMap fun| .t E=>some E| .F _=>none)++(match L.guard with|some (E,_)=> [E]|none=> [])
structure Jm (x y:dJ):Prop where
 Jn: ∀ o,x.dst=some o→o∉looks y
 vb: ∀ o,y.dst=some o→o∉looks x
 wK: ∀ o,x.dst=some o→y.dst≠some o
theorem U7 {ρ:fs}{o:Option Nat}{v:z}{t:Nat}(h:o≠some t):gv ρ o v t=ρ t:=by
 cases o with
 |none=>rfl
 |some o=>simp only[gv];rw[if_neg (fun e=>h (by rw[e]))]
theorem FM {ρ:fs}{o e:Option Nat}{u v:z}(h: ∀ x,o=some x→e≠some x):gv (gv ρ o u) e v=gv (gv ρ e v) o u:=by
 cases o with
 |none=>rfl
 |some o=>
  cases e with
  |none=>rfl
  |some e=>
   funext t;have:=h o rfl;simp only[ne_eq,Option.some.injEq] at this;simp only[gv]
   by_cases h1:e=t<;>by_cases B:o=t<;>simp[h1,B]
   subst h1;subst B;exact absurd rfl this
theorem AK {L:dJ}{ρ:fs}{o:Option Nat}{v:z}(h: ∀ x,o=some x→x∉looks L):L.args.map (bc.kM (gv ρ o v))=L.args.map (bc.kM ρ):=by
 refine List.map_congr_left fun x ad=> ?_;cases x with
 |F v=>rfl
 |t E=>
  refine U7 fun e=>h E e ?_;exact List.mem_append_left _ (List.mem_filterMap.2 ⟨.t E,ad,rfl⟩)
theorem CH {L:dJ}{ρ:fs}{o:Option Nat}{v:z}(h: ∀ x,o=some x→x∉looks L):nv L.guard (gv ρ o v)=nv L.guard ρ:=by
 unfold nv;cases ao:L.guard with
 |none=>rfl
 |some g=>
  obtain⟨E,dZ⟩:=g;simp only;rw[U7 fun e=>h E e (by simp[looks,ao])]
section
variable {P:Program} {base:Nat}
theorem OA {iw:eQ}{c:Nat}(an:c∈iw.bC){tk lh:df}(ht: ∀ e∈tk,e∈lh){a:nw}(aw:a.FL=true){d:List R}{mP:List Nat}
 (I: ∀ k y,a= .set k y→k < d.length∧(c,k,true)∈lh) (cU: ∀ i∈mP,i < d.length∧ ∃ w,(c,i,w)∈lh) {o:Option Nat} {v:z} {ρ:fs}
 (h1: ∀ x,o=some x→x∉looks iw.bB) (B: ∀ x,o=some x→iw.bB.dst≠some x) {K:fs→List R→Prop} (ak:ic P base iw lh (gv ρ o v) (a.jI d) K):
 ic P base iw tk ρ d (fun ke kv=>(∃ u,ke=gv ρ iw.bB.dst u)∧(∀ i∈mP,kv[i]? =d[i]?)∧K (gv ke o v) (a.jI kv)):=by
 have U8: ∀ {bC:List Nat} {W az:List Nat},ex bC lh W az→ex bC tk W az:=fun h j i w hm aT=>h j i w (ht _ hm) aT;have swap: ∀ {W az:List Nat} {b:Bool} {be:List R→(z→List R→Prop)→Prop},gE W az b be→ex iw.bC lh W az→be (a.jI d) (fun u bY=>K (gv (gv ρ o v) iw.bB.dst u) bY)→
  be d (fun u bY=>(∃ anI,gv ρ iw.bB.dst u=gv ρ iw.bB.dst anI)∧(∀ i∈mP,bY[i]? =d[i]?)∧K (gv (gv ρ iw.bB.dst u) o v) (a.jI bY)):=by
  intro W az b be aq ar hf;have:=anF aq (mP:=mP) aw (fun k y he=> ?_) (fun i G=> ?_) hf
  ·obtain⟨u,e,g1,_,_,_,tN⟩:=aq _ _ this;refine tN d _ (fun _ _=>rfl) (fun _ _=>rfl) ⟨⟨u,rfl⟩,g1.1,?_⟩;rw[FM fun x ad rj=>B x rj ad];exact g1.2
  ·obtain⟨g1,bM⟩:=I k y he;have:=ar c k true bM an;exact⟨g1,this.1,this.2 rfl⟩
  ·obtain⟨g1,w,bM⟩:=cU i G;exact⟨g1,(ar c i w bM an).1⟩
 unfold ic at ak ⊢;rw[CH h1] at ak;split
 ·rename_i hl;rw[hl] at ak;simp only at ak;unfold ry at ak ⊢;rw[AK h1] at ak;split
  ·rename_i q aQ;rw[aQ] at ak;simp only at ak;exact⟨U8 ak.1,swap (Jd _ _ _) ak.1 ak.2⟩
  ·rename_i aQ;rw[aQ] at ak;simp only at ak;split
   ·rename_i f dC;rw[dC] at ak;simp only at ak;have:=U6 (mP:=mP) an ht aw I cU ak;obtain⟨ap,bk,srows,g1,bM,dh,gC⟩:=this;refine⟨ap,bk,srows,g1,bM,dh,gC.mono fun u rs ⟨q1,eF,ev⟩=>⟨q1,⟨_,rfl⟩,eF,?_⟩⟩;rw[FM fun x ad rj=>B x rj ad];exact ev
   ·rename_i dC;rw[dC] at ak;simp only at ak;unfold tH at ak ⊢;split at ak
    ·rename_i f aj ai ad;obtain⟨hfn,ak⟩:=ak;have:=U6 (mP:=mP) an ht aw I cU ak;obtain⟨ap,bk,srows,g1,bM,dh,gC⟩:=this;refine⟨hfn,ap,bk,srows,g1,bM,dh,gC.mono fun u rs ⟨q1,eF,ev⟩=>⟨q1,⟨_,rfl⟩,eF,?_⟩⟩;rw[FM fun x ad rj=>B x rj ad];exact ev
    ·exact ak.elim
   ·rename_i op dC Cw;split at ak
    ·rename_i f hf;exact absurd hf (dC f)
    ·rename_i hf;exact absurd hf Cw
    ·exact⟨U8 ak.1,swap (Cv _ _) ak.1 ak.2⟩
 ·rename_i hl;rw[hl] at ak;simp only at ak;refine⟨⟨_,rfl⟩,fun i G=>rfl,?_⟩;rw[FM fun x ad rj=>B x rj ad];exact ak
 ·rename_i hl;rw[hl] at ak;exact ak
def eQ.oX (o:eQ):Bool:=o.ff.isSome|| !nu o.bB.op
theorem anJ {hD iw:eQ}{c:Nat}(he:hD.oX=true)(jy:Jm hD.bB iw.bB)(an:c∈iw.bC){tk:df}{ρ:fs}{d:List R}{K:fs→List R→Prop}
 (h:ic P base hD tk ρ d (fun ke kv=>ic P base iw (ext base c hD ρ tk) ke kv K)):
 ic P base iw tk ρ d (fun ke kv=>ext base c hD ke tk=ext base c hD ρ tk∧ic P base hD tk ke kv K):=by
 have AL: ∀ u,ext base c hD (gv ρ iw.bB.dst u) tk=ext base c hD ρ tk:=fun u=>by
  unfold ext;rw[CH jy.vb,AK jy.vb]
 have mono: ∀ {K aF:fs→List R→Prop},ic P base iw tk ρ d K→(∀ ke kv,K ke kv→aF ke kv)→ic P base iw tk ρ d aF:=fun h I=>wD (fun _ h=>h) h I;unfold ic at h;split at h
 ·rename_i hl;unfold ry at h;split at h
  ·rename_i q aQ;obtain⟨h1,B⟩:=h;have mO:ext base c hD ρ tk=(c,base+q,true)::tk:=by simp[ext,hl,aQ]
   obtain⟨v,AM,g1,gC,tN⟩:=N3 B;rw[mO] at g1;have:=OA (tk:=tk) (a:= .set (base+q) AM) (mP:= [base+q]) an (fun e hm=>List.mem_cons_of_mem _ hm) rfl (fun k y he=> ?_) (fun i G=> ?_) jy.Jn jy.wK g1
   ·refine mono this fun ke kv ⟨⟨u,aZ⟩,eF,ev⟩=> ?_;subst aZ;refine⟨AL u,?_⟩;simp only[ic,CH jy.vb,hl,ry,aQ,AK jy.vb];exact⟨h1,tN kv _ (eF _ (by simp)) ev⟩
   ·cases he;exact⟨gC,by simp⟩
   ·simp at G;subst G;exact⟨gC,true,by simp⟩
  ·rename_i aQ;have qD:nu hD.bB.op=false:=by simpa[eQ.oX,aQ] using he
   split at h
   ·rename_i f dC;rw[dC] at qD;simp[nu] at qD
   ·rename_i dC;rw[dC] at qD;simp[nu] at qD
   ·rename_i op dC Cw;obtain⟨h1,B⟩:=h;have mO:ext base c hD ρ tk=(gD hD.bB.op (hD.bB.args.map (bc.kM ρ))).map (fun i=>(c,i,false))++tk:=by simp[ext,hl,aQ,qD]
    obtain⟨v,a,g1,bM,dh,gC,tN⟩:=Cv _ _ _ _ B;have aw:a= .none:=bM (by rw[qD];rfl);subst aw;rw[mO] at g1;have:=OA (tk:=tk) (mP:=gD hD.bB.op (hD.bB.args.map (bc.kM ρ))) an (fun e hm=>List.mem_append_right _ hm) rfl (fun k y he=>(by cases he)) (fun i G=>⟨gC i (.inr G),false,List.mem_append_left _ (List.mem_map.2 ⟨i,G,rfl⟩)⟩) jy.Jn jy.wK g1;refine mono this fun ke kv ⟨⟨u,aZ⟩,eF,ev⟩=> ?_;subst aZ;refine⟨AL u,?_⟩;have hW:=ajN (args:=hD.bB.args.map (bc.kM ρ)) qD;simp only[ic,CH jy.vb,hl,ry,aQ,AK jy.vb];refine⟨h1,tN kv _ (fun x ad=>(by cases ad)) (fun i G=> ?_) ev⟩;rcases G with G|G
    ·rw[hW] at G;simp at G
    ·exact eF i G
 ·rename_i hl;have mO:ext base c hD ρ tk=tk:=by simp[ext,hl]
  rw[mO] at h;have:=OA (tk:=tk) (a:= .none) (mP:= []) an (fun e hm=>hm) rfl (fun k y he=>(by cases he)) (fun i G=>(by simp at G)) jy.Jn jy.wK h;refine mono this fun ke kv ⟨⟨u,aZ⟩,eF,ev⟩=> ?_;subst aZ;refine⟨AL u,?_⟩;simp only[ic,CH jy.vb,hl];exact ev
 ·exact h.elim
theorem Jo: ∀ {M:List cN} {a b:List z},cv M a→cv M b→dU a b=dU b a
 | [],a,b,aw,Z=>by cases a<;>cases b<;>simp[cv,dU] at *
 |k::M,a,b,aw,Z=>by
  cases a with
  |nil=>cases k<;>simp[cv] at aw
  |cons x a=>
   cases b with
   |nil=>cases k<;>simp[cv] at Z
   |cons y b=>
    cases k<;>cases x<;>simp only[cv] at aw<;>cases y<;>simp only[cv] at Z<;>simp only[dU]
    ·rw[Jo aw.2 Z.2,Bool.beq_comm]
    ·rw[Jo aw Z,Bool.beq_comm]
    ·rw[Jo aw Z,Bool.beq_comm]
theorem Jp: ∀ {M:List cN} {a b F:List z},cv M a→cv M b→cv M F→dU a b=true→dU F a=dU F b
 | [],a,b,F,aw,Z,V,_=>by cases a<;>cases b<;>cases F<;>simp[cv,dU] at *
 |k::M,a,b,F,aw,Z,V,h=>by
  cases a with
  |nil=>cases k<;>simp[cv] at aw
  |cons x a=>
   cases b with
   |nil=>cases k<;>simp[cv] at Z
   |cons y b=>
    cases F with
    |nil=>cases k<;>simp[cv] at V
    |cons D F=>
     cases k<;>cases x<;>simp only[cv] at aw<;>cases y<;>simp only[cv] at Z<;>cases D<;>simp only[cv] at V<;>simp only[dU,Bool.and_eq_true,beq_iff_eq] at h ⊢
     ·rw[Jp aw.2 Z.2 V.2 h.2,h.1]
     ·rw[Jp aw Z V h.2,h.1]
     ·rw[Jp aw Z V h.2,h.1]
theorem Jq {aE:Bool}{M:List cN}{a b:z}(aw:fT aE M a)(Z:fT aE M b):fp a b=fp b a:=Jo aw.2 Z.2
theorem OB {aE:Bool}{M:List cN}{a b F:z}(aw:fT aE M a)(Z:fT aE M b)(V:fT aE M F)(h:fp a b=true):fp F a=fp F b:=Jp aw.2 Z.2 V.2 h
theorem U9 {aE:Bool}{M:List cN}{k bo v:z}(I:fT aE M k)(gc:fT aE M bo): ∀ {ents:List (z×z)},yt aE M ents→dd k (dp bo v ents)=if fp k bo then some v else dd k ents
 | [],_=>rfl
 |p::O,he=>by
  have ae:=he p List.mem_cons_self;have ih:=U9 (v:=v) I gc (ents:=O) fun q aQ=>he q (List.mem_cons_of_mem _ aQ);rw[dp];split
  ·rename_i h1;rw[dd,dd,OB gc ae I h1];split<;>rfl
  ·rename_i h1;rw[dd,dd,ih]
   by_cases B:fp k p.1=true
   ·rw[if_pos B,if_pos B];have:fp k bo=false:=by
     cases am:fp k bo with
     |false=>rfl
     |true=>
      have:=OB I gc ae am;rw[Jq ae I,B,Jq ae gc] at this;exact absurd this.symm h1
    rw[this];rfl
   ·rw[if_neg B,if_neg B]
theorem Va {aE:Bool}{M:List cN}{k bo:z}(I:fT aE M k)(gc:fT aE M bo)(h:fp k bo=true): ∀ {ents:List (z×z)},yt aE M ents→dd k ents=dd bo ents
 | [],_=>rfl
 |p::O,he=>by
  have ae:=he p List.mem_cons_self;have ih:=Va I gc h (ents:=O) fun q aQ=>he q (List.mem_cons_of_mem _ aQ);have e:=OB I gc ae h;rw[Jq ae I,Jq ae gc] at e;rw[dd,dd,e,ih]
theorem anK {aE:Bool}{M:List cN}{k bo D:z}{ents:List (z×z)}(I:fT aE M k)(gc:fT aE M bo)(he:yt aE M ents): (dd k (dp bo ((dd bo ents).getD D) ents)).getD D=(dd k ents).getD D:=by
 rw[U9 I gc he];split
 ·rename_i h;rw[Va I gc h he];rfl
 ·rfl
def CI (x y:dJ):Bool:=
 match x.op,x.guard,y.op,y.guard with
 | .ib false aE M (.int q n),none,.oa gt fM (.int vc kP),none=>decide (aE=gt∧M=fM∧q=vc∧n=kP)
 |_,_,_,_=>false
theorem anL {x y:dJ}(h:CI x y=true): ∃ aE M D,x.op= .ib false aE M D∧x.guard=none∧y.op= .oa aE M D∧y.guard=none:=by
 unfold CI at h;split at h
 ·rename_i aE M q n gt fM vc kP h1 B am bp;obtain⟨rfl,rfl,rfl,rfl⟩:=of_decide_eq_true h;exact⟨_,_,_,h1,B,am,bp⟩
 ·cases h
theorem anM {hD iw:eQ}{c:Nat}(jy:Jm hD.bB iw.bB)(Z:CI hD.bB iw.bB=true)(Vb:hD.ff=none)(anN:iw.ff=none){tk:df}{ρ:fs}{d:List R}{K:fs→List R→Prop}
 (h:ic P base hD tk ρ d (fun ke kv=>ic P base iw (ext base c hD ρ tk) ke kv K)):
 ic P base iw tk ρ d (fun ke kv=>ext base c hD ke tk=ext base c hD ρ tk∧ic P base hD tk ke kv K):=by
 obtain⟨aE,M,D,kI,g1,kJ,bM⟩:=anL Z;have AL: ∀ u,ext base c hD (gv ρ iw.bB.dst u) tk=ext base c hD ρ tk:=fun u=>by
  unfold ext;rw[CH jy.vb,AK jy.vb]
 have anO: ∀ e∈tk,e∈ext base c hD ρ tk:=fun e he=>by
  unfold ext;simp only[nv,g1,if_true,Vb,kI,nu];exact List.mem_append_right _ he
 simp only[ic,nv,g1,bM,ry,Vb,anN,kI,kJ] at h ⊢;obtain⟨h1,B⟩:=h;generalize sw:hD.bB.args.map (bc.kM ρ)=ai at h1 B;have anP: ∀ v,iw.bB.args.map (bc.kM (gv ρ hD.bB.dst v))=iw.bB.args.map (bc.kM ρ):=fun v=>AK jy.Jn;have anQ: ∀ u,hD.bB.args.map (bc.kM (gv ρ iw.bB.dst u))=ai:=fun u=>by rw[AK jy.vb,sw]
 simp only[anP] at B
 match ai,h1,B with
 | [x,k],h1,B=>
  simp only[aI] at B;unfold tx at B;cases hm:pE d aE M x with
  |none=>rw[hm] at B;exact B.elim
  |some ents=>
   rw[hm] at B;obtain⟨I,am,bp⟩:=B;refine⟨ex.mono anO am,?_⟩;generalize iw.bB.args.map (bc.kM ρ)=ys at am bp
   match ys,bp with
   | [y,bo],bp=>
    simp only[aI] at bp ⊢;unfold uJ at bp ⊢;split at bp
    ·rename_i i;split at bp
     ·rename_i gt fM Nx G;obtain⟨⟨rfl,rfl⟩,⟨gc,he⟩,cn⟩:=bp;simp only[G];refine⟨by simp,⟨gc,he⟩,AL _,?_⟩;rw[anQ];refine⟨h1,?_⟩;simp only[aI];unfold tx;have ag: ∃ OC,pE (d.set i (.aY (.map gt fM (dp bo ((dd bo Nx).getD D) Nx)))) gt fM x=some OC∧(dd k OC).getD D=(dd k ents).getD D:=by
       cases x with
       |bu cO=>
        by_cases e:cO=i
        ·subst e;simp only[pE,G,and_self,if_true,Option.some.injEq] at hm;subst hm;refine⟨_,?_,anK I gc he⟩;simp only[pE,List.getElem?_set,if_true,(List.getElem?_eq_some_iff.1 G).1,and_self]
        ·refine⟨ents,?_,rfl⟩;rw[←hm];simp only[pE,List.getElem?_set,if_neg (fun cA=>e cA.symm: ¬i=cO)]
       |km=>exact⟨ents,by rw[←hm];rfl,rfl⟩
       |_=>simp[pE] at hm
      obtain⟨OC,bF,bJ⟩:=ag;rw[bF];refine⟨I,?_⟩;simp only[Bool.false_eq_true,if_false] at cn ⊢;rw[bJ,FM fun x ad rj=>jy.wK x rj ad];exact cn
     ·exact bp.elim
    ·exact bp.elim
end
end Go.Abs
namespace Go.Abs
variable [dw]
section
variable {P:Program} {base:Nat} {bj:Array Oper} {ds:List eQ} {dy:List (List Nat)}
def FN (dy:List (List Nat))(dO:Array Bool):Prop:= ∀ j,dO.getD j false=true→ ∀ c∈dy.getD j [],dO.getD c false=true
def FO (bj:Array Oper)(dy:List (List Nat)):Prop:= ∀ j L,bj[j]? =some L→ ∀ c∈dy.getD j [],∃ e∈L.after,Region.binds .any e=true∧(e.on=c∨c∈dy.getD e.on [])
theorem OD (aw:FO bj dy){dO:Array Bool}(aq:FN dy dO){j:Nat}(aT:j∈Region.ready .any bj dO): ∀ c∈dy.getD j [],dO.getD c false=true:=by
 intro c an;obtain⟨_,L,bi,hall⟩:=mem_ready.1 aT;obtain⟨e,he,Z,h⟩:=aw j L bi c an;have:=hall e he Z;rcases h with rfl|h
 ·exact this
 ·exact aq _ this c h
theorem Vd {dO:Array Bool}{c:Nat}(h:dO.getD c true=false):dO.getD c false=false:=by
 rcases Nat.lt_or_ge c dO.size with cJ|cJ
 ·simp[cJ] at h ⊢;exact h
 ·simp[Array.getElem?_eq_none cJ]
theorem Ve (aw:FO bj dy){dO:Array Bool}(aq:FN dy dO){j:Nat}(aT:j∈Region.ready .any bj dO):FN dy (dO.setIfInBounds j true):=by
 intro k I c an
 by_cases Jr:j=k
 ·subst Jr;exact getD_set_true (OD aw aq aT c an)
 ·rw[getD_set_ne false Jr] at I;exact getD_set_true (aq k I c an)
theorem Js {K:fs→List R→Prop}: ∀ (hp:Nat) (dO:Array Bool) (tk lh:df) (ρ:fs) (d:List R),(∀ e∈tk,e∈lh)→yo P base bj ds hp dO lh K ρ d→yo P base bj ds hp dO tk K ρ d
 |0,_,_,_,_,_,_,h=>h
 |hp+1,_,tk,lh,_,_,ht,h=>⟨h.1,fun c an=>wD ht (h.2 c an) fun dv bY cJ=>Js hp _ tk lh dv bY ht cJ⟩
theorem OE {c:Nat}{o:eQ}{ρ:fs}{tk:df}: ∀ e∈tk,e∈ext base c o ρ tk:=by
 intro e he;unfold ext;split
 ·split
  ·exact List.mem_cons_of_mem _ he
  ·split
   ·exact he
   ·exact List.mem_append_right _ he
 ·exact he
theorem anR {o:eQ}(he:o.oX=true){tk:df}{ρ:fs}{d:List R}{K:fs→List R→Prop}(h:ic P base o tk ρ d K): ∃ dv bY,K dv bY:=by
 unfold ic at h;split at h
 ·unfold ry at h;split at h
  ·obtain⟨v,y,g,_⟩:=N3 h.2;exact⟨_,_,g⟩
  ·rename_i aQ;have qD:nu o.bB.op=false:=by simpa[eQ.oX,aQ] using he
   split at h
   ·rename_i f dC;rw[dC] at qD;simp[nu] at qD
   ·rename_i dC;rw[dC] at qD;simp[nu] at qD
   ·obtain⟨v,a,g,_⟩:=Cv _ _ _ _ h.2;exact⟨_,_,g⟩
 ·exact⟨_,_,h⟩
 ·exact h.elim
def Jt (ds:List eQ)(dy:List (List Nat))(c j:Nat):Prop:=
 c∈dy.getD j []∨j∈dy.getD c []∨(Jm (ds.getD c default).bB (ds.getD j default).bB∧(c∈(ds.getD j default).bC∨(CI (ds.getD c default).bB (ds.getD j default).bB=true∧(ds.getD c default).ff=none∧(ds.getD j default).ff=none)))
theorem take (aw:FO bj dy){c:Nat}(he: (ds.getD c default).oX=true)(ae: ∀ j,j < bj.size→j≠c→Jt ds dy c j){K:fs→List R→Prop}: ∀ (hp:Nat) (dO:Array Bool) (tk:df) (ρ:fs) (d:List R),
 FN dy dO→c∈Region.ready .any bj dO→ic P base (ds.getD c default) tk ρ d (yo P base bj ds hp (dO.setIfInBounds c true) (ext base c (ds.getD c default) ρ tk) K)→
 yo P base bj ds (hp+1) dO tk K ρ d:=by
 intro hp
 induction hp with
 |zero=>
  intro dO tk ρ d aq G h;refine⟨fun h0=>(by rw[h0] at G;cases G),fun j aT=> ?_⟩
  by_cases ml:j=c
  ·subst ml;exact wD (fun _ h=>h) h fun dv bY cJ=>Js 0 _ tk _ dv bY OE cJ
  ·have nA:=ready_mono aT ml;obtain⟨dv,bY,g⟩:=anR he h;rw[g.1] at nA;cases nA
 |succ hp ih=>
  intro dO tk ρ d aq G h;refine⟨fun h0=>(by rw[h0] at G;cases G),fun j aT=> ?_⟩
  by_cases ml:j=c
  ·subst ml;exact wD (fun _ h=>h) h fun dv bY cJ=>Js _ _ tk _ dv bY OE cJ
  ·have aC:j < bj.size:=by
    obtain⟨_,L,bi,_⟩:=mem_ready.1 aT;exact (Array.getElem?_eq_some_iff.1 bi).1
   rcases ae j aC ml with h1|h1|⟨h1,B⟩
   ·have:=OD aw aq aT c h1;rw[Vd (mem_ready.1 G).1] at this;cases this
   ·have:=OD aw aq G j h1;rw[Vd (mem_ready.1 aT).1] at this;cases this
   ·have V:=(show ic P base (ds.getD j default) tk ρ d (fun ke kv=>ext base c (ds.getD c default) ke tk=ext base c (ds.getD c default) ρ tk∧ic P base (ds.getD c default) tk ke kv _) from by
     rcases B with B|⟨B,am,bp⟩
     ·exact anJ (P:=P) (base:=base) he h1 B (wD (fun _ h=>h) h fun ke kv cJ=>cJ.2 j (ready_mono aT ml))
     ·exact anM (P:=P) (base:=base) h1 B am bp (wD (fun _ h=>h) h fun ke kv cJ=>cJ.2 j (ready_mono aT ml)))
    refine wD (fun _ h=>h) V fun ke kv ⟨g1,bM⟩=> ?_;refine ih (dO.setIfInBounds j true) tk ke kv (Ve aw aq aT) (ready_mono G (Ne.symm ml)) ?_;rw[g1,Array.setIfInBounds_comm _ _ ml];exact bM
def CB (bj:Array Oper)(ds:List eQ):Array Bool→List Nat→Bool
 |dO,[]=>Region.ready .any bj dO== []
 |dO,c::is=>(Region.ready .any bj dO).contains c&&((ds.getD c default).oX||Region.ready .any bj dO== [c])&&CB bj ds (dO.setIfInBounds c true) is
theorem anS {K:fs→List R→Prop}{dO:Array Bool}(h:Region.ready .any bj dO= []){tk:df}{ρ:fs}{d:List R}(I:K ρ d): ∀ hp,yo P base bj ds hp dO tk K ρ d
 |0=>⟨h,I⟩
 |_+1=>⟨fun _=>I,by rw[h];simp⟩
theorem Vf (aw:FO bj dy)(ae: ∀ c j,c < bj.size→j < bj.size→j≠c→(ds.getD c default).oX=true→Jt ds dy c j){K:fs→List R→Prop}: ∀ (od:List Nat) (dO:Array Bool) (tk:df) (ρ:fs) (d:List R) (hp:Nat),
 CB bj ds dO od=true→FN dy dO→od.length≤hp→Ct P base ds od tk K ρ d→yo P base bj ds hp dO tk K ρ d
 | [],dO,tk,ρ,d,hp,V,aq,hl,h=>by
  simp[CB] at V;exact anS V h hp
 |c::is,dO,tk,ρ,d,0,V,aq,hl,h=>by simp at hl
 |c::is,dO,tk,ρ,d,hp+1,V,aq,hl,h=>by
  simp only[CB,Bool.and_eq_true,Bool.or_eq_true,beq_iff_eq,List.contains_iff_mem] at V;obtain⟨⟨h1,B⟩,am⟩:=V;have aC:c < bj.size:=by
   obtain⟨_,L,bi,_⟩:=mem_ready.1 h1;exact (Array.getElem?_eq_some_iff.1 bi).1
  have ih:=fun tk ρ d=>Vf aw ae is (dO.setIfInBounds c true) tk ρ d hp am (Ve aw aq h1) (by simpa using hl) (K:=K);rcases B with B|B
  ·exact take aw B (fun j aT ml=>ae c j aC aT ml B) hp dO tk ρ d aq h1 (wD (fun _ h=>h) h fun dv bY cJ=>ih _ dv bY cJ)
  ·refine⟨fun h0=>(by rw[h0] at B;cases B),fun j aT=> ?_⟩;rw[B] at aT;simp at aT;subst aT;exact wD (fun _ h=>h) h fun dv bY cJ=>Js _ _ tk _ dv bY OE (ih _ dv bY cJ)
end
end Go.Abs
namespace Go.Abs
variable [dw]
section
variable {P:Program} {C:bv}
theorem anT (h:cb C):cb {C with w:=C.w.drew}∧cd C.d.length C {C with w:=C.w.drew}:=by
 have later:cd C.d.length C {C with w:=C.w.drew}:=
  ⟨rfl,rfl,rfl,Nat.le_refl _,fun b Z _=>rfl,fun i _ F h=> .inl ⟨i,F,h⟩,rfl,rfl,Nat.le_refl _,fun _ _ _ ah _ h=>⟨ah,h,Nat.le_refl _,fun _=>rfl⟩,fun _ L _ h=>⟨L,h,rfl⟩,fun _=>Nat.le_succ _⟩
 refine⟨⟨h.bT,h.dm,fun i bz G=> ?_,h.inj,fun b Z=>h.bS b Z⟩,later⟩;exact dA.move later.ext rfl rfl (fun b F Z=>rfl) (h.d i bz G)
def sv (ff:List (TypeId×Nat)):List R:=ff.map fun p=> .aa p.1 p.2 []
theorem Vg: ∀ (ff:List (TypeId×Nat)) (C:bv),cb C→ ∃ av,av.w=C.w∧av.d=C.d++sv ff∧cb av∧cd C.d.length C av
 | [],C,h=>⟨C,rfl,by simp[sv],h,cd.refl C⟩
 | (e,N)::ff,C,h=>by
  obtain⟨h1,B⟩:=Ft h e N;obtain⟨av,g1,bM,dh,gC⟩:=Vg ff _ h1;refine⟨av,g1,?_,dh,B.trans gC (by simp)⟩;rw[bM];simp[sv]
theorem Ju (h:cb C){k:Nat}{e:TypeId}{N:Nat}(G:C.d[k]? =some (.aa e N []))(cap:Nat)(aj:Array Value)(ah:List (List z))(vs:List Value)
 (ak:aj.size=cap*N) (hm:cap≤maxLen) (ag:ah.length≤cap) (he:fj C N ah vs) (ht:aj.toList.take vs.length=vs) (ip:0 < ah.length):
 cb ⟨C.d.set k (.aa e N ah),C.bm.set k (some (C.w.heap.size,cap)),C.bS,C.w.alloc (.cells aj e),C.bT⟩∧
 cd C.d.length C ⟨C.d.set k (.aa e N ah),C.bm.set k (some (C.w.heap.size,cap)),C.bS,C.w.alloc (.cells aj e),C.bT⟩:=by
 have I:k < C.d.length:=ku G;obtain⟨p,ae⟩: ∃ p,C.bm[k]? =some p:=⟨_,List.getElem?_eq_getElem (by rw[h.dm];exact I)⟩;refine ya h G ae C.w.heap.size cap aj ah vs (C.w.alloc (.cells aj e)) ⟨rfl,rfl,rfl,by simp,fun b Z _=>heap_alloc_old C.w _ Z⟩ (.inr (Nat.le_refl _)) (heap_alloc_new C.w _) ak hm ag he ht (Nat.zero_le _) fun h0=> ?_;simp at h0;omega
theorem Vh {d:List R}{bm:List (Option (Nat×Nat))}{bS:Nat→Prop}{w:World}{e:TypeId}{N b cap k:Nat}{cells:List z}(hl:bm.length=d.length)(I:k < d.length):
 Rep ⟨d.set k (.aa e N [cells]),bm.set k (some (b,cap)),bS,w,false⟩ (.aW k 1 0 0) (.pointer (some ⟨b,0,none⟩)):=by
 rw[Rep];refine⟨rfl,⟨_,rfl⟩,by simpa using I,fun cA bt ah h=> ?_⟩;simp only[List.getElem?_set,if_true,I] at h;simp at h;obtain⟨rfl,rfl,rfl⟩:=h;exact⟨by simp,fun _=>⟨by simp,b,cap,by simp[List.getElem?_set,hl,I],by simp⟩⟩
theorem Vi {d:List R}{bm:List (Option (Nat×Nat))}{bS:Nat→Prop}{w:World}{e:TypeId}{N b cap k:Nat}{ah:List (List z)}(hl:bm.length=d.length)(I:k < d.length)(V:ah.length≤cap):
 Rep ⟨d.set k (.aa e N ah),bm.set k (some (b,cap)),bS,w,false⟩ (.own k ah.length 0 ah.length) (.slice (some ⟨b,0,none⟩) ah.length cap):=by
 rw[Rep];refine⟨rfl,⟨_,_,rfl⟩,by simpa using I,fun cA bt dl h=> ?_⟩;simp only[List.getElem?_set,if_true,I] at h;simp at h;obtain⟨rfl,rfl,rfl⟩:=h;exact⟨by simp,fun _=>⟨by simp,some (b,cap),by simp[List.getElem?_set,hl,I],⟨b,0,none⟩,cap,rfl,V,rfl,rfl,fun _=>⟨rfl,rfl⟩,fun _=>by simp⟩⟩
variable {K:z→List R→Prop}
theorem anU (ar:cb C){t:TypeId}{D:List z}(aS:mJ P t=some D){k:Nat}(I:C.d[k]? =some (.aa t D.length []))(h:K (.aW k 1 0 0) (C.d.set k (.aa t D.length [D]))):
 ∃ aV v av,(Instr.alloc t true (.tuple #[])).run P C.w= .ok aV av.w∧Rep av v aV∧cb av∧cd C.d.length C av∧K v av.d:=by
 obtain⟨c,cu,an,jp,lu,hl,ip,dt⟩:=sd aS;obtain⟨bI,ca⟩:=rf (C:=C) lu;have cB:=bI.length;have ae:=Ju ar I 1 cu.cells [D] cu.cells.toList (by omega) (by simp[maxLen]) (by simp) (CJ rfl bI (uH bI ca)) List.take_length (by simp);refine⟨.pointer (some ⟨C.w.heap.size,0,none⟩),_,_,?_,(ar.bT▸Vh ar.dm (ku I)),ae.1,ae.2,h⟩;simp[Instr.alloc,sf an jp,newVar,newRow]
theorem anV (ar:cb C){t:TypeId}{n:Nat}{x:z}{cq:Value}(ad:Rep C x cq)(h1: (cf x).length=n)(B: (cf x).all cM=true){k:Nat}(I:C.d[k]? =some (.aa t n []))
 (h:K (.aW k 1 0 0) (C.d.set k (.aa t n [cf x]))):
 ∃ aV v av,(Instr.box t cq).run P C.w= .ok aV av.w∧Rep av v aV∧cb av∧cd C.d.length C av∧K v av.d:=by
 obtain⟨bI,ca⟩:=Cy ad B;have cB:=bI.length;simp only[Array.length_toList] at cB;have ae:=Ju ar I 1 cq.cells [cf x] cq.cells.toList (by omega) (by simp[maxLen]) (by simp) (CJ h1 bI ca) List.take_length (by simp);refine⟨.pointer (some ⟨C.w.heap.size,0,none⟩),_,_,?_,(ar.bT▸Vh ar.dm (ku I)),ae.1,ae.2,h⟩;simp[Instr.box,newVar,newRow]
theorem anW (ar:cb C){t e:TypeId}{D:List z}{len:Nat}{ef:Array (Nat×Operand)}{ρ:Operand→Value}{vs:List z}{al:List (List z)}
 (aZ:P.underlying t=some (.slice e)) (aS:mJ P e=some D) (cB:len*D.length≤16777216) (oe:0 < len)
 (G:ay C vs ((ef.toList.map (·.2)).map ρ)) (hf:ob (List.replicate len D) D.length (ef.toList.map (·.1)) vs=some al) (h1: (vs.all fun v=>(cf v).all cM)=true)
 {k:Nat} (I:C.d[k]? =some (.aa e D.length [])) (h:K (.own k len 0 len) (C.d.set k (.aa e D.length al))):
 ∃ aV v av,(Instr.buildSlice t len (ef.map fun (c,x)=>(c,ρ x))).run P C.w= .ok aV av.w∧Rep av v aV∧cb av∧cd C.d.length C av∧K v av.d:=by
 obtain⟨c,cu,an,jp,lu,hl,ip,dt⟩:=sd aS;obtain⟨bI,ca⟩:=rf (C:=C) lu;have bi:=uH bI ca;obtain⟨et,hO,f3⟩:=OF _ vs _ al hf (by intro x ad;rw[List.eq_of_mem_replicate ad]);rw[List.length_replicate] at f3;have jq:ay C (List.replicate len D).flatten (List.replicate len cu.cells.toList).flatten∧iH (List.replicate len cu.cells.toList).flatten:=by
  clear hf et f3 cB h oe
  induction len with
  |zero=>simp[ay,iH]
  |succ n ih=>
   rw[List.replicate_succ,List.replicate_succ,List.flatten_cons,List.flatten_cons];refine⟨bI.append ih.1,fun v ag=> ?_⟩;rcases List.mem_append.1 ag with ag|ag
   ·exact bi v ag
   ·exact ih.2 v ag
 have Ao:c.size=D.length:=hl.symm;have vY: ((Array.range (len*c.size)).map (cu.cells[·%cu.cells.size]!)).toList=(List.replicate len cu.cells.toList).flatten:=by
  rw[←dt];exact Aa cu.cells len
 obtain⟨i,r1,cO,fN⟩:=Fg (C:=C) (fun j=>some (j*D.length,D.length)) (ef.toList.map (·.1)) ((ef.toList.map (·.1)).map fun j=>(j*D.length,D.length)) vs _ _ al.flatten
  ((Array.range (len*c.size)).map (cu.cells[·%cu.cells.size]!)) (by rw[←List.filterMap_eq_map];rfl) (by simp) G et h1 (by rw[vY];exact jq.1)
 have eG:=fN (by rw[vY];exact jq.2);have tr:fj C D.length al i.toList:=⟨hO,cO,eG⟩;have fo:=tr.length;simp only[Array.length_toList] at fo;have Jv:len≤maxLen:=by
  have:len≤len*D.length:=Nat.le_mul_of_pos_right _ (by omega);simp only[maxLen];omega
 have ae:=Ju ar I len i al i.toList (by rw[fo,f3]) Jv (by omega) tr List.take_length (by omega);refine⟨.slice (some ⟨C.w.heap.size,0,none⟩) len len,.own k len 0 len,_,?_,?_,ae.1,ae.2,h⟩
 ·have sn: (ef.map fun (c,x)=>(c,ρ x)).toList=(ef.toList.map (·.1)).zip ((ef.toList.map (·.2)).map ρ):=by
   rw[Array.toList_map];exact IK _ _
  have rh: (sizeOf e).run P C.w= .ok c.size C.w:=by simp[sizeOf,typeInfo,an]
  rw[←Ao] at r1 cB;simp only[Instr.buildSlice,Sem.run_bind,run_underlying aZ,Result.andThen_ok,rh,Sem.run_ite];rw[if_neg (by omega)];have h0: ¬len*c.size=0:=by
   intro h0;rcases Nat.mul_eq_zero.1 h0 with h|h<;>omega
  simp only[h0,if_false,Sem.run_bind,sf an jp,Sem.run_pure,Result.andThen_ok];rw[sn,r1];simp[newRow]
 ·have:=Vi (d:=C.d) (bm:=C.bm) (bS:=C.bS) (w:=C.w.alloc (.cells i e)) (e:=e) (N:=D.length) (b:=C.w.heap.size) (cap:=len) (ah:=al) ar.dm (ku I) (by omega);rw[f3] at this;rw[ar.bT];exact this
theorem anX (ar:cb C){t e:TypeId}{D:List z}{jG:Nat}(aZ:P.underlying t=some (.slice e))(aS:mJ P e=some D)(Z: (P.info? e).map (·.bytes)=some jG)
 {k bo:IntKind} {l F:Int} (h1:0 < l) (B:l≤F) (am:F*jG≤140737488355328) (bp:F≤140737488355328)
 {q:Nat} (I:C.d[q]? =some (.aa e D.length [])) (h:K (.own q l.toNat 0 l.toNat) (C.d.set q (.aa e D.length (List.replicate l.toNat D)))):
 ∃ aV v av,(Instr.makeSlice t (.int k l) (.int bo F)).run P C.w= .ok aV av.w∧Rep av v aV∧cb av∧cd C.d.length C av∧K v av.d:=by
 obtain⟨c,cu,an,jp,lu,hl,ip,dt⟩:=sd aS;obtain⟨bI,ca⟩:=rf (C:=C) lu;have bi:=uH bI ca;have se:c.bytes=jG:=by simpa[an] using Z
 subst se;have jq: ∀ n,ay C (List.replicate n D).flatten (List.replicate n cu.cells.toList).flatten∧iH (List.replicate n cu.cells.toList).flatten:=by
  intro n
  induction n with
  |zero=>simp[ay,iH]
  |succ n ih=>
   rw[List.replicate_succ,List.replicate_succ,List.flatten_cons,List.flatten_cons];refine⟨bI.append ih.1,fun v ag=> ?_⟩;rcases List.mem_append.1 ag with ag|ag
   ·exact bi v ag
   ·exact ih.2 v ag
 have vY: ((Array.range (F.toNat*c.size)).map (cu.cells[·%cu.cells.size]!)).toList=(List.replicate F.toNat cu.cells.toList).flatten:=by
  rw[←dt];exact Aa cu.cells F.toNat
 have es: ((Array.range (F.toNat*c.size)).map (cu.cells[·%cu.cells.size]!)).size=F.toNat*D.length:=by simp[hl]
 have tr:fj C D.length (List.replicate l.toNat D) (List.replicate l.toNat cu.cells.toList).flatten:=
  ⟨fun x ad=>by rw[List.eq_of_mem_replicate ad],(jq _).1,(jq _).2⟩
 have oE: ((Array.range (F.toNat*c.size)).map (cu.cells[·%cu.cells.size]!)).toList.take (List.replicate l.toNat cu.cells.toList).flatten.length=(List.replicate l.toNat cu.cells.toList).flatten:=by
  rw[vY,show F.toNat=l.toNat+(F.toNat-l.toNat) from by omega,←List.replicate_append_replicate,List.flatten_append];exact List.take_left
 have ae:=Ju ar I F.toNat _ (List.replicate l.toNat D) _ es (by simp only[maxLen];omega) (by simp;omega) tr oE (by simp;omega);refine⟨.slice (some ⟨C.w.heap.size,0,none⟩) l.toNat F.toNat,.own q l.toNat 0 l.toNat,_,?_,?_,ae.1,ae.2,h⟩
 ·have E2:IntKind.i64.wrap l=l:=by simp only[IntKind.wrap,IntKind.bits,IntKind.signed];simp;omega
  have wc:IntKind.i64.wrap F=F:=by simp only[IntKind.wrap,IntKind.bits,IntKind.signed];simp;omega
  have rh: (sizeOf e).run P C.w= .ok c.size C.w:=by simp[sizeOf,typeInfo,an]
  have Nk: (typeInfo e).run P C.w= .ok c C.w:=by simp[typeInfo,an]
  have ri: (c.bytes:Int)*F≤140737488355328:=by rw[Int.mul_comm];exact am
  simp only[Instr.makeSlice,Sem.run_bind,run_underlying aZ,Result.andThen_ok,asInt,asIntOf,Sem.run_pure,Nk,E2,wc];have Iw: ¬((decide (F < 0)||decide ((c.bytes:Int)*F>2^48)||decide (l < 0)||decide (l>F))=true):=by
   simp;omega
  rw[if_neg Iw];simp only[Sem.run_bind,run_askRoom,Result.andThen_ok,rh,Sem.run_pure,Sem.run_ite];have h0: ¬F.toNat*c.size=0:=by
   intro h0;rcases Nat.mul_eq_zero.1 h0 with h|h<;>omega
  rw[if_neg h0];simp[sf an jp,newRow]
 ·have:=Vi (d:=C.d) (bm:=C.bm) (bS:=C.bS) (w:=C.w.alloc (.cells ((Array.range (F.toNat*c.size)).map (cu.cells[·%cu.cells.size]!)) e)) (e:=e) (N:=D.length) (b:=C.w.heap.size) (cap:=F.toNat) (ah:=List.replicate l.toNat D) ar.dm (ku I) (by simp;omega);rw[List.length_replicate] at this;rw[ar.bT];exact this
theorem anY {L:Oper}{Ck:fV}{ai:List Operand}(V:oN P L=some (Ck,ai))(ar:cb C)(ρ:Operand→Value){ah:List z}
 (G:ay C ah (ai.map ρ)) {k:Nat} (h:iZ Ck ah k C.d K):dN P C (execOp ρ L) K:=by
 obtain⟨dst,op,type,IN,after,guard⟩:=L;unfold oN at V;simp only at V;unfold iZ at h;split at h
 ·
  rename_i e D;split at V
  case h_4=>
   split at V
   ·rename_i t OG aS;simp at V;obtain⟨⟨rfl,rfl⟩,rfl⟩:=V;exact dN.qz (anU ar aS h.1 h.2)
   ·cases V
  all_goals (repeat' (split at V))<;>simp at V
 ·
  split at V
  case h_5=>
   split at V
   ·rename_i t x n ak;simp at V;obtain⟨⟨rfl,rfl⟩,rfl⟩:=V;obtain⟨a,AN,aw⟩:=ia G;simp at AN;subst AN;exact dN.qz (anV ar aw h.1.1 h.1.2 h.2.1 h.2.2)
   ·cases V
  all_goals (repeat' (split at V))<;>simp at V
 ·
  split at V
  case h_7=>
   split at V
   ·rename_i t len ef _ e aZ;split at V
    ·rename_i D aS;split at V
     ·simp at V
     split at V
     ·rename_i hl;simp only[Option.some.injEq,Prod.mk.injEq,fV.rx.injEq] at V;obtain⟨⟨rfl,rfl,rfl,rfl,rfl⟩,rfl⟩:=V;split at h
      ·rename_i al hf;exact dN.qz (anW ar aZ aS hl h.1.2 G hf h.1.1 h.2.1 h.2.2)
      ·exact h.elim
     ·cases V
    ·cases V
   ·cases V
  all_goals (repeat' (split at V))<;>simp at V
 ·
  split at V
  case h_8=>
   split at V
   ·rename_i t l F e aZ;split at V
    ·rename_i D jG aS Z;split at V
     ·cases V
     simp only[Option.some.injEq,Prod.mk.injEq,fV.ym.injEq] at V;obtain⟨⟨rfl,rfl,rfl,rfl⟩,rfl⟩:=V;obtain⟨a,b,oG,aw,jH⟩:=lA G;simp only[List.cons.injEq,and_true] at oG;obtain⟨rfl,rfl⟩:=oG;rw[Rep] at aw jH;simp only[execOp,aw,jH];exact dN.qz (anX ar aZ aS Z h.1.1 h.1.2.1 h.1.2.2.1 h.1.2.2.2 h.2.1 h.2.2)
    ·cases V
   ·cases V
  all_goals (repeat' (split at V))<;>simp at V
 ·exact h.elim
end
structure CK (n:Nat) (ρ:fs) (C:bv) (a:Act):Prop where
 ok:cb C
 size:a.tmps.size=n
 defers:a.defers= []
 iY: ∀ t,Rep C (ρ t) (a.tmps.getD t undef)
section
variable {P:Program} {n aX base:Nat} {fw:bv} [uM fw] {bj:Array Oper}
theorem anZ {ρ:fs}{C:bv}{a:Act}(ak:CK n ρ C a){x:Operand}{y:bc}(h:rr x=some y):Rep C (y.kM ρ) (a.eval x):=by
 cases x with
 |tmp t=>simp[rr] at h;subst h;exact ak.iY t
 |const v=>
  simp only[rr] at h;cases ag:AA v with
  |none=>rw[ag] at h;simp at h
  |some b=>rw[ag] at h;simp at h;subst h;exact (I6 ag).1
 |global g=>simp[rr] at h
 |func f=>
  simp[rr] at h;subst h;simp only[bc.kM];rw[Rep];exact⟨#[],rfl,by simp[ay]⟩
theorem Vj {ρ:fs}{C:bv}{a:Act}(ak:CK n ρ C a): ∀ {ai:List Operand} {ys:List bc},uQ ai=some ys→ay C (ys.map (bc.kM ρ)) (ai.map a.eval)
 | [],ys,h=>by simp[uQ] at h;subst h;simp[ay]
 |x::ai,ys,h=>by
  simp only[uQ] at h;split at h
  ·rename_i y bQ bl aS;simp at h;subst h;rw[List.map_cons,List.map_cons,ay];exact⟨_,_,rfl,anZ ak bl,Vj ak aS⟩
  ·cases h
theorem Jw {ρ:fs}{C av:bv}{a:Act}(ak:CK n ρ C a)(ar:cb av)(he:jo C av){dst:Option Nat}(aq: ∀ o,dst=some o→o < n){v:z}{aV:Value}(ag:Rep av v aV):
 CK n (gv ρ dst v) av (a.put dst aV):=by
 cases dst with
 |none=>exact⟨ar,ak.size,ak.defers,fun t=>Rep.ext he _ _ (ak.iY t)⟩
 |some o=>
  have AB:=aq o rfl;refine⟨ar,by simp[Act.put,ak.size],ak.defers,fun t=> ?_⟩;simp only[gv,Act.put];split
  ·rename_i AC;subst AC;have:o < a.tmps.size:=by rw[ak.size];exact AB
   simpa[Array.getD,this] using ag
  ·rename_i AC;have:=Rep.ext he _ _ (ak.iY t);rw[show (a.tmps.setIfInBounds o aV).getD t undef=a.tmps.getD t undef from ?_]
   ·exact this
   ·simp[Array.getElem?_setIfInBounds_ne AC]
def FP (n aX:Nat)(fw:bv)(K:fs→List R→Prop)(a:Act)(w:World):Prop:= ∃ ρ C,C.w=w∧CK n ρ C a∧cd aX fw C∧K ρ C.d
theorem aoa {ρ:fs}{C:bv}{a:Act}{c:Nat}{L:Oper}{o:eQ}{tk:df}(an:bj[c]? =some L)(hf:yk P n bj L o.bB)(ak:CK n ρ C a)(hl:cd aX fw C)
 {K:fs→List R→Prop} {rt:Act→World→Prop} {br:Exit→Act→World→Prop} (cs: ∀ a w,FP n aX fw K a w→rt a w) (h:ic P base o tk ρ C.d K):wpOp P bj br c rt a C.w:=by
 obtain⟨N1,⟨st,AB⟩,ao⟩:=hf;have uR: ∀ e,o.bB.dst=some e→e < n:=by rw[st];exact AB
 have skip:K (gv ρ o.bB.dst (.bg [])) C.d→rt (a.put L.dst undef) C.w:=by
  intro I;refine cs _ _ ⟨_,C,rfl,?_,hl,I⟩;rw[←st];exact Jw ak ak.ok (jo.refl C) uR (by rw[Rep];exact⟨#[],rfl,by simp[ay]⟩)
 have bb:dN P C (execOp a.eval L) (fun v bY=>K (gv ρ o.bB.dst v) bY)→L.wp P a C.w rt br:=by
  intro G;unfold Oper.wp;obtain⟨wz,aV,v,av,h1,B,am,bp,cn,dj⟩:=G;rw[h1];have:rt (a.put L.dst aV) av.w:=by
   refine cs _ _ ⟨_,av,rfl,?_,hl.trans cn hl.len,dj⟩;rw[←st];exact Jw ak bp cn.ext uR am
  rcases B with rfl|⟨rfl,rfl⟩
  ·exact this
  ·exact this
 have run:ry P base o tk ρ C.d K→L.wp P a C.w rt br:=by
  intro G;rcases N1 with ⟨ai,dC,hargs⟩|⟨b1,eA⟩
  rotate_left
  ·exfalso;unfold ry at G;rw[b1,eA] at G;split at G
   ·simp[iZ] at G
   ·simp[aI] at G
  have dk:=Vj ak hargs;unfold ry at G;split at G
  ·exact bb (anY dC ak.ok a.eval dk G.2)
  ·split at G
   ·rename_i f ir;rw[ir] at dC;unfold Oper.wp;rw[UK dC,Oper.upon_enter];have ch:tG P f (o.bB.args.map (bc.kM ρ)) C.d fun v bY=>K (gv ρ o.bB.dst v) bY:=by
     obtain⟨ap,bk,srows,g1,bM,dh,gC⟩:=G;exact⟨ap,bk,srows,bM,dh,gC⟩
    refine (Fr ak.ok ((uM.ok (C:=fw)).later hl) dk ch).mono ?_;rintro e w' ⟨aV,v,av,rfl,rfl,h1,B,am,bp⟩;refine cs _ _ ⟨_,av,rfl,?_,hl.trans am hl.len,bp⟩;rw[←st];exact Jw ak B am.ext uR h1
   ·rename_i ir;rw[ir] at dC;unfold tH at G;split at G
    ·rename_i f aj as ad;rw[ad] at dk;obtain⟨hfn,G⟩:=G;obtain⟨du,g1,bM⟩:=UL dC dk hfn C.w;unfold Oper.wp;rw[bM,Oper.upon_enter];have ch:tG P f (as++aj) C.d fun v bY=>K (gv ρ o.bB.dst v) bY:=by
      obtain⟨ap,bk,srows,g1,bM,dh,gC⟩:=G;exact⟨ap,bk,srows,bM,dh,gC⟩
     refine (Fr ak.ok ((uM.ok (C:=fw)).later hl) g1 ch).mono ?_;rintro e w' ⟨aV,v,av,rfl,rfl,h1,B,am,bp⟩;refine cs _ _ ⟨_,av,rfl,?_,hl.trans am hl.len,bp⟩;rw[←st];exact Jw ak B am.ext uR h1
    ·exact G.elim
   ·rename_i I7 _;exact bb (Uc dC (fun f hf=>I7 f hf) ak.ok a.eval (fun _=>rfl) dk G.2)
 unfold wpOp;rw[an];simp only;unfold ic at h;rcases ao with ⟨g1,bM⟩|⟨j,dZ,E,g1,bM,dh,gC⟩
 ·have aR:Region.wanted L (yielded bj a.tmps)=true:=by simp[Region.wanted,g1]
  rw[if_pos aR];simp only[bM,nv] at h;exact .inl (run h)
 ·simp only[gC,nv] at h;have oQ:=ak.iY E;have dt:E < a.tmps.size:=by rw[ak.size];exact dh
  have bl: ∀ v,a.tmps.getD E undef=v→yielded bj a.tmps j=(match v with| .bool b=>some b|_=>none):=by
   intro v ag;have h1:a.tmps[E]? =some v:=by
    rw[Array.getElem?_eq_getElem dt];simpa[Array.getD,dt] using ag
   unfold yielded;rw[bM];simp only[Option.bind_some,h1];cases v<;>rfl
  cases Z:ρ E with
  |bool b=>
   rw[Z] at h oQ;rw[Rep] at oQ;have ru:=bl _ oQ;simp only at ru h
   by_cases mi:b=dZ
   ·have aR:Region.wanted L (yielded bj a.tmps)=true:=by simp[Region.wanted,g1,ru,mi]
    rw[if_pos aR];have: (b==dZ)=true:=by simp[mi]
    rw[this] at h;exact .inl (run h)
   ·have aR: ¬Region.wanted L (yielded bj a.tmps)=true:=by simp[Region.wanted,g1,ru,mi]
    rw[if_neg aR];have: (b==dZ)=false:=by simp[mi]
    rw[this] at h;exact skip h
  |bg aj=>
   rw[Z] at h oQ;cases aj with
   |cons=>simp at h
   |nil=>
    rw[Rep] at oQ;obtain⟨vs,ag,_⟩:=oQ;have ru:=bl _ ag;simp only at ru;have aR: ¬Region.wanted L (yielded bj a.tmps)=true:=by simp[Region.wanted,g1,ru]
    rw[if_neg aR];exact skip h
  |_=>rw[Z] at h;exact h.elim
theorem Vk {ds:List eQ}(hf: ∀ c L,bj[c]? =some L→yk P n bj L (ds.getD c default).bB){K:fs→List R→Prop}{br:Exit→Act→World→Prop}(uS: ∀ a w,FP n aX fw K a w→br .normal a w):
 ∀ (hp:Nat) (dO:Array Bool) (a:Act) (w:World),FP n aX fw (yo P base bj ds hp dO [] K) a w→wpAny P .any bj br hp dO a w
 |0,dO,a,w,⟨ρ,C,h1,B,am,bp⟩=>⟨bp.1,uS a w ⟨ρ,C,h1,B,am,bp.2⟩⟩
 |hp+1,dO,a,w,⟨ρ,C,h1,B,am,bp⟩=>by
  refine⟨fun h0=>uS a w ⟨ρ,C,h1,B,am,bp.1 h0⟩,fun c an=> ?_⟩;obtain⟨_,L,bi,_⟩:=mem_ready.1 an;subst h1;exact aoa bi (hf c L bi) B am (fun a w h=>Vk hf uS hp _ a w h) (bp.2 c an)
theorem ajP {id:Nat}{ds:List eQ}{dy:List (List Nat)}{od:List Nat}{ff:List (TypeId×Nat)}(hm:P.follows .mixedOrders=true)
 (hf: ∀ c L,bj[c]? =some L→yk P n bj L (ds.getD c default).bB) (aw:FO bj dy) (ae: ∀ c j,c < bj.size→j < bj.size→j≠c→(ds.getD c default).oX=true→Jt ds dy c j)
 (V:CB bj ds (Array.replicate bj.size false) od=true) (cB:od.length≤bj.size) {K:fs→List R→Prop} {br:Exit→Act→World→Prop} (uS: ∀ a w,FP n aX fw K a w→br .normal a w)
 {a:Act} {w:World} (h:FP n aX fw (fun ρ d=>Ct P d.length ds od [] K ρ (d++sv ff)) a w): (Code.region id bj true).wp P br a w:=by
 obtain⟨ρ,C,rfl,ak,hl,I⟩:=h;obtain⟨d1,kd⟩:=anT ak.ok;obtain⟨av,bF,bJ,it,qE⟩:=Vg ff _ d1;have aob:av.d=C.d++sv ff:=bJ;refine wp_region_any hm ?_;refine Vk (base:=C.d.length) hf uS bj.size _ a _ ⟨ρ,av,bF,⟨it,ak.size,ak.defers,fun t=>Rep.ext qE.ext _ _ (Rep.ext kd.ext _ _ (ak.iY t))⟩,(hl.trans kd hl.len).trans qE (hl.trans kd hl.len).len,?_⟩;rw[aob];refine Vf aw ae od _ [] ρ _ bj.size V (fun j aT=> ?_) cB I;simp[Array.getD] at aT
end
end Go.Abs
namespace Go.Abs
variable [dw]
def ix (c:Nat):List Nat→df→df
 | [],tk=>tk
 |i::rs,tk=>(c,i,false)::ix c rs tk
theorem Vl (c:Nat)(tk:df): ∀ rs,ix c rs tk=rs.map (fun i=>(c,i,false))++tk
 | []=>rfl
 |i::rs=>by simp[ix,Vl c tk rs]
def gO (P:Program)(base c:Nat)(o:eQ)(tk:df)(r:aJ)(d:List R)(K:df→aJ→List R→Prop):Prop:=
 match o.ff with
 |some q=>ex o.bC tk [base+q] []∧iZ o.bB.op (o.bB.args.map (bc.aI r)) (base+q) d fun v bY=>K ((c,base+q,true)::tk) (put r o.bB.dst v) bY
 |none=>
  match o.bB.op with
  | .call f=>wA P f (o.bB.args.map (bc.aI r)) o.bC tk d fun v bY=>K tk (put r o.bB.dst v) bY
  | .wx=>tH P (o.bB.args.map (bc.aI r)) o.bC tk d fun v bY=>K tk (put r o.bB.dst v) bY
  |op=>ex o.bC tk (jx op (o.bB.args.map (bc.aI r))) (gD op (o.bB.args.map (bc.aI r)))∧
   aI op (o.bB.args.map (bc.aI r)) d fun v bY=>K (if nu op then tk else ix c (gD op (o.bB.args.map (bc.aI r))) tk) (put r o.bB.dst v) bY
def qF (P:Program)(base:Nat)(v:z)(dZ:Bool)(c:Nat)(o:eQ)(tk:df)(r:aJ)(d:List R)(K:df→aJ→List R→Prop):Prop:=
 match v with
 | .bool b=>ss b dZ (gO P base c o tk r d K) (K tk (put r o.bB.dst (.bg [])) d)
 | .bg []=>K tk (put r o.bB.dst (.bg [])) d
 |_=>False
def ny (P:Program)(base:Nat):List (Nat×eQ)→List Nat→(aJ→List R→Prop)→df→aJ→List R→Prop
 | [],aa,K,_,r,d=>K (aa.map fun E=>(E,bn r E)) d
 | (c,o)::ds,aa,K,tk,r,d=>
  match o.bB.guard with
  |none=>gO P base c o tk r d (ny P base ds aa K)
  |some (E,dZ)=>qF P base (bn r E) dZ c o tk r d (ny P base ds aa K)
theorem Vm {P:Program}{base c:Nat}{o:eQ}{tk:df}{r:aJ}{d:List R}{K:df→aJ→List R→Prop}{aF:fs→List R→Prop}(hl:nv o.bB.guard (bn r)=some true)
 (cs: ∀ fe bY,K (ext base c o (bn r) tk) fe bY→aF (bn fe) bY) (G:gO P base c o tk r d K):ry P base o tk (bn r) d aF:=by
 have hargs:o.bB.args.map (bc.kM (bn r))=o.bB.args.map (bc.aI r):=List.map_congr_left fun x _=>ajr r x;unfold gO at G;unfold ry;rw[hargs];cases aQ:o.ff with
 |some q=>
  rw[aQ] at G;have he:ext base c o (bn r) tk=(c,base+q,true)::tk:=by simp[ext,hl,aQ]
  rw[he] at cs;refine⟨G.1,(Jd _ _ _).mono G.2 fun v rs I=> ?_⟩;rw[←Fx];exact cs _ _ I
 |none=>
  rw[aQ] at G;simp only at G ⊢;split
  ·rename_i f dC;rw[dC] at G;simp only at G;have he:ext base c o (bn r) tk=tk:=by simp[ext,hl,aQ,dC,nu]
   rw[he] at cs;obtain⟨ap,bk,srows,g1,bM,dh,gC⟩:=G;refine⟨ap,bk,srows,g1,bM,dh,gC.mono fun v rs I=>⟨I.1,?_⟩⟩;show aF (gv (bn r) o.bB.dst _) _;rw[←Fx];exact cs _ _ I.2
  ·rename_i dC;rw[dC] at G;simp only at G;have he:ext base c o (bn r) tk=tk:=by simp[ext,hl,aQ,dC,nu]
   rw[he] at cs;unfold tH at G ⊢;split at G
   ·rename_i f aj ai ad;obtain⟨hfn,ap,bk,srows,g1,bM,dh,gC⟩:=G;refine⟨hfn,ap,bk,srows,g1,bM,dh,gC.mono fun v rs I=>⟨I.1,?_⟩⟩;show aF (gv (bn r) o.bB.dst _) _;rw[←Fx];exact cs _ _ I.2
   ·exact G.elim
  ·rename_i op dC Cw;have he:ext base c o (bn r) tk=if nu o.bB.op then tk else ix c (gD o.bB.op (o.bB.args.map (bc.aI r))) tk:=by
    simp only[ext,hl,aQ,hargs,Vl,if_true]
   rw[he] at cs;split at G
   ·rename_i f hf;exact absurd hf (dC f)
   ·rename_i hf;exact absurd hf Cw
   refine⟨G.1,(Cv _ _).mono G.2 fun v rs I=> ?_⟩;rw[←Fx];exact cs _ _ I
theorem UU {P:Program}{base:Nat}{ds:List eQ}{aa:List Nat}{K:aJ→List R→Prop}: ∀ (od:List Nat) (tk:df) (r:aJ) (d:List R),
 ny P base (od.map fun c=>(c,ds.getD c default)) aa K tk r d→Ct P base ds od tk (fun ρ d=>K (aa.map fun E=>(E,ρ E)) d) (bn r) d
 | [],tk,r,d,h=>h
 |c::is,tk,r,d,h=>by
  have ih:=UU (P:=P) (base:=base) (ds:=ds) (aa:=aa) (K:=K) is;rw[Ct];simp only[List.map_cons,ny] at h;unfold ic;have skip:nv (ds.getD c default).bB.guard (bn r)=some false→ny P base (is.map fun c=>(c,ds.getD c default)) aa K tk (put r (ds.getD c default).bB.dst (.bg [])) d→
   Ct P base ds is (ext base c (ds.getD c default) (bn r) tk) (fun ρ d=>K (aa.map fun E=>(E,ρ E)) d) (gv (bn r) (ds.getD c default).bB.dst (.bg [])) d:=by
   intro hl I;have he:ext base c (ds.getD c default) (bn r) tk=tk:=by unfold ext;rw[hl];simp
   rw[he,←Fx];exact ih _ _ _ I
  split at h
  ·rename_i ao;have hl:nv (ds.getD c default).bB.guard (bn r)=some true:=by rw[ao];rfl
   rw[hl];exact Vm hl (fun fe bY I=>ih _ _ _ I) h
  ·rename_i E dZ ao;unfold qF at h;split at h
   ·rename_i b Z;have hl:nv (ds.getD c default).bB.guard (bn r)=some (b==dZ):=by rw[ao];simp[nv,Z]
    unfold ss at h;split at h
    ·rename_i mi;have iv:nv (ds.getD c default).bB.guard (bn r)=some true:=by rw[hl];simp[mi]
     rw[iv];exact Vm iv (fun fe bY I=>ih _ _ _ I) h
    ·rename_i mi;have iv:nv (ds.getD c default).bB.guard (bn r)=some false:=by rw[hl];simp[mi]
     rw[iv];exact skip iv h
   ·rename_i Z;have iv:nv (ds.getD c default).bB.guard (bn r)=some false:=by rw[ao];simp[nv,Z]
    rw[iv];exact skip iv h
   ·exact h.elim
structure oU where
 aa:List Nat
 dy:List (List Nat)
 od:List Nat
 deriving Inhabited
def OH (x y:dJ):Bool:=
 (match x.dst with|some o=> !(looks y).contains o|none=>true)&&(match y.dst with|some o=> !(looks x).contains o|none=>true)&&
 (match x.dst,y.dst with|some o,some e=>o != e|_,_=>true)
theorem aoc {x y:dJ}(h:OH x y=true):Jm x y:=by
 simp only[OH,Bool.and_eq_true] at h;refine⟨fun o aq=> ?_,fun o aq=> ?_,fun o aq mh=> ?_⟩
 ·rw[aq] at h;simpa using h.1.1
 ·rw[aq] at h;simpa using h.1.2
 ·rw[aq,mh] at h;simp at h
def CC:fV→Option (TypeId×Nat)
 | .alloc e D=>some (e,D.length)
 | .box e N=>some (e,N)
 | .rx e N _ len _=>if len=0 then none else some (e,N)
 |_=>none
def Jf:fV→Option (TypeId×Nat)
 | .ym e N _ _=>some (e,N)
 |op=>CC op
def Vn (dy:List (List Nat))(n:Nat)(all:List dJ)(j:Nat):List Nat:=
 (List.range n).filter fun c=>c != j&& !((dy.getD j []).contains c)&& !((dy.getD c []).contains j)&& !(CI (all.getD c default) (all.getD j default))
def yp (dD:fV→Option (TypeId×Nat))(dy:List (List Nat))(n:Nat)(all:List dJ):Nat→Nat→List dJ→List eQ
 |_,_,[]=> []
 |j,q,bB::eh=>
  match dD bB.op with
  |some _=>⟨bB,some q,Vn dy n all j⟩::yp dD dy n all (j+1) (q+1) eh
  |none=>⟨bB,none,Vn dy n all j⟩::yp dD dy n all (j+1) q eh
theorem N7 {dD:fV→Option (TypeId×Nat)}{dy:List (List Nat)}{n:Nat}{all:List dJ}: ∀ (eh:List dJ) (j q k:Nat) (bB:dJ),eh[k]? =some bB→((yp dD dy n all j q eh).getD k default).bB=bB
 | [],_,_,_,_,h=>by simp at h
 |x::eh,j,q,k,bB,h=>by
  rw[yp];cases k with
  |zero=>simp at h;subst h;split<;>simp
  |succ k=>
   simp at h;split
   ·simpa using N7 eh (j+1) (q+1) k bB h
   ·simpa using N7 eh (j+1) q k bB h
def Je (bj:Array Oper)(dy:List (List Nat)):Nat→List Oper→Bool
 |_,[]=>true
 |j,L::os=>(dy.getD j []).all (fun c=>L.after.toList.any fun e=>Region.binds .any e&&(e.on==c||(dy.getD e.on []).contains c))&&Je bj dy (j+1) os
theorem UT {bj:Array Oper}{dy:List (List Nat)}: ∀ (os:List Oper) (j:Nat),Je bj dy j os=true→ ∀ k L,os[k]? =some L→ ∀ c∈dy.getD (j+k) [],∃ e∈L.after,Region.binds .any e=true∧(e.on=c∨c∈dy.getD e.on [])
 | [],j,_,k,L,h=>by simp at h
 |x::os,j,Z,k,L,h=>by
  simp only[Je,Bool.and_eq_true] at Z;cases k with
  |zero=>
   simp at h;subst h;intro c an;have:=List.all_eq_true.1 Z.1 c an;obtain⟨e,he,B⟩:=List.any_eq_true.1 this;simp only[Bool.and_eq_true,Bool.or_eq_true,beq_iff_eq,List.contains_iff_mem] at B;exact⟨e,by simpa using he,B.1,B.2⟩
  |succ k=>
   have:=UT os (j+1) Z.2 k L (by simpa using h);rw[show j+(k+1)=j+1+k by omega];exact this
def UP (ds:List eQ)(dy:List (List Nat))(n:Nat):Bool:=
 (List.range n).all fun c=> !(ds.getD c default).oX||(List.range n).all fun j=>
  j==c||(dy.getD j []).contains c||(dy.getD c []).contains j||(((ds.getD j default).bC.contains c||(CI (ds.getD c default).bB (ds.getD j default).bB&&(ds.getD c default).ff.isNone&&(ds.getD j default).ff.isNone))&&OH (ds.getD c default).bB (ds.getD j default).bB)
theorem ajQ {ds:List eQ}{dy:List (List Nat)}{n:Nat}(h:UP ds dy n=true): ∀ c j,c < n→j < n→j≠c→(ds.getD c default).oX=true→Jt ds dy c j:=by
 intro c j an aT hne he;have h1:=List.all_eq_true.1 h c (List.mem_range.2 an);rw[he] at h1;simp only[Bool.not_true,Bool.false_or] at h1;have B:=List.all_eq_true.1 h1 j (List.mem_range.2 aT);simp only[Bool.or_eq_true,beq_iff_eq,hne,false_or,Bool.and_eq_true,List.contains_iff_mem,Option.isNone_iff_eq_none] at B;rcases B with (B|B)|B
 ·exact .inl B
 ·exact .inr (.inl B)
 ·exact .inr (.inr ⟨aoc B.2,B.1.imp (fun h=>h) fun h=>⟨h.1.1,h.1.2,h.2⟩⟩)
end Go.Abs
namespace Go.Abs
variable [dw]
inductive fW where
 |skip
 |region (bj:List dJ) (aa:List Nat)
 |su (bj:List (Nat×eQ)) (ff:List (TypeId×Nat)) (aa:List Nat)
 |seq (a b:fW)
 |cond (F:bc) (a b:fW)
 |block (id:Nat) (F:fW)
 |loop (F:fW)
 |exit (id:Nat)
 |ret
 deriving Inhabited
structure nx where
 n:aJ→List R→Prop
 x:Nat→aJ→List R→Prop
 i:aJ→List R→Prop
def eW (aa:List Nat)(r:aJ):aJ:=aa.map fun E=>(E,bn r E)
def qB (v:z)(A cZ:Prop):Prop:=
 match v with
 | .bool b=>(b=true→A)∧(b=false→cZ)
 |_=>False
def eX (P:Program)(aX:Nat):fW→nx→aJ→List R→Prop
 | .skip,K,r,d=>K.n r d
 | .region bj aa,K,r,d=>yj P bj (fun r d=>K.n (eW aa r) d) r d
 | .su bj ff aa,K,r,d=>ny P d.length bj aa K.n [] r (d++sv ff)
 | .seq a b,K,r,d=>eX P aX a ⟨eX P aX b K,K.x,K.i⟩ r d
 | .cond F a b,K,r,d=>qB (F.aI r) (eX P aX a K r d) (eX P aX b K r d)
 | .block id F,K,r,d=>eX P aX F ⟨K.n,fun j=>if j=id then K.n else K.x j,K.i⟩ r d
 | .loop F,K,r,d=> ∃ (hq:aJ→List R→Prop) (iJ:aJ→List R→Nat),s aX hq r d∧
  ∀ r d,hq r d→eX P aX F ⟨s aX fun fe bY=>hq fe bY∧iJ fe bY < iJ r d,K.x,K.i⟩ r d
 | .exit id,K,r,d=>K.x id r d
 | .ret,K,r,d=>K.i r d
def Cz (P:Program)(n:Nat)(bj:Array Oper):List Oper→Option (List dJ)
 | []=>some []
 |L::os=>
  match NY P n bj L,Cz P n bj os with
  |some x,some ai=>some (x::ai)
  |_,_=>none
theorem N4 {P:Program}{n:Nat}{bj:Array Oper}: ∀ {os:List Oper} {eh:List dJ},Cz P n bj os=some eh→eh.length=os.length∧ ∀ (k:Nat) (L:Oper),os[k]? =some L→ ∃ bB,eh[k]? =some bB∧yk P n bj L bB
 | [],eh,h=>by simp[Cz] at h;subst h;simp
 |L::os,eh,h=>by
  simp only[Cz] at h;split at h
  ·rename_i x ai ad sw;simp at h;subst h;obtain⟨h1,B⟩:=N4 sw;refine⟨by simp[h1],fun k eN I=> ?_⟩;cases k with
   |zero=>simp at I;subst I;exact⟨x,rfl,ajm ad⟩
   |succ k=>simpa using B k eN (by simpa using I)
  ·cases h
def Fz (dD:fV→Option (TypeId×Nat))(P:Program)(f:oU)(bj:Array Oper)(eh:List dJ):Option fW:=
 if P.follows .mixedOrders&&Je bj f.dy 0 bj.toList&&UP (yp dD f.dy bj.size eh 0 0 eh) f.dy bj.size&&CB bj (yp dD f.dy bj.size eh 0 0 eh) (Array.replicate bj.size false) f.od&&decide (f.od.length≤bj.size) then
  some (.su (f.od.map fun c=>(c,(yp dD f.dy bj.size eh 0 0 eh).getD c default)) (eh.filterMap fun bB=>dD bB.op) f.aa)
 else none
def N5 (P:Program)(f:oU)(bj:Array Oper)(eh:List dJ):Option fW:=
 match Fz CC P f bj eh with
 |some F=>some F
 |none=>Fz Jf P f bj eh
theorem UQ {P:Program}{f:oU}{bj:Array Oper}{eh:List dJ}{dq:fW}(h:N5 P f bj eh=some dq): ∃ dD,Fz dD P f bj eh=some dq:=by
 unfold N5 at h;split at h
 ·exact⟨CC,by rw[←h];assumption⟩
 ·exact⟨Jf,h⟩
def gw (P:Program)(n:Nat)(aa:Nat→oU):Code→Option fW
 | .skip=>some .skip
 | .region id bj false=>
  match Cz P n bj bj.toList with
  |some eh=>some (.region eh (aa id).aa)
  |none=>none
 | .region id bj true=>
  match Cz P n bj bj.toList with
  |some eh=>N5 P (aa id) bj eh
  |none=>none
 | .seq a b=>
  match gw P n aa a,gw P n aa b with
  |some x,some y=>some (.seq x y)
  |_,_=>none
 | .cond F a b=>
  match rr F,gw P n aa a,gw P n aa b with
  |some L,some x,some y=>some (.cond L x y)
  |_,_,_=>none
 | .block id F=>
  match gw P n aa F with
  |some x=>some (.block id x)
  |none=>none
 | .loop F=>
  match gw P n aa F with
  |some x=>some (.loop x)
  |none=>none
 | .exit id=>some (.exit id)
 | .ret=>some .ret
 |_=>none
section
variable {P:Program} {n aX:Nat} {fw:bv} [uM fw] {aa:Nat→oU}
def Jg (n aX:Nat)(fw:bv)(K:nx):Exit→Act→World→Prop
 | .normal,a,w=>Holds n aX fw K.n a w
 | .exit id,a,w=>Holds n aX fw (K.x id) a w
 | .ret,a,w=>Holds n aX fw K.i a w
 |_,_,_=>False
theorem UR (aa:List Nat)(r:aJ)(t:Nat):bn (eW aa r) t=bn r t∨bn (eW aa r) t= .cc:=by
 unfold eW
 induction aa with
 |nil=>right;rfl
 |cons E bN ih=>
  simp only[List.map_cons,bn];split
  ·rename_i h;subst h;exact .inl rfl
  ·exact ih
theorem ajO {K:aJ→List R→Prop}{l:List Nat}{a:Act}{w:World}(h:Holds n aX fw (fun r d=>K (eW l r) d) a w):Holds n aX fw K a w:=by
 obtain⟨r,C,rfl,ak,hl,I⟩:=h;refine⟨eW l r,C,rfl,⟨ak.ok,ak.size,ak.defers,fun t=> ?_⟩,hl,I⟩;rcases UR l r t with h|h
 ·rw[h];exact ak.iY t
 ·rw[h];simp[Rep]
theorem FA {K:aJ→List R→Prop}{a:Act}{w:World}(h:Holds n aX fw (s aX K) a w):Holds n aX fw K a w:=by
 obtain⟨r,C,rfl,ak,hl,fe,bY,aR,I⟩:=h;obtain⟨av,h1,B,am,bp⟩:=I0 aR C rfl ak hl;exact⟨fe,av,h1,am,bp,by rw[B];exact I⟩
theorem uU: ∀ (F:Code) (dq:fW),gw P n aa F=some dq→ ∀ (K:nx) (a:Act) (w:World),Holds n aX fw (eX P aX dq K) a w→F.wp P (Jg n aX fw K) a w
 | .skip,dq,V,K,a,w,h=>by
  simp[gw] at V;subst V;exact wp_skip h
 | .region id bj false,dq,V,K,a,w,h=>by
  simp only[gw] at V;split at V
  ·rename_i eh N6;simp at V;subst V;obtain⟨h1,B⟩:=N4 N6;refine wp_region (UM (K:=fun r d=>K.n (eW (aa id).aa r) d) (fun a w h=>ajO h) _ eh (by simp[h1]) (fun k I=> ?_) a w h);simp at I;obtain⟨bB,g1,bM⟩:=B k bj[k] (by simp[I]);exact⟨bj[k],bB,by simp[I],g1,bM⟩
  ·cases V
 | .region id bj true,dq,V,K,a,w,h=>by
  simp only[gw] at V;split at V
  ·rename_i eh N6;obtain⟨dD,V⟩:=UQ V;unfold Fz at V;split at V
   ·rename_i US;simp at V;subst V;simp only[Bool.and_eq_true,decide_eq_true_eq] at US;obtain⟨⟨⟨⟨c1,c2⟩,c3⟩,c4⟩,c5⟩:=US;obtain⟨h1,B⟩:=N4 N6;obtain⟨r,C,rfl,ak,hl,I⟩:=h;refine ajP (n:=n) (aX:=aX) (fw:=fw) (dy:=(aa id).dy) (od:=(aa id).od) (ds:=yp dD (aa id).dy bj.size eh 0 0 eh) (ff:=eh.filterMap fun bB=>dD bB.op)
     (K:=fun ρ d=>K.n ((aa id).aa.map fun E=>(E,ρ E)) d) c1 (fun c L bi=> ?_) (fun j L bi c an=> ?_) (ajQ c3) c4 c5 (fun a w hh=> ?_) ⟨bn r,C,rfl,⟨ak.ok,ak.size,ak.defers,ak.iY⟩,hl,?_⟩
    ·obtain⟨bB,g1,bM⟩:=B c L (by simpa using bi);rw[N7 eh 0 0 c bB g1];exact bM
    ·have:=UT bj.toList 0 c2 j L (by simpa using bi) c (by simpa using an);exact this
    ·obtain⟨ρ,av,g1,bM,dh,gC⟩:=hh;refine⟨_,av,g1,⟨bM.ok,bM.size,bM.defers,fun t=> ?_⟩,dh,gC⟩;have fd: ∀ l:List Nat,bn (l.map fun E=>(E,ρ E)) t=ρ t∨bn (l.map fun E=>(E,ρ E)) t= .cc:=by
      intro l
      induction l with
      |nil=>right;rfl
      |cons E bN ih=>
       simp only[List.map_cons,bn];split
       ·rename_i he;subst he;exact .inl rfl
       ·exact ih
     rcases fd (aa id).aa with h|h
     ·rw[h];exact bM.iY t
     ·rw[h];simp[Rep]
    ·exact UU _ [] r _ I
   ·cases V
  ·cases V
 | .seq x y,dq,V,K,a,w,h=>by
  simp only[gw] at V;split at V
  ·rename_i iU wE ad bl;simp at V;subst V;refine wp_seq (wp_mono (uU x iU ad ⟨eX P aX wE K,K.x,K.i⟩ a w h) ?_);intro e kL w' aQ;cases e with
   |normal=>exact uU y wE bl K kL w' aQ
   |exit id=>exact aQ
   |ret=>exact aQ
   |goto l=>exact aQ
   |panic cK=>exact aQ
   |outgrown=>exact aQ
  ·cases V
 | .cond F x y,dq,V,K,a,w,h=>by
  simp only[gw] at V;split at V
  ·rename_i L iU wE bi ad bl;simp at V;subst V;obtain⟨r,C,rfl,ak,hl,I⟩:=h;have G:=NZ ak bi;simp only[eX,qB] at I;split at I
   ·rename_i b Z;rw[Z,Rep] at G;refine wp_cond G ?_;cases b with
    |true=>exact uU x iU ad K a C.w ⟨r,C,rfl,ak,hl,I.1 rfl⟩
    |false=>exact uU y wE bl K a C.w ⟨r,C,rfl,ak,hl,I.2 rfl⟩
   ·exact I.elim
  ·cases V
 | .block id x,dq,V,K,a,w,h=>by
  simp only[gw] at V;split at V
  ·rename_i iU ad;simp at V;subst V;refine wp_block (wp_mono (uU x iU ad _ a w h) ?_);intro e kL w' aQ;cases e with
   |normal=>exact aQ
   |exit j=>
    simp only[Exit.inBlock];simp only[Jg] at aQ;split
    ·rename_i aT;rw[if_pos aT] at aQ;exact aQ
    ·rename_i aT;rw[if_neg aT] at aQ;exact aQ
   |ret=>exact aQ
   |goto l=>exact aQ
   |panic cK=>exact aQ
   |outgrown=>exact aQ
  ·cases V
 | .loop x,dq,V,K,a,w,h=>by
  simp only[gw] at V;split at V
  ·rename_i iU ad;simp at V;subst V;obtain⟨r,C,rfl,ak,hl,hq,iJ,h0,N8⟩:=h;obtain⟨FB,Ax,cW,kN,jv,uV⟩:=FA ⟨r,C,rfl,ak,hl,h0⟩;rw[←cW];refine wp_loop_ghost (fun m a w=>Holds n aX fw (fun r d=>hq r d∧iJ r d=m) a w) (iJ FB Ax.d) ⟨FB,Ax,rfl,kN,jv,uV,rfl⟩ ?_;rintro m kL w' ⟨FC,wv,rfl,uW,kO,AE,rfl⟩;refine wp_mono (uU x iU ad _ kL wv.w ⟨FC,wv,rfl,uW,kO,N8 FC wv.d AE⟩) ?_;intro e a3 oV aQ;cases e with
   |normal=>
    obtain⟨FD,FE,rfl,uX,rz,N9,aC⟩:=FA aQ;exact⟨iJ FD FE.d,aC,FD,FE,rfl,uX,rz,N9,rfl⟩
   |exit j=>exact aQ
   |ret=>exact aQ
   |goto l=>exact aQ
   |panic cK=>exact aQ
   |outgrown=>exact aQ
  ·cases V
 | .exit id,dq,V,K,a,w,h=>by
  simp[gw] at V;subst V;exact wp_exit h
 | .ret,dq,V,K,a,w,h=>by
  simp[gw] at V;subst V;exact wp_ret h
 | .rangeFunc ..,dq,V,K,a,w,h=>by simp[gw] at V
 | .scope ..,dq,V,K,a,w,h=>by simp[gw] at V
 | .label ..,dq,V,K,a,w,h=>by simp[gw] at V
 | .goto ..,dq,V,K,a,w,h=>by simp[gw] at V
 | .refuse ..,dq,V,K,a,w,h=>by simp[gw] at V
end
inductive tJ where
 |tmp (t:Nat)
 |FF (t:Nat)
 |tK (t n:Nat)
 deriving Inhabited
def mj (d:List R)(r:aJ):List tJ→(List z→Prop)→Prop
 | [],K=>K []
 | .tmp t::rs,K=>mj d r rs fun vs=>K (bn r t::vs)
 | .FF t::rs,K=>pL d (bn r t) fun v=>mj d r rs fun vs=>K (v::vs)
 | .tK t n::rs,K=>oc d n (bn r t) fun v=>mj d r rs fun vs=>K (v::vs)
def lE:List z→z
 | [v]=>v
 |vs=> .bg vs
structure aH where
 ntmps:Nat
 results:List tJ
 body:fW
 deriving Inhabited
def yq (P:Program):List ResultVar→Option (List tJ)
 | []=>some []
 | .tmp t::rs=>
  match yq P rs with
  |some ai=>some (.tmp t::ai)
  |none=>none
 | .cell a t::rs=>
  match gW P t,hN P t,yq P rs with
  |some true,some n,some ai=>some (.tK a n::ai)
  |some false,_,some ai=>some (.FF a::ai)
  |_,_,_=>none
def wF (P:Program)(aa:Nat→oU)(fn:Func):Option aH:=
 match fn.body with
 |some F=>
  match gw P fn.ntmps aa F,yq P fn.results.toList with
  |some dq,some rs=>some ⟨fn.ntmps,rs,dq⟩
  |_,_=>none
 |none=>none
def qC:List z→Nat→aJ
 | [],_=> []
 |a::as,k=>(k,a)::qC as (k+1)
def UW (P:Program)(aA:aH)(args:List z)(d:List R)(br:z→List R→Prop):Prop:=
 let K:aJ→List R→Prop:=fun r rs=>mj rs r aA.results fun vs=>s d.length (fun fe gX=>br (bn fe 0) gX) [(0,lE vs)] rs
 eX P d.length aA.body ⟨K,fun _ _ _=>False,K⟩ (qC args 0) d
theorem Oa {C:bv}: ∀ (as:List z) (vs:List Value) (k t:Nat),ay C as vs→k≤t→Rep C (bn (qC as k) t) (vs.getD (t-k) undef)
 | [],vs,k,t,_,_=>by simp[qC,bn,Rep]
 |a::as,vs,k,t,h,I=>by
  rw[ay] at h;obtain⟨v,bW,rfl,h1,B⟩:=h;simp only[qC,bn];split
  ·rename_i UX;subst UX;simpa using h1
  ·rename_i UX;have:=Oa as bW (k+1) t B (by omega);rw[show t-k=(t-(k+1))+1 from by omega];simpa using this
def AF (tmps:Array Value):ResultVar→Sem Value
 | .tmp t=>pure (tmps.getD t undef)
 | .cell a t=>do loadVar t (←asAddr (tmps.getD a undef))
theorem UY (fn:Func)(tmps:Array Value):results fn tmps=(do let vs ←fn.results.mapM (AF tmps);pure (if h:vs.size=1 then vs[0] else .tuple vs)):=rfl
theorem FG {P:Program}{n:Nat}{r:aJ}{C:bv}{a:Act}(ak:sr n r C a): ∀ (rs:List ResultVar) (ai:List tJ) (K:List z→Prop),yq P rs=some ai→mj C.d r ai K→
 ∃ vs as,(rs.mapM (m:=Sem) (AF a.tmps)).run P C.w= .ok vs C.w∧ay C as vs∧K as
 | [],ai,K,V,h=>by
  simp[yq] at V;subst V;exact⟨[],[],by simp,by simp[ay],h⟩
 | .tmp t::rs,ai,K,V,h=>by
  simp only[yq] at V;split at V
  ·rename_i ys bl;simp at V;subst V;obtain⟨vs,as,h1,B,am⟩:=FG ak rs ys _ bl h;exact⟨a.tmps.getD t undef::vs,bn r t::as,by simp only[List.mapM_cons,AF,Sem.run_bind,Sem.run_pure,Result.andThen_ok,h1],by rw[ay];exact⟨_,vs,rfl,ak.iY t,B⟩,am⟩
  ·cases V
 | .cell x t::rs,ai,K,V,h=>by
  have UZ: ∀ {y:z} {v:Value},Rep C y v→((∃ i n c L,y= .aW i n c L)∨ ∃ F L,y= .eb F L)→ ∃ dB,v= .pointer (some dB):=by
   rintro y v G (⟨i,n,c,L,rfl⟩|⟨F,L,rfl⟩)
   ·rw[Rep] at G;exact G.2.1
   ·rw[Rep] at G;obtain⟨b,L,e,_⟩:=G;exact⟨_,e⟩
  have shape: ∀ {aF:z→Prop},(pL C.d (bn r x) aF∨ ∃ m,oc C.d m (bn r x) aF)→((∃ i n c L,bn r x= .aW i n c L)∨ ∃ F L,bn r x= .eb F L):=by
   intro aF I;cases ao:bn r x<;>rw[ao] at I<;>simp[pL,oc] at I<;>simp
  simp only[yq] at V;split at V
  ·rename_i m ys fJ dt bl;simp at V;subst V;simp only[mj] at h;obtain⟨dB,CD⟩:=UZ (ak.iY x) (shape (.inr ⟨_,h⟩));obtain⟨aV,v,r1,cO,fN⟩:=Ue (P:=P) (K:=fun v _=>mj C.d r ys fun vs=>K (v::vs)) ak.ok (ak.iY x) fJ dt h;obtain⟨vs,as,h1,B,am⟩:=FG ak rs ys _ bl fN;rw[CD] at r1;simp only[Instr.loadAt,Instr.sureAddr,Sem.run_bind,Sem.run_pure,Result.andThen_ok] at r1;have ce: (asAddr (a.tmps.getD x undef)).run P C.w= .ok dB C.w:=by rw[CD];rfl
   exact⟨aV::vs,v::as,by simp only[List.mapM_cons,AF,Sem.run_bind,Sem.run_pure,Result.andThen_ok,ce,r1,h1],by rw[ay];exact⟨_,vs,rfl,cO,B⟩,am⟩
  ·rename_i m ys fJ bl;simp at V;subst V;simp only[mj] at h;obtain⟨dB,CD⟩:=UZ (ak.iY x) (shape (.inl h));obtain⟨aV,v,r1,cO,fN⟩:=Uf (P:=P) (K:=fun v _=>mj C.d r ys fun vs=>K (v::vs)) ak.ok (ak.iY x) fJ h;obtain⟨vs,as,h1,B,am⟩:=FG ak rs ys _ bl fN;rw[CD] at r1;simp only[Instr.loadAt,Instr.sureAddr,Sem.run_bind,Sem.run_pure,Result.andThen_ok] at r1;have ce: (asAddr (a.tmps.getD x undef)).run P C.w= .ok dB C.w:=by rw[CD];rfl
   exact⟨aV::vs,v::as,by simp only[List.mapM_cons,AF,Sem.run_bind,Sem.run_pure,Result.andThen_ok,ce,r1,h1],by rw[ay];exact⟨_,vs,rfl,cO,B⟩,am⟩
  ·cases V
theorem ajR {P:Program}{f:FuncId}{fn:Func}{aa:Nat→oU}{aA:aH}(hf:P.funcs[f]? =some fn)(V:wF P aa fn=some aA){args:List z}{d:List R}{br:z→List R→Prop}
 (aB:args.length≤aA.ntmps) (h:UW P aA args d br):aK P f args d br:=by
 intro C du G ar hG dk
 haveI:uM C:=⟨hG⟩
 subst G;unfold wF at V;split at V
 ·rename_i F Z;split at V
  ·rename_i dq rs sx wG;simp at V;subst V;have cB:=dk.length;have dt: (du.toArray++Array.replicate (fn.ntmps-du.toArray.size) undef).size=fn.ntmps:=by
    have FH:args.length≤fn.ntmps:=aB;simp;omega
   refine calls_of_wp hf Z (wp_mono (uU (fw:=C) F dq sx _ _ C.w ⟨_,C,rfl,⟨ar,dt,rfl,fun t=> ?_⟩,cd.refl C,h⟩) ?_)
   ·have:=Oa args du 0 t dk (Nat.zero_le _);rw[Nat.sub_zero] at this;have e: (du.toArray++Array.replicate (fn.ntmps-du.toArray.size) undef).getD t undef=du.getD t undef:=by
     simp only[Array.getD_eq_getD_getElem?,Array.getElem?_append,List.size_toArray,List.getElem?_toArray,List.getD_eq_getElem?_getD];split
     ·rfl
     ·rename_i aC;rw[List.getElem?_eq_none (by omega)];simp only[Array.getElem?_replicate];split<;>rfl
    rw[e];exact this
   ·intro e kL w' aQ;have bb:Holds fn.ntmps C.d.length C (fun r gX=>mj gX r rs fun vs=>s C.d.length (fun fe gX=>br (bn fe 0) gX) [(0,lE vs)] gX) kL w'→
     kL.defers= []∧ ∃ v,(results fn kL.tmps).run P w'= .ok v w'∧ ∃ aV gq av,Ending.returned v= .returned aV∧av.w=w'∧Rep av gq aV∧cb av∧cd C.d.length C av∧br gq av.d:=by
     rintro⟨r,ax,rfl,ak,hl,I⟩;refine⟨ak.defers,?_⟩;obtain⟨vs,as,h1,B,am⟩:=FG ak fn.results.toList rs _ wG I;have hval: ∃ aV,(results fn kL.tmps).run P ax.w= .ok aV ax.w∧Rep ax (lE as) aV:=by
      have hm: (fn.results.mapM (m:=Sem) (AF kL.tmps)).run P ax.w= .ok vs.toArray ax.w:=by
       rw[Array.mapM_eq_mapM_toList];simp only[Sem.run_map,h1,Result.andThen_ok]
      rw[UY];simp only[Sem.run_bind,hm,Result.andThen_ok,Sem.run_pure];refine⟨_,rfl,?_⟩;cases as with
      |nil=>
       have jJ:vs= []:=by rw[ay] at B;exact B
       subst jJ;simp only[lE];rw[Rep];exact⟨#[],by simp,by simp[ay]⟩
      |cons x ai=>
       cases ai with
       |nil=>
        rw[ay] at B;obtain⟨v,bW,rfl,bp,cn⟩:=B;rw[ay] at cn;subst cn;simpa[lE] using bp
       |cons y ys=>
        have kO:=B.length;simp only[lE];rw[Rep];refine⟨vs.toArray,?_,by simpa using B⟩;rw[dif_neg (by simp at kO ⊢;omega)]
     obtain⟨aV,r1,cO⟩:=hval;refine⟨aV,r1,?_⟩;obtain⟨fe,bY,aR,AG⟩:=am;have FI:sr 1 [(0,lE as)] ax ⟨#[aV],[]⟩:=by
      refine⟨ak.ok,rfl,rfl,fun t=> ?_⟩;simp only[bn];split
      ·rename_i ht;subst ht;simpa using cO
      ·simp[Rep]
     obtain⟨AH,d1,kd,uY,yr⟩:=I0 aR ax rfl FI hl;refine⟨aV,bn fe 0,AH,rfl,d1,?_,uY.ok,yr,by rw[kd];exact AG⟩;simpa using uY.iY 0
    cases e with
    |normal=>exact bb aQ
    |ret=>exact bb aQ
    |exit id=>obtain⟨_,_,_,_,_,I⟩:=aQ;exact I.elim
    |goto l=>exact aQ.elim
    |panic cK=>exact aQ.elim
    |outgrown=>exact aQ.elim
  ·cases V
 ·cases V
def ei (l:List (Nat×oU))(id:Nat):oU:=
 match l with
 | []=>default
 | (c,x)::i=>if c=id then x else ei i id
end Go.Abs
namespace Go.Abs
variable [dw]
def AI (P:Program)(bj:List dJ)(aa:List Nat)(K:aJ→List R→Prop)(r:aJ)(d:List R):Prop:=
 yj P bj (fun r d=>K (eW aa r) d) r d
def AJ (P:Program)(aX:Nat)(v:z)(a b:fW)(K:nx)(r:aJ)(d:List R):Prop:=qB v (eX P aX a K r d) (eX P aX b K r d)
def wH (P:Program)(v:z)(dZ:Bool)(L:dJ)(r:aJ)(d:List R)(K:aJ→List R→Prop):Prop:=
 match v with
 | .bool b=>ss b dZ (eV P L r d K) (K (put r L.dst (.bg [])) d)
 | .bg []=>K (put r L.dst (.bg [])) d
 |_=>False
def bx (op:fV)(args:List z)(d:List R)(dst:Option Nat)(r:aJ)(K:aJ→List R→Prop):Prop:=aI op args d fun v bY=>K (put r dst v) bY
def tL (P:Program)(f:FuncId)(args:List z)(d:List R)(dst:Option Nat)(r:aJ)(K:aJ→List R→Prop):Prop:=tG P f args d fun v bY=>K (put r dst v) bY
def Ob (bz:Option R)(N:Nat)(D:List z)(i n off len:Nat)(d:List R)(dst:Option Nat)(r:aJ)(K:aJ→List R→Prop):Prop:=
 match bz with
 |some (.aa e bt ah)=>bt=N∧n=ah.length∧off+len≤n∧K (put r dst (.bg [])) (d.set i (.aa e N (jZ ah off (List.replicate len D))))
 |_=>False
def aH0 (bz:Option R)(ys:Option (List (List z)))(N i n off len:Nat)(d:List R)(dst:Option Nat)(r:aJ)(K:aJ→List R→Prop):Prop:=
 match ys,bz with
 |some ys,some (.aa e bt ah)=>bt=N∧n=ah.length∧off+len≤n∧K (put r dst (.int .i64 ((min ys.length len:Nat):Int))) (d.set i (.aa e N (jZ ah off (ys.take (min ys.length len)))))
 |_,_=>False
def Jh (bz:Option R)(ok aE:Bool)(M:List cN)(D k:z)(d:List R)(dst:Option Nat)(r:aJ)(K:aJ→List R→Prop):Prop:=
 match bz with
 |some (.aY (.map gt fM ents))=>(gt=aE∧fM=M)∧fT aE M k∧K (put r dst (if ok then .bg [(dd k ents).getD D,.bool (dd k ents).isSome] else (dd k ents).getD D)) d
 |_=>False
def Oc (bz:Option R)(i:Nat)(aE:Bool)(M:List cN)(k v:z)(d:List R)(dst:Option Nat)(r:aJ)(K:aJ→List R→Prop):Prop:=
 match bz with
 |some (.aY (.map gt fM ents))=>(gt=aE∧fM=M)∧fT aE M k∧K (put r dst (.bg [])) (d.set i (.aY (.map aE M (dp k v ents))))
 |_=>False
def Od (bz:Option R)(i:Nat)(aE:Bool)(M:List cN)(D k:z)(d:List R)(dst:Option Nat)(r:aJ)(K:aJ→List R→Prop):Prop:=
 match bz with
 |some (.aY (.map gt fM ents))=>(gt=aE∧fM=M)∧(fT aE M k∧yt aE M ents)∧
  K (put r dst (.bg [(dd k ents).getD D,.int .i64 ((gr k ents).getD ents.length)])) (d.set i (.aY (.map aE M (dp k ((dd k ents).getD D) ents))))
 |_=>False
def Oe (bz:Option R)(i:Nat)(n:Int)(v:z)(d:List R)(dst:Option Nat)(r:aJ)(K:aJ→List R→Prop):Prop:=
 match bz with
 |some (.aY (.map aE M ents))=>0≤n∧n < ents.length∧K (put r dst (.bg [])) (d.set i (.aY (.map aE M (ents.set n.toNat ((ents.getD n.toNat (.cc,.cc)).1,v)))))
 |_=>False
def Of (bz:Option R)(m:Nat)(d:List R)(dst:Option Nat)(r:aJ)(K:aJ→List R→Prop):Prop:=
 match bz with
 |some (.aY (.map _ _ ents))=>K (put r dst (.fG d.length m)) (d++ [.aY (.dY ents.length [])])
 |_=>False
def Ji (bz ajS:Option R)(d:List R)(dst:Option Nat)(r:aJ)(K:aJ→List R→Prop):Prop:=
 match bz,ajS with
 |some (.aY (.dY n bR)),some (.aY (.map _ _ ents))=>n=ents.length∧0 < bR.length∧bR.getLastD 0 < n∧
  K (put r dst (.bg [(ents.getD (bR.getLastD 0) (.cc,.cc)).1,(ents.getD (bR.getLastD 0) (.cc,.cc)).2])) d
 |_,_=>False
def Og (x:z)(d:List R)(dst:Option Nat)(r:aJ)(K:aJ→List R→Prop):Prop:=rk d x fun v bY=>K (put r dst v) bY
def FJ (id:Nat)(K:nx)(j:Nat)(r:aJ)(d:List R):Prop:=if j=id then K.n r d else K.x j r d
section
variable {P:Program} {aX:Nat} {K:nx} {r:aJ} {d:List R}
theorem ajT:eX P aX .skip K r d=K.n r d:=_root_.id rfl
theorem ajU {bj:List dJ}{aa:List Nat}:eX P aX (.region bj aa) K r d=AI P bj aa K.n r d:=_root_.id rfl
theorem ajV {a b:fW}:eX P aX (.seq a b) K r d=eX P aX a ⟨eX P aX b K,K.x,K.i⟩ r d:=_root_.id rfl
theorem ajW {F:bc}{a b:fW}:eX P aX (.cond F a b) K r d=AJ P aX (F.aI r) a b K r d:=_root_.id rfl
theorem ajX {id:Nat}{F:fW}:eX P aX (.block id F) K r d=eX P aX F ⟨K.n,FJ id K,K.i⟩ r d:=by
 rw[eX];congr 1;congr 1;funext j r d;unfold FJ;split<;>rfl
theorem ajY {id:Nat}:eX P aX (.exit id) K r d=K.x id r d:=_root_.id rfl
theorem ajZ:eX P aX .ret K r d=K.i r d:=_root_.id rfl
theorem dR {F:fW}(hq:aJ→List R→Prop)(iJ:aJ→List R→Nat)(h0:s aX hq r d)
 (h: ∀ r d,hq r d→eX P aX F ⟨s aX fun fe bY=>hq fe bY∧iJ fe bY < iJ r d,K.x,K.i⟩ r d):eX P aX (.loop F) K r d:=⟨hq,iJ,h0,h⟩
theorem aka {id j:Nat}:FJ id K j r d=if j=id then K.n r d else K.x j r d:=_root_.id rfl
theorem akb {a b:fW}:AJ P aX (.bool true) a b K r d=eX P aX a K r d:=by simp[AJ,qB]
theorem akc {a b:fW}:AJ P aX (.bool false) a b K r d=eX P aX b K r d:=by simp[AJ,qB]
theorem cg {b:Bool}{x y:fW}(h1:b=true→eX P aX x K r d)(B:b=false→eX P aX y K r d):AJ P aX (.bool b) x y K r d:=⟨h1,B⟩
end
section
variable {P:Program} {aa:List Nat} {K:aJ→List R→Prop} {r:aJ} {d:List R}
theorem akd:AI P [] aa K r d=K (eW aa r) d:=_root_.id rfl
theorem ake {o:Option Nat}{op:fV}{args:List bc}{os:List dJ}:AI P (⟨o,op,args,none⟩::os) aa K r d=eV P ⟨o,op,args,none⟩ r d (AI P os aa K):=_root_.id rfl
theorem akf {o:Option Nat}{op:fV}{args:List bc}{E:Nat}{dZ:Bool}{os:List dJ}:
 AI P (⟨o,op,args,some (E,dZ)⟩::os) aa K r d=wH P (bn r E) dZ ⟨o,op,args,some (E,dZ)⟩ r d (AI P os aa K):=_root_.id rfl
theorem akg {L:dJ}:wH P (.bool true) true L r d K=eV P L r d K:=_root_.id rfl
theorem akh {L:dJ}:wH P (.bool false) false L r d K=eV P L r d K:=_root_.id rfl
theorem aki {L:dJ}:wH P (.bool true) false L r d K=K (put r L.dst (.bg [])) d:=_root_.id rfl
theorem akj {L:dJ}:wH P (.bool false) true L r d K=K (put r L.dst (.bg [])) d:=_root_.id rfl
theorem akk {L:dJ}{dZ:Bool}:wH P (.bg []) dZ L r d K=K (put r L.dst (.bg [])) d:=_root_.id rfl
theorem gF {b dZ:Bool}{L:dJ}(h1:b=true→wH P (.bool true) dZ L r d K)(B:b=false→wH P (.bool false) dZ L r d K):wH P (.bool b) dZ L r d K:=by
 cases b
 ·exact B rfl
 ·exact h1 rfl
theorem akl {o:Option Nat}{f:FuncId}{args:List bc}{g:Option (Nat×Bool)}:eV P ⟨o,.call f,args,g⟩ r d K=tL P f (args.map (bc.aI r)) d o r K:=_root_.id rfl
end
section
variable {P:Program} {K:aJ→List R→Prop} {r:aJ} {d:List R} {o:Option Nat} {args:List bc} {g:Option (Nat×Bool)}
theorem akm {N neg}:eV P ⟨o,.yl N neg,args,g⟩ r d K=bx (.yl N neg) (args.map (bc.aI r)) d o r K:=_root_.id rfl
theorem akn:eV P ⟨o,.cap,args,g⟩ r d K=bx .cap (args.map (bc.aI r)) d o r K:=_root_.id rfl
theorem ako {n D}:eV P ⟨o,.clear n D,args,g⟩ r d K=bx (.clear n D) (args.map (bc.aI r)) d o r K:=_root_.id rfl
theorem akp {e n b D}:eV P ⟨o,.AD e n b D,args,g⟩ r d K=bx (.AD e n b D) (args.map (bc.aI r)) d o r K:=_root_.id rfl
theorem akq:eV P ⟨o,.pK,args,g⟩ r d K=bx .pK (args.map (bc.aI r)) d o r K:=_root_.id rfl
theorem akr:eV P ⟨o,.pick,args,g⟩ r d K=bx .pick (args.map (bc.aI r)) d o r K:=_root_.id rfl
theorem aks {e D}:eV P ⟨o,.alloc e D,args,g⟩ r d K=bx (.alloc e D) (args.map (bc.aI r)) d o r K:=_root_.id rfl
theorem akt {e D}:eV P ⟨o,.box e D,args,g⟩ r d K=bx (.box e D) (args.map (bc.aI r)) d o r K:=_root_.id rfl
theorem aku {D p}:eV P ⟨o,.build D p,args,g⟩ r d K=bx (.build D p) (args.map (bc.aI r)) d o r K:=_root_.id rfl
theorem akv {e N D l c}:eV P ⟨o,.rx e N D l c,args,g⟩ r d K=bx (.rx e N D l c) (args.map (bc.aI r)) d o r K:=_root_.id rfl
theorem akw:eV P ⟨o,.CE,args,g⟩ r d K=bx .CE (args.map (bc.aI r)) d o r K:=_root_.id rfl
theorem akx:eV P ⟨o,.oS,args,g⟩ r d K=bx .oS (args.map (bc.aI r)) d o r K:=_root_.id rfl
theorem aky {n}:eV P ⟨o,.oT n,args,g⟩ r d K=bx (.oT n) (args.map (bc.aI r)) d o r K:=_root_.id rfl
theorem akz {n}:eV P ⟨o,.store n,args,g⟩ r d K=bx (.store n) (args.map (bc.aI r)) d o r K:=_root_.id rfl
theorem akA:eV P ⟨o,.sy,args,g⟩ r d K=bx .sy (args.map (bc.aI r)) d o r K:=_root_.id rfl
theorem akB {op}:eV P ⟨o,.jc op,args,g⟩ r d K=bx (.jc op) (args.map (bc.aI r)) d o r K:=_root_.id rfl
theorem akC {n M}:eV P ⟨o,.qA n M,args,g⟩ r d K=bx (.qA n M) (args.map (bc.aI r)) d o r K:=_root_.id rfl
theorem akD:eV P ⟨o,.not,args,g⟩ r d K=bx .not (args.map (bc.aI r)) d o r K:=_root_.id rfl
theorem akE:eV P ⟨o,.neg,args,g⟩ r d K=bx .neg (args.map (bc.aI r)) d o r K:=_root_.id rfl
theorem akF {n}:eV P ⟨o,.fieldAddr n,args,g⟩ r d K=bx (.fieldAddr n) (args.map (bc.aI r)) d o r K:=_root_.id rfl
theorem akG {n}:eV P ⟨o,.indexAddr n,args,g⟩ r d K=bx (.indexAddr n) (args.map (bc.aI r)) d o r K:=_root_.id rfl
theorem akH:eV P ⟨o,.index,args,g⟩ r d K=bx .index (args.map (bc.aI r)) d o r K:=_root_.id rfl
theorem akI {a b n}:eV P ⟨o,.slice a b n,args,g⟩ r d K=bx (.slice a b n) (args.map (bc.aI r)) d o r K:=_root_.id rfl
theorem akJ:eV P ⟨o,.len,args,g⟩ r d K=bx .len (args.map (bc.aI r)) d o r K:=_root_.id rfl
theorem akK:eV P ⟨o,.CF,args,g⟩ r d K=bx .CF (args.map (bc.aI r)) d o r K:=_root_.id rfl
theorem akL {e N b}:eV P ⟨o,.append e N b,args,g⟩ r d K=bx (.append e N b) (args.map (bc.aI r)) d o r K:=_root_.id rfl
theorem akM {c}:eV P ⟨o,.extract c,args,g⟩ r d K=bx (.extract c) (args.map (bc.aI r)) d o r K:=_root_.id rfl
theorem akN {m}:eV P ⟨o,.yu m,args,g⟩ r d K=bx (.yu m) (args.map (bc.aI r)) d o r K:=_root_.id rfl
theorem akO {l N}:eV P ⟨o,.uZ l N,args,g⟩ r d K=bx (.uZ l N) (args.map (bc.aI r)) d o r K:=_root_.id rfl
theorem akP {aE M}:eV P ⟨o,.yn aE M,args,g⟩ r d K=bx (.yn aE M) (args.map (bc.aI r)) d o r K:=_root_.id rfl
theorem akQ {ok aE M D}:eV P ⟨o,.ib ok aE M D,args,g⟩ r d K=bx (.ib ok aE M D) (args.map (bc.aI r)) d o r K:=_root_.id rfl
theorem akR {aE M}:eV P ⟨o,.oR aE M,args,g⟩ r d K=bx (.oR aE M) (args.map (bc.aI r)) d o r K:=_root_.id rfl
theorem akS:eV P ⟨o,.dY,args,g⟩ r d K=bx .dY (args.map (bc.aI r)) d o r K:=_root_.id rfl
theorem akT:eV P ⟨o,.entry,args,g⟩ r d K=bx .entry (args.map (bc.aI r)) d o r K:=_root_.id rfl
theorem akU {x:bc}:eV P ⟨o,.next,[x],g⟩ r d K=Og (x.aI r) d o r K:=_root_.id rfl
end
def ep (k:IntKind)(a b:Int):Int:=k.wrap (BitVec.ofInt k.bits a&&& BitVec.ofInt k.bits b).toNat
def Jj (k:IntKind)(a b:Int):Int:=k.wrap (BitVec.ofInt k.bits a|||BitVec.ofInt k.bits b).toNat
def akV (k:IntKind)(a b:Int):Int:=k.wrap (BitVec.ofInt k.bits a ^^^ BitVec.ofInt k.bits b).toNat
def Oh (k:IntKind)(a:Int)(n:Nat):Int:=k.wrap (a*2^(min n k.bits))
def Jk (k:IntKind)(a:Int)(n:Nat):Int:=a.fdiv (2^(min n k.bits))
def Oi (i:Option R)(n c off:Nat)(d:List R)(dst:Option Nat)(r:aJ)(K:aJ→List R→Prop):Prop:=
 match i with
 |some (.aa _ N ah)=>n=ah.length∧off < N∧K (put r dst ((ah.getD c []).getD off .cc)) d
 |_=>False
def Oj (i:Option R)(m n c off:Nat)(d:List R)(dst:Option Nat)(r:aJ)(K:aJ→List R→Prop):Prop:=
 match i with
 |some (.aa _ N ah)=>n=ah.length∧off+m≤N∧K (put r dst (.agg (((ah.getD c []).drop off).take m))) d
 |_=>False
def Ol (bz:Option R)(m i n c off:Nat)(cells:List z)(d:List R)(dst:Option Nat)(r:aJ)(K:aJ→List R→Prop):Prop:=
 match bz with
 |some (.aa e N ah)=>n=ah.length∧off+m≤N∧cells.length=m∧cells.all cM=true∧K (put r dst (.bg [])) (d.set i (.aa e N (ah.set c (eO (ah.getD c []) off cells))))
 |_=>False
def Om (bz:Option R)(N i n off len:Nat)(c:Int)(d:List R)(dst:Option Nat)(r:aJ)(K:aJ→List R→Prop):Prop:=
 match bz with
 |some (.aa _ bt ah)=>bt=N∧n=ah.length∧0≤c∧c < len∧K (put r dst (.aW i n (off+c.toNat) 0)) d
 |_=>False
def FK (bz:Option R)(N i n off:Nat)(len:Nat)(a b:Int)(d:List R)(dst:Option Nat)(r:aJ)(K:aJ→List R→Prop):Prop:=
 match bz with
 |some (.aa _ bt ah)=>0≤a∧a≤b∧b≤len∧bt=N∧n=ah.length∧K (put r dst (.own i n (off+a.toNat) (b.toNat-a.toNat))) d
 |_=>False
def On (bz:Option R)(ys:Option (List (List z)))(e:TypeId)(N bytes i n off len:Nat)(d:List R)(dst:Option Nat)(r:aJ)(K:aJ→List R→Prop):Prop:=
 match ys,bz with
 |some ys,some (.aa cA bt ah)=>cA=e∧bt=N∧n=ah.length∧off=0∧len=n∧(n+ys.length)*bytes≤140737488355328∧
  K (put r dst (.own i (n+ys.length) 0 (n+ys.length))) (d.set i (.aa e N (ah++ys)))
 |_,_=>False
def Oo (ys:Option (List (List z)))(e:TypeId)(N bytes:Nat)(d:List R)(dst:Option Nat)(r:aJ)(K:aJ→List R→Prop):Prop:=
 match ys with
 |some ys=>ys.length*bytes≤140737488355328∧K (put r dst (.own d.length ys.length 0 ys.length)) (d++ [.aa e N ys])
 |none=>False
def Oq (aj:Option (List z))(vs:List z)(d:List R)(dst:Option Nat)(r:aJ)(K:aJ→List R→Prop):Prop:=
 match aj with
 |some aj=>(vs.all fun v=>(cf v).all cM)=true∧K (put r dst (.agg aj)) d
 |none=>False
def Ot (al:Option (List (List z)))(e:TypeId)(N len:Nat)(vs:List z)(d:List R)(dst:Option Nat)(r:aJ)(K:aJ→List R→Prop):Prop:=
 match al with
 |some al=>(vs.all fun v=>(cf v).all cM)=true∧K (put r dst (.own d.length len 0 len)) (d++ [.aa e N al])
 |none=>False
def U0 (ys:Option (List (List z)))(neg:Bool)(d:List R)(dst:Option Nat)(r:aJ)(K:aJ→List R→Prop):Prop:=
 match ys with
 |some ys=>0 < ys.length∧K (put r dst (.bool neg)) d
 |none=>False
def Ou (bz:Option R)(N n off len:Nat):Option (List (List z)):=
 match bz with
 |some (.aa _ bt ah)=>if bt=N∧n=ah.length∧off+len≤n then some ((ah.drop off).take len) else none
 |_=>none
section
variable {K:aJ→List R→Prop} {r:aJ} {d:List R} {o:Option Nat}
theorem akW:bx .CE [] d o r K=K (put r o .bD) d:=_root_.id rfl
theorem akX {x:z}:bx .pK [x] d o r K=K (put r o x) d:=_root_.id rfl
theorem akY {a b:z}:bx .pick [.bool true,a,b] d o r K=K (put r o a) d:=_root_.id rfl
theorem akZ {a b:z}:bx .pick [.bool false,a,b] d o r K=K (put r o b) d:=_root_.id rfl
theorem ala {e D}:bx (.alloc e D) [] d o r K=K (put r o (.aW d.length 1 0 0)) (d++ [.aa e D.length [D]]):=_root_.id rfl
theorem alb {e N x}:bx (.box e N) [x] d o r K=((cf x).length=N∧(cf x).all cM=true∧K (put r o (.aW d.length 1 0 0)) (d++ [.aa e N [cf x]])):=_root_.id rfl
theorem alc {D p vs}:bx (.build D p) vs d o r K=Oq (nX D p vs) vs d o r K:=by
 unfold bx Oq;simp only[aI];split<;>simp_all
theorem ald {e N D len ja vs}:bx (.rx e N D len ja) vs d o r K=Ot (ob (List.replicate len D) N ja vs) e N len vs d o r K:=by
 unfold bx Ot;simp only[aI];split<;>simp_all
theorem ale {i n c off}:bx .oS [.aW i n c off] d o r K=Oi d[i]? n c off d o r K:=by
 unfold bx Oi;simp only[aI,pL];exact _root_.id rfl
theorem alf {cells off}:bx .oS [.eb cells off] d o r K=(off < cells.length∧K (put r o (cells.getD off .cc)) d):=_root_.id rfl
theorem alg {m i n c off}:bx (.oT m) [.aW i n c off] d o r K=Oj d[i]? m n c off d o r K:=by
 unfold bx Oj;simp only[aI,oc];exact _root_.id rfl
theorem alh {m cells off}:bx (.oT m) [.eb cells off] d o r K=(off+m≤cells.length∧K (put r o (.agg ((cells.drop off).take m))) d):=_root_.id rfl
theorem ali {m i n c off y}:bx (.store m) [.aW i n c off,y] d o r K=Ol d[i]? m i n c off (cf y) d o r K:=by
 unfold bx Ol;simp only[aI,wC];exact _root_.id rfl
theorem alj {i n c L}:bx .sy [.aW i n c L] d o r K=K (put r o (.aW i n c L)) d:=_root_.id rfl
theorem alk {k a b}:bx (.jc .add) [.int k a,.int k b] d o r K=K (put r o (.int k (k.wrap (a+b)))) d:=by simp[bx,aI,me]
theorem alm {k a b}:bx (.jc .sub) [.int k a,.int k b] d o r K=K (put r o (.int k (k.wrap (a-b)))) d:=by simp[bx,aI,me]
theorem aln {k a b}:bx (.jc .mul) [.int k a,.int k b] d o r K=K (put r o (.int k (k.wrap (a*b)))) d:=by simp[bx,aI,me]
theorem alo {k a b}:bx (.jc .quo) [.int k a,.int k b] d o r K=(b≠0∧K (put r o (.int k (k.wrap (a.tdiv b)))) d):=by simp[bx,aI,me]
theorem alp {k a b}:bx (.jc .rem) [.int k a,.int k b] d o r K=(b≠0∧K (put r o (.int k (a.tmod b))) d):=by simp[bx,aI,me]
theorem alq {k a b}:bx (.jc .and) [.int k a,.int k b] d o r K=K (put r o (.int k (ep k a b))) d:=by simp[bx,aI,me,ep]
theorem alr {k a b}:bx (.jc .or) [.int k a,.int k b] d o r K=K (put r o (.int k (Jj k a b))) d:=by simp[bx,aI,me,Jj]
theorem als {k bo a b}:bx (.jc .shl) [.int k a,.int bo b] d o r K=(0≤b∧K (put r o (.int k (Oh k a b.toNat))) d):=_root_.id rfl
theorem alt {k bo a b}:bx (.jc .shr) [.int k a,.int bo b] d o r K=(0≤b∧K (put r o (.int k (Jk k a b.toNat))) d):=_root_.id rfl
theorem alu {k a b}:bx (.jc .eql) [.int k a,.int k b] d o r K=K (put r o (.bool (a==b))) d:=by simp[bx,aI,me]
theorem alv {k a b}:bx (.jc .neq) [.int k a,.int k b] d o r K=K (put r o (.bool (a != b))) d:=by simp[bx,aI,me]
theorem alw {k a b}:bx (.jc .lss) [.int k a,.int k b] d o r K=K (put r o (.bool (decide (a < b)))) d:=by simp[bx,aI,me]
theorem alx {k a b}:bx (.jc .leq) [.int k a,.int k b] d o r K=K (put r o (.bool (decide (a≤b)))) d:=by simp[bx,aI,me]
theorem aly {k a b}:bx (.jc .gtr) [.int k a,.int k b] d o r K=K (put r o (.bool (decide (b < a)))) d:=by simp[bx,aI,me]
theorem alz {k a b}:bx (.jc .geq) [.int k a,.int k b] d o r K=K (put r o (.bool (decide (b≤a)))) d:=by simp[bx,aI,me]
theorem alA {a b}:bx (.jc .eql) [.str a,.str b] d o r K=K (put r o (.bool (a.toList==b.toList))) d:=_root_.id rfl
theorem alB {a b}:bx (.jc .neq) [.str a,.str b] d o r K=K (put r o (.bool !(a.toList==b.toList))) d:=_root_.id rfl
theorem alC {a b}:bx (.jc .lss) [.str a,.str b] d o r K=K (put r o (.bool (Op.bytesLess a.toList b.toList))) d:=_root_.id rfl
theorem alD {neg M ai ys}:bx (.qA neg M) [.agg ai,.agg ys] d o r K=(cv M ai∧cv M ys∧K (put r o (.bool (dU ai ys != neg))) d):=_root_.id rfl
theorem alE {b}:bx .not [.bool b] d o r K=K (put r o (.bool !b)) d:=_root_.id rfl
theorem alF {k n}:bx .neg [.int k n] d o r K=K (put r o (.int k (k.wrap (0-n)))) d:=_root_.id rfl
theorem alG {m i n c off}:bx (.fieldAddr m) [.aW i n c off] d o r K=K (put r o (.aW i n c (off+m))) d:=_root_.id rfl
theorem alH {m cells off}:bx (.fieldAddr m) [.eb cells off] d o r K=K (put r o (.eb cells (off+m))) d:=_root_.id rfl
theorem alI {N bt ah k c}:bx (.indexAddr N) [.pure bt ah,.int k c] d o r K=(bt=N∧0≤c∧c < ah.length∧K (put r o (.eb (ah.getD c.toNat []) 0)) d):=_root_.id rfl
theorem alJ {N i n off len k c}:bx (.indexAddr N) [.own i n off len,.int k c] d o r K=Om d[i]? N i n off len c d o r K:=by
 unfold bx Om;simp only[aI,vZ];exact _root_.id rfl
theorem alK {E k c}:bx .index [.str E,.int k c] d o r K=(0≤c∧c < E.size∧K (put r o (.int .u8 ((E.data.getD c.toNat 0).toNat))) d):=_root_.id rfl
theorem alL {N bt ah k a}:bx (.slice true false N) [.pure bt ah,.int k a] d o r K=(0≤a∧a≤ah.length∧(ah.length:Int)≤ah.length∧bt=N∧K (put r o (.pure bt ((ah.drop a.toNat).take ((ah.length:Int).toNat-a.toNat)))) d):=_root_.id rfl
theorem alM {N bt ah k b}:bx (.slice false true N) [.pure bt ah,.int k b] d o r K=((0:Int)≤0∧0≤b∧b≤ah.length∧bt=N∧K (put r o (.pure bt ((ah.drop (0:Int).toNat).take (b.toNat-(0:Int).toNat)))) d):=_root_.id rfl
theorem alN {N i n off len k a}:bx (.slice true false N) [.own i n off len,.int k a] d o r K=FK d[i]? N i n off len a len d o r K:=by
 unfold bx FK;simp only[aI,pA,sk,Option.getD_some,Option.getD_none];split<;>simp_all
theorem alO {N i n off len k b}:bx (.slice false true N) [.own i n off len,.int k b] d o r K=FK d[i]? N i n off len 0 b d o r K:=by
 unfold bx FK;simp only[aI,pA,sk,Option.getD_some,Option.getD_none];split<;>simp_all
theorem alP {N ah}:bx .len [.pure N ah] d o r K=K (put r o (.int .i64 (ah.length:Nat))) d:=_root_.id rfl
theorem alQ {i n off len}:bx .len [.own i n off len] d o r K=K (put r o (.int .i64 len)) d:=_root_.id rfl
theorem alR:bx .len [.bD] d o r K=K (put r o (.int .i64 (0:Nat))) d:=_root_.id rfl
theorem alS {E}:bx .CF [.str E] d o r K=K (put r o (.int .i64 E.size)) d:=_root_.id rfl
theorem alT {e N b y}:bx (.append e N b) [.bD,y] d o r K=Oo (jb d N y) e N b d o r K:=by
 unfold bx Oo;simp only[aI,tI];split<;>simp_all
theorem alU {e N b i n off len y}:bx (.append e N b) [.own i n off len,y] d o r K=On d[i]? (jb d N y) e N b i n off len d o r K:=by
 unfold bx On;simp only[aI,tI];cases jb d N y with
 |none=>simp
 |some ys=>cases G:d[i]? with
  |none=>simp
  |some bz=>cases bz<;>simp
theorem alV {N neg x}:bx (.yl N neg) [x] d o r K=U0 (jb d N x) neg d o r K:=_root_.id rfl
theorem alW {ys neg}:U0 (some ys) neg d o r K=(0 < ys.length∧K (put r o (.bool neg)) d):=_root_.id rfl
theorem alX {c vs}:bx (.extract c) [.bg vs] d o r K=(c < vs.length∧K (put r o (vs.getD c .cc)) d):=_root_.id rfl
theorem alY {k a b}:bx (.yu false) [.int k a,.int k b] d o r K=K (put r o (.int k (min a b))) d:=by simp[bx,aI]
theorem alZ {k a b}:bx (.yu true) [.int k a,.int k b] d o r K=K (put r o (.int k (max a b))) d:=by simp[bx,aI]
theorem ama:bx .cap [.bD] d o r K=K (put r o (.int .i64 0)) d:=_root_.id rfl
theorem amb {e N b D k n}:bx (.AD e N b D) [.bD,.int k n] d o r K=(0 < n∧n*b≤140737488355328∧K (put r o (.own d.length n.toNat 0 n.toNat)) (d++ [.aa e N (List.replicate n.toNat D)])):=_root_.id rfl
theorem amc {N D i n off len}:bx (.clear N D) [.own i n off len] d o r K=Ob d[i]? N D i n off len d o r K:=by
 unfold bx Ob;simp only[aI,wo];exact _root_.id rfl
theorem amd {e bt N D ah i n off len}:Ob (some (.aa e bt ah)) N D i n off len d o r K=(bt=N∧n=ah.length∧off+len≤n∧K (put r o (.bg [])) (d.set i (.aa e N (jZ ah off (List.replicate len D))))):=_root_.id rfl
theorem ame {l N i n c off k j}:bx (.uZ l N) [.aW i n c off,.int k j] d o r K=(0≤j∧j < l∧K (put r o (.aW i n c (off+j.toNat*N))) d):=_root_.id rfl
theorem amf {aE M}:bx (.yn aE M) [] d o r K=K (put r o (.bu d.length)) (d++ [.aY (.map aE M [])]):=_root_.id rfl
theorem amg {ok aE M D i k}:bx (.ib ok aE M D) [.bu i,k] d o r K=Jh d[i]? ok aE M D k d o r K:=by
 unfold bx Jh;simp only[aI,tx,pE];cases G:d[i]? with
 |none=>simp
 |some bz=>
  cases bz with
  |fH=>simp
  |aa=>simp
  |aY L=>
   cases L with
   |dY=>simp
   |map gt fM ents=>
    simp only
    by_cases V:gt=aE∧fM=M
    ·simp[V]
    ·rw[if_neg V];simp[V]
theorem amh {gt fM ents aE M D k}:Jh (some (.aY (.map gt fM ents))) true aE M D k d o r K=((gt=aE∧fM=M)∧fT aE M k∧K (put r o (.bg [(dd k ents).getD D,.bool (dd k ents).isSome])) d):=_root_.id rfl
theorem ami {gt fM ents aE M D k}:Jh (some (.aY (.map gt fM ents))) false aE M D k d o r K=((gt=aE∧fM=M)∧fT aE M k∧K (put r o ((dd k ents).getD D)) d):=_root_.id rfl
theorem amj {aE M i k v}:bx (.oR aE M) [.bu i,k,v] d o r K=Oc d[i]? i aE M k v d o r K:=by
 unfold bx Oc;simp only[aI,wh];exact _root_.id rfl
theorem amk {gt fM ents i aE M k v}:Oc (some (.aY (.map gt fM ents))) i aE M k v d o r K=((gt=aE∧fM=M)∧fT aE M k∧K (put r o (.bg [])) (d.set i (.aY (.map aE M (dp k v ents))))):=_root_.id rfl
theorem aml {aE M D i k}:bx (.oa aE M D) [.bu i,k] d o r K=Od d[i]? i aE M D k d o r K:=by
 unfold bx Od;simp only[aI,uJ];exact _root_.id rfl
theorem amm {gt fM ents i aE M D k}:Od (some (.aY (.map gt fM ents))) i aE M D k d o r K=((gt=aE∧fM=M)∧(fT aE M k∧yt aE M ents)∧
 K (put r o (.bg [(dd k ents).getD D,.int .i64 ((gr k ents).getD ents.length)])) (d.set i (.aY (.map aE M (dp k ((dd k ents).getD D) ents))))):=_root_.id rfl
theorem amn {i IF n v}:bx .rv [.bu i,.int IF n,v] d o r K=Oe d[i]? i n v d o r K:=by
 unfold bx Oe;simp only[aI,wi];exact _root_.id rfl
theorem amo {aE M ents i n v}:Oe (some (.aY (.map aE M ents))) i n v d o r K=(0≤n∧n < ents.length∧K (put r o (.bg [])) (d.set i (.aY (.map aE M (ents.set n.toNat ((ents.getD n.toNat (.cc,.cc)).1,v)))))):=_root_.id rfl
theorem amp {m}:bx .dY [.bu m] d o r K=Of d[m]? m d o r K:=by
 unfold bx Of;simp only[aI,wj];exact _root_.id rfl
theorem amq {aE M ents m}:Of (some (.aY (.map aE M ents))) m d o r K=K (put r o (.fG d.length m)) (d++ [.aY (.dY ents.length [])]):=_root_.id rfl
theorem amr {i m}:bx .entry [.fG i m] d o r K=Ji d[i]? d[m]? d o r K:=by
 unfold bx Ji;simp only[aI,wk];exact _root_.id rfl
theorem ams {aE M ents n bR}:Ji (some (.aY (.dY n bR))) (some (.aY (.map aE M ents))) d o r K=(n=ents.length∧0 < bR.length∧bR.getLastD 0 < n∧
 K (put r o (.bg [(ents.getD (bR.getLastD 0) (.cc,.cc)).1,(ents.getD (bR.getLastD 0) (.cc,.cc)).2])) d):=_root_.id rfl
theorem amt {aE:Bool}{M:List cN}{k:z}:fT aE M k=(lX k=aE∧cv M (cf k)):=_root_.id rfl
theorem amu {k:IntKind}{n:Int}:lX (.int k n)=false:=_root_.id rfl
theorem amv {E:ByteArray}:lX (.str E)=false:=_root_.id rfl
theorem amw {aj:List z}:lX (.agg aj)=true:=_root_.id rfl
theorem amx {e N ah n c off}:Oi (some (.aa e N ah)) n c off d o r K=(n=ah.length∧off < N∧K (put r o ((ah.getD c []).getD off .cc)) d):=_root_.id rfl
theorem amy {e N ah m n c off}:Oj (some (.aa e N ah)) m n c off d o r K=(n=ah.length∧off+m≤N∧K (put r o (.agg (((ah.getD c []).drop off).take m))) d):=_root_.id rfl
theorem amz {e N ah m i n c off cells}:Ol (some (.aa e N ah)) m i n c off cells d o r K=
 (n=ah.length∧off+m≤N∧cells.length=m∧cells.all cM=true∧K (put r o (.bg [])) (d.set i (.aa e N (ah.set c (eO (ah.getD c []) off cells))))):=_root_.id rfl
theorem amA {e bt ah N i n off len c}:Om (some (.aa e bt ah)) N i n off len c d o r K=(bt=N∧n=ah.length∧0≤c∧c < len∧K (put r o (.aW i n (off+c.toNat) 0)) d):=_root_.id rfl
theorem amB {e bt ah N i n off len a b}:FK (some (.aa e bt ah)) N i n off len a b d o r K=(0≤a∧a≤b∧b≤len∧bt=N∧n=ah.length∧K (put r o (.own i n (off+a.toNat) (b.toNat-a.toNat))) d):=_root_.id rfl
theorem amC {ys cA bt ah e N b i n off len}:On (some (.aa cA bt ah)) (some ys) e N b i n off len d o r K=(cA=e∧bt=N∧n=ah.length∧off=0∧len=n∧(n+ys.length)*b≤140737488355328∧
 K (put r o (.own i (n+ys.length) 0 (n+ys.length))) (d.set i (.aa e N (ah++ys)))):=_root_.id rfl
theorem amD {ys e N b}:Oo (some ys) e N b d o r K=(ys.length*b≤140737488355328∧K (put r o (.own d.length ys.length 0 ys.length)) (d++ [.aa e N ys])):=_root_.id rfl
theorem amE {aj vs}:Oq (some aj) vs d o r K=((vs.all fun v=>(cf v).all cM)=true∧K (put r o (.agg aj)) d):=_root_.id rfl
theorem amF {al e N len vs}:Ot (some al) e N len vs d o r K=((vs.all fun v=>(cf v).all cM)=true∧K (put r o (.own d.length len 0 len)) (d++ [.aa e N al])):=_root_.id rfl
end
theorem amG {d:List R}{N bt:Nat}{ah:List (List z)}:jb d N (.pure bt ah)=if bt=N then some ah else none:=_root_.id rfl
theorem amH {d:List R}{N i n off len:Nat}:jb d N (.own i n off len)=Ou d[i]? N n off len:=by
 unfold Ou;simp only[jb];exact _root_.id rfl
theorem amI {e:TypeId}{bt N n off len:Nat}{ah:List (List z)}:Ou (some (.aa e bt ah)) N n off len=if bt=N∧n=ah.length∧off+len≤n then some ((ah.drop off).take len) else none:=_root_.id rfl
theorem amJ {cells:List z}:nX cells [] []=some cells:=_root_.id rfl
theorem amK {cells:List z}{off N:Nat}{O:List (Nat×Nat)}{v:z}{vs:List z}:nX cells ((off,N)::O) (v::vs)=if (cf v).length=N∧off+N≤cells.length then nX (eO cells off (cf v)) O vs else none:=_root_.id rfl
theorem amL {al:List (List z)}{N:Nat}:ob al N [] []=some al:=_root_.id rfl
theorem amM {al:List (List z)}{N c:Nat}{is:List Nat}{v:z}{vs:List z}:ob al N (c::is) (v::vs)=if (cf v).length=N∧c < al.length then ob (al.set c (cf v)) N is vs else none:=_root_.id rfl
theorem amN {aj:List z}:cf (.agg aj)=aj:=_root_.id rfl
theorem amO {k:IntKind}{n:Int}:cf (.int k n)= [.int k n]:=_root_.id rfl
theorem amP {b:Bool}:cf (.bool b)= [.bool b]:=_root_.id rfl
theorem amQ {E:ByteArray}:cf (.str E)= [.str E]:=_root_.id rfl
theorem amR:cf .bD= [.bD]:=_root_.id rfl
theorem amS {N:Nat}{ah:List (List z)}:cf (.pure N ah)= [.pure N ah]:=_root_.id rfl
theorem amT {i n L l:Nat}:cf (.own i n L l)= [.own i n L l]:=_root_.id rfl
theorem amU {i:Nat}:cf (.bu i)= [.bu i]:=_root_.id rfl
theorem amV {i:Nat}:cM (.bu i)=true:=_root_.id rfl
theorem amW {k:IntKind}{n:Int}:cM (.int k n)=true:=_root_.id rfl
theorem amX {b:Bool}:cM (.bool b)=true:=_root_.id rfl
theorem amY {E:ByteArray}:cM (.str E)=true:=_root_.id rfl
theorem amZ:cM .bD=true:=_root_.id rfl
theorem ana {N:Nat}{ah:List (List z)}:cM (.pure N ah)=true:=_root_.id rfl
theorem anb {i n L l:Nat}:cM (.own i n L l)=true:=_root_.id rfl
theorem anc {t:Nat}:bn [] t= .cc:=_root_.id rfl
theorem Ov {E t:Nat}{v:z}{i:aJ}:bn ((E,v)::i) t=if E=t then v else bn i t:=_root_.id rfl
theorem ane {r:aJ}{o:Nat}{v:z}:put r (some o) v=(o,v)::r:=_root_.id rfl
theorem anf {r:aJ}{v:z}:put r none v=r:=_root_.id rfl
theorem ang {r:aJ}:eW [] r= []:=_root_.id rfl
theorem anh {E:Nat}{bN:List Nat}{r:aJ}:eW (E::bN) r=(E,bn r E)::eW bN r:=_root_.id rfl
theorem ani {r:aJ}{E:Nat}:bc.aI r (.t E)=bn r E:=_root_.id rfl
theorem anj {r:aJ}{v:z}:bc.aI r (.F v)=v:=_root_.id rfl
theorem ank {l:List z}{off:Nat}{aj:List z}:eO l off aj=l.take off++aj++l.drop (off+aj.length):=_root_.id rfl
theorem anl {k bo:IntKind}{a b:Int}{aj ds:List z}:dU (.int k a::aj) (.int bo b::ds)=(a==b&&dU aj ds):=_root_.id rfl
theorem anm {a b:ByteArray}{aj ds:List z}:dU (.str a::aj) (.str b::ds)=(a.toList==b.toList&&dU aj ds):=_root_.id rfl
theorem ann:dU [] []=true:=_root_.id rfl
theorem ano {k bo:IntKind}{n:Int}{M:List cN}{aj:List z}:cv (.int k::M) (.int bo n::aj)=(k=bo∧cv M aj):=_root_.id rfl
theorem anp {E:ByteArray}{M:List cN}{aj:List z}:cv (.str::M) (.str E::aj)=cv M aj:=_root_.id rfl
theorem anq:cv [] []=True:=_root_.id rfl
theorem anr {k:Nat}:qC [] k= []:=_root_.id rfl
theorem ans {a:z}{as:List z}{k:Nat}:qC (a::as) k=(k,a)::qC as (k+1):=_root_.id rfl
def wI (br:z→List R→Prop)(r:aJ)(d:List R):Prop:=br (bn r 0) d
def nz (aX:Nat)(br:z→List R→Prop)(acc:List z)(rs:List tJ)(r:aJ)(d:List R):Prop:=
 mj d r rs fun vs=>s aX (wI br) [(0,lE (acc++vs))] d
def Ow (_:Nat)(_:aJ)(_:List R):Prop:=False
def Ox (i:Option R)(m n c off:Nat)(aX:Nat)(br:z→List R→Prop)(acc:List z)(rs:List tJ)(r:aJ)(d:List R):Prop:=
 match i with
 |some (.aa _ N ah)=>n=ah.length∧off+m≤N∧nz aX br (acc++ [.agg (((ah.getD c []).drop off).take m)]) rs r d
 |_=>False
def tK (v:z)(m:Nat)(aX:Nat)(br:z→List R→Prop)(acc:List z)(rs:List tJ)(r:aJ)(d:List R):Prop:=
 oc d m v fun v=>nz aX br (acc++ [v]) rs r d
section
variable {aX:Nat} {br:z→List R→Prop} {acc:List z} {rs:List tJ} {r:aJ} {d:List R}
theorem ant:nz aX br acc [] r d=s aX (wI br) [(0,lE acc)] d:=by simp[nz,mj]
theorem anu {t:Nat}:nz aX br acc (.tmp t::rs) r d=nz aX br (acc++ [bn r t]) rs r d:=by simp[nz,mj]
theorem anv {t m:Nat}:nz aX br acc (.tK t m::rs) r d=tK (bn r t) m aX br acc rs r d:=by simp[nz,mj,tK]
theorem anw {m i n c off:Nat}:tK (.aW i n c off) m aX br acc rs r d=Ox d[i]? m n c off aX br acc rs r d:=by unfold tK Ox;simp only[oc];exact _root_.id rfl
theorem anx {e N ah m n c off}:Ox (some (.aa e N ah)) m n c off aX br acc rs r d=(n=ah.length∧off+m≤N∧nz aX br (acc++ [.agg (((ah.getD c []).drop off).take m)]) rs r d):=_root_.id rfl
theorem anz {v:z}:lE [v]=v:=_root_.id rfl
theorem anA:lE []= .bg []:=_root_.id rfl
theorem anB {v w:z}{vs:List z}:lE (v::w::vs)= .bg (v::w::vs):=_root_.id rfl
end
theorem anC {P:Program}{aA:aH}{args:List z}{d:List R}{br:z→List R→Prop}
 (h:eX P d.length aA.body ⟨nz d.length br [] aA.results,Ow,nz d.length br [] aA.results⟩ (qC args 0) d):UW P aA args d br:=h
theorem cr {P:Program}{f:FuncId}{fn:Func}{aa:Nat→oU}{aA:aH}(hf:P.funcs[f]? =some fn)(V:wF P aa fn=some aA){args:List z}{d:List R}{br:z→List R→Prop}
 (aB:args.length≤aA.ntmps) (h:eX P d.length aA.body ⟨nz d.length br [] aA.results,Ow,nz d.length br [] aA.results⟩ (qC args 0) d):aK P f args d br:=
 ajR hf V aB (anC h)
def wJ:List (Option Nat)→Bool
 | []=>true
 |none::bN=>wJ bN
 |some i::bN=> !bN.contains (some i)&&wJ bN
theorem Oy: ∀ {ap:List (Option Nat)},wJ ap=true→IV ap
 | [],_=>by intro c j i h;simp at h
 |none::bN,h=>by
  intro c j i h1 B;have ih:=Oy (ap:=bN) h;cases c with
  |zero=>simp at h1
  |succ c=>
   cases j with
   |zero=>simp at B
   |succ j=>rw[ih c j i (by simpa using h1) (by simpa using B)]
 |some E::bN,h=>by
  simp only[wJ,Bool.and_eq_true,Bool.not_eq_true',List.contains_eq_mem,decide_eq_false_iff_not] at h;have ih:=Oy (ap:=bN) h.2;intro c j i h1 B;cases c with
  |zero=>
   simp at h1;subst h1;cases j with
   |zero=>rfl
   |succ j=>exact (h.1 (List.mem_of_getElem? (by simpa using B))).elim
  |succ c=>
   cases j with
   |zero=>
    simp at B;subst B;exact (h.1 (List.mem_of_getElem? (by simpa using h1))).elim
   |succ j=>rw[ih c j i (by simpa using h1) (by simpa using B)]
def va:Nat→Nat→List (Option Nat)→Bool
 |0,_,_=>true
 |_+1,_,[]=>false
 |n+1,k,E::bN=>(E==some k||E==none)&&va n (k+1) bN
theorem U1: ∀ {n k:Nat} {ap:List (Option Nat)},va n k ap=true→n≤ap.length∧ ∀ c,c < n→ap[c]? =some (some (k+c))∨ap[c]? =some none
 |0,k,ap,_=>⟨by simp,fun c an=>by omega⟩
 |n+1,k,[],h=>by simp[va] at h
 |n+1,k,E::bN,h=>by
  simp only[va,Bool.and_eq_true,Bool.or_eq_true,beq_iff_eq] at h;obtain⟨h1,B⟩:=U1 h.2;refine⟨by simp;omega,fun c an=> ?_⟩;cases c with
  |zero=>simpa using h.1
  |succ c=>
   have:=B c (by omega);rw[show k+(c+1)=k+1+c from by omega];simpa using this
theorem anD {aX:Nat}{ap:List (Option Nat)}(h:va aX 0 ap=true):keeps aX ap:=by
 obtain⟨h1,B⟩:=U1 h;exact⟨h1,fun c an=>by simpa using B c an⟩
theorem s.kb {aX:Nat}{K:aJ→List R→Prop}{r:aJ}{d srows:List R}(ap:List (Option Nat))(bk:List Nat)(h1:wJ ap=true)(B:va aX 0 ap=true)(ao:ew d bk ap ap=some srows)
 (h:s aX K (r.map fun p=>(p.1,bU d ap bk p.2)) srows):s aX K r d:=s.nt (.kb ap bk (Oy h1) (anD B) ao) h
theorem s.iI {aX:Nat}{K:aJ→List R→Prop}{r:aJ}{d:List R}(E:Nat)(e:TypeId)(N:Nat)(h:bn r E= .bD)
 (k:s aX K ((E,.own d.length 0 0 0)::r) (d++ [.aa e N []])):s aX K r d:=s.nt (.iI E e N h) k
theorem s.eW {aX:Nat}{K:aJ→List R→Prop}{r:aJ}{d:List R}(aa:List Nat)(h:s aX K (eW aa r) d):s aX K r d:=
 s.nt (.r fun t=>UR aa r t) h
mutual
theorem sz {d:List R}{ap:List (Option Nat)}{bk:List Nat}: ∀ (a:z),bE a=true→bU d ap bk a=a
 | .own ..,h=>by simp[bE] at h
 | .aW ..,h=>by simp[bE] at h
 | .agg aj,h=>by rw[bE] at h;rw[bU,pN aj h]
 | .bg aj,h=>by rw[bE] at h;rw[bU,pN aj h]
 | .fn _ aj,h=>by rw[bE] at h;rw[bU,pN aj h]
 | .km,_=>by simp[bU]
 | .bu _,h=>by simp[bE] at h
 | .fG ..,h=>by simp[bE] at h
 | .int ..,_=>by simp[bU]
 | .bool ..,_=>by simp[bU]
 | .str ..,_=>by simp[bU]
 | .bD,_=>by simp[bU]
 | .jW,_=>by simp[bU]
 | .cc,_=>by simp[bU]
 | .pure ..,_=>by simp[bU]
 | .eb ..,_=>by simp[bU]
theorem pN {d:List R}{ap:List (Option Nat)}{bk:List Nat}: ∀ (as:List z),bP as=true→dV d ap bk as=as
 | [],_=>by simp[dV]
 |a::as,h=>by
  simp only[bP,Bool.and_eq_true] at h;rw[dV,sz a h.1,pN as h.2]
end
theorem s.bb {br:z→List R→Prop}{v:z}{d:List R}(ag:bE v=true)(h:br v []):s 0 (wI br) [(0,v)] d:=by
 refine s.kb (srows:= []) [] [] (by decide) (by decide) (by exact _root_.id rfl) (s.U ?_);have Z: ∀ (v:z),bE v=true→bU d [] [] v=v:=fun v ag=>sz v ag;simp only[wI,List.map_cons,List.map_nil,Ov,if_true,Z v ag];exact h
theorem oW {P:Program}{f:FuncId}{args:List z}{d:List R}{dst:Option Nat}{r:aJ}{K:aJ→List R→Prop}(ap bk:List Nat){srows:List R}{tM:List z}{br:z→List R→Prop}
 (aB:ap.Nodup) (ao:ew d bk (ap.map some) (ap.map some)=some srows) (Z:dV d (ap.map some) bk args=tM) (hA:aK P f tM srows br)
 (I: ∀ v rs,br v rs→(bk= []∨(pI v=true∧(rs.all Au)=true))∧K (put r dst (dI (eH d.length ap) v)) (fq d ap (rs.map (gu (eH d.length ap))))):
 tL P f args d dst r K:=
 ⟨ap,bk,srows,aB,ao,by rw[Z];exact hA.mono I⟩
end Go.Abs
