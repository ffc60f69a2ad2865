/- Presences and working time. -/
import Derived.Test.YtpincjkjoeopkaaGreatDoorC19
import Derived.Test.YtpincjkjoeopkaaGreatDoorC25
set_option linter.all false
namespace Go.Proofs.YtpincjkjoeopkaaGreatDoor.Pr
open Go Go.Abs Go.Proofs.Tryz
def aLm (x y:Bool)(p:bN)(b:F):Z:= .ag 180 7 [[.bool x,.bool y,.int .i64 p.gu,.int .i64 p.lg,b,.own 1 p.fM.length 0 p.fM.length,.own 2 p.np.length 0 p.np.length]]
def aLl (x y:Bool)(p:bN):List Z:=[aLm x y p (.own 3 p.ks.length 0 p.ks.length),.ag 88 3 (ai p.fM),.ag 132 2 (ai p.np),.ag 64 2 (ai p.ks)]
def aL8 (x y:Bool)(p:bN):List Z:=[aLm x y p .bH,.ag 88 3 (ai p.fM),.ag 132 2 (ai p.np),.fP]
theorem aMT (x y:Bool)(p:bN){n:Nat}(cU:p.di n)(k t:Int):aO prog 89 [.bd 0 1 0 0,.int .i64 k,.int .i64 t] (aLl x y p) (λv rs=>v= .bo []/\rs=aLl x y (p.eP k t)):=by
 refine hJ func89 aAh (by simp[adh,aHw]) ?_;simp only[go_sem,adh,aHw,aLl,aLm];have au:=cU.yQ;have bv:=cU.h;refine⟨by omega,?_⟩
 (refine E.bB [some 0,some 1,some 2,some 3] ?_;simp only[go_sem])
 exact i ⟨rfl,by simp[aLl,aLm,bN.eP]⟩
theorem aSs (x y:Bool)(p:bN){n:Nat}(cU:p.di n)(t:Int):aO prog 174 [.bd 0 1 0 0,.int .i64 t] (aLl x y p) (λv rs=>v= .bo []/\rs=aLl x false (p.qg t)):=by
 refine hJ func174 aA1 (by simp[aev,aI2]) ?_;simp only[go_sem,aev,aI2,aLl,aLm];have au:=cU.mN;have bv:=cU.h
 (refine i ?_;simp only[go_sem])
 repeat' ((first|refine gv ?_ ?_|refine gw ?_ ?_|refine cf ?_ ?_|refine dj ?_ ?_)<;>intro aw<;>(have ak:=aw;try simp only[bC] at ak)<;>(first|omega| (simp only[go_sem,aw,aev,aI2];clear aw)))
 ·refine⟨by omega,?_⟩
  (refine E.bB [some 0,some 1,some 2,some 3] ?_;simp only[go_sem])
  (refine i ?_;simp only[go_sem])
  exact i ⟨rfl,by simp[aLl,aLm,bN.qg,ak]⟩
 ·(refine i ?_;simp only[go_sem])
  exact i ⟨rfl,by rw[bN.qg,S (by omega)]<;>rfl⟩
theorem aSt (y:Bool)(p:bN){n:Nat}(cU:p.di n)(aH:n+2<=1000000)(t:Int)(h0:0<=t)(d:t<=120968639):aO prog 173 [.bd 0 1 0 0,.int .i64 t,.int .i64 p.vy] (aLl true y p)
 (λv rs=>v= .bo []/\rs=aL8 false false ((if y then (p.eP 4 p.lg).qg t else p).qY t)):=by
 refine hJ func173 aA0 (by simp[aeu,aIx]) ?_;simp only[go_sem,aeu,aIx,aLl,aLm]
 (refine i ?_;simp only[go_sem])
 generalize ps:p.vy=aKs;refine dj ?_ ?_<;>intro aw<;>(try simp only[bC] at aw)<;>subst aw<;>simp only[go_sem,aeu,aIx]
 ·refine om [0,1,2,3] [] (by decide) (srows:=aLl true true p) (by simp only[go_sem]<;>rfl) (by simp only[go_sem]<;>rfl) (aMT true true p cU 4 p.lg) ?_;rintro _ _ ⟨rfl,rfl⟩;refine⟨.inl rfl,?_⟩;simp only[go_sem,aLl,aLm]
  (refine i ?_;simp only[go_sem])
  refine om [0,1,2,3] [] (by decide) (srows:=aLl true true (p.eP 4 p.lg)) (by simp only[go_sem]<;>rfl) (by simp only[go_sem]<;>rfl) (aSs true true _ (cU.eP (by omega) 4 p.lg) t) ?_;rintro _ _ ⟨rfl,rfl⟩;refine⟨.inl rfl,?_⟩;simp only[go_sem,aLl,aLm];have aMK:=(cU.eP (by omega) 4 p.lg).qg (by omega) t;have aV: ((p.eP 4 p.lg).qg t).vy=aKs:=by rw[<-ps];unfold bN.qg bN.eP;split<;>rfl
  generalize (p.eP 4 p.lg).qg t=q at aMK aV ⊢;have G:=aMK.nv;have cx:=aMK.h;have au:=aMK.b0;have bv:=aMK.aKU;have aP:IntKind.i64.wrap (t-q.gu)=t-q.gu:=bl
  (refine i ?_;simp only[go_sem])
  rw[aP]
  (refine i ?_;simp only[go_sem])
  refine dj ?_ ?_<;>intro aw<;>(have ak:=aw;try simp only[bC] at ak)<;>simp only[go_sem,aeu,aIx]
  ·refine om [0,1,2,3] [] (by decide) (srows:=aLl true false q) (by simp only[go_sem]<;>rfl) (by simp only[go_sem]<;>rfl) (aMT true false q aMK 3 q.gu) ?_;rintro _ _ ⟨rfl,rfl⟩;refine⟨.inl rfl,?_⟩;simp only[go_sem,aLl,aLm]
   (refine i ?_;simp only[go_sem])
   (refine E.bB [some 0,some 1,some 2,none] ?_;simp only[go_sem])
   exact i ⟨rfl,by rw[bN.qY,bN.ea,Rc (by omega)];rfl⟩
  ·(refine i ?_;simp only[go_sem])
   repeat' ((first|refine gv ?_ ?_|refine gw ?_ ?_|refine cf ?_ ?_|refine dj ?_ ?_)<;>intro aw<;>(have ak:=aw;try simp only[bC] at ak)<;>(first|omega| (simp only[go_sem,aw,aeu,aIx];clear aw)))
   ·refine⟨by omega,?_⟩
    (refine i ?_;simp only[go_sem])
    refine E.jN [some 0,some 1,some 2,none] [3] rfl rfl (by simp only[go_sem];rfl) ?_;simp only[go_sem];exact i ⟨rfl,by rw[bN.qY,bN.ea,S (by omega),Rc (by omega)];simp[aL8,aLm]⟩
   ·(refine i ?_;simp only[go_sem])
    (refine E.bB [some 0,some 1,some 2,none] ?_;simp only[go_sem])
    exact i ⟨rfl,by rw[bN.qY,bN.ea,S (by omega),S (by omega)];rfl⟩
 ·generalize aUk:p=q at cU ps ⊢;have aMK:=cU;have aV:=ps;have G:=aMK.nv;have cx:=aMK.h;have au:=aMK.b0;have bv:=aMK.aKU;have aP:IntKind.i64.wrap (t-q.gu)=t-q.gu:=bl
  (refine i ?_;simp only[go_sem])
  rw[aP]
  (refine i ?_;simp only[go_sem])
  refine dj ?_ ?_<;>intro aw<;>(have ak:=aw;try simp only[bC] at ak)<;>simp only[go_sem,aeu,aIx]
  ·refine om [0,1,2,3] [] (by decide) (srows:=aLl true false q) (by simp only[go_sem]<;>rfl) (by simp only[go_sem]<;>rfl) (aMT true false q aMK 3 q.gu) ?_;rintro _ _ ⟨rfl,rfl⟩;refine⟨.inl rfl,?_⟩;simp only[go_sem,aLl,aLm]
   (refine i ?_;simp only[go_sem])
   (refine E.bB [some 0,some 1,some 2,none] ?_;simp only[go_sem])
   exact i ⟨rfl,by rw[bN.qY,bN.ea,Rc (by omega)];rfl⟩
  ·(refine i ?_;simp only[go_sem])
   repeat' ((first|refine gv ?_ ?_|refine gw ?_ ?_|refine cf ?_ ?_|refine dj ?_ ?_)<;>intro aw<;>(have ak:=aw;try simp only[bC] at ak)<;>(first|omega| (simp only[go_sem,aw,aeu,aIx];clear aw)))
   ·refine⟨by omega,?_⟩
    (refine i ?_;simp only[go_sem])
    refine E.jN [some 0,some 1,some 2,none] [3] rfl rfl (by simp only[go_sem];rfl) ?_;simp only[go_sem];exact i ⟨rfl,by rw[bN.qY,bN.ea,S (by omega),Rc (by omega)];simp[aL8,aLm]⟩
   ·(refine i ?_;simp only[go_sem])
    (refine E.bB [some 0,some 1,some 2,none] ?_;simp only[go_sem])
    exact i ⟨rfl,by rw[bN.qY,bN.ea,S (by omega),S (by omega)];rfl⟩
theorem aTU (p:bN)(t:Int): (p.qg t).state=1:=by unfold bN.qg;split<;>rfl
def aPQ (x y:Bool)(p:bN):Prop:=(p.state=0/\x=false/\y=false)\/(p.state=1/\x=true/\y=false)\/(p.state=2/\x=true/\y=true)
theorem aTV (x y:Bool)(p:bN){n:Nat}(cU:p.di n)(aH:n+3<=1000000)(ao:aPQ x y p)(I:Stamp)(bp:I.ok):aO prog 88 [.bd 0 1 0 0,.agg (aJ.J I),.int .i64 p.vy] (aLl x y p)
 (λv rs=>v= .bo []/\ ∃x' y',aPQ x' y' (p.ji I)/\(rs=aLl x' y' (p.ji I)\/(rs=aL8 x' y' (p.ji I)/\(p.ji I).ks=[]))):=by
 refine cu func88 aAg (by simp[adg,aG6]) ?_;obtain⟨O,h0,d⟩:=bp;obtain⟨vy,state,gu,lg,ks,fM,np⟩:=p;simp only[aPQ] at ao;rcases ao with ⟨rfl,rfl,rfl⟩|⟨rfl,rfl,rfl⟩|⟨rfl,rfl,rfl⟩<;>rcases O with O|O|O|O<;>simp only[go_sem,adg,aG6,aLl,aLm,Nn,O]
 ·(refine E.bB [some 0,some 1,some 2,none] ?_;simp only[go_sem])
  exact i ⟨rfl,true,false,.inr (.inl ⟨by simp[bN.ji,O,bN.enter],rfl,rfl⟩),.inr (by simp[bN.ji,O,aL8,aLm,bN.enter])⟩
 ·(refine fy [0,1,2,3] (aMT false false _ cU 2 I.time) ?_;rintro _ _ ⟨rfl,rfl⟩;simp only[go_sem,aLl,aL8,aLm])
  (refine E.bB [some 0,some 1,some 2,some 3] ?_;simp only[go_sem])
  exact i ⟨rfl,false,false,.inl ⟨by simp[bN.ji,O,bN.eP],rfl,rfl⟩,.inl (by simp[bN.ji,O,aLl,aLm,bN.eP])⟩
 ·(refine fy [0,1,2,3] (aMT false false _ cU 2 I.time) ?_;rintro _ _ ⟨rfl,rfl⟩;simp only[go_sem,aLl,aL8,aLm])
  (refine E.bB [some 0,some 1,some 2,some 3] ?_;simp only[go_sem])
  exact i ⟨rfl,false,false,.inl ⟨by simp[bN.ji,O,bN.eP],rfl,rfl⟩,.inl (by simp[bN.ji,O,aLl,aLm,bN.eP])⟩
 ·(refine fy [0,1,2,3] (aMT false false _ cU 2 I.time) ?_;rintro _ _ ⟨rfl,rfl⟩;simp only[go_sem,aLl,aL8,aLm])
  (refine E.bB [some 0,some 1,some 2,some 3] ?_;simp only[go_sem])
  exact i ⟨rfl,false,false,.inl ⟨by simp[bN.ji,O,bN.eP],rfl,rfl⟩,.inl (by simp[bN.ji,O,aLl,aLm,bN.eP])⟩
 ·(refine fy [0,1,2,3] (aMT true false _ cU 1 gu) ?_;rintro _ _ ⟨rfl,rfl⟩;simp only[go_sem,aLl,aL8,aLm])
  (refine E.bB [some 0,some 1,some 2,none] ?_;simp only[go_sem])
  exact i ⟨rfl,true,false,.inr (.inl ⟨by simp[bN.ji,O,bN.enter],rfl,rfl⟩),.inr (by simp[bN.ji,O,aL8,aLm,bN.enter,bN.eP])⟩
 ·(refine fy [0,1,2,3] (aSt false _ cU (by omega) I.time h0 d) ?_;rintro _ _ ⟨rfl,rfl⟩;simp only[go_sem,aLl,aL8,aLm])
  (refine E.bB [some 0,some 1,some 2,some 3] ?_;simp only[go_sem])
  exact i ⟨rfl,false,false,.inl ⟨by simp[bN.ji,O,bN.qY],rfl,rfl⟩,.inr (by simp[bN.ji,O,aL8,aLm,bN.qY])⟩
 ·(refine E.bB [some 0,some 1,some 2,some 3] ?_;simp only[go_sem])
  exact i ⟨rfl,true,true,.inr (.inr ⟨by simp[bN.ji,O],rfl,rfl⟩),.inl (by simp[bN.ji,O,aLl,aLm])⟩
 ·(refine fy [0,1,2,3] (aMT true false _ cU 5 I.time) ?_;rintro _ _ ⟨rfl,rfl⟩;simp only[go_sem,aLl,aL8,aLm])
  (refine E.bB [some 0,some 1,some 2,some 3] ?_;simp only[go_sem])
  exact i ⟨rfl,true,false,.inr (.inl ⟨by simp[bN.ji,O,bN.eP],rfl,rfl⟩),.inl (by simp[bN.ji,O,aLl,aLm,bN.eP])⟩
 ·(refine fy [0,1,2,3] (aMT true true _ cU 1 gu) ?_;rintro _ _ ⟨rfl,rfl⟩;simp only[go_sem,aLl,aL8,aLm])
  (refine E.bB [some 0,some 1,some 2,none] ?_;simp only[go_sem])
  exact i ⟨rfl,true,false,.inr (.inl ⟨by simp[bN.ji,O,bN.enter],rfl,rfl⟩),.inr (by simp[bN.ji,O,aL8,aLm,bN.enter,bN.eP])⟩
 ·(refine fy [0,1,2,3] (aSt true _ cU (by omega) I.time h0 d) ?_;rintro _ _ ⟨rfl,rfl⟩;simp only[go_sem,aLl,aL8,aLm])
  (refine E.bB [some 0,some 1,some 2,some 3] ?_;simp only[go_sem])
  exact i ⟨rfl,false,false,.inl ⟨by simp[bN.ji,O,bN.qY],rfl,rfl⟩,.inr (by simp[bN.ji,O,aL8,aLm,bN.qY])⟩
 ·(refine fy [0,1,2,3] (aMT true true _ cU 4 lg) ?_;rintro _ _ ⟨rfl,rfl⟩;simp only[go_sem,aLl,aL8,aLm])
  (refine E.bB [some 0,some 1,some 2,some 3] ?_;simp only[go_sem])
  exact i ⟨rfl,true,true,.inr (.inr ⟨by simp[bN.ji,O,bN.eP],rfl,rfl⟩),.inl (by simp[bN.ji,O,aLl,aLm,bN.eP])⟩
 ·(refine fy [0,1,2,3] (aSs true true _ cU I.time) ?_;rintro _ _ ⟨rfl,rfl⟩;simp only[go_sem,aLl,aL8,aLm])
  (refine E.bB [some 0,some 1,some 2,some 3] ?_;simp only[go_sem])
  exact i ⟨rfl,true,false,.inr (.inl ⟨by simp[bN.ji,O,aTU],rfl,rfl⟩),.inl (by simp[bN.ji,O,aLl,aLm])⟩
theorem aTW (p:bN)(I:Stamp): (p.ji I).vy=p.vy:=by
 have aGd:∀(q:bN) t,(q.qg t).vy=q.vy:=by intro q t;unfold bN.qg;split<;>rfl
 have aSu:∀(q:bN) t,(q.qY t).vy=q.vy:=by intro q t;unfold bN.qY bN.ea;dsimp only;split;rfl;split<;>rfl
 unfold bN.ji
 repeat' split
 all_goals first|rfl|rw[aSu,aGd];rfl|rw[aSu]|rw[aGd]
theorem aSv:∀(l:List Stamp) (p:bN),(l.foldl bN.ji p).vy=p.vy
 | [],_=>rfl
 |I::l,p=>by rw[aMb,aSv l,aTW]
theorem aTl (l:List Stamp)(n:Int)(hl:l.length<=9223372036854775806):aO prog 29 [.pure 4 (ai l),.int .i64 n] []
 (λv rs=>v= .bo [.pure 3 (ai (nQ l n)),.pure 2 (ai (tY l n)),.int .i64 (lb l n)]/\rs=[]):=by
 refine hJ func29 azA (by simp[acu,N2]) ?_;simp only[go_sem,acu,N2]
 repeat (refine i ?_;simp only[go_sem])
 refine dj ?_ ?_<;>intro dI<;>simp only[bC] at dI<;>simp only[go_sem,acu,N2]
 ·have pM:lb l n=3:=by rw[lb,Rc (by omega)]
  (refine E.iv 4 88 3 rfl (E.eW [4,5,6] ?_);simp only[go_sem])
  (refine E.iv 5 132 2 rfl (E.eW [4,5,6] ?_);simp only[go_sem])
  (refine aL1 [] [0,1] ?_;simp only[go_sem])
  (refine i ?_;simp only[go_sem])
  exact i ⟨by simp[nQ,tY,pM,ai,bs],rfl⟩
 repeat (refine i ?_;simp only[go_sem])
 repeat' ((first|refine gv ?_ ?_|refine gw ?_ ?_|refine cf ?_ ?_|refine dj ?_ ?_)<;>intro aw<;>(have ak:=aw;try simp only[bC] at ak)<;>(first|omega| (simp only[go_sem,aw,acu,N2];clear aw)))
 ·have pM:lb l n=2:=by rw[lb,S (by omega),Rc (by omega)]
  (refine i ?_;simp only[go_sem])
  (refine E.iv 4 88 3 rfl (E.eW [4,5,6] ?_);simp only[go_sem])
  (refine E.iv 5 132 2 rfl (E.eW [4,5,6] ?_);simp only[go_sem])
  (refine aL1 [] [0,1] ?_;simp only[go_sem])
  (refine i ?_;simp only[go_sem])
  exact i ⟨by simp[nQ,tY,pM,ai,bs],rfl⟩
 (refine i ?_;simp only[go_sem])
 refine dj ?_ ?_<;>intro ct<;>simp only[bC] at ct<;>simp only[go_sem,acu,N2]
 ·have pM:lb l n=2:=by rw[lb,S (by omega),Rc (by omega)]
  (refine E.iv 4 88 3 rfl (E.eW [4,5,6] ?_);simp only[go_sem])
  (refine E.iv 5 132 2 rfl (E.eW [4,5,6] ?_);simp only[go_sem])
  (refine aL1 [] [0,1] ?_;simp only[go_sem])
  (refine i ?_;simp only[go_sem])
  exact i ⟨by simp[nQ,tY,pM,ai,bs],rfl⟩
 have pM:lb l n=if qM 0 l then 0 else 1:=by rw[lb,S (by omega),S (by omega)]
 (refine i ?_;simp only[go_sem])
 (refine i ?_;simp only[go_sem])
 refine hv (λD r=> ∃(c:Nat) (e:Int),c<=l.length/\0<=e/\(c=0->e=0)/\(∀j (h:j<l.length),c=j+1->e=l[j].time)/\qM 0 l=qM e (l.drop c)/\D=[(0,.pure 4 (ai l)),(1,.int .i64 n),(7,.int .i64 c)]/\r=[])
  (λD _=>match bs D 7 with| .int _ j=>(l.length-j).toNat|_=>0) ?_ ?_
 ·exact i ⟨0,0,by omega,by omega,λ_=>rfl,λj _ h=>by omega,by simp,rfl,rfl⟩
 ·rintro D r ⟨c,e,av,he,aSr,aQZ,af,rfl,rfl⟩;simp only[go_sem,acu,N2]
  repeat (refine i ?_;simp only[go_sem])
  refine dj ?_ ?_<;>intro fH<;>simp only[bC] at fH<;>simp only[go_sem,acu,N2]
  ·have aI:c<l.length:=by omega
   have nT: (0:Int)<=c:=by omega
   have vB: (c:Int)<l.length:=by omega
   have eR: (ai l).getD c []=[.int .i64 l[c].time,.int .i64 l[c].cB,.int .i64 l[c].cZ,.int .i64 l[c].Y]:=by rw[cT aI,Nn]
   have dn:=dB (c:=c) (by omega);rw[oF aI,qM] at af;have AU:∀j (h:j<l.length),c+1=j+1->l[c].time=l[j].time:=by intro j h hj;obtain rfl:c=j:=(by omega);rfl
   generalize l[c]=I at eR af AU
   (refine i ?_;simp only[go_sem])
   simp only[go_sem,nT,vB,eR];have qR:¬(1<=I.cB/\I.cB<=4/\e<=I.time/\I.time<=120968639)->lb l n=1:=by
    intro h;rw[pM,S];rw[af,aLh h];simp
   rcases aNJ c with h|h
   ·have:=aSr h;subst h;subst this;have aTX: (0:Int)<l.length:=by omega
    have EN:decide ((0:Int)<((0:Nat):Int))=false:=rfl;have FD:IntKind.i64.wrap ((0:Int)+1)=((1:Nat):Int):=rfl
    (refine i ?_;simp only[go_sem])
    repeat' ((first|refine gv ?_ ?_|refine gw ?_ ?_|refine cf ?_ ?_|refine dj ?_ ?_)<;>intro aw<;>(have ak:=aw;try simp only[bC] at ak)<;>(first|omega| (simp only[go_sem,aw,acu,N2,aPb,aTX,eR,EN];clear aw)))
    all_goals try (refine i ?_;simp only[go_sem])
    any_goals
     have aOV:=qR (by omega)
     (refine E.iv 4 88 3 rfl (E.eW [4,5,6] ?_);simp only[go_sem])
     (refine E.iv 5 132 2 rfl (E.eW [4,5,6] ?_);simp only[go_sem])
     (refine aL1 [] [1,2] ?_;simp only[go_sem])
     (refine i ?_;simp only[go_sem])
     exact i ⟨by simp[nQ,tY,aOV,ai,bs],rfl⟩
    (refine i ?_;simp only[go_sem])
    (refine E.bB [] ?_;simp only[go_sem])
    refine i ⟨⟨1,I.time,by omega,by omega,λh=>by omega,AU,?_,rfl,rfl⟩,?_⟩
    ·rw[af,aLv,aLw]
    ·simp only[go_sem];omega
   ·obtain⟨j,rfl⟩:∃j,c=j+1:=⟨c-1,by omega⟩;have aTY:=aQZ j (by omega) rfl;have un: (ai l).getD j []=[.int .i64 l[j].time,.int .i64 l[j].cB,.int .i64 l[j].cZ,.int .i64 l[j].Y]:=by rw[cT (by omega),Nn]
    rw[<-aTY] at un;have ud: (0:Int)<=j:=by omega
    have Te: (j:Int)<l.length:=by omega
    have xf:IntKind.i64.wrap (((j+1:Nat):Int)-1)=(j:Int):=by rw[bl];omega
    have LF:decide ((0:Int)<((j+1:Nat):Int))=true:=aLv
    (refine i ?_;simp only[go_sem])
    repeat' ((first|refine gv ?_ ?_|refine gw ?_ ?_|refine cf ?_ ?_|refine dj ?_ ?_)<;>intro aw<;>(have ak:=aw;try simp only[bC] at ak)<;>(first|omega| (simp only[go_sem,aw,acu,N2,LF,nT,vB,eR,xf,un,ud,Te];clear aw)))
    all_goals try (refine i ?_;simp only[go_sem])
    any_goals
     have aOV:=qR (by omega)
     (refine E.iv 4 88 3 rfl (E.eW [4,5,6] ?_);simp only[go_sem])
     (refine E.iv 5 132 2 rfl (E.eW [4,5,6] ?_);simp only[go_sem])
     (refine aL1 [] [1,2] ?_;simp only[go_sem])
     (refine i ?_;simp only[go_sem])
     exact i ⟨by simp[nQ,tY,aOV,ai,bs],rfl⟩
    refine dj ?_ ?_<;>intro pd<;>simp only[bC] at pd<;>simp only[go_sem,acu,N2]
    ·have aOV:=qR (by omega)
     (refine E.iv 4 88 3 rfl (E.eW [4,5,6] ?_);simp only[go_sem])
     (refine E.iv 5 132 2 rfl (E.eW [4,5,6] ?_);simp only[go_sem])
     (refine aL1 [] [1,2] ?_;simp only[go_sem])
     (refine i ?_;simp only[go_sem])
     exact i ⟨by simp[nQ,tY,aOV,ai,bs],rfl⟩
    ·(refine i ?_;simp only[go_sem])
     rw[dn]
     (refine E.bB [] ?_;simp only[go_sem])
     refine i ⟨⟨j+1+1,I.time,by omega,by omega,λh=>by omega,AU,?_,rfl,rfl⟩,?_⟩
     ·rw[af,aLv,aLw]
     ·simp only[go_sem];omega
  ·have vC:c=l.length:=by omega
   subst vC;have rW:qM 0 l=true:=by rw[af,aLF];rfl
   have Bg:lb l n=0:=by rw[pM,Rc rW]
   have bp:=Ur rW (by omega)
   repeat (refine i ?_;simp only[go_sem])
   refine hv (λD r=> ∃(c:Nat) (x y:Bool),c<=l.length/\aPQ x y (ra (l.take c) n)/\D=[(0,.pure 4 (ai l)),(1,.int .i64 n),(9,.bd 0 1 0 0),(10,.int .i64 c)]/\r=aLl x y (ra (l.take c) n))
    (λD _=>match bs D 10 with| .int _ j=>(l.length-j).toNat|_=>0) ?_ ?_
   ·(refine E.oc (.vQ 0 0 5 88 3 rfl (by simp) (by decide) rfl) ?_;simp only[go_sem,fb])
    (refine E.oc (.vQ 0 0 6 132 2 rfl (by simp) (by decide) rfl) ?_;simp only[go_sem,fb])
    (refine E.oc (.vQ 0 0 4 64 2 rfl (by simp) (by decide) rfl) ?_;simp only[go_sem,fb])
    exact i ⟨0,false,false,by omega,.inl ⟨rfl,rfl,rfl⟩,rfl,rfl⟩
   ·rintro D r ⟨c,x,y,av,xN,rfl,rfl⟩;obtain⟨cU,cn⟩:=aGe Bg c;simp only[go_sem,acu,N2]
    repeat (refine i ?_;simp only[go_sem])
    refine dj ?_ ?_<;>intro pd<;>simp only[bC] at pd<;>simp only[go_sem,acu,N2]
    ·have aI:c<l.length:=by omega
     repeat (refine i ?_;simp only[go_sem])
     simp only[go_sem,aLl,aLm];refine⟨by omega,by omega,?_⟩
     try simp only[aKX]
     rw[cT aI];simp only[go_sem,acu,N2]
     repeat (refine i ?_;simp only[go_sem])
     have N:=aTV x y _ cU (by omega) xN l[c] (bp _ (aLc _));have re: (ra (l.take c) n).ji l[c]=ra (l.take (c+1)) n:=by
      rw[ra,ra,aMP,aKS aI,aMc];rfl
     have ps: (ra (l.take c) n).vy=n:=aSv _ _;rw[re,ps] at N;have aP:=dB (c:=c) (by omega);refine om [0,1,2,3] [] (by decide) (by simp only[go_sem]<;>rfl) (by simp only[go_sem]<;>rfl) N ?_;rintro _ _ ⟨rfl,x',y',aSw,h|⟨h,pP⟩⟩
     ·subst h;refine⟨.inl rfl,?_⟩;simp only[go_sem,aLl,aLm]
      (refine i ?_;simp only[go_sem])
      rw[aP]
      (refine E.bB [some 0,some 1,some 2,some 3] ?_;simp only[go_sem])
      refine i ⟨⟨c+1,x',y',by omega,aSw,rfl,rfl⟩,?_⟩;simp only[go_sem];omega
     ·subst h;refine⟨.inl rfl,?_⟩;simp only[go_sem,aL8,aLm]
      (refine i ?_;simp only[go_sem])
      rw[aP]
      (refine E.oc (.vQ 0 0 4 64 2 rfl (by simp) (by decide) rfl) ?_;simp only[go_sem,fb])
      (refine E.bB [some 0,some 1,some 2,some 4] ?_;simp only[go_sem])
      refine i ⟨⟨c+1,x',y',by omega,aSw,rfl,by simp[aLl,aLm,pP,ai]⟩,?_⟩;simp only[go_sem];omega
    ·have vC:c=l.length:=by omega
     subst vC;rw[aLb] at cU xN cn ⊢;have sm:=cU.yQ;simp only[go_sem,aLl,aLm]
     (refine i ?_;simp only[go_sem])
     (refine i ?_;simp only[go_sem])
     have mX:x=true->(ra l n).bg=(ra l n).eP 1 (ra l n).gu:=by
      intro aj;unfold bN.bg;rw[S];rcases xN with ⟨h,cR,_⟩|⟨h,_,_⟩|⟨h,_,_⟩
      ·rw[aj] at cR;cases cR
      ·omega
      ·omega
     have aTZ:x=false->(ra l n).bg=ra l n:=by
      intro aj;unfold bN.bg;rw[Rc];rcases xN with ⟨h,cR,_⟩|⟨h,cR,_⟩|⟨h,cR,_⟩
      ·exact h
      ·rw[aj] at cR;cases cR
      ·rw[aj] at cR;cases cR
     refine dj ?_ ?_<;>intro nW<;>(try simp only[bC] at nW)<;>simp only[go_sem,acu,N2]
     ·have N:=aMT x y _ cU 1 (ra l n).gu;refine fy [0,1,2,3] N ?_;rintro _ _ ⟨rfl,rfl⟩;simp only[go_sem,aLl,aLm]
      (refine i ?_;simp only[go_sem])
      (refine aL1 [] [1,2] ?_;simp only[go_sem])
      (refine i ?_;simp only[go_sem])
      refine i ⟨?_,rfl⟩;simp[bs,nQ,tY,Bg,mX nW]
     ·(refine i ?_;simp only[go_sem])
      (refine aL1 [] [1,2] ?_;simp only[go_sem])
      (refine i ?_;simp only[go_sem])
      refine i ⟨?_,rfl⟩;simp[bs,nQ,tY,Bg,aTZ nW]
end Go.Proofs.YtpincjkjoeopkaaGreatDoor.Pr
namespace Go.Proofs.YtpincjkjoeopkaaGreatDoor.Ib
open Go Go.Abs Go.Proofs.Tryz
def wQ (t:Int):Prop:=29453760<=t/\t<=29470000
def ne (e:Ev):Prop:=IV e/\wQ e.time
theorem agR {bj:Type}{P:bj->Prop}{l:List bj}{c:Nat}{x:bj}(h:∀y∈l,P y)(aj:P x):∀y∈l.set c x,P y:=by
 intro y bt;rcases aNZ bt with d|d
 ·exact h y d
 ·subst d;exact aj
theorem aCC (l:List Int)(hl:mW l)(n:Int)(LD:0<=n)(aH:n<=10)(az:Int)(h0:0<=az)(d:az<=l.length):aO prog 23 [.bd 0 1 0 0,.int .i64 n] [gp l az]
 (λv rs=> ∃(a:Int) (ar:List Ev),v= .own 1 ar.length 0 ar.length/\rs=[gp l a,.ag 71 7 (ai ar)]/\0<=a/\a<=l.length/\ar.length<=5*n/\ ∀e∈ar,ne e):=by
 refine hJ func23 acs (by simp[a23,sI]) ?_;unfold gp;simp only[go_sem,a23,sI]
 repeat (refine i ?_;simp only[go_sem])
 refine hv (λD r=> ∃(a:Int) (B:Nat) (ar:List Ev),0<=a/\a<=l.length/\B<=n/\ar.length<=5*B/\(∀e∈ar,ne e)/\D=[(0,.bd 0 1 0 0),(1,.int .i64 n),(5,.own 1 ar.length 0 ar.length),(6,.int .i64 (20+4*B)),(7,.int .i64 B)]/\r=[dX 143 l a,.ag 71 7 (ai ar)])
  (λD _=>match bs D 7 with| .int _ j=>(n-j).toNat|_=>0) ?_ ?_
 ·(refine E.iv 5 71 7 rfl (E.eW [0,1,5,6,7] ?_);simp only[go_sem])
  exact i ⟨az,0,[],by omega,by omega,by omega,by simp,by simp,rfl,rfl⟩
 clear h0 d;rintro D r ⟨az,B,ar,h0,d,ay,jI,kM,rfl,rfl⟩;have dn:=dB (c:=B) (by omega);simp only[go_sem,a23,sI]
 repeat (refine i ?_;simp only[go_sem])
 refine dj ?_ ?_<;>intro aw<;>simp only[bC] at aw<;>simp only[go_sem,a23,sI]
 ·repeat (refine i ?_;simp only[go_sem])
  rw[bl (x:=(B:Int)*1440),bl (x:=29453760+(B:Int)*1440)]
  (refine ja [480,465,1320,360,477] (aLs l hl _ (by simp) (by simp)) ?_;rintro _ az _ _ ⟨p,cg,rfl⟩;simp only[fR] at cg;simp only[go_sem])
  have ak:0<=p/\p<=1320:=by omega
  clear cg;rw[bl (x:=29453760+(B:Int)*1440+p)]
  (refine lN (hi l hl 7 (by omega)) ?_;rintro _ az _ _ ⟨q,rfl,_,_⟩;simp only[go_sem])
  rw[bl];have agS:wQ (29453760+(B:Int)*1440+p+q)/\29453760+(B:Int)*1440+p+q<=29468100:=by unfold wQ;omega
  generalize 29453760+(B:Int)*1440+p+q=R at agS;unfold wQ at agS
  repeat (refine i ?_;simp only[go_sem])
  (refine ja [480,510,540,660,300,75] (aLs l hl _ (by simp) (by simp)) ?_;rintro _ az _ _ ⟨y,cg,rfl⟩;simp only[fR] at cg;simp only[go_sem])
  have bt:0<=y/\y<=660:=by omega
  clear cg;rw[bl]
  (refine E.bB [some 0,some 1] ?_;simp only[go_sem])
  (refine i ?_;simp only[go_sem])
  (refine i ?_;simp only[go_sem])
  refine i (W6 (λD r=> ∃(a:Int) (aW K:List Int) (bS:List Z),0<=a/\a<=l.length/\K.length=aW.length/\aW.length<=4/\(∀t∈aW,wQ t)/\(∀k∈K,1<=k/\k<=4)/\eW [0,1,5,6,7,8,10,11] D=[(0,.bd 0 1 0 0),(1,.int .i64 n),(5,.own 1 ar.length 0 ar.length),(6,.int .i64 (20+4*B)),(7,.int .i64 B),(8,.int .i64 R),(10,.own 2 aW.length 0 aW.length),(11,.own 3 aW.length 0 aW.length)]/\r=dX 143 l a:: .ag 71 7 (ai ar):: .ag 3 1 (cJ .i64 aW):: .ag 3 1 (cJ .i64 K)::bS) ?_ ?_)
  ·simp only[go_sem]
   (refine lN (hi l hl 2 (by omega)) ?_;rintro _ az _ _ ⟨b,rfl,_,_⟩;simp only[go_sem])
   repeat (refine i ?_;simp only[go_sem])
   refine dj ?_ ?_<;>intro ct<;>simp only[bC] at ct<;>simp only[go_sem,a23,sI]
   ·repeat (refine i ?_;simp only[go_sem])
    (refine ja [120,240,60] (aLs l hl _ (by simp) (by simp)) ?_;rintro _ az _ _ ⟨u,cg,rfl⟩;simp only[fR] at cg;simp only[go_sem])
    have bc:0<=u/\u<=240:=by omega
    clear cg;rw[bl]
    repeat (refine i ?_;simp only[go_sem])
    (refine ja [30,15,45] (aLs l hl _ (by simp) (by simp)) ?_;rintro _ az _ _ ⟨w,cg,rfl⟩;simp only[fR] at cg;simp only[go_sem])
    have aP:0<=w/\w<=45:=by omega
    clear cg;rw[bl]
    repeat (refine i ?_;simp only[go_sem])
    refine⟨az,[R,R+y,R+u,R+u+w],[1,2,3,4],_,by omega,by omega,rfl,by simp,?_,?_,rfl,rfl⟩
    ·intro t ht;unfold wQ;simp only[fR] at ht;omega
    ·intro t ht;simp only[fR] at ht;omega
   ·refine⟨az,[R,R+y],[1,2],[],by omega,by omega,rfl,by simp,?_,?_,rfl,rfl⟩
    ·intro t ht;unfold wQ;simp only[fR] at ht;omega
    ·intro t ht;simp only[fR] at ht;omega
  clear h0 d;rintro D r ⟨az,aW,K,bS,h0,d,aCD,aKd,hN,cA,ql,rfl⟩;refine E.eW [0,1,5,6,7,8,10,11] ?_;rw[ql];clear ql;refine E.jN [some 0,some 1] [2,3] rfl rfl (by simp only[go_sem]<;>rfl) ?_;simp only[go_sem,aCD];have nF:K.take aW.length=K:=aLZ (by omega);rw[nF]
  repeat (refine i ?_;simp only[go_sem])
  refine hv (λD r=> ∃(a:Int) (j:Nat) (oC:List Ev),0<=a/\a<=l.length/\j<=aW.length/\oC.length<=5*B+j/\(∀e∈oC,ne e)/\D=[(0,.bd 0 1 0 0),(1,.int .i64 n),(5,.own 1 oC.length 0 oC.length),(6,.int .i64 (20+4*B)),(7,.int .i64 B),(8,.int .i64 R),(10,.pure 1 (cJ .i64 aW)),(11,.pure 1 (cJ .i64 K)),(13,.int .i64 j)]/\r=[dX 143 l a,.ag 71 7 (ai oC)])
   (λD _=>match bs D 13 with| .int _ j=>(aW.length-j).toNat|_=>0) ?_ ?_
  ·exact i ⟨az,0,ar,by omega,by omega,by omega,by omega,kM,rfl,rfl⟩
  clear h0 d kM jI ar;rintro D r ⟨az,j,ar,h0,d,hj,jI,kM,rfl,rfl⟩;have nf:=dB (c:=j) (by omega);simp only[go_sem,a23,sI]
  repeat (refine i ?_;simp only[go_sem])
  refine dj ?_ ?_<;>intro ct<;>simp only[bC] at ct<;>simp only[go_sem,a23,sI]
  ·(refine i ?_;simp only[go_sem])
   (refine lN (hi l hl 14 (by omega)) ?_;rintro _ az _ _ ⟨b,rfl,_,_⟩;simp only[go_sem])
   (refine i ?_;simp only[go_sem])
   refine dj ?_ ?_<;>intro fH<;>simp only[bC] at fH<;>simp only[go_sem,a23,sI]
   ·repeat (refine i ?_;simp only[go_sem])
    simp only[go_sem,nf];exact⟨⟨az,j+1,ar,by omega,by omega,by omega,by omega,kM,rfl,rfl⟩,by omega⟩
   ·have aI:j<aW.length:=by omega
    have hw:j<K.length:=by omega
    have z0: (0:Int)<=j:=by omega
    have mn: (j:Int)<aW.length:=by omega
    have Tf: (j:Int)<K.length:=by omega
    have aCE: (cJ .i64 aW).getD j []=[.int .i64 aW[j]]:=by rw[tw aI,aLn,aKS aI,aMW]
    have tn: (cJ .i64 K).getD j []=[.int .i64 K[j]]:=by rw[tw hw,aLn,aKS hw,aMW]
    have aCF:=hN _ (aLc aI);have aKe:=cA _ (aLc hw);generalize aW[j]=iq at *;generalize K[j]=JR at *;unfold wQ at aCF
    (refine i ?_;simp only[go_sem])
    simp only[go_sem,z0,mn,Tf,aCE,tn];rw[bl (x:=20+4*(B:Int)+j)];refine⟨by omega,?_⟩;rw[Tc]
    (refine E.bB [some 0,some 1] ?_;simp only[go_sem])
    repeat (refine i ?_;simp only[go_sem])
    simp only[go_sem,nf];refine⟨⟨az,j+1,ar++[⟨2,20+4*B+j,1,iq,JR,0,0⟩],by omega,by omega,by omega,by simp;omega,?_,by simp,rfl⟩,by omega⟩;intro e he;simp only[aK3,aK2] at he;rcases he with he|rfl
    ·exact kM e he
    ·simp only[ne,IV,wQ,iD,mC,aMi];omega
  ·refine i (W6 (λD r=> ∃(a:Int) (oC:List Ev) (bS:List Z),0<=a/\a<=l.length/\oC.length<=5*B+5/\(∀e∈oC,ne e)/\eW [0,1,5,6,7] D=[(0,.bd 0 1 0 0),(1,.int .i64 n),(5,.own 1 oC.length 0 oC.length),(6,.int .i64 (20+4*B)),(7,.int .i64 B)]/\r=dX 143 l a:: .ag 71 7 (ai oC)::bS) ?_ ?_)
   ·simp only[go_sem]
    (refine lN (hi l hl 6 (by omega)) ?_;rintro _ az _ _ ⟨b,rfl,_,_⟩;simp only[go_sem])
    repeat (refine i ?_;simp only[go_sem])
    refine dj ?_ ?_<;>intro fH<;>simp only[bC] at fH<;>simp only[go_sem,a23,sI]
    ·repeat (refine i ?_;simp only[go_sem])
     rw[bl]
     (refine ja [6,5] (aLs l hl _ (by simp) (by simp)) ?_;rintro _ az _ _ ⟨u,cg,rfl⟩;simp only[fR] at cg;simp only[go_sem])
     refine⟨by omega,?_⟩;rw[Tc]
     repeat (refine i ?_;simp only[go_sem])
     refine⟨az,ar++[⟨3,20+4*B,1,R+10,u,2,20+4*B⟩],_,by omega,by omega,by simp;omega,?_,by simp,rfl⟩;intro e he;simp only[aK3,aK2] at he;rcases he with he|rfl
     ·exact kM e he
     ·simp only[ne,IV,wQ,iD,mC,aMi];omega
    ·exact⟨az,ar,[],by omega,by omega,by omega,kM,rfl,rfl⟩
   clear h0 d kM jI ar;rintro D r ⟨az,ar,bS,h0,d,jI,kM,ql,rfl⟩;refine E.eW [0,1,5,6,7] ?_;rw[ql];clear ql;refine aMd [some 0,some 1] [] rfl rfl (by simp only[go_sem]<;>rfl) ?_;simp only[go_sem]
   repeat (refine i ?_;simp only[go_sem])
   rw[bl (x:=20+4*(B:Int)+4)];simp only[go_sem,dn];refine⟨⟨az,B+1,ar,by omega,by omega,by omega,by omega,kM,?_,rfl⟩,by omega⟩;simp;omega
 ·repeat (refine i ?_;simp only[go_sem])
  refine hv (λD r=> ∃(a:Int) (j:Int) (oC:List Ev),0<=a/\a<=l.length/\ -1<=j/\j<oC.length/\oC.length<=5*n/\(∀e∈oC,ne e)/\D=[(0,.bd 0 1 0 0),(5,.own 1 oC.length 0 oC.length),(14,.int .i64 j)]/\r=[dX 143 l a,.ag 71 7 (ai oC)])
   (λD _=>match bs D 14 with| .int _ j=>j.toNat|_=>0) ?_ ?_
  ·rw[bl];exact i ⟨az,ar.length-1,ar,by omega,by omega,by omega,by omega,by omega,kM,rfl,rfl⟩
  clear h0 d kM jI ar;rintro D r ⟨az,j,ar,h0,d,ud,hj,jI,kM,rfl,rfl⟩;simp only[go_sem,a23,sI]
  repeat (refine i ?_;simp only[go_sem])
  refine dj ?_ ?_<;>intro ct<;>simp only[bC] at ct<;>simp only[go_sem,a23,sI]
  ·repeat (refine i ?_;simp only[go_sem])
   (refine lN (hi l hl 3 (by omega)) ?_;rintro _ az _ _ ⟨b,rfl,_,_⟩;simp only[go_sem])
   repeat (refine i ?_;simp only[go_sem])
   refine dj ?_ ?_<;>intro fH<;>simp only[bC] at fH<;>simp only[go_sem,a23,sI]
   ·repeat (refine i ?_;simp only[go_sem])
    rw[bl]
    (refine lN (hi l hl (j+1) (by omega)) ?_;rintro _ az _ _ ⟨k,rfl,_,_⟩;simp only[go_sem])
    obtain⟨j,rfl⟩:∃q:Nat,j=q:=⟨j.toNat,by omega⟩;obtain⟨k,rfl⟩:∃q:Nat,k=q:=⟨k.toNat,by omega⟩;have nC:j<ar.length:=by omega
    have gO:k<ar.length:=by omega
    have z0: (0:Int)<=j:=by omega
    have mn: (j:Int)<ar.length:=by omega
    have Tf: (0:Int)<=k:=by omega
    have z3: (k:Int)<ar.length:=by omega
    have Sx: (ai ar).getD j []=aJ.J ar[j]:=cT nC;have gk: (ai ar).getD k []=aJ.J ar[k]:=cT gO;have zI:∀x:Ev,List.drop 7 (aJ.J x)=[]:=λ_=>rfl;have hw:k<(ar.set j ar[k]).length:=by rw[aLg];omega
    (refine i ?_;simp only[go_sem])
    simp only[go_sem,z0,mn,Tf,z3,Sx,gk];rw[zI,aLY,xS,cT hw,zI,aLY,xS]
    repeat (refine i ?_;simp only[go_sem])
    rw[bl];refine⟨⟨az,j-1,(ar.set j ar[k]).set k ar[j],by omega,by omega,by omega,by simp only[aLg];omega,by simp only[aLg];omega,agR (agR kM (kM _ (aLc gO))) (kM _ (aLc nC)),by simp,rfl⟩,by omega⟩
   ·repeat (refine i ?_;simp only[go_sem])
    rw[bl];exact⟨⟨az,j-1,ar,by omega,by omega,by omega,by omega,by omega,kM,rfl,rfl⟩,by omega⟩
  ·repeat (refine i ?_;simp only[go_sem])
   exact i ⟨az,ar,rfl,rfl,by omega,by omega,by omega,kM⟩
structure oz (l:List Ev) (n:Nat):Prop where
 v:∀e∈l,iD e
 len:l.length<=n
theorem oz.all {l:List Ev}{n:Nat}(h:oz l n):po l=true:=by
 unfold po;rw[aLW];exact λe he=>aLf (h.v e he)
theorem oz.ij {l:List Ev}{n:Nat}(h:oz l n)(aH:n<=1024):cL l=0:=by
 have:=h.len;unfold Ib.cL;rw[S (by omega),Rc h.all]
theorem axF {e:Ev}(h:IV e):iD e:=h.1
end Go.Proofs.YtpincjkjoeopkaaGreatDoor.Ib
