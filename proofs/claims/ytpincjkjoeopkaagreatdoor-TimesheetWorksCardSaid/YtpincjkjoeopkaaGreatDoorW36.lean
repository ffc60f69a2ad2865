/- Presences and working time. -/
import Derived.Test.YtpincjkjoeopkaaGreatDoorW23
set_option linter.all false
namespace Go.Proofs.YtpincjkjoeopkaaGreatDoor.Pr
open Go Go.Abs Go.Proofs.Tryz
def aKG (x d:Bool)(p:bN)(b:F):Z:= .ag 180 7 [[.bool x,.bool d,.int .i64 p.gu,.int .i64 p.lg,b,.own 1 p.fM.length 0 p.fM.length,.own 2 p.np.length 0 p.np.length]]
def aKF (x d:Bool)(p:bN):List Z:= [aKG x d p (.own 3 p.ks.length 0 p.ks.length),.ag 88 3 (ai p.fM),.ag 132 2 (ai p.np),.ag 64 2 (ai p.ks)]
def aKQ (x d:Bool)(p:bN):List Z:= [aKG x d p .bH,.ag 88 3 (ai p.fM),.ag 132 2 (ai p.np),.fP]
theorem aK0 (x d:Bool)(p:bN){n:Nat}(cU:p.di n)(k t:Int):aO prog 89 [.bd 0 1 0 0,.int .i64 k,.int .i64 t] (aKF x d p) (fun v rs=>v= .bo []∧rs=aKF x d (p.eP k t)):=by
 refine hJ func89 aAh (by simp[adh,aHw]) ?_;simp only[go_sem,adh,aHw,aKF,aKG];have au:=cU.yQ;have bv:=cU.h;refine⟨by omega,?_⟩
 (refine E.bB [some 0,some 1,some 2,some 3] ?_;simp only[go_sem])
 exact E.ac ⟨rfl,by simp[aKF,aKG,bN.eP]⟩
theorem aNR (x d:Bool)(p:bN){n:Nat}(cU:p.di n)(t:Int):aO prog 174 [.bd 0 1 0 0,.int .i64 t] (aKF x d p) (fun v rs=>v= .bo []∧rs=aKF x false (p.qg t)):=by
 refine hJ func174 aA1 (by simp[aev,aI2]) ?_;simp only[go_sem,aev,aI2,aKF,aKG];have au:=cU.mN;have bv:=cU.h
 (refine E.ac ?_;simp only[go_sem])
 repeat' ((first|refine gv ?_ ?_|refine gw ?_ ?_|refine cf ?_ ?_|refine dj ?_ ?_)<;>intro aw<;>(have ak:=aw;try simp only[bC] at ak)<;>(first|omega| (simp only[go_sem,aw,aev,aI2];clear aw)))
 ·refine⟨by omega,?_⟩
  (refine E.bB [some 0,some 1,some 2,some 3] ?_;simp only[go_sem])
  (refine E.ac ?_;simp only[go_sem])
  exact E.ac ⟨rfl,by simp[aKF,aKG,bN.qg,ak]⟩
 ·(refine E.ac ?_;simp only[go_sem])
  exact E.ac ⟨rfl,by rw[bN.qg,if_neg (by omega)]<;>rfl⟩
theorem aNS (d:Bool)(p:bN){n:Nat}(cU:p.di n)(aH:n+2≤1000000)(t:Int)(h0:0≤t)(h1:t≤120968639):aO prog 173 [.bd 0 1 0 0,.int .i64 t,.int .i64 p.vy] (aKF true d p)
 (fun v rs=>v= .bo []∧rs=aKQ false false ((if d then (p.eP 4 p.lg).qg t else p).qY t)):=by
 refine hJ func173 aA0 (by simp[aeu,aIx]) ?_;simp only[go_sem,aeu,aIx,aKF,aKG]
 (refine E.ac ?_;simp only[go_sem])
 generalize ps:p.vy=aKs;refine dj ?_ ?_<;>intro aw<;>(try simp only[bC] at aw)<;>subst aw<;>simp only[go_sem,aeu,aIx]
 ·refine om [0,1,2,3] [] (by decide) (srows:=aKF true true p) (by simp only[go_sem]<;>rfl) (by simp only[go_sem]<;>rfl) (aK0 true true p cU 4 p.lg) ?_;rintro _ _ ⟨rfl,rfl⟩;refine⟨.inl rfl,?_⟩;simp only[go_sem,aKF,aKG]
  (refine E.ac ?_;simp only[go_sem])
  refine om [0,1,2,3] [] (by decide) (srows:=aKF true true (p.eP 4 p.lg)) (by simp only[go_sem]<;>rfl) (by simp only[go_sem]<;>rfl) (aNR true true _ (cU.eP (by omega) 4 p.lg) t) ?_;rintro _ _ ⟨rfl,rfl⟩;refine⟨.inl rfl,?_⟩;simp only[go_sem,aKF,aKG];have aKX:=(cU.eP (by omega) 4 p.lg).qg (by omega) t;have aV: ((p.eP 4 p.lg).qg t).vy=aKs:=by rw[←ps];unfold bN.qg bN.eP;split<;>rfl
  generalize (p.eP 4 p.lg).qg t=q at aKX aV ⊢;have G:=aKX.nv;have cx:=aKX.h;have au:=aKX.b0;have bv:=aKX.b1;have aP:IntKind.i64.wrap (t-q.gu)=t-q.gu:=bl (by omega) (by omega)
  (refine E.ac ?_;simp only[go_sem])
  rw[aP]
  (refine E.ac ?_;simp only[go_sem])
  refine dj ?_ ?_<;>intro aw<;>(have ak:=aw;try simp only[bC] at ak)<;>simp only[go_sem,aeu,aIx]
  ·refine om [0,1,2,3] [] (by decide) (srows:=aKF true false q) (by simp only[go_sem]<;>rfl) (by simp only[go_sem]<;>rfl) (aK0 true false q aKX 3 q.gu) ?_;rintro _ _ ⟨rfl,rfl⟩;refine⟨.inl rfl,?_⟩;simp only[go_sem,aKF,aKG]
   (refine E.ac ?_;simp only[go_sem])
   (refine E.bB [some 0,some 1,some 2,none] ?_;simp only[go_sem])
   exact E.ac ⟨rfl,by rw[bN.qY,bN.ea,if_pos (by omega)];rfl⟩
  ·(refine E.ac ?_;simp only[go_sem])
   repeat' ((first|refine gv ?_ ?_|refine gw ?_ ?_|refine cf ?_ ?_|refine dj ?_ ?_)<;>intro aw<;>(have ak:=aw;try simp only[bC] at ak)<;>(first|omega| (simp only[go_sem,aw,aeu,aIx];clear aw)))
   ·refine⟨by omega,?_⟩
    (refine E.ac ?_;simp only[go_sem])
    refine E.jN [some 0,some 1,some 2,none] [3] rfl rfl (by simp only[go_sem];rfl) ?_;simp only[go_sem];exact E.ac ⟨rfl,by rw[bN.qY,bN.ea,if_neg (by omega),if_pos (by omega)];simp[aKQ,aKG]⟩
   ·(refine E.ac ?_;simp only[go_sem])
    (refine E.bB [some 0,some 1,some 2,none] ?_;simp only[go_sem])
    exact E.ac ⟨rfl,by rw[bN.qY,bN.ea,if_neg (by omega),if_neg (by omega)];rfl⟩
 ·generalize aP2:p=q at cU ps ⊢;have aKX:=cU;have aV:=ps;have G:=aKX.nv;have cx:=aKX.h;have au:=aKX.b0;have bv:=aKX.b1;have aP:IntKind.i64.wrap (t-q.gu)=t-q.gu:=bl (by omega) (by omega)
  (refine E.ac ?_;simp only[go_sem])
  rw[aP]
  (refine E.ac ?_;simp only[go_sem])
  refine dj ?_ ?_<;>intro aw<;>(have ak:=aw;try simp only[bC] at ak)<;>simp only[go_sem,aeu,aIx]
  ·refine om [0,1,2,3] [] (by decide) (srows:=aKF true false q) (by simp only[go_sem]<;>rfl) (by simp only[go_sem]<;>rfl) (aK0 true false q aKX 3 q.gu) ?_;rintro _ _ ⟨rfl,rfl⟩;refine⟨.inl rfl,?_⟩;simp only[go_sem,aKF,aKG]
   (refine E.ac ?_;simp only[go_sem])
   (refine E.bB [some 0,some 1,some 2,none] ?_;simp only[go_sem])
   exact E.ac ⟨rfl,by rw[bN.qY,bN.ea,if_pos (by omega)];rfl⟩
  ·(refine E.ac ?_;simp only[go_sem])
   repeat' ((first|refine gv ?_ ?_|refine gw ?_ ?_|refine cf ?_ ?_|refine dj ?_ ?_)<;>intro aw<;>(have ak:=aw;try simp only[bC] at ak)<;>(first|omega| (simp only[go_sem,aw,aeu,aIx];clear aw)))
   ·refine⟨by omega,?_⟩
    (refine E.ac ?_;simp only[go_sem])
    refine E.jN [some 0,some 1,some 2,none] [3] rfl rfl (by simp only[go_sem];rfl) ?_;simp only[go_sem];exact E.ac ⟨rfl,by rw[bN.qY,bN.ea,if_neg (by omega),if_pos (by omega)];simp[aKQ,aKG]⟩
   ·(refine E.ac ?_;simp only[go_sem])
    (refine E.bB [some 0,some 1,some 2,none] ?_;simp only[go_sem])
    exact E.ac ⟨rfl,by rw[bN.qY,bN.ea,if_neg (by omega),if_neg (by omega)];rfl⟩
theorem aPP (p:bN)(t:Int): (p.qg t).state=1:=by unfold bN.qg;split<;>rfl
def aL0 (x d:Bool)(p:bN):Prop:=(p.state=0∧x=false∧d=false)∨(p.state=1∧x=true∧d=false)∨(p.state=2∧x=true∧d=true)
theorem aPQ (x d:Bool)(p:bN){n:Nat}(cU:p.di n)(aH:n+3≤1000000)(ao:aL0 x d p)(I:Stamp)(bp:I.ok):aO prog 88 [.bd 0 1 0 0,.agg (aJ.J I),.int .i64 p.vy] (aKF x d p)
 (fun v rs=>v= .bo []∧ ∃ x' y',aL0 x' y' (p.ji I)∧(rs=aKF x' y' (p.ji I)∨(rs=aKQ x' y' (p.ji I)∧(p.ji I).ks= []))):=by
 refine cu func88 aAg (by simp[adg,aG6]) ?_;obtain⟨O,h0,h1⟩:=bp;obtain⟨vy,state,gu,lg,ks,fM,np⟩:=p;simp only[aL0] at ao;rcases ao with ⟨rfl,rfl,rfl⟩|⟨rfl,rfl,rfl⟩|⟨rfl,rfl,rfl⟩<;>rcases O with O|O|O|O<;>simp only[go_sem,adg,aG6,aKF,aKG,Nn,O]
 ·(refine E.bB [some 0,some 1,some 2,none] ?_;simp only[go_sem])
  exact E.ac ⟨rfl,true,false,.inr (.inl ⟨by simp[bN.ji,O,bN.enter],rfl,rfl⟩),.inr (by simp[bN.ji,O,aKQ,aKG,bN.enter])⟩
 ·(refine fy [0,1,2,3] (aK0 false false _ cU 2 I.time) ?_;rintro _ _ ⟨rfl,rfl⟩;simp only[go_sem,aKF,aKQ,aKG])
  (refine E.bB [some 0,some 1,some 2,some 3] ?_;simp only[go_sem])
  exact E.ac ⟨rfl,false,false,.inl ⟨by simp[bN.ji,O,bN.eP],rfl,rfl⟩,.inl (by simp[bN.ji,O,aKF,aKG,bN.eP])⟩
 ·(refine fy [0,1,2,3] (aK0 false false _ cU 2 I.time) ?_;rintro _ _ ⟨rfl,rfl⟩;simp only[go_sem,aKF,aKQ,aKG])
  (refine E.bB [some 0,some 1,some 2,some 3] ?_;simp only[go_sem])
  exact E.ac ⟨rfl,false,false,.inl ⟨by simp[bN.ji,O,bN.eP],rfl,rfl⟩,.inl (by simp[bN.ji,O,aKF,aKG,bN.eP])⟩
 ·(refine fy [0,1,2,3] (aK0 false false _ cU 2 I.time) ?_;rintro _ _ ⟨rfl,rfl⟩;simp only[go_sem,aKF,aKQ,aKG])
  (refine E.bB [some 0,some 1,some 2,some 3] ?_;simp only[go_sem])
  exact E.ac ⟨rfl,false,false,.inl ⟨by simp[bN.ji,O,bN.eP],rfl,rfl⟩,.inl (by simp[bN.ji,O,aKF,aKG,bN.eP])⟩
 ·(refine fy [0,1,2,3] (aK0 true false _ cU 1 gu) ?_;rintro _ _ ⟨rfl,rfl⟩;simp only[go_sem,aKF,aKQ,aKG])
  (refine E.bB [some 0,some 1,some 2,none] ?_;simp only[go_sem])
  exact E.ac ⟨rfl,true,false,.inr (.inl ⟨by simp[bN.ji,O,bN.enter],rfl,rfl⟩),.inr (by simp[bN.ji,O,aKQ,aKG,bN.enter,bN.eP])⟩
 ·(refine fy [0,1,2,3] (aNS false _ cU (by omega) I.time h0 h1) ?_;rintro _ _ ⟨rfl,rfl⟩;simp only[go_sem,aKF,aKQ,aKG])
  (refine E.bB [some 0,some 1,some 2,some 3] ?_;simp only[go_sem])
  exact E.ac ⟨rfl,false,false,.inl ⟨by simp[bN.ji,O,bN.qY],rfl,rfl⟩,.inr (by simp[bN.ji,O,aKQ,aKG,bN.qY])⟩
 ·(refine E.bB [some 0,some 1,some 2,some 3] ?_;simp only[go_sem])
  exact E.ac ⟨rfl,true,true,.inr (.inr ⟨by simp[bN.ji,O],rfl,rfl⟩),.inl (by simp[bN.ji,O,aKF,aKG])⟩
 ·(refine fy [0,1,2,3] (aK0 true false _ cU 5 I.time) ?_;rintro _ _ ⟨rfl,rfl⟩;simp only[go_sem,aKF,aKQ,aKG])
  (refine E.bB [some 0,some 1,some 2,some 3] ?_;simp only[go_sem])
  exact E.ac ⟨rfl,true,false,.inr (.inl ⟨by simp[bN.ji,O,bN.eP],rfl,rfl⟩),.inl (by simp[bN.ji,O,aKF,aKG,bN.eP])⟩
 ·(refine fy [0,1,2,3] (aK0 true true _ cU 1 gu) ?_;rintro _ _ ⟨rfl,rfl⟩;simp only[go_sem,aKF,aKQ,aKG])
  (refine E.bB [some 0,some 1,some 2,none] ?_;simp only[go_sem])
  exact E.ac ⟨rfl,true,false,.inr (.inl ⟨by simp[bN.ji,O,bN.enter],rfl,rfl⟩),.inr (by simp[bN.ji,O,aKQ,aKG,bN.enter,bN.eP])⟩
 ·(refine fy [0,1,2,3] (aNS true _ cU (by omega) I.time h0 h1) ?_;rintro _ _ ⟨rfl,rfl⟩;simp only[go_sem,aKF,aKQ,aKG])
  (refine E.bB [some 0,some 1,some 2,some 3] ?_;simp only[go_sem])
  exact E.ac ⟨rfl,false,false,.inl ⟨by simp[bN.ji,O,bN.qY],rfl,rfl⟩,.inr (by simp[bN.ji,O,aKQ,aKG,bN.qY])⟩
 ·(refine fy [0,1,2,3] (aK0 true true _ cU 4 lg) ?_;rintro _ _ ⟨rfl,rfl⟩;simp only[go_sem,aKF,aKQ,aKG])
  (refine E.bB [some 0,some 1,some 2,some 3] ?_;simp only[go_sem])
  exact E.ac ⟨rfl,true,true,.inr (.inr ⟨by simp[bN.ji,O,bN.eP],rfl,rfl⟩),.inl (by simp[bN.ji,O,aKF,aKG,bN.eP])⟩
 ·(refine fy [0,1,2,3] (aNR true true _ cU I.time) ?_;rintro _ _ ⟨rfl,rfl⟩;simp only[go_sem,aKF,aKQ,aKG])
  (refine E.bB [some 0,some 1,some 2,some 3] ?_;simp only[go_sem])
  exact E.ac ⟨rfl,true,false,.inr (.inl ⟨by simp[bN.ji,O,aPP],rfl,rfl⟩),.inl (by simp[bN.ji,O,aKF,aKG])⟩
theorem aPR (p:bN)(I:Stamp): (p.ji I).vy=p.vy:=by
 have aGd: ∀ (q:bN) t,(q.qg t).vy=q.vy:=by intro q t;unfold bN.qg;split<;>rfl
 have aNT: ∀ (q:bN) t,(q.qY t).vy=q.vy:=by intro q t;unfold bN.qY bN.ea;dsimp only;split;rfl;split<;>rfl
 unfold bN.ji
 repeat' split
 all_goals first|rfl|rw[aNT,aGd];rfl|rw[aNT]|rw[aGd]
theorem aNU: ∀ (l:List Stamp) (p:bN),(l.foldl bN.ji p).vy=p.vy
 | [],_=>rfl
 |I::l,p=>by rw[List.foldl_cons,aNU l,aPR]
theorem aPr (l:List Stamp)(n:Int)(hl:l.length≤9223372036854775806):aO prog 29 [.pure 4 (ai l),.int .i64 n] []
 (fun v rs=>v= .bo [.pure 3 (ai (nQ l n)),.pure 2 (ai (tY l n)),.int .i64 (lb l n)]∧rs= []):=by
 refine hJ func29 azA (by simp[acu,N2]) ?_;simp only[go_sem,acu,N2]
 repeat (refine E.ac ?_;simp only[go_sem])
 refine dj ?_ ?_<;>intro dI<;>simp only[bC] at dI<;>simp only[go_sem,acu,N2]
 ·have pM:lb l n=3:=by rw[lb,if_pos (by omega)]
  (refine E.iv 4 88 3 rfl (E.eW [4,5,6] ?_);simp only[go_sem])
  (refine E.iv 5 132 2 rfl (E.eW [4,5,6] ?_);simp only[go_sem])
  (refine E.kK [] [0,1] ?_;simp only[go_sem])
  (refine E.ac ?_;simp only[go_sem])
  exact E.ac ⟨by simp[nQ,tY,pM,ai,bs],rfl⟩
 repeat (refine E.ac ?_;simp only[go_sem])
 repeat' ((first|refine gv ?_ ?_|refine gw ?_ ?_|refine cf ?_ ?_|refine dj ?_ ?_)<;>intro aw<;>(have ak:=aw;try simp only[bC] at ak)<;>(first|omega| (simp only[go_sem,aw,acu,N2];clear aw)))
 ·have pM:lb l n=2:=by rw[lb,if_neg (by omega),if_pos (by omega)]
  (refine E.ac ?_;simp only[go_sem])
  (refine E.iv 4 88 3 rfl (E.eW [4,5,6] ?_);simp only[go_sem])
  (refine E.iv 5 132 2 rfl (E.eW [4,5,6] ?_);simp only[go_sem])
  (refine E.kK [] [0,1] ?_;simp only[go_sem])
  (refine E.ac ?_;simp only[go_sem])
  exact E.ac ⟨by simp[nQ,tY,pM,ai,bs],rfl⟩
 (refine E.ac ?_;simp only[go_sem])
 refine dj ?_ ?_<;>intro ct<;>simp only[bC] at ct<;>simp only[go_sem,acu,N2]
 ·have pM:lb l n=2:=by rw[lb,if_neg (by omega),if_pos (by omega)]
  (refine E.iv 4 88 3 rfl (E.eW [4,5,6] ?_);simp only[go_sem])
  (refine E.iv 5 132 2 rfl (E.eW [4,5,6] ?_);simp only[go_sem])
  (refine E.kK [] [0,1] ?_;simp only[go_sem])
  (refine E.ac ?_;simp only[go_sem])
  exact E.ac ⟨by simp[nQ,tY,pM,ai,bs],rfl⟩
 have pM:lb l n=if qM 0 l then 0 else 1:=by rw[lb,if_neg (by omega),if_neg (by omega)]
 (refine E.ac ?_;simp only[go_sem])
 (refine E.ac ?_;simp only[go_sem])
 refine hv (fun D r=> ∃ (c:Nat) (e:Int),c≤l.length∧0≤e∧(c=0→e=0)∧(∀ j (h:j < l.length),c=j+1→e=l[j].time)∧qM 0 l=qM e (l.drop c)∧D= [(0,.pure 4 (ai l)),(1,.int .i64 n),(7,.int .i64 c)]∧r= [])
  (fun D _=>match bs D 7 with| .int _ j=>(l.length-j).toNat|_=>0) ?_ ?_
 ·exact E.ac ⟨0,0,by omega,by omega,fun _=>rfl,fun j _ h=>by omega,by simp,rfl,rfl⟩
 ·rintro D r ⟨c,e,av,he,aMz,aMA,af,rfl,rfl⟩;simp only[go_sem,acu,N2]
  repeat (refine E.ac ?_;simp only[go_sem])
  refine dj ?_ ?_<;>intro fH<;>simp only[bC] at fH<;>simp only[go_sem,acu,N2]
  ·have aI:c < l.length:=by omega
   have nT: (0:Int)≤c:=by omega
   have vB: (c:Int) < l.length:=by omega
   have eR: (ai l).getD c []= [.int .i64 l[c].time,.int .i64 l[c].cB,.int .i64 l[c].cZ,.int .i64 l[c].Y]:=by rw[cT aI,Nn]
   have dn:=dB (c:=c) (by omega);rw[oF aI,qM] at af;have AU: ∀ j (h:j < l.length),c+1=j+1→l[c].time=l[j].time:=by intro j h hj;obtain rfl:c=j:=(by omega);rfl
   generalize l[c]=I at eR af AU
   (refine E.ac ?_;simp only[go_sem])
   simp only[go_sem,nT,vB,eR];have qR: ¬(1≤I.cB∧I.cB≤4∧e≤I.time∧I.time≤120968639)→lb l n=1:=by
    intro h;rw[pM,if_neg];rw[af,decide_eq_false h];simp
   rcases Nat.eq_zero_or_pos c with h|h
   ·have:=aMz h;subst h;subst this;have aMB: (0:Int) < l.length:=by omega
    have EN:decide ((0:Int) < ((0:Nat):Int))=false:=rfl;have FD:IntKind.i64.wrap ((0:Int)+1)=((1:Nat):Int):=rfl
    (refine E.ac ?_;simp only[go_sem])
    repeat' ((first|refine gv ?_ ?_|refine gw ?_ ?_|refine cf ?_ ?_|refine dj ?_ ?_)<;>intro aw<;>(have ak:=aw;try simp only[bC] at ak)<;>(first|omega| (simp only[go_sem,aw,acu,N2,Int.natCast_zero,aMB,eR,EN];clear aw)))
    all_goals try (refine E.ac ?_;simp only[go_sem])
    any_goals
     have aLK:=qR (by omega)
     (refine E.iv 4 88 3 rfl (E.eW [4,5,6] ?_);simp only[go_sem])
     (refine E.iv 5 132 2 rfl (E.eW [4,5,6] ?_);simp only[go_sem])
     (refine E.kK [] [1,2] ?_;simp only[go_sem])
     (refine E.ac ?_;simp only[go_sem])
     exact E.ac ⟨by simp[nQ,tY,aLK,ai,bs],rfl⟩
    (refine E.ac ?_;simp only[go_sem])
    (refine E.bB [] ?_;simp only[go_sem])
    refine E.ac ⟨⟨1,I.time,by omega,by omega,fun h=>by omega,AU,?_,rfl,rfl⟩,?_⟩
    ·rw[af,decide_eq_true (by omega),Bool.true_and]
    ·simp only[go_sem];omega
   ·obtain⟨j,rfl⟩: ∃ j,c=j+1:=⟨c-1,by omega⟩;have aMC:=aMA j (by omega) rfl;have un: (ai l).getD j []= [.int .i64 l[j].time,.int .i64 l[j].cB,.int .i64 l[j].cZ,.int .i64 l[j].Y]:=by rw[cT (by omega),Nn]
    rw[←aMC] at un;have ud: (0:Int)≤j:=by omega
    have Te: (j:Int) < l.length:=by omega
    have xf:IntKind.i64.wrap (((j+1:Nat):Int)-1)=(j:Int):=by rw[bl (by omega) (by omega)];omega
    have LF:decide ((0:Int) < ((j+1:Nat):Int))=true:=decide_eq_true (by omega)
    (refine E.ac ?_;simp only[go_sem])
    repeat' ((first|refine gv ?_ ?_|refine gw ?_ ?_|refine cf ?_ ?_|refine dj ?_ ?_)<;>intro aw<;>(have ak:=aw;try simp only[bC] at ak)<;>(first|omega| (simp only[go_sem,aw,acu,N2,LF,nT,vB,eR,xf,un,ud,Te];clear aw)))
    all_goals try (refine E.ac ?_;simp only[go_sem])
    any_goals
     have aLK:=qR (by omega)
     (refine E.iv 4 88 3 rfl (E.eW [4,5,6] ?_);simp only[go_sem])
     (refine E.iv 5 132 2 rfl (E.eW [4,5,6] ?_);simp only[go_sem])
     (refine E.kK [] [1,2] ?_;simp only[go_sem])
     (refine E.ac ?_;simp only[go_sem])
     exact E.ac ⟨by simp[nQ,tY,aLK,ai,bs],rfl⟩
    refine dj ?_ ?_<;>intro pd<;>simp only[bC] at pd<;>simp only[go_sem,acu,N2]
    ·have aLK:=qR (by omega)
     (refine E.iv 4 88 3 rfl (E.eW [4,5,6] ?_);simp only[go_sem])
     (refine E.iv 5 132 2 rfl (E.eW [4,5,6] ?_);simp only[go_sem])
     (refine E.kK [] [1,2] ?_;simp only[go_sem])
     (refine E.ac ?_;simp only[go_sem])
     exact E.ac ⟨by simp[nQ,tY,aLK,ai,bs],rfl⟩
    ·(refine E.ac ?_;simp only[go_sem])
     rw[dn]
     (refine E.bB [] ?_;simp only[go_sem])
     refine E.ac ⟨⟨j+1+1,I.time,by omega,by omega,fun h=>by omega,AU,?_,rfl,rfl⟩,?_⟩
     ·rw[af,decide_eq_true (by omega),Bool.true_and]
     ·simp only[go_sem];omega
  ·have vC:c=l.length:=by omega
   subst vC;have rW:qM 0 l=true:=by rw[af,List.drop_length];rfl
   have Bg:lb l n=0:=by rw[pM,if_pos rW]
   have bp:=Ur rW (by omega)
   repeat (refine E.ac ?_;simp only[go_sem])
   refine hv (fun D r=> ∃ (c:Nat) (x d:Bool),c≤l.length∧aL0 x d (ra (l.take c) n)∧D= [(0,.pure 4 (ai l)),(1,.int .i64 n),(9,.bd 0 1 0 0),(10,.int .i64 c)]∧r=aKF x d (ra (l.take c) n))
    (fun D _=>match bs D 10 with| .int _ j=>(l.length-j).toNat|_=>0) ?_ ?_
   ·(refine E.oc (.vQ 0 0 5 88 3 rfl (by simp) (by decide) rfl) ?_;simp only[go_sem,fb])
    (refine E.oc (.vQ 0 0 6 132 2 rfl (by simp) (by decide) rfl) ?_;simp only[go_sem,fb])
    (refine E.oc (.vQ 0 0 4 64 2 rfl (by simp) (by decide) rfl) ?_;simp only[go_sem,fb])
    exact E.ac ⟨0,false,false,by omega,.inl ⟨rfl,rfl,rfl⟩,rfl,rfl⟩
   ·rintro D r ⟨c,x,d,av,xN,rfl,rfl⟩;obtain⟨cU,cn⟩:=aGe Bg c;simp only[go_sem,acu,N2]
    repeat (refine E.ac ?_;simp only[go_sem])
    refine dj ?_ ?_<;>intro pd<;>simp only[bC] at pd<;>simp only[go_sem,acu,N2]
    ·have aI:c < l.length:=by omega
     repeat (refine E.ac ?_;simp only[go_sem])
     simp only[go_sem,aKF,aKG];refine⟨by omega,by omega,?_⟩
     try simp only[Int.toNat_natCast]
     rw[cT aI];simp only[go_sem,acu,N2]
     repeat (refine E.ac ?_;simp only[go_sem])
     have N:=aPQ x d _ cU (by omega) xN l[c] (bp _ (List.getElem_mem _));have re: (ra (l.take c) n).ji l[c]=ra (l.take (c+1)) n:=by
      rw[ra,ra,List.take_add_one,List.getElem?_eq_getElem aI,List.foldl_append];rfl
     have ps: (ra (l.take c) n).vy=n:=aNU _ _;rw[re,ps] at N;have aP:=dB (c:=c) (by omega);refine om [0,1,2,3] [] (by decide) (by simp only[go_sem]<;>rfl) (by simp only[go_sem]<;>rfl) N ?_;rintro _ _ ⟨rfl,x',y',aNV,h|⟨h,pP⟩⟩
     ·subst h;refine⟨.inl rfl,?_⟩;simp only[go_sem,aKF,aKG]
      (refine E.ac ?_;simp only[go_sem])
      rw[aP]
      (refine E.bB [some 0,some 1,some 2,some 3] ?_;simp only[go_sem])
      refine E.ac ⟨⟨c+1,x',y',by omega,aNV,rfl,rfl⟩,?_⟩;simp only[go_sem];omega
     ·subst h;refine⟨.inl rfl,?_⟩;simp only[go_sem,aKQ,aKG]
      (refine E.ac ?_;simp only[go_sem])
      rw[aP]
      (refine E.oc (.vQ 0 0 4 64 2 rfl (by simp) (by decide) rfl) ?_;simp only[go_sem,fb])
      (refine E.bB [some 0,some 1,some 2,some 4] ?_;simp only[go_sem])
      refine E.ac ⟨⟨c+1,x',y',by omega,aNV,rfl,by simp[aKF,aKG,pP,ai]⟩,?_⟩;simp only[go_sem];omega
    ·have vC:c=l.length:=by omega
     subst vC;rw[List.take_length] at cU xN cn ⊢;have sm:=cU.yQ;simp only[go_sem,aKF,aKG]
     (refine E.ac ?_;simp only[go_sem])
     (refine E.ac ?_;simp only[go_sem])
     have mX:x=true→(ra l n).bg=(ra l n).eP 1 (ra l n).gu:=by
      intro aj;unfold bN.bg;rw[if_neg];rcases xN with ⟨h,cR,_⟩|⟨h,_,_⟩|⟨h,_,_⟩
      ·rw[aj] at cR;cases cR
      ·omega
      ·omega
     have aPS:x=false→(ra l n).bg=ra l n:=by
      intro aj;unfold bN.bg;rw[if_pos];rcases xN with ⟨h,cR,_⟩|⟨h,cR,_⟩|⟨h,cR,_⟩
      ·exact h
      ·rw[aj] at cR;cases cR
      ·rw[aj] at cR;cases cR
     refine dj ?_ ?_<;>intro nW<;>(try simp only[bC] at nW)<;>simp only[go_sem,acu,N2]
     ·have N:=aK0 x d _ cU 1 (ra l n).gu;refine fy [0,1,2,3] N ?_;rintro _ _ ⟨rfl,rfl⟩;simp only[go_sem,aKF,aKG]
      (refine E.ac ?_;simp only[go_sem])
      (refine E.kK [] [1,2] ?_;simp only[go_sem])
      (refine E.ac ?_;simp only[go_sem])
      refine E.ac ⟨?_,rfl⟩;simp[bs,nQ,tY,Bg,mX nW]
     ·(refine E.ac ?_;simp only[go_sem])
      (refine E.kK [] [1,2] ?_;simp only[go_sem])
      (refine E.ac ?_;simp only[go_sem])
      refine E.ac ⟨?_,rfl⟩;simp[bs,nQ,tY,Bg,aPS nW]
end Go.Proofs.YtpincjkjoeopkaaGreatDoor.Pr
