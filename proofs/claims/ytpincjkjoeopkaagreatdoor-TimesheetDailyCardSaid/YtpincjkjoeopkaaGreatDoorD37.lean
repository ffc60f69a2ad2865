/- Events and bands. -/
import Derived.Test.YtpincjkjoeopkaaGreatDoorD36
import Derived.Test.YtpincjkjoeopkaaGreatDoorD35
import Derived.Test.YtpincjkjoeopkaaGreatDoorD29
set_option linter.all false
namespace Go.Proofs.YtpincjkjoeopkaaGreatDoor.Ib
open Go Go.Abs Go.Proofs.Tryz
def agT (l:List Ev)(n:Int)(v:F)(rs:List Z):Prop:=
 (cL l≠0∧v= .bo [.bH,.int .i64 (cL l)]∧rs= [])∨
 (cL l=0∧ ∃ S:List Stamp,S.Perm (CU (kp l n))∧S.Pairwise ni∧v= .bo [.own 0 S.length 0 S.length,.int .i64 0]∧rs= [.ag 177 4 (ai S)])
theorem IW {iS:Type}{f:iS→F}(hf: ∀ b,bJ (f b)=true): ∀ (l:List (Ky×iS)),kh (nk f l)=true
 | []=>rfl
 |p::l=>by
  have:=IW hf l;simp only[kh,nk,List.map_map,Bool.and_eq_true] at this ⊢;simp only[List.map_cons,bU,Function.comp_apply,bJ,hf,Bool.true_and];exact this
theorem aCG (l:List (Ky×Bool)):kh (nk F.bool l)=true:=IW (fun _=>rfl) l
theorem aCH (l:List (Ky×Int)):kh (nk (F.int .i64) l)=true:=IW (fun _=>rfl) l
attribute [go_sem] aCG aCH
theorem agy (l:List Ev)(n:Int): (kp l n).length≤l.length:=by
 have h1: (nj n (iE (fr l))).length≤(iE (fr l)).length:=List.length_filter_le _ _;have G: ∀ cQ:List Ev,(iE cQ).length≤cQ.length:=by
  intro cQ
  induction cQ using vq with
  |h0=>simp[iE]
  |h1 cQ x ih=>rw[Nr];split<;>simp<;>omega
 have au:=G (fr l);have bv:=Tb l;unfold kp;omega
theorem aB4 (l:List Ev)(hl:l.length≤9223372036854775807)(n:Int):aO prog 67 [.pure 7 (ai l),.int .i64 n] [] (agT l n):=by
 refine hJ func67 acR (by simp[AD,CW]) ?_;unfold agT;simp only[go_sem,AD,CW]
 repeat (refine E.ac ?_;simp only[go_sem])
 refine bM (S7 l hl) rfl rfl ?_
 by_cases ad:cL l=0
 rotate_left
 ·have hb: (cL l != 0)=true:=by simpa using ad
  simp only[go_sem]
  repeat (refine E.ac ?_;simp only[go_sem])
  simp only[go_sem,hb]
  repeat (refine E.ac ?_;simp only[go_sem])
  exact E.bg rfl (.inl ⟨ad,rfl,rfl⟩)
 have cK:=aCB ad;rw[ad];simp only[go_sem,bne_self_eq_false]
 repeat (refine E.ac ?_;simp only[go_sem])
 have AO:=aCI l n;have aKf:=agy l n;have hF:=aCw l (by omega) n;generalize kp l n=bm at *
 (refine rv (hF) ?_;rintro _ _ ⟨rfl,rfl⟩;simp only[go_sem])
 (refine E.kK [] [0] ?_;simp only[go_sem])
 repeat (refine E.ac ?_;simp only[go_sem])
 refine hv (fun D r=> ∃ (c:Nat) (qQ:List (Ky×Bool)) (ue:List (Ky×Int)),c≤bm.length∧(∀ k,(wR qQ k).getD false=wS (bm.take c) k)∧(∀ k,wR ue k=wT (bm.take c) k)∧D= [(7,.pure 7 (ai bm)),(8,.bE 0),(9,.bE 1),(28,.pure 7 (ai bm)),(29,.int .i64 bm.length),(30,.int .i64 c)]∧r= [.be (.map true [.int .i64,.int .i64] (nk F.bool qQ)),.be (.map true [.int .i64,.int .i64] (nk (F.int .i64) ue))])
  (fun D _=>match bs D 30 with| .int _ j=>(bm.length-j).toNat|_=>0) ?_ ?_
 ·exact E.ac ⟨0,[],[],by omega,fun k=>rfl,fun k=>rfl,rfl,rfl⟩
 rintro D r ⟨c,qQ,ue,av,IX,IY,rfl,rfl⟩;have aKg:=IW (f:=F.bool) (fun _=>rfl) qQ;have yy:=IW (f:=F.int .i64) (fun _=>rfl) ue;have dn:=dB (c:=c) (by omega);simp only[go_sem,AD,CW]
 repeat (refine E.ac ?_;simp only[go_sem])
 refine dj ?_ ?_<;>intro aw<;>simp only[bC] at aw<;>simp only[go_sem,AD,CW]
 ·have aI:c < bm.length:=by omega
  have h0: (0:Int)≤c:=by omega
  have h1: (c:Int) < bm.length:=by omega
  have g1: (ai bm).getD c []=aJ.J bm[c]:=cT aI;have eK: ∀ k,wS (bm.take (c+1)) k=(wS (bm.take c) k||decide (bm[c].cB=5∧bm[c].qa=k)):=fun k=>by rw[List.take_succ_eq_append_getElem aI,aCJ]
  have mg: ∀ k,wT (bm.take (c+1)) k=if bm[c].cB=6∧bm[c].qa=k then some bm[c].time else wT (bm.take c) k:=fun k=>by rw[List.take_succ_eq_append_getElem aI,aCK]
  generalize bm[c]=e at *;have iK:dy (.agg [.int .i64 e.iq,.int .i64 e.eg]) (.bool true) (nk F.bool qQ)=nk F.bool (wU e.qa true qQ):=Tg (f:=F.bool) (k:=e.qa) (v:=true);have Ci:dy (.agg [.int .i64 e.iq,.int .i64 e.eg]) (.int .i64 e.time) (nk (F.int .i64) ue)=nk (F.int .i64) (wU e.qa e.time ue):=Tg (f:=F.int .i64) (k:=e.qa) (v:=e.time)
  repeat (refine E.ac ?_;simp only[go_sem])
  simp only[go_sem,h0,h1,g1,rJ]
  repeat (refine E.ac ?_;simp only[go_sem])
  by_cases c5:e.cB=5
  ·have uc: (e.cB==5)=true:=beq_iff_eq.2 c5;simp only[go_sem,uc]
   (refine E.ac ?_;simp only[go_sem])
   simp only[go_sem,iK]
   (refine E.bB [some 0,some 1] ?_;simp only[go_sem])
   repeat (refine E.ac ?_;simp only[go_sem])
   simp only[go_sem,dn];refine⟨⟨c+1,wU e.qa true qQ,ue,by omega,fun k=> ?_,fun k=> ?_,rfl,rfl⟩,by omega⟩
   ·rw[eK,Ti,←IX]
    by_cases O:k=e.qa
    ·simp[O,c5]
    ·have sf: ¬e.qa=k:=fun h=>O h.symm;simp[O,sf]
   ·rw[mg,IY,if_neg (by omega)]
  ·have uc: (e.cB==5)=false:=beq_eq_false_iff_ne.2 c5;simp only[go_sem,uc]
   repeat (refine E.ac ?_;simp only[go_sem])
   by_cases c6:e.cB=6
   ·have AP: (e.cB==6)=true:=beq_iff_eq.2 c6;simp only[go_sem,AP]
    (refine E.ac ?_;simp only[go_sem])
    simp only[go_sem,Ci]
    (refine E.bB [some 0,some 1] ?_;simp only[go_sem])
    repeat (refine E.ac ?_;simp only[go_sem])
    simp only[go_sem,dn];refine⟨⟨c+1,qQ,wU e.qa e.time ue,by omega,fun k=> ?_,fun k=> ?_,rfl,rfl⟩,by omega⟩
    ·rw[eK,←IX];simp[c5]
    ·rw[mg,Ti,IY]
     by_cases O:k=e.qa
     ·simp[O,c6]
     ·have sf: ¬e.qa=k:=fun h=>O h.symm;simp[O,sf]
   ·have AP: (e.cB==6)=false:=beq_eq_false_iff_ne.2 c6;simp only[go_sem,AP]
    (refine E.bB [some 0,some 1] ?_;simp only[go_sem])
    repeat (refine E.ac ?_;simp only[go_sem])
    simp only[go_sem,dn];refine⟨⟨c+1,qQ,ue,by omega,fun k=> ?_,fun k=> ?_,rfl,rfl⟩,by omega⟩
    ·rw[eK,←IX];simp[c5]
    ·rw[mg,IY,if_neg (by omega)]
 have Ns:bm.take c=bm:=List.take_of_length_le (by omega);rw[Ns] at IX IY;clear dn aw av Ns
 repeat (refine E.ac ?_;simp only[go_sem])
 refine hv (fun D r=> ∃ (c:Nat),c≤bm.length∧((bm.take c).filterMap (kF bm)).length≤c∧D= [(8,.bE 0),(9,.bE 1),(12,.own 2 ((bm.take c).filterMap (kF bm)).length 0 ((bm.take c).filterMap (kF bm)).length),(49,.pure 7 (ai bm)),(50,.int .i64 bm.length),(51,.int .i64 c)]∧r= [.be (.map true [.int .i64,.int .i64] (nk F.bool qQ)),.be (.map true [.int .i64,.int .i64] (nk (F.int .i64) ue)),.ag 177 4 (ai ((bm.take c).filterMap (kF bm)))])
  (fun D _=>match bs D 51 with| .int _ j=>(bm.length-j).toNat|_=>0) ?_ ?_
 ·(refine E.iv 12 177 4 rfl (E.eW [8,9,12,49,50,51] ?_);simp only[go_sem])
  exact E.ac ⟨0,by omega,by simp,rfl,rfl⟩
 clear c;rintro D r ⟨c,av,fF,rfl,rfl⟩;have dn:=dB (c:=c) (by omega);simp only[go_sem,AD,CW]
 repeat (refine E.ac ?_;simp only[go_sem])
 refine dj ?_ ?_<;>intro aw<;>simp only[bC] at aw<;>simp only[go_sem,AD,CW]
 ·have aI:c < bm.length:=by omega
  have h0: (0:Int)≤c:=by omega
  have h1: (c:Int) < bm.length:=by omega
  have g1: (ai bm).getD c []=aJ.J bm[c]:=cT aI;have cn: (bm.take (c+1)).filterMap (kF bm)=(bm.take c).filterMap (kF bm)++(kF bm bm[c]).toList:=by
   rw[List.take_succ_eq_append_getElem aI,List.filterMap_append];cases h:kF bm bm[c]<;>simp[h]
  generalize bm[c]=e at *;generalize (bm.take c).filterMap (kF bm)=aW at *;have yG: (dm (.agg [.int .i64 e.cZ,.int .i64 e.Y]) (nk F.bool qQ)).getD (.bool false)= .bool (wS bm e.key):=by
   have:=Tj (f:=F.bool) (k:=e.key) (l:=qQ);rw[show dm (.agg [.int .i64 e.cZ,.int .i64 e.Y]) (nk F.bool qQ)=(wR qQ e.key).map F.bool from this,←IX];cases wR qQ e.key<;>rfl
  have Ae:dm (.agg [.int .i64 e.cZ,.int .i64 e.Y]) (nk (F.int .i64) ue)=(wT bm e.key).map (F.int .i64):=by
   have:=Tj (f:=F.int .i64) (k:=e.key) (l:=ue);rw[IY] at this;exact this
  repeat (refine E.ac ?_;simp only[go_sem])
  simp only[go_sem,h0,h1,g1,rJ]
  repeat (refine E.ac ?_;simp only[go_sem])
  by_cases c5:e.cB=5
  ·have uc: (e.cB==5)=true:=beq_iff_eq.2 c5;have kx:kF bm e=none:=by unfold kF;rw[if_pos (.inl c5)]
   rw[kx] at cn;simp only[go_sem,uc]
   (refine E.ac ?_;simp only[go_sem])
   (refine E.bB [some 0,some 1,some 2] ?_;simp only[go_sem])
   repeat (refine E.ac ?_;simp only[go_sem])
   simp only[go_sem,dn];exact⟨⟨c+1,by omega,by rw[cn];simp;omega,by rw[cn];simp,by rw[cn];simp⟩,by omega⟩
  have uc: (e.cB==5)=false:=beq_eq_false_iff_ne.2 c5
  by_cases c6:e.cB=6
  ·have AP: (e.cB==6)=true:=beq_iff_eq.2 c6;have kx:kF bm e=none:=by unfold kF;rw[if_pos (.inr (.inl c6))]
   rw[kx] at cn;simp only[go_sem,uc,AP]
   (refine E.ac ?_;simp only[go_sem])
   (refine E.bB [some 0,some 1,some 2] ?_;simp only[go_sem])
   repeat (refine E.ac ?_;simp only[go_sem])
   simp only[go_sem,dn];exact⟨⟨c+1,by omega,by rw[cn];simp;omega,by rw[cn];simp,by rw[cn];simp⟩,by omega⟩
  have AP: (e.cB==6)=false:=beq_eq_false_iff_ne.2 c6
  by_cases Cf:wS bm e.key=true
  ·have kx:kF bm e=none:=by unfold kF;rw[if_pos (.inr (.inr Cf))]
   rw[kx] at cn;rw[Cf] at yG;simp only[go_sem,uc,AP,yG]
   (refine E.ac ?_;simp only[go_sem])
   (refine E.bB [some 0,some 1,some 2] ?_;simp only[go_sem])
   repeat (refine E.ac ?_;simp only[go_sem])
   simp only[go_sem,dn];exact⟨⟨c+1,by omega,by rw[cn];simp;omega,by rw[cn];simp,by rw[cn];simp⟩,by omega⟩
  have agU:wS bm e.key=false:=by simpa using Cf
  have rW:kF bm e=some ⟨(wT bm e.key).getD e.time,e.cB,e.cZ,e.Y⟩:=by unfold kF;rw[if_neg (by simp[c5,c6,agU])]
  rw[rW] at cn;rw[agU] at yG;simp only[go_sem,uc,AP,yG]
  repeat (refine E.ac ?_;simp only[go_sem])
  cases vk:wT bm e.key with
  |none=>
   rw[vk] at Ae cn;simp only[go_sem,Ae,Option.map_none];have jK: ((bm.take (c+1)).filterMap (kF bm)).length=aW.length+1:=by rw[cn];simp
   (refine E.ac ?_;simp only[go_sem])
   refine⟨by omega,?_⟩;rw[agV]
   (refine E.bB [some 0,some 1,some 2] ?_;simp only[go_sem])
   repeat (refine E.ac ?_;simp only[go_sem])
   simp only[go_sem,dn];exact⟨⟨c+1,by omega,by omega,by rw[jK],by rw[cn];rfl⟩,by omega⟩
  |some tm=>
   rw[vk] at Ae cn;simp only[go_sem,Ae,Option.map_some];have jK: ((bm.take (c+1)).filterMap (kF bm)).length=aW.length+1:=by rw[cn];simp
   (refine E.ac ?_;simp only[go_sem])
   refine⟨by omega,?_⟩;rw[agV]
   (refine E.bB [some 0,some 1,some 2] ?_;simp only[go_sem])
   repeat (refine E.ac ?_;simp only[go_sem])
   simp only[go_sem,dn];exact⟨⟨c+1,by omega,by omega,by rw[jK],by rw[cn];rfl⟩,by omega⟩
 have Ns:bm.take c=bm:=List.take_of_length_le (by omega);rw[Ns] at fF ⊢;have agW: (bm.filterMap (kF bm)).Pairwise fun a b=>pZ a.key b.key:=aCL AO;have OI:bm.filterMap (kF bm)=CU bm:=rfl;rw[OI] at fF agW ⊢;generalize CU bm=aW at *
 (refine E.ac ?_;simp only[go_sem])
 (refine fy [2] (aCl aW (by omega)) ?_;rintro _ _ ⟨rfl,cb,ak,ao,rfl⟩;simp only[go_sem])
 have aCM:=aCN ak ao agW;rw[←ak.length_eq]
 (refine E.bB [some 2] ?_;simp only[go_sem])
 repeat (refine E.ac ?_;simp only[go_sem])
 exact E.ac (.inr ⟨cb,ak,aCM,rfl,rfl⟩)
end Go.Proofs.YtpincjkjoeopkaaGreatDoor.Ib
namespace Go.Proofs.YtpincjkjoeopkaaGreatDoor
open Go Go.Abs Go.Proofs.Tryz
structure wE where
 ah:Int
 gM:List Pr.bx
instance:aJ wE:=⟨fun a=> [.int .i64 a.ah,.pure 2 (ai a.gM)],2,fun _=>rfl,fun a=>by simp only[bU,bJ,ck,Bool.and_self,Bool.and_true,Bool.true_and],fun _=>rfl⟩
theorem aBX:aJ.U wE=2:=rfl
theorem aBY (e:wE):List.take 2 (aJ.J e)=aJ.J e:=rfl
attribute [go_sem] aBX aBY
open Classical in
noncomputable def Mv (l:List Ib.Ev)(n:Int):List Ib.Stamp:=if h: ∃ S:List Ib.Stamp,S.Perm (Ib.CU (Ib.kp l n))∧S.Pairwise Ib.ni then Classical.choose h else []
theorem aBZ {l:List Ib.Ev}{n:Int}{S:List Ib.Stamp}(h1:S.Perm (Ib.CU (Ib.kp l n)))(G:S.Pairwise Ib.ni):S=Mv l n:=by
 have h: ∃ S:List Ib.Stamp,S.Perm (Ib.CU (Ib.kp l n))∧S.Pairwise Ib.ni:=⟨S,h1,G⟩;unfold Mv;rw[dif_pos h];exact Ib.aB0 (h1.trans (Classical.choose_spec h).1.symm) G (Classical.choose_spec h).2
def agw (I:Ib.Stamp):Pr.Stamp:=⟨I.time,I.cB,I.cZ,I.Y⟩
theorem aB1 (S:List Ib.Stamp):ai (S.map agw)=ai S:=by
 unfold ai;rw[List.map_map];rfl
noncomputable def kZ (l:List Ib.Ev)(n:Int):List Pr.Stamp:=(Mv l n).map agw
def AK (z:eD)(ae:List cw)(B:eX):Int:=Pr.qD z.dK (rA z.M ae B) B.aa
def AL (z:eD)(ae:List cw)(B:eX):List Pr.bx:=Pr.pb z.dK (rA z.M ae B) B.aa
def Mq (z:eD)(ae:List cw)(bw:List wE×List Pr.bx)(B:eX):List wE×List Pr.bx:=
 if (pm (AL z ae B) bw.2 []).length=0 then bw else (bw.1++ [⟨B.ah,pm (AL z ae B) bw.2 []⟩],Fe bw.2 (pm (AL z ae B) bw.2 []))
def nc (z:eD)(ae:List cw)(ds:List eX):List wE×List Pr.bx:=ds.foldl (Mq z ae) ([],[])
theorem aaG {z:eD}{ae:List cw}{ds:List eX}{c:Nat}(h:c < ds.length):nc z ae (ds.take (c+1))=Mq z ae (nc z ae (ds.take c)) ds[c]:=by
 unfold nc;rw[List.take_succ_eq_append_getElem h,List.foldl_append];rfl
def AM (z:eD)(ae:List cw):List eX→Int
 | []=>0
 |B::t=>if AK z ae B=0 then AM z ae t else AK z ae B
theorem aB2 {z:eD}{ae:List cw}{ds:List eX}{c:Nat}(h:c < ds.length):AM z ae (ds.drop c)=if AK z ae ds[c]=0 then AM z ae (ds.drop (c+1)) else AK z ae ds[c]:=by
 rw[List.drop_eq_getElem_cons h,AM]
noncomputable def tX (z:eD)(ae:List cw)(l:List Ib.Ev)(n:Int):List eX:=mY z.M ae z.er z.ex (Pr.nQ (kZ l n) z.fz)
noncomputable def rE (z:eD)(ae:List cw)(l:List Ib.Ev)(n:Int):Int:=if qL z≠0 then qL z else if jd z.M ae≠0 then jd z.M ae else if Ib.cL l≠0 then Ib.cL l else if Pr.lb (kZ l n) z.fz≠0 then Pr.lb (kZ l n) z.fz else AM z ae (tX z ae l n)
theorem Mr {z:eD}(h:qL z=0):fe z.M=0∧ ¬rF z∧Pr.mq z.dK=0∧Ib.lA z.ia=0∧Pm.vm z.M z.ao z.al=0:=by
 unfold qL at h;split at h
 ·omega
 split at h
 ·omega
 split at h
 ·omega
 split at h
 ·omega
 exact⟨by omega,by assumption,by omega,by omega,h⟩
theorem aB3 (z:eD){r:List Z}{a:List (Option Nat)}{b:List Nat}:lJ r a b [z.J]= [z.J]:=by
 rw[KV];simp only[List.map_cons,List.map_nil,qw _ z.fX]
set_option maxHeartbeats 4000000 in
theorem awS (z:eD)(hh:z.ao.length≤1000000)(aP:z.al.length≤1000000)(ae:List cw)(gy:ae.length≤1000000)(l:List Ib.Ev)(hl:l.length≤1000000)(n:Int):
 aO prog 20 [.agg z.J,.pure 3 (ai ae),.pure 7 (ai l),.int .i64 n] []
  (fun v rs=>(if rE z ae l n=0 then v= .bo [.pure 2 (ai (nc z ae (tX z ae l n)).1),.pure 2 (ai (Pr.tY (kZ l n) z.fz)),.int .i64 0] else v= .bo [.bH,.bH,.int .i64 (rE z ae l n)])∧rs= []):=by
 have bO:=aBW z hh aP;have cd:=auo z.M ae (by omega);have fk:=Ib.aB4 l (by omega) n;unfold cc.v at cd;refine hJ func20 acp (by simp[Fo,AN]) ?_;unfold eD.J at *;simp only[go_sem,Fo,AN]
 (repeat (first| (refine E.ac ?_;simp only[go_sem])|simp only[go_sem]))
 refine bM bO (by simp only[bU,bJ,ck,Bool.and_self,Bool.and_true]) rfl ?_;unfold rE
 by_cases h1:qL z=0
 rotate_left
 ·have q1: (qL z != 0)=true:=by simp[h1]
  (repeat (first| (refine E.ac ?_;simp only[go_sem,q1])|simp only[go_sem,q1]))
  exact E.bg rfl ⟨by rw[if_pos h1,if_neg h1],rfl⟩
 have q1: (qL z != 0)=false:=by simp[h1]
 rw[if_neg (show ¬qL z≠0 by omega)]
 (repeat (first| (refine E.ac ?_;simp only[go_sem,q1])|simp only[go_sem,q1]))
 refine bM cd (by simp only[bU,bJ,ck,Bool.and_self,Bool.and_true]) rfl ?_
 by_cases G:jd z.M ae=0
 rotate_left
 ·have eQ: (jd z.M ae != 0)=true:=by simp[G]
  (repeat (first| (refine E.ac ?_;simp only[go_sem,eQ])|simp only[go_sem,eQ]))
  exact E.bg rfl ⟨by rw[if_pos G,if_neg G],rfl⟩
 have eQ: (jd z.M ae != 0)=false:=by simp[G]
 rw[if_neg (show ¬jd z.M ae≠0 by omega)]
 (repeat (first| (refine E.ac ?_;simp only[go_sem,eQ])|simp only[go_sem,eQ]))
 refine om [] [] (by simp) rfl (qw _ (by simp only[bU,bJ,ck,Bool.and_self,Bool.and_true])) fk ?_;rintro v rs (⟨au,rfl,rfl⟩|⟨au,S,Nj,aB5,rfl,rfl⟩)
 ·refine⟨.inl rfl,?_⟩;have eF: (Ib.cL l != 0)=true:=by simp[au]
  (repeat (first| (refine E.ac ?_;simp only[go_sem,eF])|simp only[go_sem,eF]))
  exact E.bg rfl ⟨by rw[if_pos au,if_neg au],rfl⟩
 refine⟨.inl rfl,?_⟩;rw[if_neg (show ¬Ib.cL l≠0 by omega)];have agx:=aBZ Nj aB5;have Ag:ai S=ai (kZ l n):=by unfold kZ;rw[aB1,agx]
 have aB6:S.length=(kZ l n).length:=by unfold kZ;rw[List.length_map,agx]
 simp only[go_sem];rw[Ag,aB6];have aJ9: (kZ l n).length≤1000000:=by
  have bv: (Ib.CU (Ib.kp l n)).length≤(Ib.kp l n).length:=List.length_filterMap_le _ _;have cx:=Ib.agy l n;have dx:=Nj.length_eq;omega
 unfold tX;generalize kZ l n=aW at *;obtain⟨_,Ad,aB7,_,_⟩:=Mr h1;have agz: (1≤z.fz∧z.fz≤10080)∧(0≤z.er∧z.er≤1440)∧0≤z.ex∧z.ex≤1440:=by unfold rF at Ad;omega
 have aB8: ∀ r0:Z,bW [r0,.ag 177 4 (ai aW)] [some 0] [1] (.own 1 aW.length 0 aW.length)= .pure 4 (ai aW):=fun r0=>qx rfl rfl rfl (by rw[bT]) ck;have RG:eC [Z.ag 42 14 [z.J],Z.ag 177 4 (ai aW)] [1] [some 0] [some 0]=some [.ag 42 14 [z.J]]:=by
  simp only[eC,hr,aB3 z];rfl
 refine E.jN [some 0] [1] rfl rfl RG ?_;simp only[List.map_cons,List.map_nil,aB8,tv (.pure 3 (ai ae)) (by simp only[bJ,ck])];unfold eD.J;simp only[go_sem];have hB:=Pr.aB9 aW z.fz (by omega)
 (repeat (first| (refine E.ac ?_;simp only[go_sem])|simp only[go_sem]))
 refine bM hB (by simp only[bU,bJ,ck,Bool.and_self,Bool.and_true]) (by simp only[bU,bJ,ck,Bool.and_self,Bool.and_true]) ?_
 by_cases bv:Pr.lb aW z.fz=0
 rotate_left
 ·have iR: (Pr.lb aW z.fz != 0)=true:=by simp[bv]
  (repeat (first| (refine E.ac ?_;simp only[go_sem,iR])|simp only[go_sem,iR]))
  exact E.bg rfl ⟨by rw[if_pos bv,if_neg bv],rfl⟩
 have iR: (Pr.lb aW z.fz != 0)=false:=by simp[bv]
 rw[if_neg (show ¬Pr.lb aW z.fz≠0 by omega)];have Ik:aW.length≤1024∧Pr.qM 0 aW=true:=by
  have:=bv;unfold Pr.lb at this;split at this
  ·omega
  split at this
  ·omega
  split at this
  ·exact⟨by omega,by assumption⟩
  ·omega
 obtain⟨_,H1,_,EC⟩:=Pr.aaI (aY:=aW) (n:=z.fz) Ik.2 Ik.1 (by omega) (by omega);have jE:=avW z.M ae G (Pr.nQ aW z.fz) H1 z.er z.ex agz.2.1 agz.2.2;unfold cc.v at jE
 (repeat (first| (refine E.ac ?_;simp only[go_sem,iR])|simp only[go_sem,iR]))
 refine bM jE (by simp only[bU,bJ,ck,Bool.and_self,Bool.and_true]) (by simp only[bU,bJ,ck,Bool.and_self,Bool.and_true]) ?_
 (repeat (first| (refine E.ac ?_;simp only[go_sem,bT])|simp only[go_sem,bT]))
 obtain⟨LF,_⟩:=H0 (M:=z.M) (ae:=ae) (e:=z.er) (l:=z.ex) (aa:=Pr.nQ aW z.fz) (c:=(Pr.nQ aW z.fz).length) (Nat.le_refl _);have Sv:=awA (M:=z.M) (ae:=ae) (e:=z.er) (l:=z.ex) H1;rw[List.take_length] at LF;generalize Pr.tY aW z.fz=A at *;generalize mY z.M ae z.er z.ex (Pr.nQ aW z.fz)=ds at *;generalize (Pr.nQ aW z.fz).length=aKa at *;refine hv (fun D r=> ∃ c:Nat,c≤ds.length∧AM z ae ds=AM z ae (ds.drop c)∧Pr.dd 0 120968640 (nc z ae (ds.take c)).2=true∧(nc z ae (ds.take c)).1.length≤c∧D= [(1,.pure 3 (ai ae)),(4,.bd 0 1 0 0),(16,.pure 2 (ai A)),(18,.own 1 (nc z ae (ds.take c)).1.length 0 (nc z ae (ds.take c)).1.length),(19,.own 2 (nc z ae (ds.take c)).2.length 0 (nc z ae (ds.take c)).2.length),(71,.pure 3 (ai ds)),(72,.int .i64 ds.length),(73,.int .i64 c)]∧r= [.ag 42 14 [z.J],.ag 62 2 (ai (nc z ae (ds.take c)).1),.ag 64 2 (ai (nc z ae (ds.take c)).2)])
  (fun D _=>match bs D 73 with| .int _ j=>(ds.length-j).toNat|_=>0) ?_ ?_
 ·(refine E.iv 18 62 2 rfl (E.eW [1,4,16,18,19,71,72,73] ?_);simp only[go_sem])
  (refine E.iv 19 64 2 rfl (E.eW [1,4,16,18,19,71,72,73] ?_);simp only[go_sem])
  exact E.ac ⟨0,by omega,rfl,rfl,by simp[nc],rfl,rfl⟩
 rintro D r ⟨c,av,eZ,hp,Mt,rfl,rfl⟩;have fK:=dB (c:=c) (by omega);unfold eD.J
 by_cases aI:c < ds.length
 rotate_left
 ·have h1:decide ((c:Int) < ds.length)=false:=decide_eq_false (by omega);obtain rfl:c=ds.length:=by omega
  rw[List.take_length,List.drop_length,AM] at *;simp only[go_sem,Fo,AN]
  (repeat (first| (refine E.ac ?_;simp only[go_sem,h1])|simp only[go_sem,h1]))
  simp only[if_pos eZ];generalize (nc z ae ds).1=W at *;have nL: ∀ r0 cY:Z,bW [r0,.ag 62 2 (ai W),cY] [] [1] (.bo [.own 1 W.length 0 W.length,.pure 2 (ai A),.int .i64 0])= .bo [.pure 2 (ai W),.pure 2 (ai A),.int .i64 0]:=fun r0 cY=>by
   have:bW [r0,.ag 62 2 (ai W),cY] [] [1] (.own 1 W.length 0 W.length)= .pure 2 (ai W):=qx rfl rfl rfl (by rw[bT]) ck;rw[bW];simp only[dT,this,tv (.pure 2 (ai A)) (by simp only[bJ,ck])];rfl
  refine E.jN [] [1] rfl rfl (by simp only[go_sem]<;>rfl) ?_;simp only[List.map_cons,List.map_nil,nL];exact E.bg rfl ⟨rfl,rfl⟩
 have h1:decide ((c:Int) < ds.length)=true:=decide_eq_true (by omega);have tM: (0:Int)≤c:=by omega
 have tN: (c:Int) < ds.length:=by omega
 have nM: (ai ds).getD c []=aJ.J ds[c]:=cT aI;obtain⟨dI,ct⟩:=Sv ds[c] (List.getElem_mem aI);have dV:=aaG (z:=z) (ae:=ae) aI;rw[aB2 aI] at eZ;generalize ds[c]=B at *;have jF:=avn z aB7 ae G B ct dI;unfold eD.J at jF;have aCa:Pr.qD z.dK (rA z.M ae B) B.aa=AK z ae B:=rfl;have aCb:Pr.pb z.dK (rA z.M ae B) B.aa=AL z ae B:=rfl;rw[aCa,aCb] at jF;have mT:AK z ae B=0→Pr.dd 0 120968640 (AL z ae B)=true∧(AL z ae B).length≤100000:=awC;simp only[go_sem,Fo,AN]
 (repeat (first| (refine E.ac ?_;simp only[go_sem,h1,tM,tN,nM,bT,Ri])|simp only[go_sem,h1,tM,tN,nM,bT,Ri]))
 by_cases dx:AK z ae B=0
 ·rw[dx,if_pos rfl] at jF;rw[if_pos dx] at eZ;refine bM jF (by simp only[bU,bJ,ck,Bool.and_self,Bool.and_true]) (by simp only[bU,bJ,ck,Bool.and_self,Bool.and_true]) ?_;obtain⟨Is,sF⟩:=mT dx;generalize cn:nc z ae (ds.take c)=bw at *;obtain⟨W,tk⟩:=bw;simp only at hp Mt;unfold Mq at dV;simp only at dV;obtain⟨aF,bF,bK,gX⟩:=acf (acc:= []) Is hp;rw[List.nil_append] at bF;have nJ:=SO bK (by omega);have aCc:=SO hp (by omega);have Nk:=azi (AL z ae B) tk (by omega) (by omega) (by rw[bF];omega);rw[bF] at Nk dV;generalize AL z ae B=w at *
  (repeat (first| (refine E.ac ?_;simp only[go_sem])|simp only[go_sem]))
  refine om [2] [] (by decide) (by simp only[go_sem]<;>rfl) (by simp only[go_sem,ck]<;>rfl) Nk ?_;rintro _ _ ⟨rfl,rfl⟩;refine⟨.inl rfl,?_⟩;simp only[go_sem,ck]
  by_cases va:aF.length=0
  ·rw[if_pos va] at dV;have zqq: ((aF.length:Int)==0)=true:=by simp[va]
   (repeat (first| (refine E.ac ?_;show eG _ _ _ _ _ _;simp only[go_sem,bT,zqq,fK])|simp only[go_sem,bT,zqq,fK]))
   (refine E.bB [some 0,some 1,some 2] ?_;simp only[go_sem])
   refine E.ac ⟨⟨c+1,by omega,eZ,by rw[dV];exact hp,by rw[dV];exact Nat.le_trans Mt (by omega),by rw[dV]<;>rfl,by rw[dV]<;>rfl⟩,?_⟩;simp only[go_sem];omega
  ·rw[if_neg va] at dV;have zqq: ((aF.length:Int)==0)=false:=beq_eq_false_iff_ne.2 (by omega)
   (repeat (first| (refine E.ac ?_;simp only[go_sem,bT,zqq,fK])|simp only[go_sem,bT,zqq,fK]))
   refine⟨by omega,?_⟩;have qC:ai W++ [[.int .i64 B.ah,.pure 2 (ai aF)]]=ai (W++ [⟨B.ah,aF⟩]):=kT (x:=wE.mk B.ah aF);rw[qC]
   (refine E.bB [some 0,some 1,some 2,some 4] ?_;simp only[go_sem])
   (repeat (first| (refine E.ac ?_;simp only[go_sem,bT,fK])|simp only[go_sem,bT,fK]))
   refine⟨by omega,?_⟩
   (repeat (first| (refine E.ac ?_;simp only[go_sem])|simp only[go_sem]))
   have fF: (tk++aF).length=tk.length+aF.length:=List.length_append;have IP:=azb (tk++aF) (by omega);rw[fF] at IP;refine om [2] [] (by decide) (by simp only[go_sem]<;>rfl) (by simp only[go_sem,ck]<;>rfl) IP ?_;rintro _ _ ⟨rfl,cb,ak,ao,rfl⟩;refine⟨.inl rfl,?_⟩;obtain⟨qO,MB⟩:=ayf hp bK gX;obtain rfl:=MB cb ak ao;have zh: (Fe tk aF).length=tk.length+aF.length:=by rw[(SI tk aF).length_eq,fF]
   have agA: (W++ [(⟨B.ah,aF⟩:wE)]).length=W.length+1:=by simp
   simp only[go_sem]
   (refine E.bB [some 0,some 1,some 2] ?_;simp only[go_sem])
   (repeat (first| (refine E.ac ?_;show eG _ _ _ _ _ _;simp only[go_sem,fK])|simp only[go_sem,fK]))
   refine E.ac ⟨⟨c+1,by omega,eZ,by rw[dV];exact qO,by rw[dV];simp only[agA];omega,by rw[dV];simp only[agA,zh],by rw[dV]<;>rfl⟩,?_⟩;simp only[go_sem];omega
 ·rw[if_neg dx] at jF;rw[if_neg dx] at eZ;refine bM jF (by simp only[bU,bJ,ck,Bool.and_self,Bool.and_true]) rfl ?_;have kq: (AK z ae B != 0)=true:=by simp[dx]
  (repeat (first| (refine E.ac ?_;simp only[go_sem,kq])|simp only[go_sem,kq]))
  exact E.bg rfl ⟨by rw[eZ,if_neg dx],rfl⟩
def Si (v:Pr.bx):Ib.bx:=⟨v.R,v.ab⟩
def aat (w:wE):Ib.fv:=⟨w.ah,w.gM.map Si⟩
theorem awG (l:List Pr.bx):ai (l.map Si)=ai l:=by unfold ai;rw[List.map_map];rfl
theorem awH (l:List wE):ai (l.map aat)=ai l:=by
 unfold ai;rw[List.map_map];refine List.map_congr_left fun w _=> ?_;show [F.int .i64 w.ah,.pure 2 (ai (w.gM.map Si))]= [.int .i64 w.ah,.pure 2 (ai w.gM)];rw[awG]
def tV (p:Ib.cF):Pm.cF:=⟨p.ah,p.R,p.ab,p.ep⟩
theorem awI (l:List Ib.cF):ai (l.map tV)=ai l:=by unfold ai;rw[List.map_map];rfl
open Classical in
noncomputable def Ao (al:List Ib.fv):List Ib.ga:=if h: ∃ S:List Ib.ga,S.Perm (Ib.gU al)∧Ib.sE S then Classical.choose h else []
theorem aau {al:List Ib.fv}(dp:Ib.ew al=0){S:List Ib.ga}(h1:S.Perm (Ib.gU al))(G:Ib.sE S):S=Ao al:=by
 have h: ∃ S:List Ib.ga,S.Perm (Ib.gU al)∧Ib.sE S:=⟨S,h1,G⟩;unfold Ao;rw[dif_pos h];obtain⟨bO,cd⟩:=Classical.choose_spec h;refine (h1.trans bO.symm).eq_of_pairwise (fun a b aC hb au bv=> ?_) G cd;have an:=(Ib.Ii (Ib.Ij dp).2.2.1 a (h1.mem_iff.1 aC)).1;have aP:=(Ib.Ii (Ib.Ij dp).2.2.1 b (bO.mem_iff.1 hb)).1;unfold Ib.iB at an aP;omega
noncomputable def CH (aF:Ib.ib)(al:List Ib.fv):List Ib.cF:=(Ib.run aF (Ib.kE (Ao al))).aa
theorem awJ (aF:Ib.ib)(dc:Ib.lA aF=0)(al:List Ib.fv)(hl:al.length≤1000000):aO prog 41 [aF.v,.pure 2 (ai al)] []
 (fun v rs=>(if Ib.ew al=0 then v= .bo [.pure 4 (ai (CH aF al)),.int .i64 0] else v= .bo [.bH,.int .i64 (Ib.ew al)])∧rs= []):=by
 refine aO.fX ((Ib.awK aF al (by omega)).mono ?_);rintro v rs (⟨h,_⟩|⟨_,h,rfl,rfl⟩|⟨_,h,S,h1,G,rfl,rfl⟩)
 ·exact absurd dc h
 ·exact E.ac ⟨by rw[if_neg h];rfl,rfl⟩
 ·have e:Ib.run aF (Ib.kE S)=Ib.run aF (Ib.kE (Ao al)):=by rw[aau h h1 G]
  have bK: (Ib.run aF (Ib.kE S)).aa=CH aF al:=by rw[e];rfl
  rw[bK];generalize CH aF al=q;have nL:bW [.ag 221 4 (ai q)] [] [0] (.bo [.own 0 q.length 0 q.length,.int .i64 0])= .bo [.pure 4 (ai q),.int .i64 0]:=by
   have:bW [.ag 221 4 (ai q)] [] [0] (.own 0 q.length 0 q.length)= .pure 4 (ai q):=qx rfl rfl rfl (by rw[bT]) ck;rw[bW];simp only[dT,this];rfl
  refine E.jN [] [0] rfl rfl (by simp only[go_sem]<;>rfl) ?_;simp only[List.map_cons,List.map_nil,nL];exact E.ac ⟨by rw[if_pos h];rfl,rfl⟩
theorem awL (M:cc)(h:List Pm.cX)(hl:h.length≤1000000)(al:List Pm.dP)(sF:al.length≤1000000)(aa:List Pm.cF)(gy:aa.length≤1000000):aO prog 42 [M.v,.pure 6 (ai h),.pure 7 (ai al),.pure 4 (ai aa)] []
 (fun v rs=>(if Pm.vh M h al aa=0 then v= .bo [.pure 3 (ai (Pm.tW M h al aa)),.int .i64 0] else v= .bo [.bH,.int .i64 (Pm.vh M h al aa)])∧rs= []):=by
 refine aO.fX ((Pm.awM M h (by omega) al sF aa gy).mono ?_);intro v rs aV
 by_cases dp:Pm.vh M h al aa=0
 ·rw[if_pos dp] at aV;obtain⟨rfl,rfl⟩:=aV;generalize Pm.tW M h al aa=q;have nL:bW [.ag 136 3 (ai q)] [] [0] (.bo [.own 0 q.length 0 q.length,.int .i64 0])= .bo [.pure 3 (ai q),.int .i64 0]:=by
   have:bW [.ag 136 3 (ai q)] [] [0] (.own 0 q.length 0 q.length)= .pure 3 (ai q):=qx rfl rfl rfl (by rw[bT]) ck;rw[bW];simp only[dT,this];rfl
  refine E.jN [] [0] rfl rfl (by simp only[go_sem]<;>rfl) ?_;simp only[List.map_cons,List.map_nil,nL];exact E.ac ⟨by rw[if_pos dp];rfl,rfl⟩
 ·rw[if_neg dp] at aV;obtain⟨rfl,rfl⟩:=aV;exact E.ac ⟨by rw[if_neg dp];rfl,rfl⟩
theorem aav {b:ByteArray}{m:Int}: ∀ {acc:List Ib.jg},(Ib.gr b m acc).length≤acc.length+1
 | []=>Nat.le_refl _
 |t::eg=>by
  have:=aav (b:=b) (m:=m) (acc:=eg);unfold Ib.gr;split
  ·simp
  ·simpa using this
def pS (B:Int)(p:Ib.cF):Bool:=decide (p.ah=B)
theorem aaw (B:Int): ∀ (q:List Ib.cF) (acc:List Ib.jg),(q.foldl (Ib.jx B) acc).length≤acc.length+(q.filter (pS B)).length
 | [],acc=>by simp
 |p::q,acc=>by
  rw[List.foldl_cons];have ih:=aaw B q (Ib.jx B acc p)
  by_cases ak:p.ah=B
  ·rw[List.filter_cons_of_pos (by simp[pS,ak]),List.length_cons];have: (Ib.jx B acc p).length≤acc.length+1:=by
    unfold Ib.jx;split
    ·exact aav
    ·omega
   omega
  ·rw[List.filter_cons_of_neg (by simp[pS,ak])];have:Ib.jx B acc p=acc:=by
    unfold Ib.jx;rw[if_neg (fun h=>ak h.1)]
   rw[this] at ih ⊢;exact ih
theorem aax (l:List Ib.cF)(B:Int): (Ib.pQ l B).length≤(l.filter (pS B)).length:=by
 unfold Ib.pQ;have h1:=aaw B (l.take 4096) [];have G:=((List.take_sublist 4096 l).filter (pS B)).length_le;simp only[List.length_nil,Nat.zero_add] at h1;omega
theorem aay (B:Int): ∀ l:List Ib.cF,l.length=(l.filter (pS B)).length+(l.filter fun p=> !pS B p).length
 | []=>rfl
 |p::l=>by
  have ih:=aay B l
  by_cases ak:pS B p=true
  ·rw[List.filter_cons_of_pos ak,List.filter_cons_of_neg (by simp[ak]),List.length_cons,List.length_cons];omega
  ·rw[List.filter_cons_of_neg ak,List.filter_cons_of_pos (by simpa using ak),List.length_cons,List.length_cons];omega
theorem aaz: ∀ {aD:List Int} {l:List Ib.cF},aD.Nodup→(aD.map fun B=>(l.filter (pS B)).length).sum≤l.length
 | [],l,_=>by simp
 |B::aD,l,h=>by
  rw[List.nodup_cons] at h;have ih:=aaz (aD:=aD) (l:=l.filter fun p=> !pS B p) h.2;have e: (aD.map fun e=>(l.filter (pS e)).length)=aD.map fun e=>((l.filter fun p=> !pS B p).filter (pS e)).length:=List.map_congr_left fun e he=>by
   rw[List.filter_filter];congr 1;refine List.filter_congr fun p _=> ?_;unfold pS
   by_cases ak:p.ah=e
   ·have: ¬e=B:=fun x=>h.1 (x▸he);simp[ak,this]
   ·simp[ak]
  have hl:=aay B l;rw[List.map_cons,List.sum_cons,e];omega
theorem aaA {aa:List Ib.cF}{aD:List Int}(h:aD.Nodup): (jv aa aD).length≤aa.length:=by
 refine Nat.le_trans ?_ (aaz (aD:=aD) (l:=aa) h);unfold jv;rw[List.length_flatMap];clear h
 induction aD with
 |nil=>simp
 |cons B aD ih=>
  rw[List.map_cons,List.map_cons,List.sum_cons,List.sum_cons];have: (jf aa B).length≤(aa.filter (pS B)).length:=by unfold jf;rw[List.length_map];exact aax aa B
  omega
theorem aaB {M:cc}{h:List Pm.cX}{al:List Pm.dP}{aa:List Pm.cF}{B:Int}: ∀ {n:Nat},(Pm.ox M h al aa B n).length≤n
 |0=>Nat.le_refl _
 |n+1=>by
  have:=aaB (M:=M) (h:=h) (al:=al) (aa:=aa) (B:=B) (n:=n);unfold Pm.ox;rw[List.length_append];split<;>simp<;>omega
theorem aaC {aa:List Pm.cF}: ∀ {c:Nat},c≤aa.length→(Pm.gt (aa.take c)).length≤c
 |0,_=>by simp[Pm.gt]
 |c+1,h=>by
  have:=aaC (aa:=aa) (c:=c) (by omega);rw[Pm.aaD (by omega)];unfold Pm.ek;split
  ·omega
  ·simp;omega
theorem aaE {M:cc}{h:List Pm.cX}{al:List Pm.dP}{aa:List Pm.cF}(aP:al.length≤16): (Pm.tW M h al aa).length≤16*aa.length:=by
 unfold Pm.tW;have h1:=aaC (aa:=aa) (c:=aa.length) (Nat.le_refl _);rw[List.take_length] at h1;have G: (fq (Pm.gt aa)).length≤aa.length:=by rw[zY];exact h1
 refine Nat.le_trans ?_ (Nat.mul_le_mul_left 16 G);rw[List.length_flatMap];generalize fq (Pm.gt aa)=fj;clear h1 G
 induction fj with
 |nil=>simp
 |cons B fj ih=>
  rw[List.map_cons,List.sum_cons,List.length_cons];have:=aaB (M:=M) (h:=h) (al:=al) (aa:=aa) (B:=B) (n:=al.length);omega
end Go.Proofs.YtpincjkjoeopkaaGreatDoor
