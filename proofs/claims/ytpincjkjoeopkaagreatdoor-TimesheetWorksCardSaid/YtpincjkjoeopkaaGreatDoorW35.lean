/- Events and bands. -/
import Derived.Test.YtpincjkjoeopkaaGreatDoorW32
set_option linter.all false
namespace Go.Proofs.YtpincjkjoeopkaaGreatDoor.Ib
open Go Go.Abs Go.Proofs.Tryz
theorem aPC {l:List Ev}(h:cL l=0): ∀ e∈l,iD e:=by
 unfold cL at h;split at h
 ·omega
 ·split at h
  ·next G=>
   unfold po at G;rw[List.all_eq_true] at G;exact fun e he=>of_decide_eq_true (G e he)
  ·omega
theorem aNB {n:Int}{C:List Ev}{c:Nat}(h:c < C.length):nj n (C.take (c+1))=if C[c].bk=n then nj n (C.take c)++ [C[c]] else nj n (C.take c):=by
 rw[List.take_succ_eq_append_getElem h,aCv]
theorem aNC (d x:Ev):ed [.int .i64 d.iq,.int .i64 d.eg] [.int .i64 x.cZ,.int .i64 x.Y]=decide (d.qa=x.key):=agJ d.qa x.key
theorem aPq (l:List Ev)(hl:l.length≤9223372036854775807)(n:Int):aO prog 28 [.pure 7 (ai l),.int .i64 n] [] (agT l n):=by
 refine hJ func28 azz (by simp[a28,N1]) ?_;unfold agT;simp only[go_sem,a28,N1]
 repeat (refine E.ac ?_;simp only[go_sem])
 refine bM (aPz l hl) rfl rfl ?_
 by_cases ad:cL l=0
 rotate_left
 ·have af: (cL l != 0)=true:=by simpa using ad
  simp only[go_sem]
  repeat (refine E.ac ?_;simp only[go_sem])
  simp only[go_sem,af]
  repeat (refine E.ac ?_;simp only[go_sem])
  exact E.bg rfl (.inl ⟨ad,rfl,rfl⟩)
 have cK:=aCB ad;have hval: ∀ e∈iE (fr l),iD e:=fun e he=>aPC ad e ((Fl l e).1 (aCQ he));rw[ad];simp only[go_sem,bne_self_eq_false]
 repeat (refine E.ac ?_;simp only[go_sem])
 have AO:=aCU (Nt l);have IT: (iE (fr l)).length≤l.length:=by
  have G: ∀ cQ:List Ev,(iE cQ).length≤cQ.length:=by
   intro cQ
   induction cQ using vq with
   |h0=>simp[iE]
   |h1 cQ x ih=>rw[Nr];split<;>simp<;>omega
  have au:=G (fr l);have bv:=Tb l;omega
 have lI:=aPA l (by omega);unfold kp;generalize iE (fr l)=C at *
 (refine rv (lI) ?_;rintro _ _ ⟨rfl,rfl⟩;simp only[go_sem])
 (refine E.kK [] [0] ?_;simp only[go_sem])
 generalize aND:nj n C=bm at *
 repeat (refine E.ac ?_;simp only[go_sem])
 refine hv (fun D r=> ∃ (c:Nat) (S:List Stamp),c≤C.length∧S.length≤c∧S.Perm ((nj n (C.take c)).filterMap (kF bm))∧S.Pairwise ni∧D= [(1,.int .i64 n),(7,.pure 7 (ai C)),(8,.own 0 S.length 0 S.length),(9,.int .i64 c)]∧r= [.ag 177 4 (ai S)])
  (fun D _=>match bs D 9 with| .int _ j=>(C.length-j).toNat|_=>0) ?_ ?_
 ·(refine E.iv 8 177 4 rfl (E.eW [1,7,8,9] ?_);simp only[go_sem])
  exact E.ac ⟨0,[],by omega,by simp,by simp[nj],by simp,rfl,rfl⟩
 rintro D r ⟨c,S,av,Ag,aLb,aK7,rfl,rfl⟩;have dn:=dB (c:=c) (by omega);simp only[go_sem,a28,N1]
 repeat (refine E.ac ?_;simp only[go_sem])
 refine dj ?_ ?_<;>intro aw<;>simp only[bC] at aw<;>simp only[go_sem,a28,N1]
 rotate_left
 ·have ht:C.take c=C:=List.take_of_length_le (by omega);rw[ht,aND] at aLb
  repeat (refine E.ac ?_;simp only[go_sem])
  exact E.ac (.inr ⟨S,aLb,aK7,rfl,rfl⟩)
 have aI:c < C.length:=by omega
 have h0: (0:Int)≤c:=by omega
 have h1: (c:Int) < C.length:=by omega
 have g1: (ai C).getD c []=aJ.J C[c]:=cT aI;have aLj:=aNB (n:=n) aI;have aPD:=hval _ (List.getElem_mem aI);have xq: ∀ I∈S,pZ I.key C[c].key:=by
  intro I ao;have vX:=aLb.mem_iff.1 ao;obtain⟨d,bt,kN⟩:=List.mem_filterMap.1 vX;rw[(agY kN).1];have aPE:d∈C.take c:=(List.mem_filter.1 bt).1;obtain⟨q,aV,rfl⟩:=List.mem_iff_getElem.1 aPE;rw[List.length_take] at aV;rw[List.getElem_take];exact List.pairwise_iff_getElem.1 AO q c (by omega) aI (by omega)
 generalize C[c]=x at *
 (refine E.ac ?_;simp only[go_sem])
 simp only[go_sem,h0,h1,g1,rJ];have aMp: (x.bk≠n∨kF bm x=none)→(nj n (C.take (c+1))).filterMap (kF bm)=(nj n (C.take c)).filterMap (kF bm):=by
  intro h;rw[aLj];rcases h with h|h
  ·rw[if_neg h]
  ·split
   ·rw[List.filterMap_append];simp[h]
   ·rfl
 by_cases aH:x.bk=n
 rotate_left
 ·have af: (x.bk != n)=true:=by simpa using aH
  have De:=aMp (.inl aH)
  (refine E.ac ?_;simp only[go_sem])
  simp only[go_sem,af]
  (refine E.bB [some 0] ?_;simp only[go_sem])
  repeat (refine E.ac ?_;simp only[go_sem])
  simp only[go_sem,dn];exact⟨⟨c+1,S,by omega,by omega,by rw[De];exact aLb,aK7,rfl,rfl⟩,by omega⟩
 have af: (x.bk != n)=false:=by simpa using aH
 by_cases Rz:4 < x.cB
 ·have rX:decide (4 < x.cB)=true:=decide_eq_true Rz;have kx:kF bm x=none:=by
   unfold kF;rw[if_pos];unfold iD at aPD;omega
  have De:=aMp (.inr kx)
  (refine E.ac ?_;simp only[go_sem])
  simp only[go_sem,af,rX]
  (refine E.bB [some 0] ?_;simp only[go_sem])
  repeat (refine E.ac ?_;simp only[go_sem])
  simp only[go_sem,dn];exact⟨⟨c+1,S,by omega,by omega,by rw[De];exact aLb,aK7,rfl,rfl⟩,by omega⟩
 have rX:decide (4 < x.cB)=false:=decide_eq_false Rz
 (refine E.ac ?_;simp only[go_sem])
 simp only[go_sem,af,rX]
 repeat (refine E.ac ?_;simp only[go_sem])
 refine hv (fun D r=> ∃ (k:Nat),k≤C.length∧D= [(1,.int .i64 n),(7,.pure 7 (ai C)),(8,.own 0 S.length 0 S.length),(9,.int .i64 c),(10,.bd 1 1 0 0),(11,.bool (wS (nj n (C.take k)) x.key)),(12,.int .i64 k)]∧r= [.ag 177 4 (ai S),.ag 71 7 [[.int .i64 x.cZ,.int .i64 x.Y,.int .i64 x.bk,.int .i64 ((wT (nj n (C.take k)) x.key).getD x.time),.int .i64 x.cB,.int .i64 x.iq,.int .i64 x.eg]]])
  (fun D _=>match bs D 12 with| .int _ j=>(C.length-j).toNat|_=>0) ?_ ?_
 ·exact E.ac ⟨0,by omega,rfl,rfl⟩
 rintro D r ⟨k,O,rfl,rfl⟩;have nH:=dB (c:=k) (by omega);simp only[go_sem,a28,N1]
 repeat (refine E.ac ?_;simp only[go_sem])
 refine dj ?_ ?_<;>intro ct<;>simp only[bC] at ct<;>simp only[go_sem,a28,N1]
 ·have aNE:k < C.length:=by omega
  have z0: (0:Int)≤k:=by omega
  have mn: (k:Int) < C.length:=by omega
  have nM: (ai C).getD k []=aJ.J C[k]:=cT aNE;have aKU:=aNB (n:=n) aNE;generalize C[k]=d at *;have eK:=aCJ (nj n (C.take k)) d x.key;have mg:=aCK (nj n (C.take k)) d x.key;generalize nj n (C.take k)=iZ at *
  (refine E.ac ?_;simp only[go_sem])
  simp only[go_sem,z0,mn,nM,rJ]
  by_cases aLZ:d.bk=n
  rotate_left
  ·have sX: (d.bk==n)=false:=beq_eq_false_iff_ne.2 aLZ;rw[if_neg aLZ] at aKU
   (refine E.ac ?_;simp only[go_sem])
   simp only[go_sem,sX]
   (refine E.bB [some 0,some 1] ?_;simp only[go_sem])
   repeat (refine E.ac ?_;simp only[go_sem])
   simp only[go_sem,nH];exact⟨⟨k+1,by omega,by rw[aKU],by rw[aKU]⟩,by omega⟩
  have sX: (d.bk==n)=true:=beq_iff_eq.2 aLZ;rw[if_pos aLZ] at aKU
  by_cases aLv:d.qa=x.key
  rotate_left
  ·have BH:decide (d.qa=x.key)=false:=decide_eq_false aLv;rw[if_neg (fun h=>aLv h.2)] at mg;have aK8:wS (iZ++ [d]) x.key=wS iZ x.key:=by rw[eK];simp[aLv]
   (refine E.ac ?_;simp only[go_sem])
   simp only[go_sem,sX,aCq,aNC,BH]
   (refine E.bB [some 0,some 1] ?_;simp only[go_sem])
   repeat (refine E.ac ?_;simp only[go_sem])
   simp only[go_sem,nH];exact⟨⟨k+1,by omega,by rw[aKU,aK8],by rw[aKU,mg]⟩,by omega⟩
  have BH:decide (d.qa=x.key)=true:=decide_eq_true aLv
  (refine E.ac ?_;simp only[go_sem])
  simp only[go_sem,sX,aCq,aNC,BH]
  by_cases cx:d.cB=5
  ·have uc: (d.cB==5)=true:=beq_iff_eq.2 cx;have AP: (d.cB==6)=false:=beq_eq_false_iff_ne.2 (by omega);rw[if_neg (fun h=>by omega)] at mg;have aK8:wS (iZ++ [d]) x.key=true:=by rw[eK];simp[aLv,cx]
   cases aLw:wS iZ x.key
   ·(refine E.ac ?_;simp only[go_sem])
    simp only[go_sem,uc]
    (refine E.ac ?_;simp only[go_sem])
    simp only[go_sem,AP]
    (refine E.bB [some 0,some 1] ?_;simp only[go_sem])
    repeat (refine E.ac ?_;simp only[go_sem])
    simp only[go_sem,nH];exact⟨⟨k+1,by omega,by rw[aKU,aK8],by rw[aKU,mg]⟩,by omega⟩
   ·(refine E.ac ?_;simp only[go_sem])
    (refine E.ac ?_;simp only[go_sem])
    simp only[go_sem,AP]
    (refine E.bB [some 0,some 1] ?_;simp only[go_sem])
    repeat (refine E.ac ?_;simp only[go_sem])
    simp only[go_sem,nH];exact⟨⟨k+1,by omega,by rw[aKU,aK8],by rw[aKU,mg]⟩,by omega⟩
  have uc: (d.cB==5)=false:=beq_eq_false_iff_ne.2 cx;have aK8:wS (iZ++ [d]) x.key=wS iZ x.key:=by rw[eK];simp[cx]
  by_cases dx:d.cB=6
  ·have AP: (d.cB==6)=true:=beq_iff_eq.2 dx;rw[if_pos ⟨dx,aLv⟩] at mg;cases aLw:wS iZ x.key
   ·(refine E.ac ?_;simp only[go_sem])
    simp only[go_sem,uc]
    (refine E.ac ?_;simp only[go_sem])
    simp only[go_sem,AP]
    (refine E.ac ?_;simp only[go_sem])
    (refine E.bB [some 0,some 1] ?_;simp only[go_sem])
    repeat (refine E.ac ?_;simp only[go_sem])
    simp only[go_sem,nH];exact⟨⟨k+1,by omega,by rw[aKU,aK8,aLw],by rw[aKU,mg];rfl⟩,by omega⟩
   ·(refine E.ac ?_;simp only[go_sem])
    (refine E.ac ?_;simp only[go_sem])
    simp only[go_sem,AP]
    (refine E.ac ?_;simp only[go_sem])
    (refine E.bB [some 0,some 1] ?_;simp only[go_sem])
    repeat (refine E.ac ?_;simp only[go_sem])
    simp only[go_sem,nH];exact⟨⟨k+1,by omega,by rw[aKU,aK8,aLw],by rw[aKU,mg];rfl⟩,by omega⟩
  have AP: (d.cB==6)=false:=beq_eq_false_iff_ne.2 dx;rw[if_neg (fun h=>dx h.1)] at mg;cases aLw:wS iZ x.key
  ·(refine E.ac ?_;simp only[go_sem])
   simp only[go_sem,uc]
   (refine E.ac ?_;simp only[go_sem])
   simp only[go_sem,AP]
   (refine E.bB [some 0,some 1] ?_;simp only[go_sem])
   repeat (refine E.ac ?_;simp only[go_sem])
   simp only[go_sem,nH];exact⟨⟨k+1,by omega,by rw[aKU,aK8,aLw],by rw[aKU,mg]⟩,by omega⟩
  ·(refine E.ac ?_;simp only[go_sem])
   (refine E.ac ?_;simp only[go_sem])
   simp only[go_sem,AP]
   (refine E.bB [some 0,some 1] ?_;simp only[go_sem])
   repeat (refine E.ac ?_;simp only[go_sem])
   simp only[go_sem,nH];exact⟨⟨k+1,by omega,by rw[aKU,aK8,aLw],by rw[aKU,mg]⟩,by omega⟩
 have nF:C.take k=C:=List.take_of_length_le (by omega);rw[nF,aND];clear nH ct nF O
 by_cases ob:wS bm x.key=true
 ·have kx:kF bm x=none:=by
   unfold kF;rw[if_pos (.inr (.inr ob))]
  have De:=aMp (.inr kx);rw[ob]
  (refine E.ac ?_;simp only[go_sem])
  (refine E.ac ?_;simp only[go_sem])
  (refine E.bB [some 0] ?_;simp only[go_sem])
  repeat (refine E.ac ?_;simp only[go_sem])
  simp only[go_sem,dn];exact⟨⟨c+1,S,by omega,by omega,by rw[De];exact aLb,aK7,rfl,rfl⟩,by omega⟩
 have aNF:wS bm x.key=false:=by simpa using ob
 rw[aNF];have rW:kF bm x=some ⟨(wT bm x.key).getD x.time,x.cB,x.cZ,x.Y⟩:=by
  unfold kF;rw[if_neg (by simp[aNF];omega)]
 have aNG: (nj n (C.take (c+1))).filterMap (kF bm)=(nj n (C.take c)).filterMap (kF bm)++ [⟨(wT bm x.key).getD x.time,x.cB,x.cZ,x.Y⟩]:=by
  rw[aLj,if_pos aH,List.filterMap_append];simp[rW]
 (refine E.ac ?_;simp only[go_sem])
 (refine E.ac ?_;simp only[go_sem])
 (refine E.ac ?_;simp only[go_sem])
 generalize (wT bm x.key).getD x.time=tm at *;generalize QF: (⟨tm,x.cB,x.cZ,x.Y⟩:Stamp)=I at *;have xq: ∀ q∈S,pZ q.key I.key:=by rw[←QF];exact xq
 have y: ([.int .i64 tm,.int .i64 x.cB,.int .i64 x.cZ,.int .i64 x.Y]:List F)=aJ.J I:=by rw[←QF];rfl
 rw[y]
 (refine E.bB [some 0,some 2] ?_;simp only[go_sem])
 repeat (refine E.ac ?_;simp only[go_sem])
 refine hv (fun D r=> ∃ k:Nat,k≤S.length∧(∀ q (h:q < S.length),k≤q→I.time < S[q].time)∧D= [(1,.int .i64 n),(7,.pure 7 (ai C)),(8,.own 0 S.length 0 S.length),(9,.int .i64 c),(14,.bd 1 1 0 0),(15,.int .i64 k)]∧r= [.ag 177 4 (ai S),.ag 177 4 [aJ.J I]])
  (fun D _=>match bs D 15 with| .int _ j=>j.toNat|_=>0) ?_ ?_
 ·exact E.ac ⟨S.length,by omega,fun q h G=>by omega,rfl,rfl⟩
 rintro D r ⟨k,O,UB,rfl,rfl⟩;have nH:=dB (c:=k) (by omega);rcases Nat.eq_zero_or_pos k with Cm|Cm
 ·have ay:decide ((0:Int) < k)=false:=decide_eq_false (by omega);simp only[go_sem,a28,N1,ay]
  repeat (refine E.ac ?_;simp only[go_sem])
  have jK: (S++ [(⟨0,0,0,0⟩:Stamp)]).length=S.length+1:=by simp
  have sf:k+(S.length+1-k)=S.length+1:=by omega
  have wD:k+1+(S.length+1-(k+1))=S.length+1:=by omega
  refine⟨by omega,?_⟩;rw[agV]
  repeat (refine E.ac ?_;simp only[go_sem])
  simp only[go_sem,nH,jK,sf]
  repeat (refine And.intro (by first|rfl|omega) ?_)
  have aLk:List.take (min (List.take (S.length+1-k) (List.drop k (S++ [(⟨0,0,0,0⟩:Stamp)]))).length (S.length+1-(k+1))) (List.take (S.length+1-k) (List.drop k (S++ [(⟨0,0,0,0⟩:Stamp)])))=S.drop k:=aLL O (by simp only[List.length_take,List.length_drop,jK];omega) (by simp only[List.length_take,List.length_drop,jK];omega);rw[aLk];have ta:=aLM (M:=(⟨0,0,0,0⟩:Stamp)) O;have ayQ:=aLN (M:=(⟨0,0,0,0⟩:Stamp)) (x:=I) O;generalize KY (S++ [(⟨0,0,0,0⟩:Stamp)]) (k+1) (S.drop k)=al at ta ayQ ⊢;have LZ:k < al.length:=by omega
  have C7: (ai al).getD k []=aJ.J al[k]:=cT LZ;have zI: ∀ x:Stamp,List.drop 4 (aJ.J x)= []:=fun _=>rfl;have sF:S.length+1=(S.take k++I::S.drop k).length:=by rw[←ayQ,List.length_set,ta]
  have aMq: (S.take k++I::S.drop k).Pairwise ni:=aNx aK7 O xq UB (fun h=>by omega);have aMr: (S.take k++I::S.drop k).Perm ((nj n (C.take (c+1))).filterMap (kF bm)):=by
   refine List.perm_middle.trans ?_;rw[List.take_append_drop,aNG];exact ((List.Perm.cons I aLb).trans (List.perm_append_singleton I _).symm)
  (refine E.bB [some 0,some 1] ?_;simp only[go_sem])
  repeat (refine E.ac ?_;simp only[go_sem])
  have z0: (0:Int)≤((k:Nat):Int):=by omega
  have mn: ((k:Nat):Int) < ((S.length+1:Nat):Int):=by omega
  simp only[go_sem,C7,z0,mn,ta];rw[zI,List.append_nil,xS,ayQ,sF]
  (refine E.bB [some 0] ?_;simp only[go_sem])
  repeat (refine E.ac ?_;simp only[go_sem])
  simp only[go_sem,dn];exact⟨⟨c+1,_,by omega,by omega,aMr,aMq,rfl,rfl⟩,by omega⟩
 ·obtain⟨k,rfl⟩: ∃ j,k=j+1:=⟨k-1,by omega⟩;have ay:decide ((0:Int) < ((k+1:Nat):Int))=true:=decide_eq_true (by omega);have pV:IntKind.i64.wrap (((k+1:Nat):Int)-1)=k:=by rw[bl (by omega) (by omega)];omega
  have BS: (0:Int)≤k:=by omega
  have MT: (k:Int) < S.length:=by omega
  have aNH: (ai S).getD k []=aJ.J (S[k]'(by omega)):=cT (by omega);have auF:aJ.J I= [.int .i64 I.time,.int .i64 I.cB,.int .i64 I.cZ,.int .i64 I.Y]:=rfl
  by_cases aMs:I.time < (S[k]'(by omega)).time
  ·have Sv:decide (I.time < (S[k]'(by omega)).time)=true:=decide_eq_true aMs;simp only[go_sem,a28,N1,ay,pV,BS,MT,aNH,Nn,Sv]
   repeat (refine E.ac ?_;simp only[go_sem])
   simp only[go_sem,pV];exact⟨⟨k,by omega,fun q h aV=>by
    by_cases aMt:q=k
    ·subst aMt;exact aMs
    ·exact UB q h (by omega),rfl⟩,by omega⟩
  ·have Sv:decide (I.time < (S[k]'(by omega)).time)=false:=decide_eq_false aMs;simp only[go_sem,a28,N1,ay,pV,BS,MT,aNH,Nn,Sv];rw[←auF]
   repeat (refine E.ac ?_;simp only[go_sem])
   have jK: (S++ [(⟨0,0,0,0⟩:Stamp)]).length=S.length+1:=by simp
   have sf: (k+1)+(S.length+1-(k+1))=S.length+1:=by omega
   have wD: (k+1)+1+(S.length+1-((k+1)+1))=S.length+1:=by omega
   refine⟨by omega,?_⟩;rw[agV]
   repeat (refine E.ac ?_;simp only[go_sem])
   simp only[go_sem,nH,jK,sf]
   repeat (refine And.intro (by first|rfl|omega) ?_)
   have aLk:List.take (min (List.take (S.length+1-(k+1)) (List.drop (k+1) (S++ [(⟨0,0,0,0⟩:Stamp)]))).length (S.length+1-((k+1)+1))) (List.take (S.length+1-(k+1)) (List.drop (k+1) (S++ [(⟨0,0,0,0⟩:Stamp)])))=S.drop (k+1):=aLL O (by simp only[List.length_take,List.length_drop,jK];omega) (by simp only[List.length_take,List.length_drop,jK];omega);rw[aLk];have ta:=aLM (M:=(⟨0,0,0,0⟩:Stamp)) O;have ayQ:=aLN (M:=(⟨0,0,0,0⟩:Stamp)) (x:=I) O;generalize KY (S++ [(⟨0,0,0,0⟩:Stamp)]) ((k+1)+1) (S.drop (k+1))=al at ta ayQ ⊢;have LZ: (k+1) < al.length:=by omega
   have C7: (ai al).getD (k+1) []=aJ.J al[(k+1)]:=cT LZ;have zI: ∀ x:Stamp,List.drop 4 (aJ.J x)= []:=fun _=>rfl;have sF:S.length+1=(S.take (k+1)++I::S.drop (k+1)).length:=by rw[←ayQ,List.length_set,ta]
   have aMq: (S.take (k+1)++I::S.drop (k+1)).Pairwise ni:=aNx aK7 O xq UB (fun h=>by simp only[Nat.add_sub_cancel];omega);have aMr: (S.take (k+1)++I::S.drop (k+1)).Perm ((nj n (C.take (c+1))).filterMap (kF bm)):=by
    refine List.perm_middle.trans ?_;rw[List.take_append_drop,aNG];exact ((List.Perm.cons I aLb).trans (List.perm_append_singleton I _).symm)
   (refine E.bB [some 0,some 1] ?_;simp only[go_sem])
   repeat (refine E.ac ?_;simp only[go_sem])
   have z0: (0:Int)≤(((k+1):Nat):Int):=by omega
   have mn: (((k+1):Nat):Int) < ((S.length+1:Nat):Int):=by omega
   simp only[go_sem,C7,z0,mn,ta];rw[zI,List.append_nil,xS,ayQ,sF]
   (refine E.bB [some 0] ?_;simp only[go_sem])
   repeat (refine E.ac ?_;simp only[go_sem])
   simp only[go_sem,dn];exact⟨⟨c+1,_,by omega,by omega,aMr,aMq,rfl,rfl⟩,by omega⟩
end Go.Proofs.YtpincjkjoeopkaaGreatDoor.Ib
