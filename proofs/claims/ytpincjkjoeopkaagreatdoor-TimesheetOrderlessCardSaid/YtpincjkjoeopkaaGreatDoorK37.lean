/- Events and bands. -/
import Derived.Test.YtpincjkjoeopkaaGreatDoorK36
set_option linter.unusedSimpArgs false
set_option linter.unusedVariables false
set_option linter.unusedSectionVars false
namespace Go.Proofs.YtpincjkjoeopkaaGreatDoor.Ib
open Go Go.Abs Go.Proofs.Tryz
theorem aA9 {cI:List Ev}(n:Int)(h:0 < cI.length):mC n (im (cI.take 1))=if cI[0].bh=n then [cI[0]] else []:=by
 rw[aBa h];unfold mC
 by_cases h:cI[0].bh=n<;>simp[h]
theorem aBb {cI:List Ev}{c:Nat}(n:Int)(h0:0 < c)(h:c < cI.length):mC n (im (cI.take (c+1)))=if cI[c].key=(cI[c-1]'(by omega)).key then mC n (im (cI.take c)) else if cI[c].bh=n then mC n (im (cI.take c))++ [cI[c]] else mC n (im (cI.take c)):=by
 rw[aBc h0 h];split
 ·rfl
 ·rw[aBd]
theorem aBe (l:List Ev)(hl:l.length≤1000000)(n:Int):aK prog 145 [.pure 7 (ac l),.int .i64 n] [] (fun v rs=>v= .own 0 (jS l n).length 0 (jS l n).length∧rs= [.aa 71 7 (ac (jS l n))]):=by
 refine hr func145 acD (by simp[Ej,HG]) ?_;unfold jS;simp only[go_sem,Ej,HG]
 repeat (refine s.U ?_;simp only[go_sem])
 have afq:=afr l [] hl (by simp);rw[List.append_nil] at afq;have aBf:=R2 l;generalize fi l=cI at *
 (refine vf (afq.le (by simp[hs,le,ac])) ?_;rintro _ _ ⟨rfl,rfl⟩;simp only[go_sem])
 (refine s.kp [] [0] ?_;simp only[go_sem])
 repeat (refine s.U ?_;simp only[go_sem])
 refine gY (fun r d=> ∃ c:Nat,c≤cI.length∧(mC n (im (cI.take c))).length≤c∧r= [(1,.int .i64 n),(5,.own 0 (mC n (im (cI.take c))).length 0 (mC n (im (cI.take c))).length),(6,.pure 7 (ac cI)),(11,.pure 7 (ac cI)),(12,.int .i64 cI.length),(13,.int .i64 c)]∧d= [.aa 71 7 (ac (mC n (im (cI.take c))))])
  (fun r _=>match bn r 13 with| .int _ j=>(cI.length-j).toNat|_=>0) ?_ ?_
 ·(refine s.iI 5 71 7 rfl (s.eW [1,5,6,11,12,13] ?_);simp only[go_sem])
  exact s.U ⟨0,by omega,by simp[im,mC],rfl,rfl⟩
 rintro r d ⟨c,an,lw,rfl,rfl⟩;have cW:=dr (c:=c) (by omega);simp only[go_sem,Ej,HG]
 repeat (refine s.U ?_;simp only[go_sem])
 refine dg ?_ ?_<;>intro ao<;>simp only[bA] at ao<;>simp only[go_sem,Ej,HG]
 rotate_left
 ·repeat (refine s.U ?_;simp only[go_sem])
  have:cI.take c=cI:=List.take_of_length_le (by omega);rw[this];exact s.U ⟨rfl,rfl⟩
 have aC:c < cI.length:=by omega
 have h0: (0:Int)≤c:=by omega
 have h1: (c:Int) < cI.length:=by omega
 have g1: (ac cI).getD c []=aG.F cI[c]:=cQ aC
 (refine s.U ?_;simp only[go_sem])
 simp only[go_sem,h0,h1,g1];rcases Nat.eq_zero_or_pos c with nk|nk
 ·have hf:=aA9 n (cI:=cI) (by omega);subst nk;have g0:mC n (im (cI.take 0))= []:=rfl;have aq:decide ((0:Int) < ((0:Nat):Int))=false:=by decide
  rw[g0]
  repeat (refine s.U ?_;simp only[go_sem])
  try simp only[go_sem,aq,us]
  repeat (refine s.U ?_;simp only[go_sem])
  by_cases aB:cI[0].bh=n
  ·have Z: (cI[0].bh==n)=true:=beq_iff_eq.2 aB;rw[if_pos aB] at hf;simp only[go_sem,Z,us]
   (refine s.U ?_;simp only[go_sem])
   (refine s.bw [some 0] ?_;simp only[go_sem])
   repeat (refine s.U ?_;simp only[go_sem])
   have Ex:IntKind.i64.wrap (0+1)=1:=rfl;simp only[go_sem,Ex];exact⟨⟨1,by omega,by rw[hf];simp,by rw[hf];rfl,by rw[hf];rfl⟩,by omega⟩
  ·have Z: (cI[0].bh==n)=false:=beq_eq_false_iff_ne.2 aB;rw[if_neg aB] at hf;simp only[go_sem,Z,us]
   (refine s.bw [some 0] ?_;simp only[go_sem])
   repeat (refine s.U ?_;simp only[go_sem])
   have Ex:IntKind.i64.wrap (0+1)=1:=rfl;simp only[go_sem,Ex];exact⟨⟨1,by omega,by rw[hf];simp,by rw[hf];rfl,by rw[hf]⟩,by omega⟩
 ·have pm:IntKind.i64.wrap ((c:Int)-1)=((c-1:Nat):Int):=by rw[bf (by omega) (by omega)];omega
  have aq:decide ((0:Int) < (c:Int))=true:=decide_eq_true (by omega);have B: (0:Int)≤((c-1:Nat):Int):=by omega
  have am: ((c-1:Nat):Int) < cI.length:=by omega
  have bM: (ac cI).getD (c-1) []=aG.F (cI[c-1]'(by omega)):=cQ (by omega);have hf:=aBb n nk aC
  (refine s.U ?_;simp only[go_sem])
  simp only[go_sem,aq,pm,B,am,bM,us,aA7,aA8]
  by_cases I: (cI[c-1]'(by omega)).key=cI[c].key
  ·rw[if_pos I.symm] at hf;have AV:decide ((cI[c-1]'(by omega)).key=cI[c].key)=true:=decide_eq_true I
   repeat (refine s.U ?_;simp only[go_sem])
   simp only[go_sem,AV]
   (refine s.bw [some 0] ?_;simp only[go_sem])
   repeat (refine s.U ?_;simp only[go_sem])
   simp only[go_sem,cW];exact⟨⟨c+1,by omega,by rw[hf];omega,by rw[hf],by rw[hf]⟩,by omega⟩
  ·rw[if_neg (fun h=>I h.symm)] at hf;have AV:decide ((cI[c-1]'(by omega)).key=cI[c].key)=false:=decide_eq_false I
   repeat (refine s.U ?_;simp only[go_sem])
   simp only[go_sem,AV]
   repeat (refine s.U ?_;simp only[go_sem])
   by_cases aB:cI[c].bh=n
   ·have Z: (cI[c].bh==n)=true:=beq_iff_eq.2 aB;rw[if_pos aB] at hf;have jv: (mC n (im (cI.take (c+1)))).length=(mC n (im (cI.take c))).length+1:=by rw[hf];simp
    simp only[go_sem,Z]
    repeat (refine s.U ?_;simp only[go_sem])
    refine⟨by omega,?_⟩;rw[R3]
    (refine s.bw [some 0] ?_;simp only[go_sem])
    repeat (refine s.U ?_;simp only[go_sem])
    simp only[go_sem,cW];exact⟨⟨c+1,by omega,by omega,by rw[jv],by rw[hf]⟩,by omega⟩
   ·have Z: (cI[c].bh==n)=false:=beq_eq_false_iff_ne.2 aB;rw[if_neg aB] at hf;simp only[go_sem,Z]
    (refine s.bw [some 0] ?_;simp only[go_sem])
    repeat (refine s.U ?_;simp only[go_sem])
    simp only[go_sem,cW];exact⟨⟨c+1,by omega,by rw[hf];omega,by rw[hf],by rw[hf]⟩,by omega⟩
theorem aBj {l:List Ev}(h:cD l=0):l.length≤1024:=by
 unfold cD at h;split at h
 ·omega
 ·omega
def afz (l:List Ev)(n:Int)(v:z)(rs:List R):Prop:=
 (cD l≠0∧v= .bg [.bD,.int .i64 (cD l)]∧rs= [])∨
 (cD l=0∧ ∃ S:List Stamp,S.Perm (BN (jS l n))∧S.Pairwise mB∧v= .bg [.own 0 S.length 0 S.length,.int .i64 0]∧rs= [.aa 177 4 (ac S)])
theorem HJ {iF:Type}{f:iF→z}(hf: ∀ b,bE (f b)=true): ∀ (l:List (Ky×iF)),jL (mD f l)=true
 | []=>rfl
 |p::l=>by
  have:=HJ hf l;simp only[jL,mD,List.map_map,Bool.and_eq_true] at this ⊢;simp only[List.map_cons,bP,Function.comp_apply,bE,hf,Bool.true_and];exact this
theorem aBo (l:List (Ky×Bool)):jL (mD z.bool l)=true:=HJ (fun _=>rfl) l
theorem aBp (l:List (Ky×Int)):jL (mD (z.int .i64) l)=true:=HJ (fun _=>rfl) l
attribute [go_sem] aBo aBp
theorem afe (l:List Ev)(n:Int): (jS l n).length≤l.length:=by
 have h1: (mC n (im (fi l))).length≤(im (fi l)).length:=List.length_filter_le _ _;have B: ∀ cI:List Ev,(im cI).length≤cI.length:=by
  intro cI
  induction cI using ut with
  |h0=>simp[im]
  |h1 cI x ih=>rw[Ml];split<;>simp<;>omega
 have am:=B (fi l);have bp:=R2 l;unfold jS;omega
theorem aAM (l:List Ev)(hl:l.length≤9223372036854775807)(n:Int):aK prog 67 [.pure 7 (ac l),.int .i64 n] [] (afz l n):=by
 refine hr func67 abu (by simp[zs,BP]) ?_;unfold afz;simp only[go_sem,zs,BP]
 repeat (refine s.U ?_;simp only[go_sem])
 refine bH (RY l hl) rfl rfl ?_
 by_cases V:cD l=0
 rotate_left
 ·have Z: (cD l != 0)=true:=by simpa using V
  simp only[go_sem]
  repeat (refine s.U ?_;simp only[go_sem])
  simp only[go_sem,Z]
  repeat (refine s.U ?_;simp only[go_sem])
  exact s.bb rfl (.inl ⟨V,rfl,rfl⟩)
 have cB:=aBj V;rw[V];simp only[go_sem,bne_self_eq_false]
 repeat (refine s.U ?_;simp only[go_sem])
 have zB:=aBq l n;have aIJ:=afe l n;have hF:=aBe l (by omega) n;generalize jS l n=be at *
 (refine vf (hF) ?_;rintro _ _ ⟨rfl,rfl⟩;simp only[go_sem])
 (refine s.kp [] [0] ?_;simp only[go_sem])
 repeat (refine s.U ?_;simp only[go_sem])
 refine gY (fun r d=> ∃ (c:Nat) (qi:List (Ky×Bool)) (td:List (Ky×Int)),c≤be.length∧(∀ k,(vJ qi k).getD false=vK (be.take c) k)∧(∀ k,vJ td k=vL (be.take c) k)∧r= [(7,.pure 7 (ac be)),(8,.bu 0),(9,.bu 1),(28,.pure 7 (ac be)),(29,.int .i64 be.length),(30,.int .i64 c)]∧d= [.aY (.map true [.int .i64,.int .i64] (mD z.bool qi)),.aY (.map true [.int .i64,.int .i64] (mD (z.int .i64) td))])
  (fun r _=>match bn r 30 with| .int _ j=>(be.length-j).toNat|_=>0) ?_ ?_
 ·exact s.U ⟨0,[],[],by omega,fun k=>rfl,fun k=>rfl,rfl,rfl⟩
 rintro r d ⟨c,qi,td,an,HK,HL,rfl,rfl⟩;have aIK:=HJ (f:=z.bool) (fun _=>rfl) qi;have Ey:=HJ (f:=z.int .i64) (fun _=>rfl) td;have cW:=dr (c:=c) (by omega);simp only[go_sem,zs,BP]
 repeat (refine s.U ?_;simp only[go_sem])
 refine dg ?_ ?_<;>intro ao<;>simp only[bA] at ao<;>simp only[go_sem,zs,BP]
 ·have aC:c < be.length:=by omega
  have h0: (0:Int)≤c:=by omega
  have h1: (c:Int) < be.length:=by omega
  have g1: (ac be).getD c []=aG.F be[c]:=cQ aC;have es: ∀ k,vK (be.take (c+1)) k=(vK (be.take c) k||decide (be[c].cH=5∧be[c].pr=k)):=fun k=>by rw[List.take_succ_eq_append_getElem aC,aBr]
  have kK: ∀ k,vL (be.take (c+1)) k=if be[c].cH=6∧be[c].pr=k then some be[c].time else vL (be.take c) k:=fun k=>by rw[List.take_succ_eq_append_getElem aC,aBs]
  generalize be[c]=e at *;have hn:dp (.agg [.int .i64 e.ln,.int .i64 e.fa]) (.bool true) (mD z.bool qi)=mD z.bool (vM e.pr true qi):=R6 (f:=z.bool) (k:=e.pr) (v:=true);have Bb:dp (.agg [.int .i64 e.ln,.int .i64 e.fa]) (.int .i64 e.time) (mD (z.int .i64) td)=mD (z.int .i64) (vM e.pr e.time td):=R6 (f:=z.int .i64) (k:=e.pr) (v:=e.time)
  repeat (refine s.U ?_;simp only[go_sem])
  simp only[go_sem,h0,h1,g1,us]
  repeat (refine s.U ?_;simp only[go_sem])
  by_cases c5:e.cH=5
  ·have ta: (e.cH==5)=true:=beq_iff_eq.2 c5;simp only[go_sem,ta]
   (refine s.U ?_;simp only[go_sem])
   simp only[go_sem,hn]
   (refine s.bw [some 0,some 1] ?_;simp only[go_sem])
   repeat (refine s.U ?_;simp only[go_sem])
   simp only[go_sem,cW];refine⟨⟨c+1,vM e.pr true qi,td,by omega,fun k=> ?_,fun k=> ?_,rfl,rfl⟩,by omega⟩
   ·rw[es,R7,←HK]
    by_cases I:k=e.pr
    ·simp[I,c5]
    ·have rq: ¬e.pr=k:=fun h=>I h.symm;simp[I,rq]
   ·rw[kK,HL,if_neg (by omega)]
  ·have ta: (e.cH==5)=false:=beq_eq_false_iff_ne.2 c5;simp only[go_sem,ta]
   repeat (refine s.U ?_;simp only[go_sem])
   by_cases c6:e.cH=6
   ·have zC: (e.cH==6)=true:=beq_iff_eq.2 c6;simp only[go_sem,zC]
    (refine s.U ?_;simp only[go_sem])
    simp only[go_sem,Bb]
    (refine s.bw [some 0,some 1] ?_;simp only[go_sem])
    repeat (refine s.U ?_;simp only[go_sem])
    simp only[go_sem,cW];refine⟨⟨c+1,qi,vM e.pr e.time td,by omega,fun k=> ?_,fun k=> ?_,rfl,rfl⟩,by omega⟩
    ·rw[es,←HK];simp[c5]
    ·rw[kK,R7,HL]
     by_cases I:k=e.pr
     ·simp[I,c6]
     ·have rq: ¬e.pr=k:=fun h=>I h.symm;simp[I,rq]
   ·have zC: (e.cH==6)=false:=beq_eq_false_iff_ne.2 c6;simp only[go_sem,zC]
    (refine s.bw [some 0,some 1] ?_;simp only[go_sem])
    repeat (refine s.U ?_;simp only[go_sem])
    simp only[go_sem,cW];refine⟨⟨c+1,qi,td,by omega,fun k=> ?_,fun k=> ?_,rfl,rfl⟩,by omega⟩
    ·rw[es,←HK];simp[c5]
    ·rw[kK,HL,if_neg (by omega)]
 have Mm:be.take c=be:=List.take_of_length_le (by omega);rw[Mm] at HK HL;clear cW ao an Mm
 repeat (refine s.U ?_;simp only[go_sem])
 refine gY (fun r d=> ∃ (c:Nat),c≤be.length∧((be.take c).filterMap (kj be)).length≤c∧r= [(8,.bu 0),(9,.bu 1),(12,.own 2 ((be.take c).filterMap (kj be)).length 0 ((be.take c).filterMap (kj be)).length),(49,.pure 7 (ac be)),(50,.int .i64 be.length),(51,.int .i64 c)]∧d= [.aY (.map true [.int .i64,.int .i64] (mD z.bool qi)),.aY (.map true [.int .i64,.int .i64] (mD (z.int .i64) td)),.aa 177 4 (ac ((be.take c).filterMap (kj be)))])
  (fun r _=>match bn r 51 with| .int _ j=>(be.length-j).toNat|_=>0) ?_ ?_
 ·(refine s.iI 12 177 4 rfl (s.eW [8,9,12,49,50,51] ?_);simp only[go_sem])
  exact s.U ⟨0,by omega,by simp,rfl,rfl⟩
 clear c;rintro r d ⟨c,an,fd,rfl,rfl⟩;have cW:=dr (c:=c) (by omega);simp only[go_sem,zs,BP]
 repeat (refine s.U ?_;simp only[go_sem])
 refine dg ?_ ?_<;>intro ao<;>simp only[bA] at ao<;>simp only[go_sem,zs,BP]
 ·have aC:c < be.length:=by omega
  have h0: (0:Int)≤c:=by omega
  have h1: (c:Int) < be.length:=by omega
  have g1: (ac be).getD c []=aG.F be[c]:=cQ aC;have ce: (be.take (c+1)).filterMap (kj be)=(be.take c).filterMap (kj be)++(kj be be[c]).toList:=by
   rw[List.take_succ_eq_append_getElem aC,List.filterMap_append];cases h:kj be be[c]<;>simp[h]
  generalize be[c]=e at *;generalize (be.take c).filterMap (kj be)=aP at *;have xB: (dd (.agg [.int .i64 e.da,.int .i64 e.M]) (mD z.bool qi)).getD (.bool false)= .bool (vK be e.key):=by
   have:=R8 (f:=z.bool) (k:=e.key) (l:=qi);rw[show dd (.agg [.int .i64 e.da,.int .i64 e.M]) (mD z.bool qi)=(vJ qi e.key).map z.bool from this,←HK];cases vJ qi e.key<;>rfl
  have yU:dd (.agg [.int .i64 e.da,.int .i64 e.M]) (mD (z.int .i64) td)=(vL be e.key).map (z.int .i64):=by
   have:=R8 (f:=z.int .i64) (k:=e.key) (l:=td);rw[HL] at this;exact this
  repeat (refine s.U ?_;simp only[go_sem])
  simp only[go_sem,h0,h1,g1,us]
  repeat (refine s.U ?_;simp only[go_sem])
  by_cases c5:e.cH=5
  ·have ta: (e.cH==5)=true:=beq_iff_eq.2 c5;have ka:kj be e=none:=by unfold kj;rw[if_pos (.inl c5)]
   rw[ka] at ce;simp only[go_sem,ta]
   (refine s.U ?_;simp only[go_sem])
   (refine s.bw [some 0,some 1,some 2] ?_;simp only[go_sem])
   repeat (refine s.U ?_;simp only[go_sem])
   simp only[go_sem,cW];exact⟨⟨c+1,by omega,by rw[ce];simp;omega,by rw[ce];simp,by rw[ce];simp⟩,by omega⟩
  have ta: (e.cH==5)=false:=beq_eq_false_iff_ne.2 c5
  by_cases c6:e.cH=6
  ·have zC: (e.cH==6)=true:=beq_iff_eq.2 c6;have ka:kj be e=none:=by unfold kj;rw[if_pos (.inr (.inl c6))]
   rw[ka] at ce;simp only[go_sem,ta,zC]
   (refine s.U ?_;simp only[go_sem])
   (refine s.bw [some 0,some 1,some 2] ?_;simp only[go_sem])
   repeat (refine s.U ?_;simp only[go_sem])
   simp only[go_sem,cW];exact⟨⟨c+1,by omega,by rw[ce];simp;omega,by rw[ce];simp,by rw[ce];simp⟩,by omega⟩
  have zC: (e.cH==6)=false:=beq_eq_false_iff_ne.2 c6
  by_cases A8:vK be e.key=true
  ·have ka:kj be e=none:=by unfold kj;rw[if_pos (.inr (.inr A8))]
   rw[ka] at ce;rw[A8] at xB;simp only[go_sem,ta,zC,xB]
   (refine s.U ?_;simp only[go_sem])
   (refine s.bw [some 0,some 1,some 2] ?_;simp only[go_sem])
   repeat (refine s.U ?_;simp only[go_sem])
   simp only[go_sem,cW];exact⟨⟨c+1,by omega,by rw[ce];simp;omega,by rw[ce];simp,by rw[ce];simp⟩,by omega⟩
  have afA:vK be e.key=false:=by simpa using A8
  have rh:kj be e=some ⟨(vL be e.key).getD e.time,e.cH,e.da,e.M⟩:=by unfold kj;rw[if_neg (by simp[c5,c6,afA])]
  rw[rh] at ce;rw[afA] at xB;simp only[go_sem,ta,zC,xB]
  repeat (refine s.U ?_;simp only[go_sem])
  cases uk:vL be e.key with
  |none=>
   rw[uk] at yU ce;simp only[go_sem,yU,Option.map_none];have jv: ((be.take (c+1)).filterMap (kj be)).length=aP.length+1:=by rw[ce];simp
   (refine s.U ?_;simp only[go_sem])
   refine⟨by omega,?_⟩;rw[afB]
   (refine s.bw [some 0,some 1,some 2] ?_;simp only[go_sem])
   repeat (refine s.U ?_;simp only[go_sem])
   simp only[go_sem,cW];exact⟨⟨c+1,by omega,by omega,by rw[jv],by rw[ce];rfl⟩,by omega⟩
  |some tm=>
   rw[uk] at yU ce;simp only[go_sem,yU,Option.map_some];have jv: ((be.take (c+1)).filterMap (kj be)).length=aP.length+1:=by rw[ce];simp
   (refine s.U ?_;simp only[go_sem])
   refine⟨by omega,?_⟩;rw[afB]
   (refine s.bw [some 0,some 1,some 2] ?_;simp only[go_sem])
   repeat (refine s.U ?_;simp only[go_sem])
   simp only[go_sem,cW];exact⟨⟨c+1,by omega,by omega,by rw[jv],by rw[ce];rfl⟩,by omega⟩
 have Mm:be.take c=be:=List.take_of_length_le (by omega);rw[Mm] at fd ⊢;have afC: (be.filterMap (kj be)).Pairwise fun a b=>pq a.key b.key:=aBt zB;have NH:be.filterMap (kj be)=BN be:=rfl;rw[NH] at fd afC ⊢;generalize BN be=aP at *
 (refine s.U ?_;simp only[go_sem])
 (refine eY [2] (aA3 aP (by omega)) ?_;rintro _ _ ⟨rfl,bX,ae,ak,rfl⟩;simp only[go_sem])
 have aBu:=aBv ae ak afC;rw[←ae.length_eq]
 (refine s.bw [some 2] ?_;simp only[go_sem])
 repeat (refine s.U ?_;simp only[go_sem])
 exact s.U (.inr ⟨bX,ae,aBu,rfl,rfl⟩)
end Go.Proofs.YtpincjkjoeopkaaGreatDoor.Ib
