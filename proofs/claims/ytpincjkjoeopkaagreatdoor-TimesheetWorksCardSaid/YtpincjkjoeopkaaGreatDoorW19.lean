/- Time evaluation. -/
import Derived.Test.YtpincjkjoeopkaaGreatDoorW16
import Derived.Test.YtpincjkjoeopkaaGreatDoorW18
import Derived.Test.YtpincjkjoeopkaaGreatDoorW17
import Derived.Test.YtpincjkjoeopkaaGreatDoorW7
import Derived.DeepKeys5
import Derived.WalkKit
set_option linter.all false
namespace Go.Proofs.YtpincjkjoeopkaaGreatDoor
open Go Go.Abs Go.Proofs.Tryz
def Rc (M:cc):Nat→lv
 |0=>⟨0,M.off⟩
 |k+1=>M.cS.getD k ⟨0,0⟩
def aKP (M:cc)(c:Nat):Int:=if h:c < M.cS.length then M.cS[c].az-1 else 120968639
theorem aLO {M:cc}{k:Nat}(h:k < M.cS.length):Rc M (k+1)=M.cS[k]:=by
 rw[Rc,List.getD_eq_getElem?_getD,List.getElem?_eq_getElem h];rfl
theorem aN3 {M:cc}(ba:Lx M){c:Nat}(av:c≤M.cS.length):0≤(Rc M c).az∧(Rc M c).az≤120968639∧jQ (Rc M c).off:=by
 cases c with
 |zero=>exact⟨Int.le_refl _,by simp[Rc],ba.off⟩
 |succ k=>
  rw[aLO (by omega)];exact ba.cS _ (List.getElem_mem _)
theorem aN4 {M:cc}(ba:Lx M){c:Nat}: -1≤aKP M c∧aKP M c≤120968639:=by
 unfold aKP;split
 ·have:=ba.cS _ (List.getElem_mem (by assumption));omega
 ·omega
theorem aN5 (M:cc)(ba:Lx M)(c:Nat)(av:c≤M.cS.length):aO prog 275 [M.v,.int .i64 c] [] (fun v rs=>v= .bo [.int .i64 (Rc M c).az,.int .i64 (aKP M c),.int .i64 (Rc M c).off]∧rs= []):=by
 have cK:=ba.len;refine hJ func275 aBG (by simp[afP,aHm]) ?_;simp only[go_sem,afP,aHm,cc.v]
 repeat (refine E.ac ?_;simp only[go_sem])
 rcases Nat.eq_zero_or_pos c with rfl|ak
 ·simp only[go_sem]
  repeat (refine E.ac ?_;simp only[go_sem])
  refine dj ?_ ?_<;>intro aw<;>simp only[bC] at aw<;>simp only[go_sem,afP,aHm]
  ·have hl:0 < M.cS.length:=by omega
   have ad:=ba.cS _ (List.getElem_mem hl)
   try simp only[Int.toNat_natCast]
   rw[cT hl];simp only[go_sem,Hj];refine⟨by omega,?_⟩;have aP:IntKind.i64.wrap (M.cS[0].az-1)=M.cS[0].az-1:=bl (by omega) (by omega);simp only[go_sem,aP]
   repeat (refine E.ac ?_;simp only[go_sem])
   refine E.bg rfl ⟨?_,rfl⟩;rw[aKP,dif_pos hl];rfl
  ·repeat (refine E.ac ?_;simp only[go_sem])
   refine E.bg rfl ⟨?_,rfl⟩;rw[aKP,dif_neg (by omega)];rfl
 obtain⟨k,rfl⟩: ∃ k,c=k+1:=⟨c-1,by omega⟩;have q1:decide ((0:Int) < ((k+1:Nat):Int))=true:=decide_eq_true (by omega);have aP:IntKind.i64.wrap (((k+1:Nat):Int)-1)=(k:Int):=by rw[bl (by omega) (by omega)];omega
 have O:k < M.cS.length:=by omega
 have gk:=cT O;simp only[go_sem,q1,aP]
 try simp only[Int.toNat_natCast]
 rw[gk];simp only[go_sem,Hj];refine⟨by omega,by omega,by omega,by omega,?_⟩
 repeat (refine E.ac ?_;simp only[go_sem])
 refine dj ?_ ?_<;>intro aw<;>simp only[bC] at aw<;>simp only[go_sem,afP,aHm]
 ·have hl:k+1 < M.cS.length:=by omega
  have ad:=ba.cS _ (List.getElem_mem hl)
  try simp only[Int.toNat_natCast]
  rw[cT hl];simp only[go_sem,Hj];refine⟨by omega,by omega,?_⟩;have aP:IntKind.i64.wrap (M.cS[k+1].az-1)=M.cS[k+1].az-1:=bl (by omega) (by omega);simp only[go_sem,aP]
  repeat (refine E.ac ?_;simp only[go_sem])
  refine E.bg rfl ⟨?_,rfl⟩;rw[aKP,dif_pos hl,aLO O]
 ·repeat (refine E.ac ?_;simp only[go_sem])
  refine E.bg rfl ⟨?_,rfl⟩;rw[aKP,dif_neg (by omega),aLO O]
def aKY (t:Int):Int→Int→List lv→Int
 |f,o,[]=>if f>120968639∨120968639+o < t then 120968640 else if t≤f+o then f else t-o
 |f,o,J::l=>if f>J.az-1∨J.az-1+o < t then aKY t J.az J.off l else if t≤f+o then f else t-o
theorem aL1 {t:Int}: ∀ {l:List lv} {f o:Int},f≤120968639→(∀ J∈l,J.az≤120968639)→aKY t f o l=tA (ml f o l) t
 | [],f,o,hf,_=>by
  simp only[aKY,ml,tA];split<;>split<;>(try split)<;>omega
 |J::l,f,o,hf,h=>by
  have ih:=aL1 (t:=t) (l:=l) (f:=J.az) (o:=J.off) (h J List.mem_cons_self) fun x aj=>h x (List.mem_cons_of_mem _ aj);rw[aKY,ml,ih]
  by_cases h1:f < J.az
  ·rw[if_pos h1];simp only[List.cons_append,List.nil_append,tA];split<;>split<;>(try split)<;>first|omega|rfl
  ·rw[if_neg h1,if_pos (by omega)];rfl
theorem aMD {M:cc}(ba:Lx M){t:Int}(ht:0≤t):aKY t 0 M.off M.cS=uY M t:=by
 rw[aL1 (by omega) fun J ad=>(ba.cS J ad).2.1];unfold uY;rw[show max t (-840)=t by omega];split
 ·rename_i h;have ao:=LA (l:=M.cS) (f:=0) (o:=M.off) (by omega) (by omega) ba.off ba.cS;generalize ml 0 M.off M.cS=S at ao;clear ba
  induction S with
  |nil=>rfl
  |cons I S ih=>
   have h1:=ao I List.mem_cons_self;unfold jQ at h1;rw[tA,if_neg (by omega)];exact ih fun x aj=>ao x (List.mem_cons_of_mem _ aj)
 ·rfl
theorem aN6 {M:cc}{t:Int}{c:Nat}(av:c≤M.cS.length):aKY t (Rc M c).az (Rc M c).off (M.cS.drop c)=if (Rc M c).az>aKP M c∨aKP M c+(Rc M c).off < t then (if c < M.cS.length then aKY t (Rc M (c+1)).az (Rc M (c+1)).off (M.cS.drop (c+1)) else 120968640) else if t≤(Rc M c).az+(Rc M c).off then (Rc M c).az else t-(Rc M c).off:=by
 by_cases h:c < M.cS.length
 ·rw[List.drop_eq_getElem_cons h,aKY,if_pos h,aLO h,aKP,dif_pos h]
 ·rw[List.drop_eq_nil_of_le (by omega),aKY,if_neg h,aKP,dif_neg h]
theorem aME (M:cc)(ba:Lx M)(t:Int)(ht:0≤t)(EH:t≤1000000000):aO prog 219 [M.v,.int .i64 t] [] (fun v rs=>v= .int .i64 (uY M t)∧rs= []):=by
 have cK:=ba.len;refine hJ func219 aBm (by simp[afe,aHi]) ?_;simp only[go_sem,afe,aHi,cc.v]
 repeat (refine E.ac ?_;simp only[go_sem])
 refine hv (fun D r=> ∃ (c:Nat),c≤M.cS.length+1∧uY M t=(if c≤M.cS.length then aKY t (Rc M c).az (Rc M c).off (M.cS.drop c) else 120968640)∧D= [(1,.int .i64 t),(2,.bd 0 1 0 0),(5,.int .i64 c)]∧r= [.ag 32 2 [[.int .i64 M.off,.pure 2 (ai M.cS)]]])
  (fun D _=>match bs D 5 with| .int _ j=>(65-j).toNat|_=>0) ?_ ?_
 ·exact E.ac ⟨0,by omega,by rw[if_pos (by omega)];exact (aMD ba ht).symm,rfl,rfl⟩
 rintro D r ⟨c,av,ao,rfl,rfl⟩;simp only[go_sem,afe,aHi]
 repeat (refine E.ac ?_;simp only[go_sem])
 refine dj ?_ ?_<;>intro aw<;>simp only[bC] at aw<;>simp only[go_sem,afe,aHi]
 ·have kv:c≤M.cS.length:=by omega
  have uv:=aN3 ba kv;have rX:=aN4 ba (c:=c);unfold jQ at uv;rw[if_pos kv,aN6 kv] at ao;have dn:=dB (c:=c) (by omega);have gI:IntKind.i64.wrap (aKP M c+(Rc M c).off)=aKP M c+(Rc M c).off:=bl (by omega) (by omega);have ik:IntKind.i64.wrap ((Rc M c).az+(Rc M c).off)=(Rc M c).az+(Rc M c).off:=bl (by omega) (by omega);have Cr:IntKind.i64.wrap (t-(Rc M c).off)=t-(Rc M c).off:=bl (by omega) (by omega)
  repeat (refine E.ac ?_;simp only[go_sem])
  refine bM (by have:=aN5 M ba c kv;unfold cc.v at this;exact this) rfl rfl ?_;have aMF: ((Rc M c).az>aKP M c∨aKP M c+(Rc M c).off < t)→uY M t=(if c+1≤M.cS.length then aKY t (Rc M (c+1)).az (Rc M (c+1)).off (M.cS.drop (c+1)) else 120968640):=fun h=>by
   rw[ao,if_pos h]
   by_cases hh:c < M.cS.length
   ·rw[if_pos hh,if_pos (by omega)]
   ·rw[if_neg hh,if_neg (by omega)]
  simp only[go_sem];refine E.ac ?_
  by_cases c1:aKP M c < (Rc M c).az
  ·have q1:decide (aKP M c < (Rc M c).az)=true:=decide_eq_true c1;simp only[go_sem,q1]
   (refine E.ac ?_;simp only[go_sem])
   refine E.ac ?_;simp only[go_sem,dn];refine E.ac ⟨⟨c+1,by omega,aMF (.inl c1),rfl,rfl⟩,?_⟩;simp only[go_sem];omega
  have q1:decide (aKP M c < (Rc M c).az)=false:=decide_eq_false c1
  by_cases c2:aKP M c+(Rc M c).off < t
  ·have eQ:decide (aKP M c+(Rc M c).off < t)=true:=decide_eq_true c2;simp only[go_sem,q1,gI,eQ]
   (refine E.ac ?_;simp only[go_sem])
   refine E.ac ?_;simp only[go_sem,dn];refine E.ac ⟨⟨c+1,by omega,aMF (.inr c2),rfl,rfl⟩,?_⟩;simp only[go_sem];omega
  have eQ:decide (aKP M c+(Rc M c).off < t)=false:=decide_eq_false c2;rw[if_neg (by omega)] at ao
  by_cases c3:t≤(Rc M c).az+(Rc M c).off
  ·have eF:decide (t≤(Rc M c).az+(Rc M c).off)=true:=decide_eq_true c3;rw[if_pos c3] at ao;simp only[go_sem,q1,gI,eQ]
   repeat (refine E.ac ?_;simp only[go_sem])
   simp only[go_sem,ik,eF]
   repeat (refine E.ac ?_;simp only[go_sem])
   exact E.bg rfl ⟨by rw[ao],rfl⟩
  ·have eF:decide (t≤(Rc M c).az+(Rc M c).off)=false:=decide_eq_false c3;rw[if_neg c3] at ao;simp only[go_sem,q1,gI,eQ]
   repeat (refine E.ac ?_;simp only[go_sem])
   simp only[go_sem,ik,eF]
   repeat (refine E.ac ?_;simp only[go_sem])
   simp only[go_sem,Cr];exact E.bg rfl ⟨by rw[ao],rfl⟩
 ·rw[if_neg (by omega)] at ao
  repeat (refine E.ac ?_;simp only[go_sem])
  exact E.bg rfl ⟨by rw[ao],rfl⟩
theorem aN7 {l:List lv}{f o t:Int}(hf:f≤120968639)(hl: ∀ J∈l,J.az≤120968639)(ao:qA (f-1) l=0∨True)(ak:l.Pairwise fun a b=>a.az < b.az)(aMG: ∀ J∈l,f≤J.az):f≤tA (ml f o l) t:=by
 induction l generalizing f o with
 |nil=>simp only[ml,tA];split<;>omega
 |cons J l ih=>
  rw[List.pairwise_cons] at ak;have G:=ih (f:=J.az) (o:=J.off) (hl J List.mem_cons_self) (fun x aj=>hl x (List.mem_cons_of_mem _ aj)) (.inr trivial) ak.2 fun x aj=>by have:=ak.1 x aj;omega
  have au:=aMG J List.mem_cons_self;rw[ml]
  by_cases h1:f < J.az
  ·rw[if_pos h1];simp only[List.cons_append,List.nil_append,tA];split<;>omega
  ·rw[if_neg h1,List.nil_append];omega
theorem aN8 {l:List lv}{f o t x g:Int}(hf:f≤120968639)(hl: ∀ J∈l,J.az≤120968639)(ak:l.Pairwise fun a b=>a.az < b.az)(aMG: ∀ J∈l,f≤J.az)(ht:t≤120968639)(aw:g < x):
 tA (ml f o l) x≤t↔x≤zS t (ml f o l) g:=by
 induction l generalizing f o g with
 |nil=>
  simp only[ml,tA,zS];split<;>split<;>omega
 |cons J l ih=>
  rw[List.pairwise_cons] at ak;have oM:=hl J List.mem_cons_self;have lp: ∀ x∈l,x.az≤120968639:=fun x aj=>hl x (List.mem_cons_of_mem _ aj);have aLP: ∀ x∈l,J.az≤x.az:=fun x aj=>by have:=ak.1 x aj;omega
  rw[ml]
  by_cases h1:f < J.az
  ·rw[if_pos h1];simp only[List.cons_append,List.nil_append,tA,zS];have Bh:=aN7 (o:=J.off) (t:=x) oM lp (.inr trivial) ak.2 aLP
   by_cases G:f>t
   ·rw[if_pos G];split<;>omega
   rw[if_neg G]
   by_cases au:max f (x-o) < J.az
   ·rw[if_pos au]
    by_cases bv:x-o≤t
    ·have:=aLx (t:=t) (l:=ml J.az J.off l) (g:=max g (min t (J.az-1)+o));omega
    ·have cx:=ih (f:=J.az) (o:=J.off) (g:=max g (min t (J.az-1)+o)) oM lp ak.2 aLP (by omega);omega
   ·rw[if_neg au];exact ih (f:=J.az) (o:=J.off) (g:=max g (min t (J.az-1)+o)) oM lp ak.2 aLP (by omega)
  ·rw[if_neg h1,List.nil_append];exact ih oM lp ak.2 aLP aw
theorem aMH: ∀ {l:List lv} {p:Int},qA p l=0→(l.Pairwise fun a b=>a.az < b.az)∧ ∀ J∈l,p < J.az
 | [],_,_=>⟨.nil,by simp⟩
 |J::l,p,h=>by
  rw[qA] at h;split at h
  ·omega
  split at h
  ·omega
  have ih:=aMH h;refine⟨List.pairwise_cons.2 ⟨ih.2,ih.1⟩,fun x aj=> ?_⟩;rcases List.mem_cons.1 aj with rfl|aj
  ·omega
  ·have:=ih.2 x aj;omega
def aLy (M:cc)(t:Int):Int:=zS t (ml 0 M.off M.cS) 0
theorem aMI {t:Int}: ∀ {l:List pL} {g:Int},(∀ I∈l,I.off≤840)→g≤t+840→zS t l g≤t+840
 | [],_,_,h=>h
 |I::l,g,h,aw=>by
  rw[zS];split
  ·exact aw
  ·have:=h I List.mem_cons_self;exact aMI (fun x aj=>h x (List.mem_cons_of_mem _ aj)) (by omega)
theorem aL2 {M:cc}(ba:Lx M){t:Int}(h0:0≤t):0≤aLy M t∧aLy M t≤t+840:=
 ⟨aLx,aMI (fun I ao=>(LA (l:=M.cS) (f:=0) (o:=M.off) (by omega) (by omega) ba.off ba.cS I ao).2.2.2.2.2) (by omega)⟩
theorem aN9 {M:cc}(an:fe M=0){t x:Int}(ht:t≤120968639)(aj:0 < x):uY M x≤t↔x≤aLy M t:=by
 have ba:=wv an;have ad:qA (-1) M.cS=0:=by
  unfold fe at an;split at an
  ·omega
  split at an
  ·exact an
  ·omega
 have K4:=aMH ad;rw[←aMD ba (by omega),aL1 (by omega) fun J ad=>(ba.cS J ad).2.1];exact aN8 (by omega) (fun J ad=>(ba.cS J ad).2.1) K4.1 (fun J ad=>(ba.cS J ad).1) ht aj
def aK9 (M:cc)(B:Int):Int:=if B=0 then 0 else if B=84006 then 120968640 else uY M (B*1440)
theorem aOa {M:cc}(an:fe M=0){t B:Int}(h0:0≤t)(ht:t≤120968639)(ay:0≤B)(CY:B≤84005):aK9 M B≤t↔B*1440≤aLy M t:=by
 have aw:=aL2 (wv an) h0;unfold aK9;split
 ·subst_vars;omega
 ·rw[if_neg (by omega)];exact aN9 an ht (by omega)
theorem aOb {M:cc}(ba:Lx M){t:Int}(h0:0≤t):mm M t=min (aLy M t / 1440) 84005:=by
 have aw:=aL2 ba h0;unfold mm;rw[Int.tdiv_eq_ediv_of_nonneg aLx];rfl
theorem aOc (M:cc)(ba:Lx M)(B:Int)(h0:0≤B)(h1:B≤84006):aO prog 138 [M.v,.int .i64 B] [] (fun v rs=>v= .int .i64 (aK9 M B)∧rs= []):=by
 refine hJ func138 aAI (by simp[adT,aIY]) ?_;simp only[go_sem,adT,aIY,cc.v]
 repeat (refine E.ac ?_;simp only[go_sem])
 refine dj ?_ ?_<;>intro aw<;>simp only[bC] at aw<;>simp only[go_sem,adT,aIY]
 ·repeat (refine E.ac ?_;simp only[go_sem])
  exact E.bg rfl ⟨by rw[aK9,if_pos (by omega)],rfl⟩
 repeat (refine E.ac ?_;simp only[go_sem])
 refine dj ?_ ?_<;>intro ct<;>simp only[bC] at ct<;>simp only[go_sem,adT,aIY]
 ·repeat (refine E.ac ?_;simp only[go_sem])
  exact E.bg rfl ⟨by rw[aK9,if_neg (by omega),if_pos (by omega)],rfl⟩
 repeat (refine E.ac ?_;simp only[go_sem])
 have aP:IntKind.i64.wrap (B*1440)=B*1440:=bl (by omega) (by omega);rw[aP];refine bM (by have:=aME M ba (B*1440) (by omega) (by omega);unfold cc.v at this;exact this) rfl rfl ?_;simp only[go_sem]
 repeat (refine E.ac ?_;simp only[go_sem])
 exact E.bg rfl ⟨by rw[aK9,if_neg (by omega),if_neg (by omega)],rfl⟩
theorem aOd (M:cc)(an:fe M=0)(t:Int)(h0:0≤t)(h1:t≤1000000000):aO prog 165 [M.v,.int .i64 t] [] (fun v rs=>v= .bo [.int .i64 (uY M t),.int .i64 0]∧rs= []):=by
 refine hJ func165 aAT (by simp[aen,aHD]) ?_;have bO:=Pm.aLl M;have cd:=aME M (wv an) t h0 h1;rw[an] at bO;unfold cc.v at bO cd;simp only[go_sem,aen,aHD,cc.v]
 repeat (refine E.ac ?_;simp only[go_sem])
 refine bM bO rfl rfl ?_;simp only[go_sem]
 repeat (refine E.ac ?_;simp only[go_sem])
 refine bM cd rfl rfl ?_;simp only[go_sem]
 repeat (refine E.ac ?_;simp only[go_sem])
 exact E.bg rfl ⟨rfl,rfl⟩
theorem aOe (M:cc)(an:fe M=0)(t:Int)(h0:0≤t)(h1:t≤120968639):aO prog 137 [M.v,.int .i64 t] [] (fun v rs=>v= .bo [.int .i64 (yf M t),.int .i64 0]∧rs= []):=by
 refine hJ func137 aAH (by simp[adS,aIt]) ?_;have bO:=Pm.aLl M;have cd:=Pm.aMJ t;have fk:=Pm.aOf M an t;rw[an] at bO;rw[show decide (0≤t∧t≤120968639)=true from decide_eq_true ⟨h0,h1⟩] at cd;unfold cc.v at bO fk;simp only[go_sem,adS,aIt,cc.v]
 repeat (refine E.ac ?_;simp only[go_sem])
 refine bM bO rfl rfl ?_;simp only[go_sem]
 repeat (refine E.ac ?_;simp only[go_sem])
 refine bM cd rfl rfl ?_;simp only[go_sem]
 repeat (refine E.ac ?_;simp only[go_sem])
 refine bM fk rfl rfl ?_;simp only[go_sem]
 repeat (refine E.ac ?_;simp only[go_sem])
 exact E.bg rfl ⟨rfl,rfl⟩
theorem aOg (M:cc)(an:fe M=0)(t:Int)(h0:0≤t)(h1:t≤120968639):aO prog 52 [M.v,.int .i64 t] [] (fun v rs=>v= .bo [.int .i64 (mm M t),.int .i64 0]∧rs= []):=by
 have ba:=wv an;have ve:=aL2 ba h0;have ay:=aOb ba h0;refine hJ func52 azN (by simp[acJ,aIP]) ?_;have bO:=aOe M an t h0 h1;unfold cc.v at bO;simp only[go_sem,acJ,aIP,cc.v]
 repeat (refine E.ac ?_;simp only[go_sem])
 refine bM bO rfl rfl ?_;simp only[go_sem]
 repeat (refine E.ac ?_;simp only[go_sem])
 have bF:Int.tdiv t 1440=t / 1440:=Int.tdiv_eq_ediv_of_nonneg h0;have dn:IntKind.i64.wrap (t / 1440)=t / 1440:=bl (by omega) (by omega);have gI:IntKind.i64.wrap (t / 1440+2)=t / 1440+2:=bl (by omega) (by omega);refine⟨by omega,?_⟩;rw[bF,dn,gI]
 repeat (refine E.ac ?_;simp only[go_sem])
 refine hv (fun D r=> ∃ (B:Int),mm M t≤B∧B≤84005∧D= [(1,.int .i64 t),(2,.bd 0 1 0 0),(8,.int .i64 B)]∧r= [.ag 32 2 [[.int .i64 M.off,.pure 2 (ai M.cS)]]])
  (fun D _=>match bs D 8 with| .int _ j=>j.toNat|_=>0) ?_ ?_
 ·exact E.ac ⟨_,by omega,by omega,rfl,rfl⟩
 rintro D r ⟨B,LF,CY,rfl,rfl⟩;have aPU:=(aN2 M t).1;have aGh:=aOa an h0 h1 (show 0≤B by omega) CY;simp only[go_sem,acJ,aIP]
 repeat (refine E.ac ?_;simp only[go_sem])
 refine bM (by have:=aOc M ba B (by omega) (by omega);unfold cc.v at this;exact this) rfl rfl ?_;simp only[go_sem]
 repeat (refine E.ac ?_;simp only[go_sem])
 refine dj ?_ ?_<;>intro aw<;>simp only[bC] at aw<;>simp only[go_sem,acJ,aIP]
 ·have aP:IntKind.i64.wrap (B-1)=B-1:=bl (by omega) (by omega);have aI: ¬aK9 M B≤t:=by omega
  rw[aGh] at aI
  (refine E.ac ?_;simp only[go_sem])
  rw[aP];refine E.ac ⟨⟨B-1,by omega,by omega,rfl,rfl⟩,?_⟩;simp only[go_sem];omega
 ·have eA:aK9 M B≤t:=by omega
  rw[aGh] at eA;have aLz:B=mm M t:=by omega
  repeat (refine E.ac ?_;simp only[go_sem])
  exact E.bg rfl ⟨by rw[aLz],rfl⟩
open Go.Maps
open Go.RowKit (Below)
set_option maxRecDepth 100000
theorem abs {P:Program}{B:Nat}{t:TypeId}{ap:List Value}{fg:Array Field}(h:P.underlying t=some (.struct fg)):
 P.keyLits (B+1) t ap=if ap.length=P.cellsOf t∧fg.all (·.name != "_")=true then (fg.toList.mapM fun f=>P.keyLits B f.type ((ap.drop f.offset).take (P.cellsOf f.type))).map List.flatten else none:=by
 rw[Program.keyLits.eq_def];simp only[h]
theorem axt {P:Program}{B:Nat}{t:TypeId}{ap:List Value}{q:IntKind}{ma:List Lit}(h:P.underlying t=some (.int q))(O:P.keyLits (B+1) t ap=some ma): ∃ n,ap= [.int q n]∧(Lit.int q n).wf=true∧ma= [.int q n]:=by
 rw[Program.keyLits.eq_def] at O;rcases ap with _|⟨v,_|⟨_,_⟩⟩
 ·simp[h] at O
 ·cases v<;>simp only[h] at O<;>try (simp at O;done)
  split at O
  ·rename_i ad;cases O;obtain⟨rfl,aP⟩:=ad;exact⟨_,rfl,aP,rfl⟩
  ·cases O
 ·simp[h] at O
theorem axu {P:Program}{B:Nat}{t:TypeId}{ap:List Value}{ma:List Lit}(h:P.underlying t=some .string)(O:P.keyLits (B+1) t ap=some ma): ∃ n,ap= [.string n]∧n.size≤maxLen∧ma= [.string n.data.toList]:=by
 rw[Program.keyLits.eq_def] at O;rcases ap with _|⟨v,_|⟨_,_⟩⟩
 ·simp[h] at O
 ·cases v<;>simp only[h] at O<;>try (simp at O;done)
  split at O
  ·cases O;exact⟨_,rfl,by assumption,rfl⟩
  ·cases O
 ·simp[h] at O
theorem ie:prog.types.size+1=(prog.types.size-1)+1+1:=by kernel_rfl
theorem c3:prog.cellsOf 3=1:=by kernel_rfl
theorem c2:prog.cellsOf 9=1:=by kernel_rfl
theorem ij:prog.cellsOf 235=2:=by kernel_rfl
theorem axv {bj:Type}{l:List bj}(h:l.length=2): ∃ a b,l= [a,b]:=by
 match l,h with
 | [a,b],_=>exact⟨a,b,rfl⟩
theorem Rs (v:Value)(l:Lit)(h:keyOf prog 235 v=some l): ∃ B n,v= .agg #[.int .i64 B,.string n]∧(Lit.int .i64 B).wf=true∧n.size≤maxLen∧l= .string (keyBytes [.int .i64 B,.string n.data.toList]):=by
 unfold keyOf at h;rw[underlying235] at h;simp only at h;split at h
 ·rename_i hf;simp only[Bool.and_eq_true] at hf;rw[ie,abs underlying235] at h;split at h
  ·rename_i ad;obtain⟨ad,_⟩:=ad;rw[ij] at ad;obtain⟨x,d,Fd⟩:=axv ad;rw[Fd] at h;simp only[List.mapM_cons,List.mapM_nil,c3,c2,List.drop_succ_cons,List.drop_zero,List.take_succ_cons,List.take_zero,Option.bind_eq_bind,Option.pure_def] at h;cases h1:prog.keyLits (prog.types.size-1+1) 3 [x] with
   |none=>rw[h1] at h;cases h
   |some mN=>
    cases G:prog.keyLits (prog.types.size-1+1) 9 [d] with
    |none=>rw[h1,G] at h;cases h
    |some nv=>
     rw[h1,G] at h;obtain⟨B,bF,jG,rfl⟩:=axt underlying3 h1;obtain⟨n,bK,jH,rfl⟩:=axu underlying9 G;cases bF;cases bK;refine⟨B,n,?_,jG,jH,?_⟩
     ·have hf:=hf.2;unfold Value.formed at hf;split at hf
      ·rename_i ap _;congr 1;exact Array.toList_inj.1 Fd
      ·cases hf
      ·rw[underlying235] at hf;cases hf
     ·simpa using h.symm
  ·cases h
 ·cases h
theorem Ic {B:Int}{n:ByteArray}(h1: (Lit.int .i64 B).wf=true)(G:n.size≤maxLen):keyOf prog 235 (.agg #[.int .i64 B,.string n])=some (.string (keyBytes [.int .i64 B,.string n.data.toList])):=by
 have O:prog.keyType 235=true:=by kernel_rfl
 unfold keyOf;rw[underlying235];simp only;rw[if_pos (by rw[O];unfold Value.formed;simp only[underlying235,ij];rfl),ie,abs underlying235,if_pos ⟨by rw[ij];rfl,by kernel_rfl⟩];have bF:prog.keyLits (prog.types.size-1+1) 3 [.int .i64 B]=some [.int .i64 B]:=by
  rw[Program.keyLits.eq_def];simp only[underlying3,h1,and_self,if_true]
 have bK:prog.keyLits (prog.types.size-1+1) 9 [.string n]=some [.string n.data.toList]:=by
  rw[Program.keyLits.eq_def];simp only[underlying9,G,if_true]
 simp only[Value.cells,List.mapM_cons,List.mapM_nil,c3,c2,List.drop_succ_cons,List.drop_zero,List.take_succ_cons,List.take_zero,bF,bK,Option.bind_eq_bind,Option.pure_def];rfl
theorem Rq:Keyed prog 235:=Keyed.of_law (deep_law_gate (by kernel_rfl) (of_decide_eq_true (by kernel_rfl)) (of_decide_eq_true (by kernel_rfl)) (by kernel_rfl) (by kernel_rfl))
open Go.RowKit Go.Sort Go.Shelf
set_option maxHeartbeats 1000000 in
theorem avs {H:Type}(bm:Fence)(n:Nat)(Rk:bm.fn 207)(mr:bm.round=none)(aH:1≤n)(l Bm b Ac:Nat)(ls:DataW H){aF:Value→Option (DataW H×List MemPlace)}(hY:List Value→World→Prop)
 (yp: ∀ pre x W,hY pre W→pre.length < Maps.size ls→(∃ kl,keyOf prog 235 x=some kl)→YieldAt bm (n-1) prog l #[x] W fun e W'=>e= .returned (.bool true)∧hY (pre++ [x]) W'∧KeepsWalks W W')
 (W:World) (ju:AbidesFrom W.heap.size hY) (hm:W.cell? ⟨Bm,0,none⟩=some (.map (some b))) (pK:W.ownsMap prog 235 aF b Ac ls) (h0:hY [] W):
 CallsIn bm n prog 207 #[.func (.yield l) #[] #[],.pointer (some ⟨Bm,0,none⟩)] W fun e W'=>(∃ v,e= .returned v)∧ ∃ bV:List Value,yc prog 235 ls (fun _=>false) bV∧hY bV W':=by
 have mixed:prog.follows .mixedOrders=true:=by kernel_rfl
 have t0:=underlying0;have a0:=isAgg0;have z0:=sizeOf0;have v0:=zeroValue0;have t4:=underlying4;have a4:=isAgg4;have z4:=sizeOf4;have v4:=zeroValue4;have t23:=underlying232;have a23:=isAgg232;have z23:=sizeOf232;have v23:=zeroValue232;have t24:=underlying236;have a24:=isAgg236;have z24:=sizeOf236;have v24:=zeroValue236;have t28:=underlying239;have a28:=isAgg239;have z28:=sizeOf239;have v28:=zeroValue239;have t33:=underlying322;have a33:=isAgg322;have z33:=sizeOf322;have v33:=zeroValue322;have t26:=underlying235;have a26:=isAgg235;have z26:=sizeOf235;have v26:=zeroValue235;have HR:=run_underlying t0;have Bp:=run_underlying t4;have Rl:=run_underlying t23;have Rm:=run_underlying t33;have Rn:=run_underlying t24;have Ro:=run_underlying t28;have Rp:=run_underlying t26;have K:=Rq;refine callsIn_of_wp func207 rfl Rk ?_ mr;simp only[ntmps207,List.size_toArray,List.length_cons,List.length_nil,Nat.reduceAdd,Nat.reduceSub,Array.replicate_succ,Array.replicate_zero,List.push_toArray,List.append_toArray,List.nil_append,List.cons_append]
 gi_wp2_with (first
  | (gi_at_range;refine wpListIn_range_own _ rfl _ 232 rfl 235 3 K t23 _ b Ac _ rfl pK ?_;intro je avt wm oK)
  |gi_in)
 go_frame
 gi_loopw [3] (fun _ wr=> ∃ (left:Lit→Bool) (HS:Nat) (bV:List Value),wr.ranges prog 235 aF b W.heap.size Ac ls left HS∧bV.length+HS≤Maps.size ls∧yc prog 235 ls left bV∧hY bV wr)
  (fun _ wr=>wr.rangeLeft b W.heap.size)
 case atStart=>
  exact⟨_,_,[],avt,by simp,yc.asL _ ls,ju [] W je none h0 wm (fun z e=>by cases e)⟩
 case round=>
  obtain⟨left,HS,bV,Ad,eK,lI,Zw⟩:=hrel
  gi_wp2_with (first
   | (gi_at_next;refine wpListIn_next_ranges _ rfl _ rfl 235 K aF (fun v:Value=>v) id (fun key kl O=>⟨key,rfl⟩) (fun v _ _=>⟨v,rfl⟩) b W.heap.size Ac _ _ _ rfl Ad ?_ ?_)
   |gi_in)
  ·
   intro Bg oY
   gi_wp2
   go_end0
   exact⟨⟨_,rfl⟩,bV,by rw[show left=fun _=>false from funext oY] at lI;exact lI,Zw⟩
  ·
   intro x J kl aJE aJF jH avu Rr hw an Qi avv aI ct vX aJG;obtain⟨B,lq,rfl,_⟩:=Rs x kl Rr;have Rt:hY bV jH:=ju bV wr jH (some W.heap.size) Zw ct (fun z e=>by cases e;exact⟨Nat.le_refl _,Ad.iter_walk⟩);have avw:hY bV (jH.alloc (.cells #[.int .i64 B,.string lq] 235)):=ju bV jH _ none Rt (World.grownBy_alloc jH _ none) (fun z e=>by cases e);obtain⟨fn,tmps,assign,body,bt,dc⟩:=yp bV _ _ avw (by omega) ⟨kl,Rr⟩;clear vX
   gi_wp2
   refine dc.mono ?_;rintro e tH ⟨rfl,avx,wD⟩
   gi_wp2
   have Zx:=avv.of_walks ((KeepsWalks.alloc _ _).trans wD)
   go_roundw
   case rel=>exact⟨_,avu,bV++ [_],Zx,by simp;omega,lI.oc K Rr hw Qi,avx⟩
   case measure=>rw[Zx.left_eq,Ad.left_eq];exact aI
theorem avy {H:Type}(bm:Fence)(n:Nat)(Rk:bm.fn 207)(mr:bm.round=none)(aH:1≤n)(Bm b Ac:Nat)(ls:DataW H){aF:Value→Option (DataW H×List MemPlace)}(w:World)(avz:Bm < w.heap.size)
 (hm:w.cell? ⟨Bm,0,none⟩=some (.map (some b))) (pK:w.ownsMap prog 235 aF b Ac ls):
 Qj prog 235 bm n 207 #[.pointer (some ⟨Bm,0,none⟩)] (fun bV=>yc prog 235 ls (fun _=>false) bV) (Maps.size ls) w:=fun l hY W hW ju yp h0=>by
 have HT:W.ownsMap prog 235 aF b Ac ls:=by
  have nK:=pK.lt;obtain⟨ar,OA,af,avA,ao,fC⟩:=pK;exact⟨ar,OA,(hW.block b nK).trans af,avA,ao,fC⟩
 exact avs bm n Rk mr aH l Bm b Ac ls hY yp W ju ((hW.cell (p:=⟨Bm,0,none⟩) avz).trans hm) HT h0
def Zy:Option Code→Code×Code
 |some (.seq _ (.seq (.seq _ (.block _ (.rangeFunc _ _ a b))) _))=>(a,b)
 |_=>(.skip,.skip)
def Ru: {J:Code // (Zy f261.body).1=J}:=⟨_,by conv=>lhs;whnf⟩
def Rv: {J:Code // (Zy f261.body).2=J}:=⟨_,by conv=>lhs;whnf⟩
def tJ (fn:FuncId)(pc:Value)(Bs aD:Nat)(bw:LoopState)(avB:Option Code):Loop:=
 {state:=bw,pending:=avB,fn,tmps:= #[.slice none 0 0,pc,.pointer (some ⟨Bs,0,none⟩),undef,.slice none 0 0,undef,pc,undef,undef,undef,undef,undef,undef],params:= #[7],assign:=Ru.1,body:=Rv.1,defers:=aD}
theorem avC: (prog.info? 235).map (fun c=>(c.zero,c.size,c.bytes))=some (some (.agg #[.int .i64 0,.string ⟨#[]⟩]),2,24):=by kernel_rfl
structure Cq (je:World) (fn:FuncId) (pc:Value) (Bs l aD:Nat) (bV:List Value) (W:World):Prop where
 box: ∃ v,W.heap[Bs]? =some (.cells #[v] 236 (0,0))∧W.ownsRow je.heap.size 235 2 v bV.length (uT bV)∧(v= .slice none 0 0↔bV= [])
 aY:W.heap[l]? =some (.loop (tJ fn pc Bs aD .ready none))
 K:W.heap[aD]? =some (.deferred (some []))
 below:Below je.heap.size je W
theorem Cq.avD (je:World)(fn:FuncId)(pc:Value)(Bs l aD di:Nat)(cU:je.heap.size≤di):AbidesFrom di (Cq je fn pc Bs l aD):=fun I W W' bG h aw y=>by
 have LY: ∀ z,bG=some z→ ∃ o:Obj,W.heap[z]? =some o∧o.isWalk=true:=fun z e=>(y z e).2;obtain⟨v,an,N,aH⟩:=h.box;exact⟨⟨v,(grownBy_keeps aw LY an rfl).trans an,ownsRow_abides_a N aw LY,aH⟩,(grownBy_keeps aw LY h.aY rfl).trans h.aY,(grownBy_keeps aw LY h.K rfl).trans h.K,
  h.below.grown aw h.below.size (fun k e=>Nat.le_trans cU (y k e).1)⟩
set_option maxHeartbeats 2000000 in
theorem avE (bm:Fence)(m:Nat)(je:World)(fn:FuncId)(hfn:bm.fn fn)(pc:Value)(Bs l aD:Nat)(HU:Bs≠l)(Zz:aD≠l)(avF:aD≠Bs)(avG:je.heap.size≤Bs)(ZA:je.heap.size≤l)
 (cs:Nat) (fS:cs≤maxLen) (HV:cs*24≤140737488355328) (bV:List Value) (x:Value) (avH: ∃ kl,keyOf prog 235 x=some kl) (W:World) (h:Cq je fn pc Bs l aD bV W) (cK:bV.length < cs):
 YieldAt bm m prog l #[x] W fun e W'=>e= .returned (.bool true)∧Cq je fn pc Bs l aD (bV++ [x]) W'∧KeepsWalks W W':=by
 have mixed:prog.follows .mixedOrders=true:=by kernel_rfl
 have t0:=underlying0;have a0:=isAgg0;have z0:=sizeOf0;have v0:=zeroValue0;have t4:=underlying4;have a4:=isAgg4;have z4:=sizeOf4;have v4:=zeroValue4;have t23:=underlying232;have a23:=isAgg232;have z23:=sizeOf232;have v23:=zeroValue232;have t24:=underlying236;have a24:=isAgg236;have z24:=sizeOf236;have v24:=zeroValue236;have t28:=underlying239;have a28:=isAgg239;have z28:=sizeOf239;have v28:=zeroValue239;have t33:=underlying322;have a33:=isAgg322;have z33:=sizeOf322;have v33:=zeroValue322;have t26:=underlying235;have a26:=isAgg235;have z26:=sizeOf235;have v26:=zeroValue235;have HR:=run_underlying t0;have Bp:=run_underlying t4;have Rl:=run_underlying t23;have Rm:=run_underlying t33;have Rn:=run_underlying t24;have Ro:=run_underlying t28;have Rp:=run_underlying t26;have hne:236≠235:=by decide
 obtain⟨Rw,av,jD,Yw,th⟩:=info_parts avC;obtain⟨kl,gO⟩:=avH;obtain⟨B,lq,rfl,_⟩:=Rs x kl gO;obtain⟨v,an,y,_⟩:=h.box;refine⟨fn,#[.slice none 0 0,pc,.pointer (some ⟨Bs,0,none⟩),undef,.slice none 0 0,undef,pc,.agg #[.int .i64 B,.string lq],undef,undef,undef,undef,undef],Ru.1,Rv.1,by simpa[tJ] using run_yield (P:=prog) (args:= #[.agg #[.int .i64 B,.string lq]]) h.aY rfl,roundIn_of_wpIn hfn ?_⟩;have hl:l < W.heap.size:=(Array.getElem?_eq_some_iff.1 h.aY).1;have avI:Bs < W.heap.size:=(Array.getElem?_eq_some_iff.1 an).1;have avJ:aD < W.heap.size:=(Array.getElem?_eq_some_iff.1 h.K).1;obtain⟨hx,tK⟩: ∃ hx,W.alloc (.cells #[.int .i64 B,.string lq] 235)=hx:=⟨_,rfl⟩;have mQ: ∀ k,k < W.heap.size→hx.heap[k]? =W.heap[k]? :=fun k O=>by rw[←tK];exact Below.heap_alloc _ _ k O
 have wB:hx.heap[l]? =some (.loop (tJ fn pc Bs aD .ready none)):=(mQ l hl).trans h.aY;have nD:hx.heap[Bs]? =some (.cells #[v] 236 (0,0)):=(mQ Bs avI).trans an;have sz:hx.heap[aD]? =some (.deferred (some [])):=(mQ aD avJ).trans h.K;have QO:hx.heap[W.heap.size]? =some (.cells #[.int .i64 B,.string lq] 235 (0,0)):=by rw[←tK];exact World.alloc_heap_new W _
 have ZB:hx.ownsRow je.heap.size 235 2 v bV.length (uT bV):=by rw[←tK];exact y.alloc _
 have ZC:Below je.heap.size je hx:=by rw[←tK];exact h.below.alloc h.below.size _
 have LZ:KeepsWalks W hx:=by rw[←tK];exact KeepsWalks.alloc _ _
 have pP:=run_beginRound (P:=prog) wB rfl;obtain⟨gg,yq⟩: ∃ gg,hx.putObj l (.loop {tJ fn pc Bs aD .ready none with state:= .busy})=gg:=⟨_,rfl⟩;rw[yq] at pP;have ct:hx.grownBy gg (some l):=by rw[←yq];exact grownBy_putObj_a _ _ _
 have sf:KeepsWalks W gg:=LZ.trans (by rw[←yq];exact KeepsWalks.putObj _ wB rfl);have gl:gg.heap[Bs]? =some (.cells #[v] 236 (0,0)):=by rw[←yq];exact (World.putObj_heap_other HU).trans nD
 have rC:gg.heap[aD]? =some (.deferred (some [])):=by rw[←yq];exact (World.putObj_heap_other Zz).trans sz
 have HG:gg.heap[l]? =some (.loop {tJ fn pc Bs aD .ready none with state:= .busy}):=by rw[←yq];exact World.putObj_heap_same (Array.getElem?_eq_some_iff.1 wB).1
 have Rx:gg.heap[W.heap.size]? =some (.cells #[.int .i64 B,.string lq] 235 (0,0)):=by rw[←yq];exact (World.putObj_heap_other (by omega)).trans QO
 have aJH:gg.cell? ⟨W.heap.size,0,none⟩=some (.int .i64 B):=by simp[World.cell?,Rx]
 have aJI:gg.cell? ⟨W.heap.size,1,none⟩=some (.string lq):=by simp[World.cell?,Rx]
 have L0:gg.ownsRow je.heap.size 235 2 v bV.length (uT bV):=ZB.kept ct (ownsRow_ne_a ZB wB (fun oZ e=>by first|cases e|exact hne (Obj.cells.inj e).2.1));have rX:Below je.heap.size je gg:=ZC.grown ct ZC.size (fun k e=>by cases e;exact ZA);obtain⟨WK,Ae⟩:=cell_of_box_a gl;have avK:Bs < gg.heap.size:=(Array.getElem?_eq_some_iff.1 gl).1;have lp:l < gg.heap.size:=(Array.getElem?_eq_some_iff.1 HG).1;have avL:aD < gg.heap.size:=(Array.getElem?_eq_some_iff.1 rC).1;have Ry: ∀ {j:Nat} {o:Obj},gg.heap[j]? =some o→(∀ oZ,o≠ .cells oZ 235 (0,0))→some j≠v.ownBlock:=fun hj kx=>by
  rcases ownsRow_ne_a L0 hj kx with e|e
  ·rw[e];simp
  ·exact fun cO=>e cO.symm
 clear yq;simp only[Ru]
 gi_wp2_with gi_round_op_a
 simp only[Rv]
 gi_wp2_with (first
  | (gi_at_builtin;refine wpListIn_append_own _ rfl _ _ 236 rfl je.heap.size 235 Rw (.agg #[.int .i64 0,.string ⟨#[]⟩]) 2 24 t24 av jD Yw th rfl (by decide) _ _ _ rfl (L0.alloc _) ⟨gg.heap.size,0,none⟩ 1 1 [.int .i64 B,.string lq] rfl rfl (asO _ _ _ _) (by intro u bc;simp only[fR] at bc;rcases bc with rfl|rfl<;>rfl) (by omega) (Nat.le_trans (Nat.mul_le_mul_right _ (by omega)) HV) (by have:=rX.size;simp;omega) ?_;intro gA pI HT fH hnil3;have E1:pI.heap[Bs]? =some (.cells #[v] 236 (0,0)):=(fH.block Bs (by simp;omega) (Ry gl (fun oZ e=>by first|cases e|exact hne (Obj.cells.inj e).2.1))).trans ((Below.heap_alloc _ _ Bs avK).trans gl);obtain⟨avM,avN⟩:=cell_of_box_a E1;obtain⟨zX,ha,L1,rfl,aJJ,aJK,jS,HW,L2,L3⟩: ∃ zX ha L1,gA= .slice (some ⟨zX,0,none⟩) (bV.length+1) ha∧je.heap.size≤zX∧pI.heap[zX]? =some (.cells L1 235 (0,0))∧bV.length+1≤ha∧ha≤maxLen∧L1.size=ha*2∧L1.toList.take ((bV.length+1)*2)=uT bV++ [.int .i64 B,.string lq]:=HT.2.elim (fun h=>absurd h.2 (by omega)) fun cR=>cR;go_frame)
  |gi_round_op_a)
 have L4: (gg.alloc (.cells #[.int .i64 B,.string lq] 235)).grownBy pI v.ownBlock:=fH;have ZD:pI.heap[l]? =some (.loop {tJ fn pc Bs aD .ready none with state:= .busy}):=(L4.block l (by simp;omega) (Ry HG (fun oZ e=>by first|cases e|exact hne (Obj.cells.inj e).2.1))).trans ((Below.heap_alloc _ _ l lp).trans HG);have HX:pI.heap[aD]? =some (.deferred (some [])):=(L4.block aD (by simp;omega) (Ry rC (fun oZ e=>by first|cases e|exact hne (Obj.cells.inj e).2.1))).trans ((Below.heap_alloc _ _ aD avL).trans rC);obtain⟨nB,Cr⟩: ∃ nB,pI.setCell ⟨Bs,0,none⟩ (.slice (some ⟨zX,0,none⟩) (bV.length+1) ha)=nB:=⟨_,rfl⟩;rw[Cr];have pd:pI.grownBy nB (some Bs):=by rw[←Cr];exact grownBy_setCell0_a _ _ _
 have avO:nB.heap[Bs]? =some (.cells #[.slice (some ⟨zX,0,none⟩) (bV.length+1) ha] 236 (0,0)):=by rw[←Cr];exact heap_setCell_box_a _ E1
 have L5:nB.heap[l]? =some (.loop {tJ fn pc Bs aD .ready none with state:= .busy}):=(pd.block l (Array.getElem?_eq_some_iff.1 ZD).1 (fun e=>HU (by cases e;rfl))).trans ZD;have avP:nB.heap[aD]? =some (.deferred (some [])):=(pd.block aD (Array.getElem?_eq_some_iff.1 HX).1 (fun e=>avF (by cases e;rfl))).trans HX;have ZE:=HT.kept pd (ownsRow_ne_a HT E1 (fun oZ e=>by first|cases e|exact hne (Obj.cells.inj e).2.1));have ZF:l < nB.heap.size:=(Array.getElem?_eq_some_iff.1 L5).1;have EU:Below je.heap.size je pI:=(rX.alloc rX.size _).grown L4 (by have:=rX.size;simp;omega) (fun k e=>(L0.lt k e).1);have ZG:Below je.heap.size je nB:=EU.grown pd EU.size (fun k e=>by cases e;exact avG);have Rz:KeepsWalks W nB:=((sf.trans (KeepsWalks.alloc _ _)).trans (KeepsWalks.of_grownBy L4 (ownsRow_not_walk_a (L0.alloc _)))).trans (by rw[←Cr];exact KeepsWalks.setCell _ _ _);clear Cr;refine⟨_,_,run_endRound none L5,rfl,⟨⟨_,(World.putObj_heap_other HU).trans avO,?_,by simp⟩,World.putObj_heap_same ZF,(World.putObj_heap_other Zz).trans avP,ZG.grown (grownBy_putObj_a _ _ _) ZG.size (fun k e=>by cases e;exact ZA)⟩,Rz.trans (KeepsWalks.putObj _ L5 rfl)⟩;have:=ZE.kept (grownBy_putObj_a nB l (.loop {{tJ fn pc Bs aD .ready none with state:= .busy} with state:=if (none:Option Code).isNone then .ready else .done,pending:=none})) (ownsRow_ne_a ZE L5 (fun oZ e=>by first|cases e|exact hne (Obj.cells.inj e).2.1));rw[show uT (bV++ [Value.agg #[.int .i64 B,.string lq]])=uT bV++ [.int .i64 B,.string lq] from by simp[uT,Value.cells],List.length_append];simpa using this
end Go.Proofs.YtpincjkjoeopkaaGreatDoor
