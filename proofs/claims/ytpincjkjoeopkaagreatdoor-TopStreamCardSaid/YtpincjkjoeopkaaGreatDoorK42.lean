/- Records. -/
import Derived.Test.YtpincjkjoeopkaaGreatDoorK15
import Derived.Test.YtpincjkjoeopkaaGreatDoorK4
set_option linter.unusedSimpArgs false
set_option linter.unusedVariables false
set_option linter.unusedSectionVars false
namespace Go.Proofs.YtpincjkjoeopkaaGreatDoor.Rc
open Go Go.Abs
structure Ev where
 cZ:Int
 Y:Int
 bk:Int
 time:Int
 cB:Int
 iq:Int
 eg:Int
def Ev.cells (e:Ev):List F:= [.int .i64 e.cZ,.int .i64 e.Y,.int .i64 e.bk,.int .i64 e.time,.int .i64 e.cB,.int .i64 e.iq,.int .i64 e.eg]
instance:aJ Ev:=⟨Ev.cells,7,fun _=>rfl,fun _=>rfl,fun _=>rfl⟩
theorem rJ (e:Ev):aJ.J e= [.int .i64 e.cZ,.int .i64 e.Y,.int .i64 e.bk,.int .i64 e.time,.int .i64 e.cB,.int .i64 e.iq,.int .i64 e.eg]:=rfl
theorem To:aJ.U Ev=7:=rfl
theorem Tp (e:Ev):List.take 7 (aJ.J e)=aJ.J e:=rfl
attribute [go_sem] To Tp
def mC (t I:Int):Prop:=0≤t∧t≤65535∧0≤I∧I≤2147483647
def iD (e:Ev):Prop:=mC e.cZ e.Y∧1≤e.bk∧e.bk≤2147483647∧0≤e.time∧e.time≤120968639∧
 ((1≤e.cB∧e.cB≤4∧e.iq=0∧e.eg=0)∨((e.cB=5∨e.cB=6)∧mC e.iq e.eg))
instance (t I:Int):Decidable (mC t I):=by unfold mC;infer_instance
instance (e:Ev):Decidable (iD e):=by unfold iD;infer_instance
open Go.Proofs.Tryz
theorem I0 (t I:Int):aO prog 181 [.agg [.int .i64 t,.int .i64 I]] [] (fun v r=>v= .bool (decide (mC t I))∧r= []):=by
 refine cu func181 SY (by simp[AF,CX]) ?_;simp only[go_sem,AF,CX]
 repeat' ((first|refine gv ?_ ?_|refine gw ?_ ?_|refine cf ?_ ?_|refine dj ?_ ?_)<;>intro aw<;>(have ak:=aw;try simp only[bC] at ak)<;>(first|omega| (simp only[go_sem,aw,AF,CX];clear aw)))
 all_goals (refine E.bg rfl ⟨?_,rfl⟩;congr 1;first| (rw[decide_eq_decide];simp only[mC];omega)| (symm;rw[decide_eq_false_iff_not];simp only[mC];omega))
theorem lQ (e:Ev):aO prog 94 [.agg (aJ.J e)] [] (fun v r=>v= .bool (decide (iD e))∧r= []):=by
 refine cu func94 SX (by simp[ua,vr]) ?_;simp only[go_sem,ua,vr,rJ];refine bM (I0 _ _) rfl rfl ?_;simp only[go_sem,ua,vr]
 repeat' ((first|refine gv ?_ ?_|refine gw ?_ ?_|refine cf ?_ ?_|refine dj ?_ ?_)<;>intro aw<;>(have ak:=aw;try simp only[bC] at ak)<;>(first|omega| (simp only[go_sem,aw,ua,vr];clear aw)))
 all_goals (try (refine bM (I0 _ _) rfl rfl ?_;simp only[go_sem,ua,vr]))
 all_goals (refine E.bg rfl ⟨congrArg F.bool ?_,rfl⟩;rw[Bool.eq_iff_iff];simp only[bC,Bool.false_eq_true,false_iff,true_iff,iff_true,iff_false,and_true,true_and] at *;try simp only[iD,mC] at *;omega)
end Go.Proofs.YtpincjkjoeopkaaGreatDoor.Rc
namespace Rec
def Bc (I:Nat):Nat:=if 32768≤I then (2*I%65536) ^^^ 4129 else 2*I
def Dh:Nat→Nat→Nat
 |0,I=>I
 |k+1,I=>Dh k (Bc I)
def JD (I:Nat)(b:UInt8):Nat:=Dh 8 (I ^^^ b.toNat*256)
def sT (I:Nat)(l:List UInt8):Nat:=l.foldl JD I
def JE (l:List UInt8):Nat:=sT 65535 l
theorem aGH {I:Nat}(h:I < 65536):Bc I < 65536:=by
 unfold Bc;split
 ·exact Nat.xor_lt_two_pow (n:=16) (by omega) (by omega)
 ·omega
theorem ajs: ∀ {k I:Nat},I < 65536→Dh k I < 65536
 |0,_,h=>h
 |k+1,_,h=>ajs (k:=k) (aGH h)
theorem aGI {I:Nat}{b:UInt8}(h:I < 65536):JD I b < 65536:=by
 apply ajs;have:=b.toNat_lt;exact Nat.xor_lt_two_pow (n:=16) (by omega) (by omega)
theorem UN: ∀ {l:List UInt8} {I:Nat},I < 65536→sT I l < 65536
 | [],_,h=>h
 |_::l,_,h=>UN (l:=l) (aGI h)
theorem aGJ {l:List UInt8}:JE l < 65536:=UN (by omega)
theorem aGK {I:Nat}{a b:List UInt8}:sT I (a++b)=sT (sT I a) b:=by simp[sT]
theorem aGL {I:Nat}{b:UInt8}(h:I < 65536):I ^^^ b.toNat*256 < 65536:=by
 have:=b.toNat_lt;exact Nat.xor_lt_two_pow (n:=16) (by omega) (by omega)
attribute [local irreducible] Dh
def jj (l:List UInt8):Nat:=l.foldl (fun n J=>n*256+J.toNat) 0
def enc (n:Nat):Nat→List UInt8
 |0=> []
 |k+1=>UInt8.ofNat (n / 256^k)::enc n k
theorem sU {n:Nat}: ∀ {k:Nat},(enc n k).length=k
 |0=>rfl
 |k+1=>by simp[enc,sU]
theorem UO: ∀ (l:List UInt8) (m:Nat),l.foldl (fun n J=>n*256+J.toNat) m=m*256^l.length+jj l
 | [],m=>by simp[jj]
 |J::l,m=>by
  simp only[List.foldl_cons,jj];rw[UO l,UO l];simp only[List.length_cons,Nat.pow_succ,Nat.add_mul,Nat.zero_mul,Nat.zero_add];rw[Nat.mul_assoc,Nat.mul_comm 256,←Nat.add_assoc]
theorem ajt {J:UInt8}{l:List UInt8}:jj (J::l)=J.toNat*256^l.length+jj l:=by
 rw[jj,List.foldl_cons,UO];simp
theorem aju: ∀ {l:List UInt8},jj l < 256^l.length
 | []=>by simp[jj]
 |J::l=>by
  rw[ajt,List.length_cons,Nat.pow_succ];have:=aju (l:=l);have ad:=J.toNat_lt;have:J.toNat*256^l.length≤255*256^l.length:=Nat.mul_le_mul_right _ (by omega);omega
theorem aGM {J:UInt8}{l:List UInt8}:jj (l++ [J])=jj l*256+J.toNat:=by simp[jj]
theorem ajv {n:Nat}: ∀ {k:Nat},jj (enc n k)=n%256^k
 |0=>by simp[enc,jj,Nat.mod_one]
 |k+1=>by
  rw[enc,ajt,sU,ajv];simp only[UInt8.toNat_ofNat'];have: (2^8:Nat)=256:=rfl;rw[this,Nat.pow_succ,Nat.mod_mul,Nat.mul_comm,Nat.add_comm]
end Rec
namespace Go.Proofs.YtpincjkjoeopkaaGreatDoor.Rc
open Go Go.Abs Rec Go.Proofs.Tryz
theorem ajB {bj:Type}{l:List bj}{i:Nat}(h:i < l.length):l.take (i+1)=l.take i++ [l[i]]:=by
 rw[List.take_add_one,List.getElem?_eq_getElem h];rfl
theorem aGQ {l:List UInt8}{I i:Nat}(h:i < l.length):sT I (l.take (i+1))=JD (sT I (l.take i)) l[i]:=by
 rw[ajB h,aGK];simp only[sT,List.foldl_cons,List.foldl_nil]
theorem aGR {I:Nat}(h:32768≤I):Bc I=(2*I%65536) ^^^ 4129:=by rw[Bc,if_pos h]
theorem aGS {I:Nat}(h: ¬32768≤I):Bc I=2*I:=by rw[Bc,if_neg h]
theorem aGT {I:Nat}(h:I < 65536):I&&& 32768=if 32768≤I then 32768 else 0:=by
 have h1:=Nat.and_div_two_pow (a:=I) (b:=32768) (n:=15);have G:=Nat.and_mod_two_pow (a:=I) (b:=32768) (n:=15);rw[show 32768 / 2^15=1 from rfl,Nat.and_one_is_mod] at h1;rw[show 32768%2^15=0 from rfl,Nat.and_zero] at G;split<;>omega
theorem aGU {k I:Nat}:Dh (k+1) I=Dh k (Bc I):=rfl
theorem ajC (l:List UInt8)(hl:l.length≤9223372036854775806):aO prog 96 [.pure 1 (ai l)] [] (fun v r=>v= .int .i64 (JE l)∧r= []):=by
 refine cu func96 adn (by simp[AE,Dj]) ?_;simp only[go_sem,AE,Dj];refine dN (fun D r=> ∃ i:Nat,i≤l.length∧D= [(3,.int .u16 (sT 65535 (l.take i))),(7,.pure 1 (ai l)),(8,.int .i64 l.length),(9,.int .i64 i)]∧r= [])
  (fun D _=>match bs D 9 with| .int _ j=>(l.length-j).toNat|_=>0) ?_ ?_
 ·exact E.ac ⟨0,by omega,by simp[sT],rfl⟩
 ·rintro D r ⟨i,av,rfl,rfl⟩;simp only[go_sem,AE,Dj];have ao:=UN (l:=l.take i) (I:=65535) (by omega);refine cf ?_ ?_<;>intro aw<;>simp only[bC] at aw<;>simp only[go_sem]
  ·refine⟨by omega,by omega,?_⟩;have aI:i < l.length:=by omega
   try simp only[Int.toNat_natCast]
   rw[cT aI,KR];simp only[go_sem];have af:=l[i].toNat_lt;have bF:BP .u16 (IntKind.u16.wrap (l[i].toNat:Int)) 8=((l[i].toNat*256:Nat):Int):=by
    rw[WP (by omega),KN,show (2:Int)^8=256 from rfl];omega
   rw[bF,WN ao (by omega)];refine dN (fun D r=> ∃ k I:Nat,k≤8∧I < 65536∧Dh (8-k) I=JD (sT 65535 (l.take i)) l[i]∧D= [(3,.int .u16 I),(7,.pure 1 (ai l)),(8,.int .i64 l.length),(9,.int .i64 i),(18,.int .i64 k)]∧r= [])
    (fun D _=>match bs D 18 with| .int _ j=>(8-j).toNat|_=>0) ?_ ?_
   ·exact E.ac ⟨0,_,by omega,aGL ao,rfl,rfl,rfl⟩
   ·rintro D r ⟨k,I,O,xC,N,rfl,rfl⟩;simp only[go_sem,AE,Dj];refine cf ?_ ?_<;>intro ct<;>simp only[bC] at ct<;>simp only[go_sem,AE,Dj]
    ·have bK:BP .u16 (I:Int) 1=((2*I%65536:Nat):Int):=by
      rw[WP (by omega),show (2:Int)^1=2 from rfl];omega
     have gX:ep .u16 (I:Int) 32768=(((if 32768≤I then 32768 else 0):Nat):Int):=by
      rw[show (32768:Int)=((32768:Nat):Int) from rfl,arh xC (by omega),aGT xC]
     rw[bK,gX];have aGV:8-k=(8-(k+1))+1:=by omega
     rw[aGV,aGU] at N;refine cf ?_ ?_<;>intro fH<;>simp only[bC] at fH<;>simp only[go_sem,AE,Dj]
     ·have au:32768≤I:=by
       by_cases h:32768≤I
       ·exact h
       ·simp[h] at fH
      rw[aGR au] at N;rw[show (4129:Int)=((4129:Nat):Int) from rfl,WN (by omega) (by omega),bl (by omega) (by omega)];refine E.ac ⟨⟨k+1,_,by omega,Nat.xor_lt_two_pow (n:=16) (by omega) (by omega),N,rfl,rfl⟩,?_⟩;simp only[go_sem];omega
     ·have au: ¬32768≤I:=by
       intro h;simp[h] at fH
      rw[aGS au] at N;rw[bl (by omega) (by omega),show 2*I%65536=2*I from by omega];refine E.ac ⟨⟨k+1,_,by omega,by omega,N,rfl,rfl⟩,?_⟩;simp only[go_sem];omega
    ·have:k=8:=by omega
     subst this;have cq:I=JD (sT 65535 (l.take i)) l[i]:=N;rw[bl (by omega) (by omega)];refine E.ac ⟨⟨i+1,by omega,?_,rfl⟩,?_⟩
     ·rw[aGQ aI,←cq];rfl
     ·simp only[go_sem];omega
  ·refine E.bg rfl ⟨?_,rfl⟩;have:i=l.length:=by omega
   subst this;rw[List.take_length] at ao ⊢;rw[bl (by omega) (by omega)];rfl
theorem aGW (l:List UInt8)(hl:l.length≤6):aO prog 182 [.pure 1 (ai l)] [] (fun v r=>v= .int .i64 (jj l)∧r= []):=by
 refine cu func182 aeC (by simp[a182,Oh]) ?_;simp only[go_sem,a182,Oh];refine dN (fun D r=> ∃ i:Nat,i≤l.length∧D= [(3,.int .i64 (jj (l.take i))),(6,.pure 1 (ai l)),(7,.int .i64 l.length),(8,.int .i64 i)]∧r= [])
  (fun D _=>match bs D 8 with| .int _ j=>(l.length-j).toNat|_=>0) ?_ ?_
 ·exact E.ac ⟨0,by omega,by simp[jj],rfl⟩
 ·rintro D r ⟨i,av,rfl,rfl⟩;simp only[go_sem,a182,Oh];refine cf ?_ ?_<;>intro aw<;>simp only[bC] at aw<;>simp only[go_sem]
  ·refine⟨by omega,by omega,?_⟩;have aI:i < l.length:=by omega
   try simp only[Int.toNat_natCast]
   rw[cT aI,KR];simp only[go_sem];have af:=l[i].toNat_lt;have ay:jj (l.take i) < 256^5:=Nat.lt_of_lt_of_le aju (Nat.pow_le_pow_right (by omega) (by simp;omega));have bF:BP .i64 (jj (l.take i):Int) 8=((jj (l.take i)*256:Nat):Int):=by
    rw[WO (by omega),show (2:Int)^8=256 from rfl,bl (by omega) (by omega)];omega
   rw[bF,bl (by omega) (by omega),WM (by omega) (by omega),ari af,bl (by omega) (by omega)];refine E.ac ⟨⟨i+1,by omega,?_,rfl⟩,?_⟩
   ·rw[ajB aI,aGM];rfl
   ·simp only[go_sem];omega
  ·refine E.bg rfl ⟨?_,rfl⟩;have:i=l.length:=by omega
   subst this;rw[List.take_length]
theorem aGX (aq:List UInt8)(n size:Nat)(ao:size≤7)(aj:aq.length≤1000):aO prog 95 [.own 0 aq.length 0 aq.length,.int .i64 n,.int .i64 size] [.ag 5 1 (ai aq)]
 (fun v r=>v= .own 0 (aq.length+size) 0 (aq.length+size)∧r= [.ag 5 1 (ai (aq++enc n size))]):=by
 refine cu func95 adm (by simp[IE,Oi]) ?_;simp only[go_sem,IE,Oi];refine dN (fun D r=> ∃ (k:Nat) (ys:List UInt8),k≤size∧ys.length+k=size∧ys++enc n k=enc n size∧D= [(0,.own 0 (aq.length+ys.length) 0 (aq.length+ys.length)),(1,.int .i64 n),(7,.int .i64 ((k:Int)-1))]∧r= [.ag 5 1 (ai (aq++ys))])
  (fun D _=>match bs D 7 with| .int _ k=>(k+1).toNat|_=>0) ?_ ?_
 ·rw[bl (by omega) (by omega)];exact E.ac ⟨size,[],by omega,by simp,by simp,by simp,by simp⟩
 ·rintro D r ⟨k,ys,h1,G,au,rfl,rfl⟩;simp only[go_sem,IE,Oi];refine cf ?_ ?_<;>intro aw<;>simp only[bC] at aw<;>simp only[go_sem]
  ·obtain⟨j,rfl⟩: ∃ j,k=j+1:=⟨k-1,by omega⟩;have iI:IntKind.i64.wrap (8*(((j+1:Nat):Int)-1))=((8*j:Nat):Int):=by rw[bl (by omega) (by omega)];omega
   have bF:IntKind.i64.wrap (((j+1:Nat):Int)-1-1)=(j:Int)-1:=by rw[bl (by omega) (by omega)];omega
   rw[iI,bF]
   try simp only[Int.toNat_natCast]
   rw[WQ (by omega),aqJ,show 2^(8*j)=256^j from by rw[Nat.pow_mul],are];refine⟨by omega,by simp,by omega,?_⟩;simp only[go_sem]
   (refine E.bB [some 0] ?_;simp only[go_sem])
   rw[List.append_assoc];refine E.ac ⟨⟨j,ys++ [UInt8.ofNat (n / 256^j)],by omega,by simp;omega,?_,by simp[Nat.add_assoc],rfl⟩,?_⟩
   ·rw[List.append_assoc,←au];rfl
   ·simp only[go_sem];omega
  ·have:k=0:=by omega
   subst this;simp only[enc,List.append_nil] at au;subst au;refine E.ac ⟨?_,rfl⟩;rw[sU];rfl
def body (e:Ev):List UInt8:=enc 193 1++enc e.cB.toNat 1++enc e.cZ.toNat 2++enc e.Y.toNat 4++enc e.bk.toNat 4++enc e.time.toNat 4++enc e.iq.toNat 2++enc e.eg.toNat 4
def frame (e:Ev):List UInt8:=body e++enc (JE (body e)) 2
theorem F7 (e:Ev): (body e).length=22:=by simp[body,sU]
theorem CL (e:Ev): (frame e).length=24:=by simp[frame,F7,sU]
theorem yZ (aq:List UInt8)(m:Nat)(n:Int)(size:Nat)(hm:aq.length=m)(aH:0≤n)(ao:size≤7)(aj:m≤1000):aO prog 95 [.own 0 m 0 m,.int .i64 n,.int .i64 size] [.ag 5 1 (ai aq)]
 (fun v r=>v= .own 0 (m+size) 0 (m+size)∧r= [.ag 5 1 (ai (aq++enc n.toNat size))]):=by
 subst hm;have:=aGX aq n.toNat size ao aj
 rwa [Int.toNat_of_nonneg aH] at this
theorem axI (e:Ev)(he:iD e):aO prog 33 [.agg (aJ.J e)] [] (fun v r=>v= .bo [.own 0 24 0 24,.int .i64 0]∧r= [.ag 5 1 (ai (frame e))]):=by
 refine cu func33 acy (by simp[a33,uo]) ?_;simp only[go_sem,a33,uo];refine bM (lQ e) (by simp only[go_sem]) rfl ?_;rw[decide_eq_true he];simp only[go_sem,a33,uo,rJ];have an:=he;simp only[iD,mC] at an;refine⟨by decide,?_⟩;refine xT (yZ [] 0 193 1 rfl (by omega) (by omega) (by omega)) rfl rfl ck rfl ?_;simp only[go_sem,a33,uo];refine xT (yZ (enc 193 1) 1 e.cB 1 sU (by omega) (by omega) (by omega)) rfl ck ck rfl ?_;simp only[go_sem,a33,uo];refine xT (yZ _ 2 e.cZ 2 (by simp[sU]) (by omega) (by omega) (by omega)) rfl ck ck rfl ?_;simp only[go_sem,a33,uo];refine xT (yZ _ 4 e.Y 4 (by simp[sU]) (by omega) (by omega) (by omega)) rfl ck ck rfl ?_;simp only[go_sem,a33,uo];refine xT (yZ _ 8 e.bk 4 (by simp[sU]) (by omega) (by omega) (by omega)) rfl ck ck rfl ?_;simp only[go_sem,a33,uo];refine xT (yZ _ 12 e.time 4 (by simp[sU]) (by omega) (by omega) (by omega)) rfl ck ck rfl ?_;simp only[go_sem,a33,uo];refine xT (yZ _ 16 e.iq 2 (by simp[sU]) (by omega) (by omega) (by omega)) rfl ck ck rfl ?_;simp only[go_sem,a33,uo];refine xT (yZ _ 18 e.eg 4 (by simp[sU]) (by omega) (by omega) (by omega)) rfl ck ck rfl ?_;simp only[go_sem,a33,uo];have af:enc 193 1++enc e.cB.toNat 1++enc e.cZ.toNat 2++enc e.Y.toNat 4++enc e.bk.toNat 4++enc e.time.toNat 4++enc e.iq.toNat 2++enc e.eg.toNat 4=body e:=rfl;rw[af];have nK:=F7 e;refine arj (ajC (body e) (by omega)) rfl (by rw[bT,nK]) ck rfl rfl ?_;simp only[go_sem];refine xT (yZ (body e) 22 _ 2 nK (by omega) (by omega) (by omega)) rfl ck ck rfl ?_;simp only[go_sem]
 (refine E.bB [some 1] ?_;simp only[go_sem])
 exact E.ac ⟨rfl,rfl⟩
def sV (b:List UInt8):Ev:=⟨jj ((b.drop 2).take 2),jj ((b.drop 4).take 4),jj ((b.drop 8).take 4),jj ((b.drop 12).take 4),jj ((b.drop 1).take 1),jj ((b.drop 16).take 2),jj ((b.drop 18).take 4)⟩
def rR (b:List UInt8):Prop:=b.getD 0 0=193∧JE (b.take 22)=jj ((b.drop 22).take 2)∧iD (sV b)
instance (b:List UInt8):Decidable (rR b):=by unfold rR;infer_instance
theorem tf (b:List UInt8)(k n:Nat)(aH:n≤6):aO prog 182 [.pure 1 (ai ((b.drop k).take n))] [] (fun v r=>v= .int .i64 (jj ((b.drop k).take n))∧r= []):=
 aGW _ (by simp;omega)
theorem Up (b:List UInt8)(af:b.length=24):aO prog 97 [.pure 1 (ai b)] [] (fun v r=>(∃ x:Ev,v= .bo [.agg (aJ.J x),.bool (decide (rR b))]∧(rR b→x=sV b))∧r= []):=by
 refine cu func97 ado (by simp[wK,za]) ?_;have h0: (ai b).getD 0 []= [.int .u8 (b.getD 0 0).toNat]:=by
  rw[cT (by omega),KR,List.getD_eq_getElem?_getD,List.getElem?_eq_getElem (by omega)];rfl
 simp only[go_sem,wK,za,af];rw[h0];refine⟨by simp,?_⟩;simp only[go_sem,wK,za,af];refine gw ?_ ?_<;>intro aw<;>simp only[go_sem,wK,za,af,aw]
 ·have wZ: ¬rR b:=by
   rintro⟨h,_⟩;rw[h] at aw;simp at aw
  refine E.bg rfl ⟨⟨⟨0,0,0,0,0,0,0⟩,?_,fun h=>(wZ h).elim⟩,rfl⟩;rw[decide_eq_false wZ];rfl
 ·refine gG (tf b 22 2 (by omega)) (by simp only[go_sem]) rfl ?_;simp only[go_sem];refine gG (ajC (b.take 22) (by simp;omega)) (by simp only[go_sem]) rfl ?_;simp only[go_sem,wK,za,af];have dI:b.getD 0 0=193:=by
   simp only[bC] at aw;exact UInt8.toNat_inj.1 (by have aKE: (193:UInt8).toNat=193:=rfl;omega)
  refine cf ?_ ?_<;>intro ad<;>simp only[bC] at ad<;>simp only[go_sem,wK,za,af]
  ·have wZ: ¬rR b:=by
    rintro⟨_,h,_⟩;exact ad (by rw[h])
   refine E.bg rfl ⟨⟨⟨0,0,0,0,0,0,0⟩,?_,fun h=>(wZ h).elim⟩,rfl⟩;rw[decide_eq_false wZ];rfl
  ·refine gG (tf b 2 2 (by omega)) (by simp only[go_sem]) rfl ?_;simp only[go_sem];refine gG (tf b 4 4 (by omega)) (by simp only[go_sem]) rfl ?_;simp only[go_sem];refine gG (tf b 8 4 (by omega)) (by simp only[go_sem]) rfl ?_;simp only[go_sem];refine gG (tf b 12 4 (by omega)) (by simp only[go_sem]) rfl ?_;simp only[go_sem];refine gG (tf b 1 1 (by omega)) (by simp only[go_sem]) rfl ?_;simp only[go_sem];refine gG (tf b 16 2 (by omega)) (by simp only[go_sem]) rfl ?_;simp only[go_sem];refine gG (tf b 18 4 (by omega)) (by simp only[go_sem]) rfl ?_;simp only[go_sem,wK,za];refine gG (lQ (sV b)) rfl rfl ?_;simp only[go_sem,wK,za];refine E.bg rfl ⟨⟨sV b,?_,fun _=>rfl⟩,rfl⟩;have:rR b↔iD (sV b):=⟨fun h=>h.2.2,fun h=>⟨dI,by omega,h⟩⟩;rw[decide_eq_decide.2 this];rfl
structure lS where
 R:Int
 ab:Int
def lS.cells (e:lS):List F:= [.int .i64 e.R,.int .i64 e.ab]
instance:aJ lS:=⟨lS.cells,2,fun _=>rfl,fun _=>rfl,fun _=>rfl⟩
theorem UV (e:lS):aJ.J e= [.int .i64 e.R,.int .i64 e.ab]:=rfl
theorem aGY:aJ.U lS=2:=rfl
theorem aGZ (e:lS):List.take 2 (aJ.J e)=aJ.J e:=rfl
attribute [go_sem] aGY aGZ
def JF (gs:List lS):lS:=gs.getD (gs.length-1) ⟨-1,-1⟩
def yX (gs:List lS)(az:Nat):List lS:=
 if (JF gs).ab=az then gs.set (gs.length-1) ⟨(JF gs).R,az+1⟩ else gs++ [⟨az,az+1⟩]
def oB (b:List UInt8):Nat→Nat→List Ev→List lS→List Ev×List lS×Nat
 |0,az,ar,gs=>(ar,gs,az)
 |n+1,az,ar,gs=>
  if az+24≤b.length then
   if rR ((b.drop az).take 24) then oB b n (az+24) (ar++ [sV ((b.drop az).take 24)]) gs
   else oB b n (az+1) ar (yX gs az)
  else (ar,gs,az)
def iQ (b:List UInt8):List Ev×List lS×Nat:=oB b (b.length+1) 0 [] []
theorem ajA {b:List UInt8}{n az:Nat}{ar:List Ev}{gs:List lS}(h:az+24≤b.length):oB b (n+1) az ar gs=
 if rR ((b.drop az).take 24) then oB b n (az+24) (ar++ [sV ((b.drop az).take 24)]) gs else oB b n (az+1) ar (yX gs az):=by
 rw[oB,if_pos h]
theorem ajz {b:List UInt8}{n az:Nat}{ar:List Ev}{gs:List lS}(h: ¬az+24≤b.length):oB b n az ar gs=(ar,gs,az):=by
 cases n with
 |zero=>rfl
 |succ n=>rw[oB,if_neg h]
def aG0 (b:List UInt8)(D:aQ)(r:List Z):Prop:=
 ∃ (n az:Nat) (ar:List Ev) (gs:List lS),oB b n az ar gs=iQ b∧az≤b.length∧ar.length≤az∧gs.length≤az∧b.length < n+az∧
  D= [(0,.pure 1 (ai b)),(5,.own 0 ar.length 0 ar.length),(6,.own 1 gs.length 0 gs.length),(7,.int .i64 az)]∧r= [.ag 71 7 (ai ar),.ag 192 2 (ai gs)]
theorem abD (b:List UInt8)(af:b.length≤1000000):aO prog 34 [.pure 1 (ai b)] []
 (fun v r=>v= .bo [.own 0 (iQ b).1.length 0 (iQ b).1.length,.own 1 (iQ b).2.1.length 0 (iQ b).2.1.length,.int .i64 (iQ b).2.2]∧r= [.ag 71 7 (ai (iQ b).1),.ag 192 2 (ai (iQ b).2.1)]):=by
 refine cu func34 acz (by simp[wJ,zb]) ?_;simp only[go_sem,wJ,zb];refine dN (aG0 b) (fun D _=>match bs D 7 with| .int _ j=>(b.length-j).toNat|_=>0) ?_ ?_
 ·(refine E.iv 5 71 7 rfl (E.eW [0,5,6,7] ?_);simp only[go_sem])
  (refine E.iv 6 192 2 rfl (E.eW [0,5,6,7] ?_);simp only[go_sem])
  exact E.ac ⟨b.length+1,0,[],[],rfl,by omega,by simp,by simp,by omega,rfl,rfl⟩
 ·rintro D r ⟨n,az,ar,gs,zc,h1,G,au,bv,rfl,rfl⟩;simp only[go_sem,wJ,zb];rw[bl (by omega) (by omega)];refine cf ?_ ?_<;>intro aw<;>simp only[bC] at aw<;>simp only[go_sem,wJ,zb]
  ·rw[bl (by omega) (by omega)];obtain⟨m,rfl⟩: ∃ m,n=m+1:=⟨n-1,by omega⟩;rw[ajA (by omega)] at zc;refine⟨by omega,by omega,by omega,?_⟩;have bF: ((az:Int)+24).toNat-az=24:=by omega
   try simp only[Int.toNat_natCast]
   rw[bF];refine PP (Up ((b.drop az).take 24) (by simp;omega)) (by simp only[go_sem]) ?_;rintro _ ⟨x,rfl,aj⟩;refine⟨by simp[bJ,bU,aJ.fX],?_⟩;simp only[go_sem,wJ,zb];refine cf ?_ ?_<;>intro zm<;>simp only[bC] at zm<;>simp only[go_sem,wJ,zb]
   ·rw[if_pos zm] at zc;rw[aj zm];refine⟨by omega,?_⟩
    (refine E.bB [some 0,some 1] ?_;simp only[go_sem])
    rw[bl (by omega) (by omega)];refine E.ac ⟨⟨m,az+24,_,gs,zc,by omega,by simp;omega,by omega,by omega,by simp,rfl⟩,?_⟩;simp only[go_sem];omega
   ·rw[if_neg zm] at zc;refine gv ?_ ?_<;>intro lZ<;>simp only[go_sem,wJ,zb,lZ]<;>simp only[bC] at lZ
    ·have bK:IntKind.i64.wrap ((gs.length:Int)-1)=((gs.length-1:Nat):Int):=by rw[bl (by omega) (by omega)];omega
     rw[bK];simp only[Int.toNat_natCast];rw[cT (by omega),UV];refine⟨by omega,by omega,?_⟩;simp only[go_sem];have SM:JF gs=gs[gs.length-1]:=by
      rw[JF,List.getD_eq_getElem?_getD,List.getElem?_eq_getElem (by omega)];rfl
     refine cf ?_ ?_<;>intro hl<;>simp only[bC] at hl<;>simp only[go_sem,wJ,zb]
     ·have eB:yX gs az=gs.set (gs.length-1) ⟨gs[gs.length-1].R,az+1⟩:=by
       rw[yX,SM,if_pos hl]
      rw[bK]
      try simp only[Int.toNat_natCast]
      rw[cT (by omega),UV];refine⟨by omega,by omega,?_⟩;simp only[go_sem];refine⟨by omega,by omega,?_⟩;rw[hl,bl (by omega) (by omega)]
      try simp only[Int.toNat_natCast]
      rw[cT (by omega),UV];simp only[go_sem];have gX: [F.int .i64 gs[gs.length-1].R,.int .i64 ((az:Int)+1)]=aJ.J (⟨gs[gs.length-1].R,az+1⟩:lS):=rfl;rw[gX,xS]
      (refine E.bB [some 0,some 1] ?_;simp only[go_sem])
      refine E.ac ⟨⟨m,az+1,ar,_,zc,by omega,by omega,?_,by omega,?_,?_⟩,?_⟩
      ·rw[eB];simp;omega
      ·rw[eB];simp
      ·rw[eB]
      ·simp only[go_sem];omega
     ·have eB:yX gs az=gs++ [⟨az,az+1⟩]:=by
       rw[yX,SM,if_neg hl]
      refine⟨by omega,?_⟩;rw[bl (by omega) (by omega)];have gX: [F.int .i64 (az:Int),.int .i64 ((az:Int)+1)]=aJ.J (⟨az,az+1⟩:lS):=rfl;rw[gX];simp only[go_sem]
      (refine E.bB [some 0,some 1] ?_;simp only[go_sem])
      refine E.ac ⟨⟨m,az+1,ar,_,zc,by omega,by omega,?_,by omega,?_,?_⟩,?_⟩
      ·rw[eB];simp;omega
      ·rw[eB];simp
      ·rw[eB]
      ·simp only[go_sem];omega
    ·have eB:yX gs az=gs++ [⟨az,az+1⟩]:=by
      have:gs= []:=List.eq_nil_of_length_eq_zero (by omega);subst this;rw[yX,if_neg (by simp[JF])]
     refine⟨by omega,?_⟩;rw[bl (by omega) (by omega)];have gX: [F.int .i64 (az:Int),.int .i64 ((az:Int)+1)]=aJ.J (⟨az,az+1⟩:lS):=rfl;rw[gX];simp only[go_sem]
     (refine E.bB [some 0,some 1] ?_;simp only[go_sem])
     refine E.ac ⟨⟨m,az+1,ar,_,zc,by omega,by omega,?_,by omega,?_,?_⟩,?_⟩
     ·rw[eB];simp;omega
     ·rw[eB];simp
     ·rw[eB]
     ·simp only[go_sem];omega
  ·rw[ajz (by omega)] at zc;rw[←zc];exact E.ac ⟨rfl,rfl⟩
theorem Bd {n k:Nat}(h:n < 256^k):jj (enc n k)=n:=by rw[ajv,Nat.mod_eq_of_lt h]
theorem aGN (e:Ev): (frame e).take 22=body e:=by
 rw[frame,List.take_append_of_le_length (by rw[F7];omega),List.take_of_length_le (by rw[F7];omega)]
theorem aGO (e:Ev): (frame e).drop 22=enc (JE (body e)) 2:=by
 rw[frame,List.drop_append_of_le_length (by rw[F7];omega),List.drop_of_length_le (by rw[F7];omega)];rfl
theorem ajw (e:Ev)(he:iD e):sV (frame e)=e:=by
 have an:=he;simp only[iD,mC] at an;have xu: ((frame e).drop 2).take 2=enc e.cZ.toNat 2:=rfl;have vJ: ((frame e).drop 4).take 4=enc e.Y.toNat 4:=rfl;have UP: ((frame e).drop 8).take 4=enc e.bk.toNat 4:=rfl;have xb: ((frame e).drop 12).take 4=enc e.time.toNat 4:=rfl;have Dd: ((frame e).drop 1).take 1=enc e.cB.toNat 1:=rfl;have UQ: ((frame e).drop 16).take 2=enc e.iq.toNat 2:=rfl;have UR: ((frame e).drop 18).take 4=enc e.eg.toNat 4:=rfl;rw[sV,xu,vJ,UP,xb,Dd,UQ,UR,Bd (by omega),Bd (by omega),Bd (by omega),Bd (by omega),Bd (by omega),Bd (by omega),Bd (by omega)];cases e;simp only[Ev.mk.injEq];simp only at an;omega
theorem aGP (e:Ev)(he:iD e):rR (frame e):=by
 refine⟨rfl,?_,by rw[ajw e he];exact he⟩;rw[aGN,aGO,List.take_of_length_le (by rw[sU];omega),Bd (by have:=aGJ (l:=body e);omega)]
def lC (ar:List Ev):List UInt8:=(ar.map frame).flatten
theorem Ir: ∀ (ar:List Ev),(lC ar).length=24*ar.length
 | []=>rfl
 |e::ar=>by
  have:=Ir ar;simp only[lC,List.map_cons,List.flatten_cons,List.length_append,CL,List.length_cons] at this ⊢;omega
theorem ajx {e:Ev}{ar:List Ev}:lC (e::ar)=frame e++lC ar:=rfl
theorem axG {e:Ev}{ar:List Ev}:lC (ar++ [e])=lC ar++frame e:=by simp[lC]
theorem ajy: ∀ (bS:List Ev) (pre:List UInt8) (n:Nat) (ar:List Ev),(∀ e∈bS,iD e)→bS.length < n→oB (pre++lC bS) n pre.length ar []=(ar++bS,[],pre.length+24*bS.length)
 | [],pre,n,ar,_,aH=>by
  rw[ajz (by simp[lC])];simp
 |e::bS,pre,0,ar,_,aH=>by simp at aH
 |e::bS,pre,n+1,ar,an,aH=>by
  have hl:=Ir (e::bS);simp only[List.length_cons] at hl aH;have aP: ((pre++lC (e::bS)).drop pre.length).take 24=frame e:=by
   rw[List.drop_left,ajx,List.take_append_of_le_length (by rw[CL];omega),List.take_of_length_le (by rw[CL];omega)]
  rw[ajA (by rw[List.length_append];omega),aP,if_pos (aGP e (an e (by simp))),ajw e (an e (by simp))];have:=ajy bS (pre++frame e) n (ar++ [e]) (fun x aj=>an x (by simp[aj])) (by omega);rw[List.append_assoc,←ajx,List.length_append,CL] at this;rw[this];simp only[List.append_assoc,List.cons_append,List.nil_append,List.length_cons,Prod.mk.injEq,true_and];omega
theorem azf (ar:List Ev)(h: ∀ e∈ar,iD e):iQ (lC ar)=(ar,[],24*ar.length):=by
 have:=ajy ar [] ((lC ar).length+1) [] h (by rw[Ir];omega);simpa[iQ] using this
def run (b:List UInt8):Nat→Nat→List Ev×Nat
 |0,az=>([],az)
 |n+1,az=>
  if az+24≤b.length then
   if rR ((b.drop az).take 24) then (sV ((b.drop az).take 24)::(run b n (az+24)).1,(run b n (az+24)).2)
   else run b n (az+1)
  else ([],az)
theorem Di {b:List UInt8}{n az:Nat}(h: ¬az+24≤b.length):run b n az=([],az):=by
 cases n with
 |zero=>rfl
 |succ n=>rw[run,if_neg h]
theorem US (b:List UInt8): ∀ (n az:Nat) (ar:List Ev) (gs:List lS),(oB b n az ar gs).1=ar++(run b n az).1∧(oB b n az ar gs).2.2=(run b n az).2
 |0,az,ar,gs=>by simp[oB,run]
 |n+1,az,ar,gs=>by
  rw[oB,run];split
  ·split
   ·have:=US b n (az+24) (ar++ [sV ((b.drop az).take 24)]) gs;rw[this.1,this.2];simp
   ·exact US b n (az+1) ar (yX gs az)
  ·simp
theorem F8 (b:List UInt8): ∀ (n m az:Nat),b.length < n+az→b.length < m+az→run b n az=run b m az
 |0,m,az,h1,G=>by rw[Di (by omega),Di (by omega)]
 |n+1,0,az,h1,G=>by rw[Di (by omega),Di (by omega)]
 |n+1,m+1,az,h1,G=>by
  rw[run,run];split
  ·split
   ·rw[F8 b n m (az+24) (by omega) (by omega)]
   ·exact F8 b n m (az+1) (by omega) (by omega)
  ·rfl
theorem F9 (b:List UInt8): ∀ (n az:Nat),az≤b.length→b.length < n+az→az≤(run b n az).2∧(run b n az).2≤b.length∧b.length < (run b n az).2+24
 |0,az,h1,G=>by omega
 |n+1,az,h1,G=>by
  rw[run];split
  ·split
   ·have:=F9 b n (az+24) (by omega) (by omega);simp only;omega
   ·have:=F9 b n (az+1) (by omega) (by omega);omega
  ·simp only;omega
theorem UT (b:List UInt8)(ei:Nat)(ad:ei≤b.length): ∀ (n az:Nat),b.length < n+az→az≤ei→
 run b n az=((run (b.take ei) n az).1++(run b n (run (b.take ei) n az).2).1,(run b n (run (b.take ei) n az).2).2)
 |0,az,h1,G=>by omega
 |n+1,az,h1,G=>by
  have hl: (b.take ei).length=ei:=by simp;omega
  by_cases h:az+24≤ei
  ·have aP: ((b.take ei).drop az).take 24=(b.drop az).take 24:=by
    rw[List.drop_take,List.take_take,Nat.min_eq_left (by omega)]
   by_cases aw:rR ((b.drop az).take 24)
   ·have ih:=UT b ei ad n (az+24) (by omega) (by omega);have N:=F9 (b.take ei) n (az+24) (by omega) (by omega);have bF:run b (n+1) az=(sV ((b.drop az).take 24)::(run b n (az+24)).1,(run b n (az+24)).2):=by rw[run,if_pos (by omega),if_pos aw]
    have bK:run (b.take ei) (n+1) az=(sV ((b.drop az).take 24)::(run (b.take ei) n (az+24)).1,(run (b.take ei) n (az+24)).2):=by rw[run,if_pos (by omega),aP,if_pos aw]
    rw[bF,bK];simp only;rw[F8 b (n+1) n _ (by omega) (by omega),ih];simp
   ·have ih:=UT b ei ad n (az+1) (by omega) (by omega);have N:=F9 (b.take ei) n (az+1) (by omega) (by omega);have bF:run b (n+1) az=run b n (az+1):=by rw[run,if_pos (by omega),if_neg aw]
    have bK:run (b.take ei) (n+1) az=run (b.take ei) n (az+1):=by rw[run,if_pos (by omega),aP,if_neg aw]
    rw[bF,bK,F8 b (n+1) n _ (by omega) (by omega)];exact ih
  ·rw[Di (b:=b.take ei) (by omega)];simp
theorem UU (b:List UInt8)(k:Nat)(O:k≤b.length): ∀ (n az:Nat),run (b.drop k) n az=((run b n (k+az)).1,(run b n (k+az)).2-k)
 |0,az=>by simp[run]
 |n+1,az=>by
  have aP: ((b.drop k).drop az).take 24=(b.drop (k+az)).take 24:=by rw[List.drop_drop]
  have hl: (b.drop k).length=b.length-k:=by simp
  by_cases h:k+az+24≤b.length
  ·rw[run,if_pos (by omega),run,if_pos h,aP];split
   ·rw[UU b k O n (az+24)];rfl
   ·exact UU b k O n (az+1)
  ·rw[Di (by omega),Di h];simp
theorem abB (b:List UInt8)(ei:Nat)(ad:ei≤b.length):
 (iQ (b.take ei)).2.2≤ei∧ei < (iQ (b.take ei)).2.2+24∧(iQ b).1=(iQ (b.take ei)).1++(iQ (b.drop (iQ (b.take ei)).2.2)).1∧
  (iQ b).2.2=(iQ (b.take ei)).2.2+(iQ (b.drop (iQ (b.take ei)).2.2)).2.2:=by
 have B: ∀ b:List UInt8,(iQ b).1=(run b (b.length+1) 0).1∧(iQ b).2.2=(run b (b.length+1) 0).2:=by
  intro b;have:=US b (b.length+1) 0 [] [];simpa[iQ] using this
 have hl: (b.take ei).length=ei:=by simp;omega
 have es:run (b.take ei) ((b.take ei).length+1) 0=run (b.take ei) (b.length+1) 0:=F8 _ _ _ _ (by omega) (by omega);have N:=F9 (b.take ei) (b.length+1) 0 (by omega) (by omega);have ht:=UT b ei ad (b.length+1) 0 (by omega) (by omega);rw[(B (b.take ei)).1,(B (b.take ei)).2,es,(B b).1,(B b).2];generalize bc: (run (b.take ei) (b.length+1) 0).2=yY at *;have HW:=F9 b (b.length+1) yY (by omega) (by omega);have ay:=UU b yY (by omega) ((b.drop yY).length+1) 0;have MA: (b.drop yY).length=b.length-yY:=by simp
 simp only[Nat.add_zero] at ay;rw[F8 b ((b.drop yY).length+1) (b.length+1) yY (by omega) (by omega)] at ay;rw[(B (b.drop yY)).1,(B (b.drop yY)).2,ay,ht];refine⟨by omega,by omega,rfl,?_⟩;simp only;omega
end Go.Proofs.YtpincjkjoeopkaaGreatDoor.Rc
