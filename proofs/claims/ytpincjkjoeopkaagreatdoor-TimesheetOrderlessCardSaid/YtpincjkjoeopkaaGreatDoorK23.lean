/- Calendar and premiums. -/
import Derived.Test.YtpincjkjoeopkaaGreatDoorK22
set_option linter.unusedSimpArgs false
set_option linter.unusedVariables false
set_option linter.unusedSectionVars false
namespace Go.Proofs.YtpincjkjoeopkaaGreatDoor.Pm
open Go Go.Abs Go.Proofs.Tryz
def vR (D:bZ)(h:List cP)(af:List dF)(t:Int)(n:Nat):Nat:=rY (fun c=>MU D h (fD af c) t) n
def qn (D:bZ)(h:List cP)(af:List dF)(t:Int)(c:Nat):Bool:=(qW af (vR D h af t af.length)).testBit c
def lV (D:bZ)(h:List cP)(af:List dF)(J:Int)(j:Nat):Nat→Int
 |0=>0
 |k+1=>lV D h af J j k+if qn D h af (J+k) j then 1 else 0
theorem S9 (D:bZ)(h:List cP)(af:List dF)(J:Int)(j:Nat): ∀ k:Nat,0≤lV D h af J j k∧lV D h af J j k≤k
 |0=>by simp[lV]
 |k+1=>by
  have:=S9 D h af J j k;rw[lV];split<;>omega
def rZ (p:cx):Nat:=(p.T-p.J).toNat
def rV (D:bZ)(h:List cP)(af:List dF)(O:List cx)(o:Int)(j:Nat):Int:=(O.map fun p=>if p.ab=o then lV D h af p.J j (rZ p) else 0).sum
theorem aEg {D:bZ}{h:List cP}{af:List dF}{O:List cx}{c:Nat}(an:c < O.length)(o:Int)(j:Nat):
 rV D h af (O.take (c+1)) o j=rV D h af (O.take c) o j+if O[c].ab=o then lV D h af O[c].J j (rZ O[c]) else 0:=by
 unfold rV;rw[List.take_succ_eq_append_getElem an,List.map_append,List.sum_append];simp
theorem ahg {D:bZ}{h:List cP}{af:List dF}{o:Int}{j:Nat}: ∀ {O:List cx},(∀ p∈O,nL p)→0≤rV D h af O o j∧rV D h af O o j≤mG O
 | [],_=>by simp[rV,mG]
 |p::O,ae=>by
  have ih:=ahg (D:=D) (h:=h) (af:=af) (o:=o) (j:=j) (O:=O) fun q aQ=>ae q (List.mem_cons_of_mem _ aQ);have h1:=ae p List.mem_cons_self;have B:=S9 D h af p.J j (rZ p);unfold nL at h1;have am: (rZ p:Int)=p.T-p.J:=by unfold rZ;omega
  unfold rV mG at *;rw[List.map_cons,List.sum_cons,List.map_cons,List.sum_cons];split<;>omega
def gj (O:List cx):List Int:=O.foldl (fun M p=>ea p.ab M) []
theorem Zl {O:List cx}{c:Nat}(an:c < O.length):gj (O.take (c+1))=ea O[c].ab (gj (O.take c)):=by
 unfold gj;rw[List.take_succ_eq_append_getElem an,List.foldl_append];rfl
theorem BH {k x:Int}{M:List Int}:x∈ea k M↔x=k∨x∈M:=by
 unfold ea;split
 ·constructor
  ·exact .inr
  ·rintro (rfl|h)
   ·assumption
   ·exact h
 ·rw[List.mem_append,List.mem_singleton];exact Or.comm
theorem DU {k:Int}{M:List Int}(h:M.Nodup): (ea k M).Nodup:=by
 unfold ea;split
 ·exact h
 ·rename_i I;rw[List.nodup_append];exact⟨h,by simp,fun a aw b Z=>by rw[List.mem_singleton] at Z;subst Z;exact fun e=>I (e▸aw)⟩
theorem Ta: ∀ (O:List cx) (M:List Int),M.Nodup→(O.foldl (fun M p=>ea p.ab M) M).Nodup∧ ∀ x,x∈O.foldl (fun M p=>ea p.ab M) M↔x∈M∨ ∃ p∈O,p.ab=x
 | [],M,h=>⟨h,by simp⟩
 |p::O,M,h=>by
  obtain⟨h1,B⟩:=Ta O (ea p.ab M) (DU h);refine⟨h1,fun x=> ?_⟩;rw[List.foldl_cons,B,BH];constructor
  ·rintro ((rfl|h)|⟨q,aQ,rfl⟩)
   ·exact .inr ⟨p,List.mem_cons_self,rfl⟩
   ·exact .inl h
   ·exact .inr ⟨q,List.mem_cons_of_mem _ aQ,rfl⟩
  ·rintro (h|⟨q,aQ,rfl⟩)
   ·exact .inl (.inr h)
   ·rcases List.mem_cons.1 aQ with rfl|aQ
    ·exact .inl (.inl rfl)
    ·exact .inr ⟨q,aQ,rfl⟩
theorem ahh (O:List cx): (gj O).Nodup:=(Ta O [] List.nodup_nil).1
theorem ahi {O:List cx}{x:Int}:x∈gj O↔ ∃ p∈O,p.ab=x:=by
 unfold gj;rw[(Ta O [] List.nodup_nil).2];simp
theorem ahj {D:bZ}{h:List cP}{af:List dF}{o:Int}{j:Nat}: ∀ {O:List cx},(∀ p∈O,p.ab≠o)→rV D h af O o j=0
 | [],_=>rfl
 |p::O,ae=>by
  have ih:=ahj (D:=D) (h:=h) (af:=af) (o:=o) (j:=j) (O:=O) fun q aQ=>ae q (List.mem_cons_of_mem _ aQ);have h1:=ae p List.mem_cons_self;unfold rV at *;rw[List.map_cons,List.sum_cons,ih,if_neg h1];rfl
def gL (f:Nat→Int):List z:=(List.range 16).map fun j=> .int .i64 (f j)
theorem EV (f:Nat→Int): (gL f).length=16:=by simp[gL]
theorem ahk {f:Nat→Int}{c:Nat}(an:c < 16)(o:z): (gL f).getD c o= .int .i64 (f c):=by
 rw[List.getD_eq_getElem?_getD];simp[gL,an]
theorem aEh {f:Nat→Int}{c:Nat}(an:c < 16)(v:Int):eO (gL f) c [.int .i64 v]=gL (fun j=>if j=c then v else f j):=by
 unfold eO;apply List.ext_getElem?;intro k;simp only[gL,List.length_singleton]
 by_cases I:k < 16
 ·rcases Nat.lt_trichotomy k c with h|h|h
  ·rw[List.append_assoc,List.getElem?_append_left (by simp;omega),List.getElem?_take_of_lt h];simp[I,Nat.ne_of_lt h]
  ·subst h;rw[List.getElem?_append_left (by simp;omega),List.getElem?_append_right (by simp;omega)];simp[I,Nat.min_eq_left (Nat.le_of_lt an)]
  ·rw[List.getElem?_append_right (by simp;omega),List.getElem?_drop];have:c+1+(k-(List.take c (List.map (fun j=>z.int IntKind.i64 (f j)) (List.range 16))++ [z.int IntKind.i64 v]).length)=k:=by simp;omega
   rw[this];simp[I,Nat.ne_of_gt h]
 ·rw[List.getElem?_eq_none (by simp;omega),List.getElem?_eq_none (by simp;omega)]
theorem ahl (f:Nat→Int):bP (gL f)=true:=by simp[gL,List.range,List.range.loop,bP,bE]
theorem H9 {f g:Nat→Int}(h: ∀ j,j < 16→f j=g j):gL f=gL g:=by
 unfold gL;exact List.map_congr_left fun j aT=>by rw[h j (List.mem_range.1 aT)]
theorem aEi: [z.int .i64 0,.int .i64 0,.int .i64 0,.int .i64 0,.int .i64 0,.int .i64 0,.int .i64 0,.int .i64 0,.int .i64 0,.int .i64 0,.int .i64 0,.int .i64 0,.int .i64 0,.int .i64 0,.int .i64 0,.int .i64 0]=gL fun _=>0:=rfl
def cF (D:bZ)(h:List cP)(af:List dF)(O:List cx)(o:Int)(j:Nat):Int:=if j < af.length then rV D h af O o j else 0
def lW (D:bZ)(h:List cP)(af:List dF)(O:List cx)(o:Int):z:= .agg (gL (cF D h af O o))
theorem DK {f g:Int→z}{k:Int}(ui: ∀ x,x≠k→f x=g x): ∀ {l:List Int},l.Nodup→dp (.int .i64 k) (g k) (cX f l)=cX g (ea k l)
 | [],_=>by simp[cX,dp,ea]
 |p::l,hl=>by
  rw[List.nodup_cons] at hl;have ih:=DK ui hl.2;unfold cX ea at *;rw[List.map_cons,dp];have:fp (.int .i64 k) (.int .i64 p)=(k==p):=by simp[fp,cf,dU]
  simp only[this]
  by_cases I:k=p
  ·subst I;simp;exact fun a aw=>ui a (fun e=>hl.1 (e▸aw))
  ·simp only[beq_iff_eq,I,if_false,ih,List.mem_cons,false_or];split<;>simp[ui p (fun e=>I e.symm)]
def sa (af:List dF)(F:Int):z:= .int .i64 (qW af F.toNat)
def Ia (D:bZ)(h:List cP)(af:List dF)(O:List cx):R:= .aY (.map false [.int .i64] (cX (lW D h af O) (gj O)))
theorem aEj (af:List dF)(l:List Int):jL (cX (sa af) l)=true:=H3 (fun _=>rfl) l
theorem CM (D:bZ)(h:List cP)(af:List dF)(O:List cx)(l:List Int):jL (cX (lW D h af O) l)=true:=H3 (fun _=>by simp[lW,bE,ahl]) l
attribute [go_sem] aEj CM ahl
theorem aEk (D:bZ)(aS:eR D=0)(h:List cP)(ag:mz h=0)(af:List dF)(aB:af.length≤16)(aR:qo af=true)(O:List cx)(ae:uh O=0):
 aK prog 115 [D.v,.pure 6 (ac h),.pure 7 (ac af),.pure 4 (ac O)] [] (fun v rs=>v= .bu 0∧rs= [Ia D h af O]):=by
 have hn:O.length≤4096∧(∀ p∈O,nL p)∧mG O≤100000:=by
  unfold uh at ae;split at ae
  ·cases ae
  ·split at ae
   ·split at ae
    ·cases ae
    ·exact⟨by omega,by assumption,by omega⟩
   ·cases ae
 obtain⟨gm,sJ,jO⟩:=hn;have vq: ∀ j,j < af.length→0≤(fD af j).hK∧(fD af j).hK≤127:=fun j aT=>by
  rw[H8 aT];exact aEl (List.all_eq_true.1 aR _ (List.getElem_mem aT))
 refine cr func115 RD (by simp[hY,il]) ?_;simp only[go_sem,hY,il,bZ.v];refine oW [] [] (by decide) rfl rfl (aDW h) ?_;rintro _ _ ⟨rfl,rfl⟩;refine⟨.inl rfl,?_⟩;simp only[go_sem,lU];refine dR (fun r d=> ∃ (c:Nat) (ys ds M:List Int),c≤O.length∧r= [(2,.pure 7 (ac af)),(4,.aW 0 1 0 0),(9,.aW 3 1 0 0),(10,.bu 4),(11,.bu 5),(27,.pure 4 (ac O)),(28,.int .i64 O.length),(29,.int .i64 c)]∧
  d= [.aa 32 2 [[.int .i64 D.off,.pure 2 (ac D.cK)]],.aY (.map false [.int .i64] (cX (np h) ys)),.aY (.map false [.int .i64] (cX (fun o=> .bool (kG h o)) ds)),.aa 359 3 [[.pure 6 (ac h),.bu 1,.bu 2]],.aY (.map false [.int .i64] (cX (sa af) M)),Ia D h af (O.take c)])
  (fun r _=>match bn r 29 with| .int _ j=>(O.length-j).toNat|_=>0) ?_ ?_
 ·exact s.U ⟨0,[],[],[],by omega,rfl,rfl⟩
 ·rintro r d ⟨c,ys,ds,M,an,rfl,rfl⟩;have fC:=dr (c:=c) (by omega);simp only[go_sem,hY,il];refine cg ?_ ?_<;>intro ck<;>simp only[bA] at ck<;>simp only[go_sem,hY,il]
  ·have aC:c < O.length:=by omega
   refine⟨by omega,by omega,?_⟩
   try simp only[Int.toNat_natCast]
   rw[cQ aC];have LD:=sJ _ (List.getElem_mem aC);have mT:=fun o j=>aEg (D:=D) (h:=h) (af:=af) aC o j;have AV:=Zl aC;generalize Bq:O[c]=p at LD mT AV ⊢;simp only[go_sem,hY,il,yY,Ia];have jq: ((if p.ab∈gj (O.take c) then some (lW D h af (O.take c) p.ab) else none).getD (.agg (gL fun _=>0)))=lW D h af (O.take c) p.ab:=by
    by_cases hm:p.ab∈gj (O.take c)
    ·rw[if_pos hm];rfl
    ·rw[if_neg hm,Option.getD_none];unfold lW;congr 1;refine H9 fun j _=> ?_;unfold cF;split
     ·refine (ahj fun q aQ e=>hm ?_).symm;exact ahi.2 ⟨q,aQ,e⟩
     ·rfl
   try rw[aEi]
   try rw[jq]
   rw[show cf (lW D h af (O.take c) p.ab)=gL (cF D h af (O.take c) p.ab) from rfl];refine⟨EV _,by simp[gL,List.range,List.range.loop,Abs.cM],?_⟩;have aEm:=LD;unfold nL at aEm;have Dm: (rZ p:Int)=p.T-p.J:=by unfold rZ;omega
   have Hd: ∀ j,0≤cF D h af (O.take c) p.ab j∧cF D h af (O.take c) p.ab j≤100000:=fun j=>by
    unfold cF;split
    ·have h1:=ahg (D:=D) (h:=h) (af:=af) (o:=p.ab) (j:=j) (O:=(O.take c)) (fun q aQ=>sJ q (List.mem_of_mem_take aQ));have B:=(Tb (l:=O.drop c) (c:=(O.drop c).length) (Nat.le_refl _) (fun j aT _=>sJ _ (List.mem_of_mem_drop (List.getElem_mem aT)))).1;have am:mG O=mG (O.take c)+mG (O.drop c):=by
      unfold mG;rw[←List.sum_append,←List.map_append,List.take_append_drop]
     rw[List.take_length] at B;omega
    ·omega
   refine dR (fun r d=> ∃ (k:Nat) (ys ds M:List Int),k≤rZ p∧r= [(2,.pure 7 (ac af)),(4,.aW 0 1 0 0),(9,.aW 3 1 0 0),(10,.bu 4),(11,.bu 5),(13,.aW 6 1 0 0),(14,.aW 7 1 0 0),(15,.int .i64 (p.J+k)),(27,.pure 4 (ac O)),(28,.int .i64 O.length),(29,.int .i64 c)]∧
    d= [.aa 32 2 [[.int .i64 D.off,.pure 2 (ac D.cK)]],.aY (.map false [.int .i64] (cX (np h) ys)),.aY (.map false [.int .i64] (cX (fun o=> .bool (kG h o)) ds)),.aa 359 3 [[.pure 6 (ac h),.bu 1,.bu 2]],.aY (.map false [.int .i64] (cX (sa af) M)),.aY (.map false [.int .i64] (cX (lW D h af (O.take c)) (gj (O.take c)))),.aa 221 4 [[.int .i64 p.ab,.int .i64 p.J,.int .i64 p.T,.str p.ep]],.aa 227 16 [gL (fun j=>cF D h af (O.take c) p.ab j+if j < af.length then lV D h af p.J j k else 0)]])
    (fun r _=>match bn r 15 with| .int _ t=>(p.T-t).toNat|_=>0) ?_ ?_
   ·refine s.U ⟨0,ys,ds,M,by omega,by simp,?_⟩;simp[lV,EV]
   ·rintro r d ⟨k,ys,ds,M,I,rfl,rfl⟩;simp only[go_sem,hY,il];refine cg ?_ ?_<;>intro fQ<;>simp only[bA] at fQ<;>simp only[go_sem,hY,il]
    ·have fP:k < rZ p:=by omega
     generalize aEn:p.J+(k:Int)=t at fQ ⊢;have aEo:IntKind.i64.wrap (t+1)=p.J+((k+1:Nat):Int):=by rw[bf (by omega) (by omega)];omega
     (refine eY [1,2,3] (aEp D aS h ag ys ds t (by omega) (by omega)) ?_;rintro _ _ ⟨rfl,ys',ds',rfl⟩;simp only[go_sem])
     simp only[go_sem,lU,Tc];refine dR (fun r d=> ∃ (j:Nat),j≤af.length∧r= [(2,.pure 7 (ac af)),(4,.aW 0 1 0 0),(9,.aW 3 1 0 0),(10,.bu 4),(11,.bu 5),(13,.aW 6 1 0 0),(14,.aW 7 1 0 0),(15,.int .i64 t),(16,.aW 8 1 0 0),(17,.int .i64 (vR D h af t j)),(27,.pure 4 (ac O)),(28,.int .i64 O.length),(29,.int .i64 c),(51,.pure 7 (ac af)),(52,.int .i64 af.length),(53,.int .i64 j)]∧
      d= [.aa 32 2 [[.int .i64 D.off,.pure 2 (ac D.cK)]],.aY (.map false [.int .i64] (cX (np h) ys')),.aY (.map false [.int .i64] (cX (fun o=> .bool (kG h o)) ds')),.aa 359 3 [[.pure 6 (ac h),.bu 1,.bu 2]],.aY (.map false [.int .i64] (cX (sa af) M)),.aY (.map false [.int .i64] (cX (lW D h af (O.take c)) (gj (O.take c)))),.aa 221 4 [[.int .i64 p.ab,.int .i64 p.J,.int .i64 p.T,.str p.ep]],.aa 227 16 [gL (fun j=>cF D h af (O.take c) p.ab j+if j < af.length then lV D h af p.J j k else 0)],.aa 316 3 [[.int .i64 (lc D t%1440),.int .i64 ((lc D t / 1440+3)%7),.bool (kG h (lc D t / 1440))]]])
      (fun r _=>match bn r 53 with| .int _ j=>(af.length-j).toNat|_=>0) ?_ ?_
     ·exact s.U ⟨0,by omega,rfl,rfl⟩
     ·rintro r d ⟨j,aT,rfl,rfl⟩;have nJ:=dr (c:=j) (by omega);simp only[go_sem,hY,il];refine cg ?_ ?_<;>intro oj<;>simp only[bA] at oj<;>simp only[go_sem,hY,il]
      ·have oY:j < af.length:=by omega
       refine⟨by omega,by omega,?_⟩
       try simp only[Int.toNat_natCast]
       rw[cQ oY,←H8 oY];have Td:=vq j oY;have es:vR D h af t (j+1)=if MU D h (fD af j) t then vR D h af t j|||2^j else vR D h af t j:=rfl
       have gB:vR D h af t j < 65536:=MO _ (by omega);have tB:=S5 (cj:=vR D h af t j) (c:=j) gB (by omega);have tc: (0:Int)≤j:=by omega
       generalize fD af j=w at Td es ⊢;simp only[go_sem,hY,il,zR];refine bH (aEq w Td.1 Td.2 (lc D t%1440) ((lc D t / 1440+3)%7) (kG h (lc D t / 1440)) (by omega) (by omega)) rfl rfl ?_;rw[show MV w (lc D t%1440) ((lc D t / 1440+3)%7) (kG h (lc D t / 1440))=MU D h w t from rfl];cases ahm:MU D h w t
       ·rw[ahm] at es;simp only[Bool.false_eq_true,if_false] at es;simp only[go_sem,hY,il,nJ]
        (refine s.bw [some 0,some 1,some 2,some 3,some 4,some 5,some 6,some 7,some 8] ?_;simp only[go_sem])
        refine s.U ⟨⟨j+1,by omega,by rw[es],rfl⟩,?_⟩;simp only[go_sem];omega
       ·rw[ahm] at es;simp only[if_true] at es;simp only[go_sem,hY,il,tc,tB,Int.toNat_natCast,nJ]
        (refine s.bw [some 0,some 1,some 2,some 3,some 4,some 5,some 6,some 7,some 8] ?_;simp only[go_sem])
        refine s.U ⟨⟨j+1,by omega,by rw[es],rfl⟩,?_⟩;simp only[go_sem];omega
      ·obtain rfl:j=af.length:=by omega
       have gB:vR D h af t af.length < 65536:=MO _ (by omega);have D0: ∀ x,qn D h af t x=(qW af (vR D h af t af.length)).testBit x:=fun _=>rfl;generalize vR D h af t af.length=cj at gB D0 ⊢;have Aj:dp (.int .i64 cj) (.int .i64 (qW af cj)) (cX (sa af) M)=cX (sa af) (ea cj M):=by
        have:=ML (f:=sa af) (k:=(cj:Int)) (l:=M)
        rwa [show sa af (cj:Int)= .int .i64 (qW af cj) by simp[sa]] at this
       have PN:sa af (cj:Int)= .int .i64 (qW af cj):=by simp[sa]
       refine apB (fun r d=> ∃ fM:List Int,bn r 2= .pure 7 (ac af)∧bn r 4= .aW 0 1 0 0∧bn r 9= .aW 3 1 0 0∧bn r 10= .bu 4∧bn r 11= .bu 5∧bn r 13= .aW 6 1 0 0∧bn r 14= .aW 7 1 0 0∧bn r 15= .int .i64 t∧bn r 20= .int .i64 (qW af cj)∧bn r 27= .pure 4 (ac O)∧bn r 28= .int .i64 O.length∧bn r 29= .int .i64 c∧
        d= [.aa 32 2 [[.int .i64 D.off,.pure 2 (ac D.cK)]],.aY (.map false [.int .i64] (cX (np h) ys')),.aY (.map false [.int .i64] (cX (fun o=> .bool (kG h o)) ds')),.aa 359 3 [[.pure 6 (ac h),.bu 1,.bu 2]],.aY (.map false [.int .i64] (cX (sa af) fM)),.aY (.map false [.int .i64] (cX (lW D h af (O.take c)) (gj (O.take c)))),.aa 221 4 [[.int .i64 p.ab,.int .i64 p.J,.int .i64 p.T,.str p.ep]],.aa 227 16 [gL (fun j=>cF D h af (O.take c) p.ab j+if j < af.length then lV D h af p.J j k else 0)],.aa 316 3 [[.int .i64 (lc D t%1440),.int .i64 ((lc D t / 1440+3)%7),.bool (kG h (lc D t / 1440))]]]) ?_ ?_ ?_
       ·intro V;simp only[go_sem,hY,il];refine bH (aEd af aB cj gB) rfl rfl ?_;simp only[go_sem,Aj];exact⟨ea cj M,rfl⟩
       ·intro V;have hm: (cj:Int)∈M:=by
         by_cases hm: (cj:Int)∈M
         ·exact hm
         ·rw[if_neg hm] at V;simp at V
        simp only[go_sem,hY,il,hm,PN];exact⟨M,rfl⟩
       ·rintro r _ ⟨fM,xX,zS,MW,rC,ot,MX,zm,MY,zA,MZ,M0,M1,rfl⟩;simp only[go_sem,hY,il,xX,zS,MW,rC,ot,MX,zm,MY,zA,MZ,M0,M1];clear xX zS MW rC ot MX zm MY zA MZ M0 M1 r;have cL: ∀ x,0≤(fun j=>cF D h af (O.take c) p.ab j+if j < af.length then lV D h af p.J j k else 0) x∧(fun j=>cF D h af (O.take c) p.ab j+if j < af.length then lV D h af p.J j k else 0) x≤200000000:=fun x=>by
         have h1:=Hd x;have B:=S9 D h af p.J x k;simp only;split<;>omega
        have ahn: ∀ x,(fun j=>cF D h af (O.take c) p.ab j+if j < af.length then lV D h af p.J j (k+1) else 0) x=(fun j=>cF D h af (O.take c) p.ab j+if j < af.length then lV D h af p.J j k else 0) x+if x < af.length∧qn D h af t x=true then 1 else 0:=fun x=>by
         simp only[lV,aEn]
         by_cases ad:x < af.length
         ·cases qn D h af t x<;>simp[ad]<;>omega
         ·simp[ad]
        generalize (fun j=>cF D h af (O.take c) p.ab j+if j < af.length then lV D h af p.J j k else 0)=cZ at cL ahn ⊢;have hW:qW af cj < 65536:=MO _ aB;refine dR (fun r d=> ∃ (j:Nat),j≤af.length∧r= [(2,.pure 7 (ac af)),(4,.aW 0 1 0 0),(9,.aW 3 1 0 0),(10,.bu 4),(11,.bu 5),(13,.aW 6 1 0 0),(14,.aW 7 1 0 0),(15,.int .i64 t),(20,.int .i64 (qW af cj)),(27,.pure 4 (ac O)),(28,.int .i64 O.length),(29,.int .i64 c),(81,.int .i64 af.length),(82,.int .i64 j)]∧
         d= [.aa 32 2 [[.int .i64 D.off,.pure 2 (ac D.cK)]],.aY (.map false [.int .i64] (cX (np h) ys')),.aY (.map false [.int .i64] (cX (fun o=> .bool (kG h o)) ds')),.aa 359 3 [[.pure 6 (ac h),.bu 1,.bu 2]],.aY (.map false [.int .i64] (cX (sa af) fM)),.aY (.map false [.int .i64] (cX (lW D h af (O.take c)) (gj (O.take c)))),.aa 221 4 [[.int .i64 p.ab,.int .i64 p.J,.int .i64 p.T,.str p.ep]],.aa 227 16 [gL (fun x=>cZ x+if x < j∧qn D h af t x=true then 1 else 0)]])
         (fun r _=>match bn r 82 with| .int _ j=>(af.length-j).toNat|_=>0) ?_ ?_
        ·(refine s.bw [some 0,some 1,some 2,some 3,some 4,some 5,some 6,some 7] ?_;simp only[go_sem])
         exact s.U ⟨0,by omega,rfl,by simp⟩
        ·rintro r d ⟨j,aT,rfl,rfl⟩;have nJ:=dr (c:=j) (by omega);simp only[go_sem,hY,il];refine cg ?_ ?_<;>intro nn<;>simp only[bA] at nn<;>simp only[go_sem,hY,il]
         ·have oY:j < af.length:=by omega
          have tc: (0:Int)≤j:=by omega
          have Ic: (j:Int) < 16:=by omega
          have M2:=agX (cj:=qW af cj) (c:=j) hW (by omega);rw[←D0] at M2;have SD:=cL j;have eI: (gL fun x=>cZ x+if x < j∧qn D h af t x=true then 1 else 0).getD (j*1) z.cc= .int .i64 (cZ j):=by
           rw[Nat.mul_one,ahk (by omega)];simp
          have Ss:IntKind.i64.wrap (cZ j+if qn D h af t j=true then 1 else 0)=cZ j+if qn D h af t j=true then 1 else 0:=bf (by split<;>omega) (by split<;>omega)
          have ly:List.take (j*1) (gL fun x=>cZ x+if x < j∧qn D h af t x=true then 1 else 0)++ [z.int .i64 (cZ j+if qn D h af t j=true then 1 else 0)]++List.drop (j*1+1) (gL fun x=>cZ x+if x < j∧qn D h af t x=true then 1 else 0)=gL fun x=>cZ x+if x < j+1∧qn D h af t x=true then 1 else 0:=by
           show eO (gL fun x=>cZ x+if x < j∧qn D h af t x=true then 1 else 0) (j*1) [.int .i64 (cZ j+if qn D h af t j=true then 1 else 0)]=_;rw[Nat.mul_one,aEh (by omega)];refine H9 fun x ad=> ?_
           by_cases e:x=j
           ·subst e;simp
           ·have: (x < j+1)↔x < j:=by omega
            simp[e,this]
          refine⟨tc,Ic,by omega,tc,?_⟩;rw[eI,M2];simp only[go_sem,hY,il,Ss,tc,Ic,Int.toNat_natCast];refine⟨by omega,?_⟩;rw[ly];simp only[go_sem,nJ];refine s.U ⟨⟨j+1,by omega,rfl,rfl⟩,?_⟩;simp only[go_sem];omega
         ·obtain rfl:j=af.length:=by omega
          rw[aEo];have mo: (gL fun x=>cZ x+if x < af.length∧qn D h af t x=true then 1 else 0)=gL (fun j=>cF D h af (O.take c) p.ab j+if j < af.length then lV D h af p.J j (k+1) else 0):=H9 fun x _=>(ahn x).symm;rw[mo];refine s.U ⟨⟨k+1,ys',ds',fM,by omega,rfl,rfl⟩,?_⟩;simp only[go_sem];omega
    ·obtain rfl:k=rZ p:=by omega
     have oE: (gL fun j=>cF D h af (O.take c) p.ab j+if j < af.length then lV D h af p.J j (rZ p) else 0).take 16=gL fun j=>cF D h af (O.take c) p.ab j+if j < af.length then lV D h af p.J j (rZ p) else 0:=List.take_of_length_le (by rw[EV];exact Nat.le_refl _)
     have aEr:z.agg (gL fun j=>cF D h af (O.take c) p.ab j+if j < af.length then lV D h af p.J j (rZ p) else 0)=lW D h af (O.take (c+1)) p.ab:=by
      unfold lW;congr 1;refine H9 fun x _=> ?_;unfold cF;rw[mT];split<;>simp
     have EH:=DK (f:=lW D h af (O.take c)) (g:=lW D h af (O.take (c+1))) (k:=p.ab) (fun x ad=>by
      unfold lW;congr 1;refine H9 fun y _=> ?_;unfold cF;have DY:=mT x y;rw[if_neg (show ¬p.ab=x from fun e=>ad e.symm)] at DY;rw[DY];simp) (ahh (O.take c))
     rw[←AV] at EH;rw[oE,aEr,EH,fC]
     (refine s.bw [some 0,some 1,some 2,some 3,some 4,some 5] ?_;simp only[go_sem])
     refine s.U ⟨⟨c+1,ys,ds,M,by omega,rfl,rfl⟩,?_⟩;simp only[go_sem];omega
  ·obtain rfl:c=O.length:=by omega
   rw[List.take_length];unfold Ia
   (refine s.bw [some 5] ?_;simp only[go_sem])
   exact s.U ⟨rfl,rfl⟩
structure Pm where
 ab:Int
 name:ByteArray
 min:Int
def Pm.cells (p:Pm):List z:= [.int .i64 p.ab,.str p.name,.int .i64 p.min]
instance:aG Pm:=⟨Pm.cells,3,fun _=>rfl,fun _=>rfl,fun _=>rfl⟩
theorem axa (p:Pm):aG.F p= [.int .i64 p.ab,.str p.name,.int .i64 p.min]:=rfl
theorem aEt:aG.N Pm=3:=rfl
attribute [go_sem] aEt
theorem aEu {l:List Pm}{o m:Int}{n:ByteArray}:ac l++ [[.int .i64 o,.str n,.int .i64 m]]=ac (l++ [⟨o,n,m⟩]):=kz (x:=Pm.mk o n m)
def nG (D:bZ)(h:List cP)(af:List dF)(O:List cx)(o:Int):Nat→List Pm
 |0=> []
 |n+1=>nG D h af O o n++if 0 < cF D h af O o n then [⟨o,(fD af n).name,cF D h af O o n⟩] else []
def sU (D:bZ)(h:List cP)(af:List dF)(O:List cx):List Pm:=(fh (gj O)).flatMap fun o=>nG D h af O o af.length
def sb (D:bZ)(h:List cP)(af:List dF)(O:List cx)(c:Nat):List Pm:=((fh (gj O)).take c).flatMap fun o=>nG D h af O o af.length
theorem aho {D:bZ}{h:List cP}{af:List dF}{O:List cx}{c:Nat}(an:c < (fh (gj O)).length):sb D h af O (c+1)=sb D h af O c++nG D h af O (fh (gj O))[c] af.length:=by
 unfold sb;rw[List.take_succ_eq_append_getElem an,List.flatMap_append];simp
theorem Te (D:bZ)(h:List cP)(af:List dF)(O:List cx)(o:Int): ∀ n:Nat,(nG D h af O o n).length≤n
 |0=>by simp[nG]
 |n+1=>by
  have:=Te D h af O o n;rw[nG,List.length_append];split<;>simp<;>omega
theorem ahp {D:bZ}{h:List cP}{af:List dF}{O:List cx}: ∀ {c:Nat},c≤(fh (gj O)).length→(sb D h af O c).length≤c*af.length
 |0,_=>by simp[sb]
 |c+1,an=>by
  have ih:=ahp (D:=D) (h:=h) (af:=af) (O:=O) (c:=c) (by omega);have:=Te D h af O (fh (gj O))[c] af.length;rw[aho (by omega),List.length_append,Nat.add_mul];omega
theorem aEv (O:List cx): (gj O).length≤O.length:=by
 have: ∀ (O:List cx) (M:List Int),(O.foldl (fun M p=>ea p.ab M) M).length≤M.length+O.length:=by
  intro O
  induction O with
  |nil=>intro M;simp
  |cons p O ih=>
   intro M;rw[List.foldl_cons];have h1:=ih (ea p.ab M);have B: (ea p.ab M).length≤M.length+1:=by unfold ea;split<;>simp
   rw[List.length_cons];omega
 simpa[gj] using this O []
theorem aEw (ents:List (z×z)):aK prog 116 [.bu 0] [.aY (.map false [.int .i64] ents)]
 (fun v rs=>v= .fn 204 [.aW 1 1 0 0]∧rs= [.aY (.map false [.int .i64] ents),.aa 224 1 [[.bu 0]]]):=by
 intro C du G ar hG dk;rw[ay] at dk;obtain⟨v0,bW,rfl,ag,aB⟩:=dk;rw[ay] at aB;subst aB;have db:=ag;rw[Rep] at ag;obtain⟨gV,⟨nh,rfl⟩,_,_⟩:=ag;have cs:=callsIn_wide.1 (AnyZI.keys_in atc Fence.wide 5 trivial rfl (some nh) C.w);refine cs.mono ?_;rintro e w' ⟨rfl,rfl⟩;obtain⟨bI,ca⟩:=Cy db (rfl: (cf (.bu 0)).all Abs.cM=true);have cB:C.d.length=1:=by rw[G];rfl
 have ae:=Ab ar 224 1 1 #[.map (some nh)] [[.bu 0]] [.map (some nh)] (C.w.alloc (.cells #[.map (some nh)] 224)) ⟨rfl,rfl,rfl,rfl⟩ (by simp) (by simp[maxLen]) (by simp) (CJ rfl bI ca) rfl;refine⟨_,.fn 204 [.aW 1 1 0 0],_,rfl,rfl,?_,ae.1,by rw[←G];exact ae.2,rfl,by rw[G];rfl⟩;rw[Rep];refine⟨_,rfl,?_⟩;rw[ay];refine⟨_,[],rfl,?_,by rw[ay]⟩;have h1:=J6 (d:=C.d) (bm:=C.bm) (bS:=C.bS) (w:=C.w.alloc (.cells #[.map (some nh)] 224)) (e:=224) (N:=1) (b:=C.w.heap.size) (cap:=1) (cells:= [.bu 0]) ar.dm;rw[cB] at h1;rw[ar.bT];exact h1
def ug (D:bZ)(h:List cP)(af:List dF)(O:List cx):Int:=if un D h af=0 then uh O else un D h af
theorem ave (D:bZ)(h:List cP)(hl:h.length≤9223372036854775806)(af:List dF)(rP:af.length≤1000000)(O:List cx)(gm:O.length≤1000000):
 aK prog 42 [D.v,.pure 6 (ac h),.pure 7 (ac af),.pure 4 (ac O)] []
  (fun v rs=>if ug D h af O=0 then v= .bg [.own 0 (sU D h af O).length 0 (sU D h af O).length,.int .i64 0]∧rs= [.aa 136 3 (ac (sU D h af O))] else v= .bg [.bD,.int .i64 (ug D h af O)]∧rs= []):=by
 refine cr func42 abh (by simp[oy,pw]) ?_;unfold ug;simp only[go_sem,oy,pw,bZ.v];refine bH (afb D h hl af rP) rfl rfl ?_
 by_cases ag:un D h af=0
 rotate_left
 ·have db: (un D h af != 0)=true:=by simp[ag]
  simp only[go_sem,oy,pw,db];exact s.bb rfl (by simp[ag])
 obtain⟨bI,ca,fc,hi⟩:=Rc ag;rw[ag];simp only[go_sem,oy,pw];refine bH (aEx O gm) rfl rfl ?_
 by_cases ae:uh O=0
 rotate_left
 ·have hC: (uh O != 0)=true:=by simp[ae]
  simp only[go_sem,oy,pw,hC];exact s.bb rfl (by simp[ae])
 rw[ae];have jO:O.length≤4096:=by
  unfold uh at ae;split at ae
  ·cases ae
  ·omega
 have Rm:=aEv O;have fd:=yO (gj O);have je: ∀ x∈gj O,(Lit.int .i64 x).wf=true:=fun x ad=>by
  obtain⟨q,aQ,rfl⟩:=ahi.1 ad;have B: ∀ p∈O,nL p:=by
   unfold uh at ae;split at ae
   ·cases ae
   ·split at ae
    ·assumption
    ·cases ae
  have:=B q aQ;unfold nL at this;show (decide (IntKind.i64.min≤q.ab)&&decide (q.ab≤IntKind.i64.max))=true;rw[Bool.and_eq_true,decide_eq_true_eq,decide_eq_true_eq];show -9223372036854775808≤q.ab∧q.ab≤9223372036854775807;omega
 have Dl:=CM D h af O (gj O);simp only[go_sem,oy,pw];refine oW [] [] (by decide) rfl rfl (aEk D bI h ca af fc hi O ae) ?_;rintro _ _ ⟨rfl,rfl⟩;refine⟨.inl rfl,?_⟩;simp only[go_sem,oy,pw,Ia]
 (refine eY [1] (aEw (cX (lW D h af O) (gj O))) ?_;rintro _ _ ⟨rfl,rfl⟩;simp only[go_sem])
 (refine eY [1,2] (atd 224 (cX (lW D h af O) (gj O)) (gj O) (by simp[cX]) (ahh O) je (by omega)) ?_;rintro _ _ ⟨rfl,rfl⟩;simp only[go_sem])
 have QM: (fh (gj O)).length≤4096:=by omega
 have ahq:sU D h af O=sb D h af O (fh (gj O)).length:=by unfold sU sb;rw[List.take_length]
 have ahr:=fun c (an:c < (fh (gj O)).length)=>aho (D:=D) (h:=h) (af:=af) an;have ahs:=fun c (an:c≤(fh (gj O)).length)=>ahp (D:=D) (h:=h) (af:=af) an;rw[ahq];have bV: ∀ x∈fh (gj O),x∈gj O:=fun x ad=>(aDz _ x).1 ad;generalize fh (gj O)=K at QM ahq ahr ahs bV ⊢;refine dR (fun r d=> ∃ (c:Nat),c≤K.length∧r= [(2,.pure 7 (ac af)),(12,.bu 1),(13,.own 3 (sb D h af O c).length 0 (sb D h af O c).length),(38,.pure 1 (cC .i64 K)),(39,.int .i64 K.length),(40,.int .i64 c)]∧
  d= [.aa 32 2 [[.int .i64 D.off,.pure 2 (ac D.cK)]],.aY (.map false [.int .i64] (cX (lW D h af O) (gj O))),.aa 224 1 [[.bu 1]],.aa 136 3 (ac (sb D h af O c))])
  (fun r _=>match bn r 40 with| .int _ j=>(K.length-j).toNat|_=>0) ?_ ?_
 ·(refine s.iI 13 136 3 rfl (s.eW [2,12,13,38,39,40] ?_);simp only[go_sem])
  exact s.U ⟨0,by omega,by simp[sb],by simp[sb,ac]⟩
 ·rintro r d ⟨c,an,rfl,rfl⟩;have fC:=dr (c:=c) (by omega);simp only[go_sem,oy,pw];refine cg ?_ ?_<;>intro ck<;>simp only[bA] at ck<;>simp only[go_sem,oy,pw]
  ·have aC:c < K.length:=by omega
   refine⟨by omega,by omega,?_⟩
   try simp only[Int.toNat_natCast]
   rw[sA aC,show K.getD c 0=K[c] by simp[List.getD_eq_getElem?_getD,aC]];have Tf:=ahr c aC;have aEy:=ahs c (by omega);have aq:=bV _ (List.getElem_mem aC);have aht:=fun n=>Te D h af O K[c] n;generalize K[c]=o at Tf aq aht ⊢;generalize aIS:sb D h af O c=aU at Tf aEy ⊢;have vv:aU.length≤65536:=by
    have:c*af.length≤4096*16:=Nat.mul_le_mul (by omega) fc;omega
   simp only[go_sem,oy,pw];rw[if_pos aq,Option.getD_some,show cf (lW D h af O o)=gL (cF D h af O o) from rfl];refine⟨EV _,by simp[gL,List.range,List.range.loop,Abs.cM],?_⟩;have aIT:eO [z.int .i64 0,.int .i64 0,.int .i64 0,.int .i64 0,.int .i64 0,.int .i64 0,.int .i64 0,.int .i64 0,.int .i64 0,.int .i64 0,.int .i64 0,.int .i64 0,.int .i64 0,.int .i64 0,.int .i64 0,.int .i64 0] 0 (gL (cF D h af O o))=gL (cF D h af O o):=by
    unfold eO;simp[EV]
   refine dR (fun r d=> ∃ (j:Nat),j≤af.length∧r= [(2,.pure 7 (ac af)),(12,.bu 1),(13,.own 3 (aU++nG D h af O o j).length 0 (aU++nG D h af O o j).length),(15,.int .i64 o),(16,.aW 4 1 0 0),(38,.pure 1 (cC .i64 K)),(39,.int .i64 K.length),(40,.int .i64 c),(47,.pure 7 (ac af)),(48,.int .i64 af.length),(49,.int .i64 j)]∧
    d= [.aa 32 2 [[.int .i64 D.off,.pure 2 (ac D.cK)]],.aY (.map false [.int .i64] (cX (lW D h af O) (gj O))),.aa 224 1 [[.bu 1]],.aa 136 3 (ac (aU++nG D h af O o j)),.aa 227 16 [gL (cF D h af O o)]])
    (fun r _=>match bn r 49 with| .int _ j=>(af.length-j).toNat|_=>0) ?_ ?_
   ·refine s.U ⟨0,by omega,by simp[nG],?_⟩;simp[nG,EV]
   ·rintro r d ⟨j,aT,rfl,rfl⟩;have nJ:=dr (c:=j) (by omega);simp only[go_sem,oy,pw];refine cg ?_ ?_<;>intro fQ<;>simp only[bA] at fQ<;>simp only[go_sem,oy,pw]
    ·have oY:j < af.length:=by omega
     refine⟨by omega,by omega,?_⟩
     try simp only[Int.toNat_natCast]
     rw[cQ oY,←H8 oY];have yW:nG D h af O o (j+1)=nG D h af O o j++if 0 < cF D h af O o j then [⟨o,(fD af j).name,cF D h af O o j⟩] else []:=rfl
     have tc: (0:Int)≤j:=by omega
     have Ic: (j:Int) < 16:=by omega
     have eI: (gL (cF D h af O o)).getD (j*1) z.cc= .int .i64 (cF D h af O o j):=by rw[Nat.mul_one,ahk (by omega)]
     generalize fD af j=w at yW ⊢;simp only[go_sem,oy,pw,zR];refine⟨tc,Ic,by omega,?_⟩;rw[eI]
     by_cases hm:cF D h af O o j>0
     ·rw[if_pos hm] at yW;simp only[go_sem,oy,pw,hm,tc,Ic,eI,Int.toNat_natCast];have zD:=aht j;refine⟨by omega,by rw[List.length_append];omega,?_⟩;rw[nJ,aEu,List.append_assoc,←yW];have PH: (aU++nG D h af O o j).length+1=(aU++nG D h af O o (j+1)).length:=by rw[yW];simp;omega
      rw[PH]
      (refine s.bw [some 0,some 1,some 2,some 3,some 4] ?_;simp only[go_sem])
      refine s.U ⟨⟨j+1,by omega,rfl,rfl⟩,?_⟩;simp only[go_sem];omega
     ·rw[if_neg hm,List.append_nil] at yW;simp only[go_sem,oy,pw,hm,nJ]
      (refine s.bw [some 0,some 1,some 2,some 3,some 4] ?_;simp only[go_sem])
      refine s.U ⟨⟨j+1,by omega,by rw[yW],by rw[yW]⟩,?_⟩;simp only[go_sem];omega
    ·obtain rfl:j=af.length:=by omega
     rw[fC];rw[←Tf]
     (refine s.bw [some 0,some 1,some 2,some 3] ?_;simp only[go_sem])
     refine s.U ⟨⟨c+1,by omega,rfl,rfl⟩,?_⟩;simp only[go_sem];omega
  ·obtain rfl:c=K.length:=by omega
   (refine s.bw [some 3] ?_;simp only[go_sem])
   exact s.U ⟨rfl,rfl⟩
end Go.Proofs.YtpincjkjoeopkaaGreatDoor.Pm
