/- Calendar and premiums. -/
import Derived.Test.YtpincjkjoeopkaaGreatDoorD22
set_option linter.all false
namespace Go.Proofs.YtpincjkjoeopkaaGreatDoor.Pm
open Go Go.Abs Go.Proofs.Tryz
def xa (M:cc)(h:List cX)(al:List dP)(t:Int)(n:Nat):Nat:=sO (fun c=>NV M h (fL al c) t) n
def qV (M:cc)(h:List cX)(al:List dP)(t:Int)(c:Nat):Bool:=(rM al (xa M h al t al.length)).testBit c
def mI (M:cc)(h:List cX)(al:List dP)(R:Int)(j:Nat):Nat→Int
 |0=>0
 |k+1=>mI M h al R j k+if qV M h al (R+k) j then 1 else 0
theorem Ue (M:cc)(h:List cX)(al:List dP)(R:Int)(j:Nat): ∀ k:Nat,0≤mI M h al R j k∧mI M h al R j k≤k
 |0=>by simp[mI]
 |k+1=>by
  have:=Ue M h al R j k;rw[mI];split<;>omega
def sP (p:cF):Nat:=(p.ab-p.R).toNat
def sL (M:cc)(h:List cX)(al:List dP)(aa:List cF)(B:Int)(j:Nat):Int:=(aa.map fun p=>if p.ah=B then mI M h al p.R j (sP p) else 0).sum
theorem aFy {M:cc}{h:List cX}{al:List dP}{aa:List cF}{c:Nat}(av:c < aa.length)(B:Int)(j:Nat):
 sL M h al (aa.take (c+1)) B j=sL M h al (aa.take c) B j+if aa[c].ah=B then mI M h al aa[c].R j (sP aa[c]) else 0:=by
 unfold sL;rw[List.take_succ_eq_append_getElem av,List.map_append,List.sum_append];simp
theorem aix {M:cc}{h:List cX}{al:List dP}{B:Int}{j:Nat}: ∀ {aa:List cF},(∀ p∈aa,oE p)→0≤sL M h al aa B j∧sL M h al aa B j≤nn aa
 | [],_=>by simp[sL,nn]
 |p::aa,ak=>by
  have ih:=aix (M:=M) (h:=h) (al:=al) (B:=B) (j:=j) (aa:=aa) fun q aV=>ak q (List.mem_cons_of_mem _ aV);have h1:=ak p List.mem_cons_self;have G:=Ue M h al p.R j (sP p);unfold oE at h1;have au: (sP p:Int)=p.ab-p.R:=by unfold sP;omega
  unfold sL nn at *;rw[List.map_cons,List.sum_cons,List.map_cons,List.sum_cons];split<;>omega
def gt (aa:List cF):List Int:=aa.foldl (fun Y p=>ek p.ah Y) []
theorem aaD {aa:List cF}{c:Nat}(av:c < aa.length):gt (aa.take (c+1))=ek aa[c].ah (gt (aa.take c)):=by
 unfold gt;rw[List.take_succ_eq_append_getElem av,List.foldl_append];rfl
theorem CO {k x:Int}{Y:List Int}:x∈ek k Y↔x=k∨x∈Y:=by
 unfold ek;split
 ·constructor
  ·exact .inr
  ·rintro (rfl|h)
   ·assumption
   ·exact h
 ·rw[List.mem_append,List.mem_singleton];exact Or.comm
theorem E4 {k:Int}{Y:List Int}(h:Y.Nodup): (ek k Y).Nodup:=by
 unfold ek;split
 ·exact h
 ·rename_i O;rw[List.nodup_append];exact⟨h,by simp,fun a aC b hb=>by rw[List.mem_singleton] at hb;subst hb;exact fun e=>O (e▸aC)⟩
theorem Uf: ∀ (aa:List cF) (Y:List Int),Y.Nodup→(aa.foldl (fun Y p=>ek p.ah Y) Y).Nodup∧ ∀ x,x∈aa.foldl (fun Y p=>ek p.ah Y) Y↔x∈Y∨ ∃ p∈aa,p.ah=x
 | [],Y,h=>⟨h,by simp⟩
 |p::aa,Y,h=>by
  obtain⟨h1,G⟩:=Uf aa (ek p.ah Y) (E4 h);refine⟨h1,fun x=> ?_⟩;rw[List.foldl_cons,G,CO];constructor
  ·rintro ((rfl|h)|⟨q,aV,rfl⟩)
   ·exact .inr ⟨p,List.mem_cons_self,rfl⟩
   ·exact .inl h
   ·exact .inr ⟨q,List.mem_cons_of_mem _ aV,rfl⟩
  ·rintro (h|⟨q,aV,rfl⟩)
   ·exact .inl (.inr h)
   ·rcases List.mem_cons.1 aV with rfl|aV
    ·exact .inl (.inl rfl)
    ·exact .inr ⟨q,aV,rfl⟩
theorem aiy (aa:List cF): (gt aa).Nodup:=(Uf aa [] List.nodup_nil).1
theorem aiz {aa:List cF}{x:Int}:x∈gt aa↔ ∃ p∈aa,p.ah=x:=by
 unfold gt;rw[(Uf aa [] List.nodup_nil).2];simp
theorem aiA {M:cc}{h:List cX}{al:List dP}{B:Int}{j:Nat}: ∀ {aa:List cF},(∀ p∈aa,p.ah≠B)→sL M h al aa B j=0
 | [],_=>rfl
 |p::aa,ak=>by
  have ih:=aiA (M:=M) (h:=h) (al:=al) (B:=B) (j:=j) (aa:=aa) fun q aV=>ak q (List.mem_cons_of_mem _ aV);have h1:=ak p List.mem_cons_self;unfold sL at *;rw[List.map_cons,List.sum_cons,ih,if_neg h1];rfl
def gV (f:Nat→Int):List F:=(List.range 16).map fun j=> .int .i64 (f j)
theorem F0 (f:Nat→Int): (gV f).length=16:=by simp[gV]
theorem aiB {f:Nat→Int}{c:Nat}(av:c < 16)(B:F): (gV f).getD c B= .int .i64 (f c):=by
 rw[List.getD_eq_getElem?_getD];simp[gV,av]
theorem aFz {f:Nat→Int}{c:Nat}(av:c < 16)(v:Int):fb (gV f) c [.int .i64 v]=gV (fun j=>if j=c then v else f j):=by
 unfold fb;apply List.ext_getElem?;intro k;simp only[gV,List.length_singleton]
 by_cases O:k < 16
 ·rcases Nat.lt_trichotomy k c with h|h|h
  ·rw[List.append_assoc,List.getElem?_append_left (by simp;omega),List.getElem?_take_of_lt h];simp[O,Nat.ne_of_lt h]
  ·subst h;rw[List.getElem?_append_left (by simp;omega),List.getElem?_append_right (by simp;omega)];simp[O,Nat.min_eq_left (Nat.le_of_lt av)]
  ·rw[List.getElem?_append_right (by simp;omega),List.getElem?_drop];have:c+1+(k-(List.take c (List.map (fun j=>F.int IntKind.i64 (f j)) (List.range 16))++ [F.int IntKind.i64 v]).length)=k:=by simp;omega
   rw[this];simp[O,Nat.ne_of_gt h]
 ·rw[List.getElem?_eq_none (by simp;omega),List.getElem?_eq_none (by simp;omega)]
theorem aiC (f:Nat→Int):bU (gV f)=true:=by simp[gV,List.range,List.range.loop,bU,bJ]
theorem Jm {f g:Nat→Int}(h: ∀ j,j < 16→f j=g j):gV f=gV g:=by
 unfold gV;exact List.map_congr_left fun j aX=>by rw[h j (List.mem_range.1 aX)]
theorem aFA: [F.int .i64 0,.int .i64 0,.int .i64 0,.int .i64 0,.int .i64 0,.int .i64 0,.int .i64 0,.int .i64 0,.int .i64 0,.int .i64 0,.int .i64 0,.int .i64 0,.int .i64 0,.int .i64 0,.int .i64 0,.int .i64 0]=gV fun _=>0:=rfl
def cN (M:cc)(h:List cX)(al:List dP)(aa:List cF)(B:Int)(j:Nat):Int:=if j < al.length then sL M h al aa B j else 0
def mJ (M:cc)(h:List cX)(al:List dP)(aa:List cF)(B:Int):F:= .agg (gV (cN M h al aa B))
theorem EX {f g:Int→F}{k:Int}(vj: ∀ x,x≠k→f x=g x): ∀ {l:List Int},l.Nodup→dy (.int .i64 k) (g k) (de f l)=de g (ek k l)
 | [],_=>by simp[de,dy,ek]
 |p::l,hl=>by
  rw[List.nodup_cons] at hl;have ih:=EX vj hl.2;unfold de ek at *;rw[List.map_cons,dy];have:fB (.int .i64 k) (.int .i64 p)=(k==p):=by simp[fB,cp,ed]
  simp only[this]
  by_cases O:k=p
  ·subst O;simp;exact fun a aC=>vj a (fun e=>hl.1 (e▸aC))
  ·simp only[beq_iff_eq,O,if_false,ih,List.mem_cons,false_or];split<;>simp[vj p (fun e=>O e.symm)]
def sQ (al:List dP)(J:Int):F:= .int .i64 (rM al J.toNat)
def Jn (M:cc)(h:List cX)(al:List dP)(aa:List cF):Z:= .be (.map false [.int .i64] (de (mJ M h al aa) (gt aa)))
theorem aFB (al:List dP)(l:List Int):kh (de (sQ al) l)=true:=Jg (fun _=>rfl) l
theorem D1 (M:cc)(h:List cX)(al:List dP)(aa:List cF)(l:List Int):kh (de (mJ M h al aa) l)=true:=Jg (fun _=>by simp[mJ,bJ,aiC]) l
attribute [go_sem] aFB D1 aiC
theorem aFC (M:cc)(ba:fe M=0)(h:List cX)(an:ng h=0)(al:List dP)(aH:al.length≤16)(aP:qW al=true)(aa:List cF)(ak:vi aa=0):
 aO prog 115 [M.v,.pure 6 (ai h),.pure 7 (ai al),.pure 4 (ai aa)] [] (fun v rs=>v= .bE 0∧rs= [Jn M h al aa]):=by
 have iK:aa.length≤4096∧(∀ p∈aa,oE p)∧nn aa≤100000:=by
  unfold vi at ak;split at ak
  ·cases ak
  ·split at ak
   ·split at ak
    ·cases ak
    ·exact⟨by omega,by assumption,by omega⟩
   ·cases ak
 obtain⟨gy,tG,kk⟩:=iK;have wx: ∀ j,j < al.length→0≤(fL al j).ic∧(fL al j).ic≤127:=fun j aX=>by
  rw[Jl aX];exact aFD (List.all_eq_true.1 aP _ (List.getElem_mem aX))
 refine cu func115 SK (by simp[ip,iC]) ?_;simp only[go_sem,ip,iC,cc.v];refine om [] [] (by decide) rfl rfl (aFe h) ?_;rintro _ _ ⟨rfl,rfl⟩;refine⟨.inl rfl,?_⟩;simp only[go_sem,mH];refine dN (fun D r=> ∃ (c:Nat) (ys ds Y:List Int),c≤aa.length∧D= [(2,.pure 7 (ai al)),(4,.bd 0 1 0 0),(9,.bd 3 1 0 0),(10,.bE 4),(11,.bE 5),(27,.pure 4 (ai aa)),(28,.int .i64 aa.length),(29,.int .i64 c)]∧
  r= [.ag 32 2 [[.int .i64 M.off,.pure 2 (ai M.cS)]],.be (.map false [.int .i64] (de (nX h) ys)),.be (.map false [.int .i64] (de (fun B=> .bool (lf h B)) ds)),.ag 359 3 [[.pure 6 (ai h),.bE 1,.bE 2]],.be (.map false [.int .i64] (de (sQ al) Y)),Jn M h al (aa.take c)])
  (fun D _=>match bs D 29 with| .int _ j=>(aa.length-j).toNat|_=>0) ?_ ?_
 ·exact E.ac ⟨0,[],[],[],by omega,rfl,rfl⟩
 ·rintro D r ⟨c,ys,ds,Y,av,rfl,rfl⟩;have fK:=dB (c:=c) (by omega);simp only[go_sem,ip,iC];refine cf ?_ ?_<;>intro ct<;>simp only[bC] at ct<;>simp only[go_sem,ip,iC]
  ·have aI:c < aa.length:=by omega
   refine⟨by omega,by omega,?_⟩
   try simp only[Int.toNat_natCast]
   rw[cT aI];have MM:=tG _ (List.getElem_mem aI);have nF:=fun B j=>aFy (M:=M) (h:=h) (al:=al) aI B j;have B2:=aaD aI;generalize Cv:aa[c]=p at MM nF B2 ⊢;simp only[go_sem,ip,iC,Ah,Jn];have jD: ((if p.ah∈gt (aa.take c) then some (mJ M h al (aa.take c) p.ah) else none).getD (.agg (gV fun _=>0)))=mJ M h al (aa.take c) p.ah:=by
    by_cases hm:p.ah∈gt (aa.take c)
    ·rw[if_pos hm];rfl
    ·rw[if_neg hm,Option.getD_none];unfold mJ;congr 1;refine Jm fun j _=> ?_;unfold cN;split
     ·refine (aiA fun q aV e=>hm ?_).symm;exact aiz.2 ⟨q,aV,e⟩
     ·rfl
   try rw[aFA]
   try rw[jD]
   rw[show cp (mJ M h al (aa.take c) p.ah)=gV (cN M h al (aa.take c) p.ah) from rfl];refine⟨F0 _,by simp[gV,List.range,List.range.loop,Abs.cV],?_⟩;have aFE:=MM;unfold oE at aFE;have EC: (sP p:Int)=p.ab-p.R:=by unfold sP;omega
   have Mz: ∀ j,0≤cN M h al (aa.take c) p.ah j∧cN M h al (aa.take c) p.ah j≤100000:=fun j=>by
    unfold cN;split
    ·have h1:=aix (M:=M) (h:=h) (al:=al) (B:=p.ah) (j:=j) (aa:=(aa.take c)) (fun q aV=>tG q (List.mem_of_mem_take aV));have G:=(Ug (l:=aa.drop c) (c:=(aa.drop c).length) (Nat.le_refl _) (fun j aX _=>tG _ (List.mem_of_mem_drop (List.getElem_mem aX)))).1;have au:nn aa=nn (aa.take c)+nn (aa.drop c):=by
      unfold nn;rw[←List.sum_append,←List.map_append,List.take_append_drop]
     rw[List.take_length] at G;omega
    ·omega
   refine dN (fun D r=> ∃ (k:Nat) (ys ds Y:List Int),k≤sP p∧D= [(2,.pure 7 (ai al)),(4,.bd 0 1 0 0),(9,.bd 3 1 0 0),(10,.bE 4),(11,.bE 5),(13,.bd 6 1 0 0),(14,.bd 7 1 0 0),(15,.int .i64 (p.R+k)),(27,.pure 4 (ai aa)),(28,.int .i64 aa.length),(29,.int .i64 c)]∧
    r= [.ag 32 2 [[.int .i64 M.off,.pure 2 (ai M.cS)]],.be (.map false [.int .i64] (de (nX h) ys)),.be (.map false [.int .i64] (de (fun B=> .bool (lf h B)) ds)),.ag 359 3 [[.pure 6 (ai h),.bE 1,.bE 2]],.be (.map false [.int .i64] (de (sQ al) Y)),.be (.map false [.int .i64] (de (mJ M h al (aa.take c)) (gt (aa.take c)))),.ag 221 4 [[.int .i64 p.ah,.int .i64 p.R,.int .i64 p.ab,.str p.ep]],.ag 227 16 [gV (fun j=>cN M h al (aa.take c) p.ah j+if j < al.length then mI M h al p.R j k else 0)]])
    (fun D _=>match bs D 15 with| .int _ t=>(p.ab-t).toNat|_=>0) ?_ ?_
   ·refine E.ac ⟨0,ys,ds,Y,by omega,by simp,?_⟩;simp[mI,F0]
   ·rintro D r ⟨k,ys,ds,Y,O,rfl,rfl⟩;simp only[go_sem,ip,iC];refine cf ?_ ?_<;>intro fH<;>simp only[bC] at fH<;>simp only[go_sem,ip,iC]
    ·have gO:k < sP p:=by omega
     generalize aFF:p.R+(k:Int)=t at fH ⊢;have aFG:IntKind.i64.wrap (t+1)=p.R+((k+1:Nat):Int):=by rw[bl (by omega) (by omega)];omega
     (refine fy [1,2,3] (aFH M ba h an ys ds t (by omega) (by omega)) ?_;rintro _ _ ⟨rfl,ys',ds',rfl⟩;simp only[go_sem])
     simp only[go_sem,mH,Uh];refine dN (fun D r=> ∃ (j:Nat),j≤al.length∧D= [(2,.pure 7 (ai al)),(4,.bd 0 1 0 0),(9,.bd 3 1 0 0),(10,.bE 4),(11,.bE 5),(13,.bd 6 1 0 0),(14,.bd 7 1 0 0),(15,.int .i64 t),(16,.bd 8 1 0 0),(17,.int .i64 (xa M h al t j)),(27,.pure 4 (ai aa)),(28,.int .i64 aa.length),(29,.int .i64 c),(51,.pure 7 (ai al)),(52,.int .i64 al.length),(53,.int .i64 j)]∧
      r= [.ag 32 2 [[.int .i64 M.off,.pure 2 (ai M.cS)]],.be (.map false [.int .i64] (de (nX h) ys')),.be (.map false [.int .i64] (de (fun B=> .bool (lf h B)) ds')),.ag 359 3 [[.pure 6 (ai h),.bE 1,.bE 2]],.be (.map false [.int .i64] (de (sQ al) Y)),.be (.map false [.int .i64] (de (mJ M h al (aa.take c)) (gt (aa.take c)))),.ag 221 4 [[.int .i64 p.ah,.int .i64 p.R,.int .i64 p.ab,.str p.ep]],.ag 227 16 [gV (fun j=>cN M h al (aa.take c) p.ah j+if j < al.length then mI M h al p.R j k else 0)],.ag 316 3 [[.int .i64 (lG M t%1440),.int .i64 ((lG M t / 1440+3)%7),.bool (lf h (lG M t / 1440))]]])
      (fun D _=>match bs D 53 with| .int _ j=>(al.length-j).toNat|_=>0) ?_ ?_
     ·exact E.ac ⟨0,by omega,rfl,rfl⟩
     ·rintro D r ⟨j,aX,rfl,rfl⟩;have nf:=dB (c:=j) (by omega);simp only[go_sem,ip,iC];refine cf ?_ ?_<;>intro pd<;>simp only[bC] at pd<;>simp only[go_sem,ip,iC]
      ·have nC:j < al.length:=by omega
       refine⟨by omega,by omega,?_⟩
       try simp only[Int.toNat_natCast]
       rw[cT nC,←Jl nC];have Ui:=wx j nC;have eK:xa M h al t (j+1)=if NV M h (fL al j) t then xa M h al t j|||2^j else xa M h al t j:=rfl
       have gN:xa M h al t j < 65536:=NR _ (by omega);have uB:=Ua (cs:=xa M h al t j) (c:=j) gN (by omega);have ud: (0:Int)≤j:=by omega
       generalize fL al j=w at Ui eK ⊢;simp only[go_sem,ip,iC,A4];refine bM (aFI w Ui.1 Ui.2 (lG M t%1440) ((lG M t / 1440+3)%7) (lf h (lG M t / 1440)) (by omega) (by omega)) rfl rfl ?_;rw[show NW w (lG M t%1440) ((lG M t / 1440+3)%7) (lf h (lG M t / 1440))=NV M h w t from rfl];cases aiD:NV M h w t
       ·rw[aiD] at eK;simp only[Bool.false_eq_true,if_false] at eK;simp only[go_sem,ip,iC,nf]
        (refine E.bB [some 0,some 1,some 2,some 3,some 4,some 5,some 6,some 7,some 8] ?_;simp only[go_sem])
        refine E.ac ⟨⟨j+1,by omega,by rw[eK],rfl⟩,?_⟩;simp only[go_sem];omega
       ·rw[aiD] at eK;simp only[if_true] at eK;simp only[go_sem,ip,iC,ud,uB,Int.toNat_natCast,nf]
        (refine E.bB [some 0,some 1,some 2,some 3,some 4,some 5,some 6,some 7,some 8] ?_;simp only[go_sem])
        refine E.ac ⟨⟨j+1,by omega,by rw[eK],rfl⟩,?_⟩;simp only[go_sem];omega
      ·obtain rfl:j=al.length:=by omega
       have gN:xa M h al t al.length < 65536:=NR _ (by omega);have E8: ∀ x,qV M h al t x=(rM al (xa M h al t al.length)).testBit x:=fun _=>rfl;generalize xa M h al t al.length=cs at gN E8 ⊢;have Bo:dy (.int .i64 cs) (.int .i64 (rM al cs)) (de (sQ al) Y)=de (sQ al) (ek cs Y):=by
        have:=NO (f:=sQ al) (k:=(cs:Int)) (l:=Y)
        rwa [show sQ al (cs:Int)= .int .i64 (rM al cs) by simp[sQ]] at this
       have Hs:sQ al (cs:Int)= .int .i64 (rM al cs):=by simp[sQ]
       refine arp (fun D r=> ∃ fV:List Int,bs D 2= .pure 7 (ai al)∧bs D 4= .bd 0 1 0 0∧bs D 9= .bd 3 1 0 0∧bs D 10= .bE 4∧bs D 11= .bE 5∧bs D 13= .bd 6 1 0 0∧bs D 14= .bd 7 1 0 0∧bs D 15= .int .i64 t∧bs D 20= .int .i64 (rM al cs)∧bs D 27= .pure 4 (ai aa)∧bs D 28= .int .i64 aa.length∧bs D 29= .int .i64 c∧
        r= [.ag 32 2 [[.int .i64 M.off,.pure 2 (ai M.cS)]],.be (.map false [.int .i64] (de (nX h) ys')),.be (.map false [.int .i64] (de (fun B=> .bool (lf h B)) ds')),.ag 359 3 [[.pure 6 (ai h),.bE 1,.bE 2]],.be (.map false [.int .i64] (de (sQ al) fV)),.be (.map false [.int .i64] (de (mJ M h al (aa.take c)) (gt (aa.take c)))),.ag 221 4 [[.int .i64 p.ah,.int .i64 p.R,.int .i64 p.ab,.str p.ep]],.ag 227 16 [gV (fun j=>cN M h al (aa.take c) p.ah j+if j < al.length then mI M h al p.R j k else 0)],.ag 316 3 [[.int .i64 (lG M t%1440),.int .i64 ((lG M t / 1440+3)%7),.bool (lf h (lG M t / 1440))]]]) ?_ ?_ ?_
       ·intro ad;simp only[go_sem,ip,iC];refine bM (aFv al aH cs gN) rfl rfl ?_;simp only[go_sem,Bo];exact⟨ek cs Y,rfl⟩
       ·intro ad;have hm: (cs:Int)∈Y:=by
         by_cases hm: (cs:Int)∈Y
         ·exact hm
         ·rw[if_neg hm] at ad;simp at ad
        simp only[go_sem,ip,iC,hm,Hs];exact⟨Y,rfl⟩
       ·rintro D _ ⟨fV,vJ,xb,NX,sn,pj,NY,Aw,NZ,AN,N0,N1,N2,rfl⟩;simp only[go_sem,ip,iC,vJ,xb,NX,sn,pj,NY,Aw,NZ,AN,N0,N1,N2];clear vJ xb NX sn pj NY Aw NZ AN N0 N1 N2 D;have cU: ∀ x,0≤(fun j=>cN M h al (aa.take c) p.ah j+if j < al.length then mI M h al p.R j k else 0) x∧(fun j=>cN M h al (aa.take c) p.ah j+if j < al.length then mI M h al p.R j k else 0) x≤200000000:=fun x=>by
         have h1:=Mz x;have G:=Ue M h al p.R x k;simp only;split<;>omega
        have aiE: ∀ x,(fun j=>cN M h al (aa.take c) p.ah j+if j < al.length then mI M h al p.R j (k+1) else 0) x=(fun j=>cN M h al (aa.take c) p.ah j+if j < al.length then mI M h al p.R j k else 0) x+if x < al.length∧qV M h al t x=true then 1 else 0:=fun x=>by
         simp only[mI,aFF]
         by_cases aj:x < al.length
         ·cases qV M h al t x<;>simp[aj]<;>omega
         ·simp[aj]
        generalize (fun j=>cN M h al (aa.take c) p.ah j+if j < al.length then mI M h al p.R j k else 0)=di at cU aiE ⊢;have hW:rM al cs < 65536:=NR _ aH;refine dN (fun D r=> ∃ (j:Nat),j≤al.length∧D= [(2,.pure 7 (ai al)),(4,.bd 0 1 0 0),(9,.bd 3 1 0 0),(10,.bE 4),(11,.bE 5),(13,.bd 6 1 0 0),(14,.bd 7 1 0 0),(15,.int .i64 t),(20,.int .i64 (rM al cs)),(27,.pure 4 (ai aa)),(28,.int .i64 aa.length),(29,.int .i64 c),(81,.int .i64 al.length),(82,.int .i64 j)]∧
         r= [.ag 32 2 [[.int .i64 M.off,.pure 2 (ai M.cS)]],.be (.map false [.int .i64] (de (nX h) ys')),.be (.map false [.int .i64] (de (fun B=> .bool (lf h B)) ds')),.ag 359 3 [[.pure 6 (ai h),.bE 1,.bE 2]],.be (.map false [.int .i64] (de (sQ al) fV)),.be (.map false [.int .i64] (de (mJ M h al (aa.take c)) (gt (aa.take c)))),.ag 221 4 [[.int .i64 p.ah,.int .i64 p.R,.int .i64 p.ab,.str p.ep]],.ag 227 16 [gV (fun x=>di x+if x < j∧qV M h al t x=true then 1 else 0)]])
         (fun D _=>match bs D 82 with| .int _ j=>(al.length-j).toNat|_=>0) ?_ ?_
        ·(refine E.bB [some 0,some 1,some 2,some 3,some 4,some 5,some 6,some 7] ?_;simp only[go_sem])
         exact E.ac ⟨0,by omega,rfl,by simp⟩
        ·rintro D r ⟨j,aX,rfl,rfl⟩;have nf:=dB (c:=j) (by omega);simp only[go_sem,ip,iC];refine cf ?_ ?_<;>intro nW<;>simp only[bC] at nW<;>simp only[go_sem,ip,iC]
         ·have nC:j < al.length:=by omega
          have ud: (0:Int)≤j:=by omega
          have Jo: (j:Int) < 16:=by omega
          have N3:=ain (cs:=rM al cs) (c:=j) hW (by omega);rw[←E8] at N3;have TK:=cU j;have eR: (gV fun x=>di x+if x < j∧qV M h al t x=true then 1 else 0).getD (j*1) F.cj= .int .i64 (di j):=by
           rw[Nat.mul_one,aiB (by omega)];simp
          have Tz:IntKind.i64.wrap (di j+if qV M h al t j=true then 1 else 0)=di j+if qV M h al t j=true then 1 else 0:=bl (by split<;>omega) (by split<;>omega)
          have mc:List.take (j*1) (gV fun x=>di x+if x < j∧qV M h al t x=true then 1 else 0)++ [F.int .i64 (di j+if qV M h al t j=true then 1 else 0)]++List.drop (j*1+1) (gV fun x=>di x+if x < j∧qV M h al t x=true then 1 else 0)=gV fun x=>di x+if x < j+1∧qV M h al t x=true then 1 else 0:=by
           show fb (gV fun x=>di x+if x < j∧qV M h al t x=true then 1 else 0) (j*1) [.int .i64 (di j+if qV M h al t j=true then 1 else 0)]=_;rw[Nat.mul_one,aFz (by omega)];refine Jm fun x aj=> ?_
           by_cases e:x=j
           ·subst e;simp
           ·have: (x < j+1)↔x < j:=by omega
            simp[e,this]
          refine⟨ud,Jo,by omega,ud,?_⟩;rw[eR,N3];simp only[go_sem,ip,iC,Tz,ud,Jo,Int.toNat_natCast];refine⟨by omega,?_⟩;rw[mc];simp only[go_sem,nf];refine E.ac ⟨⟨j+1,by omega,rfl,rfl⟩,?_⟩;simp only[go_sem];omega
         ·obtain rfl:j=al.length:=by omega
          rw[aFG];have mX: (gV fun x=>di x+if x < al.length∧qV M h al t x=true then 1 else 0)=gV (fun j=>cN M h al (aa.take c) p.ah j+if j < al.length then mI M h al p.R j (k+1) else 0):=Jm fun x _=>(aiE x).symm;rw[mX];refine E.ac ⟨⟨k+1,ys',ds',fV,by omega,rfl,rfl⟩,?_⟩;simp only[go_sem];omega
    ·obtain rfl:k=sP p:=by omega
     have pt: (gV fun j=>cN M h al (aa.take c) p.ah j+if j < al.length then mI M h al p.R j (sP p) else 0).take 16=gV fun j=>cN M h al (aa.take c) p.ah j+if j < al.length then mI M h al p.R j (sP p) else 0:=List.take_of_length_le (by rw[F0];exact Nat.le_refl _)
     have aFJ:F.agg (gV fun j=>cN M h al (aa.take c) p.ah j+if j < al.length then mI M h al p.R j (sP p) else 0)=mJ M h al (aa.take (c+1)) p.ah:=by
      unfold mJ;congr 1;refine Jm fun x _=> ?_;unfold cN;rw[nF];split<;>simp
     have FL:=EX (f:=mJ M h al (aa.take c)) (g:=mJ M h al (aa.take (c+1))) (k:=p.ah) (fun x aj=>by
      unfold mJ;congr 1;refine Jm fun y _=> ?_;unfold cN;have Id:=nF x y;rw[if_neg (show ¬p.ah=x from fun e=>aj e.symm)] at Id;rw[Id];simp) (aiy (aa.take c))
     rw[←B2] at FL;rw[pt,aFJ,FL,fK]
     (refine E.bB [some 0,some 1,some 2,some 3,some 4,some 5] ?_;simp only[go_sem])
     refine E.ac ⟨⟨c+1,ys,ds,Y,by omega,rfl,rfl⟩,?_⟩;simp only[go_sem];omega
  ·obtain rfl:c=aa.length:=by omega
   rw[List.take_length];unfold Jn
   (refine E.bB [some 5] ?_;simp only[go_sem])
   exact E.ac ⟨rfl,rfl⟩
structure Pm where
 ah:Int
 name:ByteArray
 min:Int
def Pm.cells (p:Pm):List F:= [.int .i64 p.ah,.str p.name,.int .i64 p.min]
instance:aJ Pm:=⟨Pm.cells,3,fun _=>rfl,fun _=>rfl,fun _=>rfl⟩
theorem ayC (p:Pm):aJ.J p= [.int .i64 p.ah,.str p.name,.int .i64 p.min]:=rfl
theorem aFL:aJ.U Pm=3:=rfl
attribute [go_sem] aFL
theorem aFM {l:List Pm}{B m:Int}{n:ByteArray}:ai l++ [[.int .i64 B,.str n,.int .i64 m]]=ai (l++ [⟨B,n,m⟩]):=kT (x:=Pm.mk B n m)
def ox (M:cc)(h:List cX)(al:List dP)(aa:List cF)(B:Int):Nat→List Pm
 |0=> []
 |n+1=>ox M h al aa B n++if 0 < cN M h al aa B n then [⟨B,(fL al n).name,cN M h al aa B n⟩] else []
def tW (M:cc)(h:List cX)(al:List dP)(aa:List cF):List Pm:=(fq (gt aa)).flatMap fun B=>ox M h al aa B al.length
def sR (M:cc)(h:List cX)(al:List dP)(aa:List cF)(c:Nat):List Pm:=((fq (gt aa)).take c).flatMap fun B=>ox M h al aa B al.length
theorem aiF {M:cc}{h:List cX}{al:List dP}{aa:List cF}{c:Nat}(av:c < (fq (gt aa)).length):sR M h al aa (c+1)=sR M h al aa c++ox M h al aa (fq (gt aa))[c] al.length:=by
 unfold sR;rw[List.take_succ_eq_append_getElem av,List.flatMap_append];simp
theorem Uj (M:cc)(h:List cX)(al:List dP)(aa:List cF)(B:Int): ∀ n:Nat,(ox M h al aa B n).length≤n
 |0=>by simp[ox]
 |n+1=>by
  have:=Uj M h al aa B n;rw[ox,List.length_append];split<;>simp<;>omega
theorem aiG {M:cc}{h:List cX}{al:List dP}{aa:List cF}: ∀ {c:Nat},c≤(fq (gt aa)).length→(sR M h al aa c).length≤c*al.length
 |0,_=>by simp[sR]
 |c+1,av=>by
  have ih:=aiG (M:=M) (h:=h) (al:=al) (aa:=aa) (c:=c) (by omega);have:=Uj M h al aa (fq (gt aa))[c] al.length;rw[aiF (by omega),List.length_append,Nat.add_mul];omega
theorem aFN (aa:List cF): (gt aa).length≤aa.length:=by
 have: ∀ (aa:List cF) (Y:List Int),(aa.foldl (fun Y p=>ek p.ah Y) Y).length≤Y.length+aa.length:=by
  intro aa
  induction aa with
  |nil=>intro Y;simp
  |cons p aa ih=>
   intro Y;rw[List.foldl_cons];have h1:=ih (ek p.ah Y);have G: (ek p.ah Y).length≤Y.length+1:=by unfold ek;split<;>simp
   rw[List.length_cons];omega
 simpa[gt] using this aa []
theorem aFO (ents:List (F×F)):aO prog 116 [.bE 0] [.be (.map false [.int .i64] ents)]
 (fun v rs=>v= .fn 204 [.bd 1 1 0 0]∧rs= [.be (.map false [.int .i64] ents),.ag 224 1 [[.bE 0]]]):=by
 intro C dA N aA hG dv;rw[aE] at dv;obtain⟨v0,bS,rfl,an,aH⟩:=dv;rw[aE] at aH;subst aH;have df:=an;rw[Rep] at an;obtain⟨hC,⟨oy,rfl⟩,_,_⟩:=an;have cA:=callsIn_wide.1 (AnyZI.keys_in auN Fence.wide 5 trivial rfl (some oy) C.w);refine cA.mono ?_;rintro e w' ⟨rfl,rfl⟩;obtain⟨bO,cd⟩:=DJ df (rfl: (cp (.bE 0)).all Abs.cV=true);have cK:C.r.length=1:=by rw[N];rfl
 have ak:=Bf aA 224 1 1 #[.map (some oy)] [[.bE 0]] [.map (some oy)] (C.w.alloc (.cells #[.map (some oy)] 224)) ⟨rfl,rfl,rfl,rfl⟩ (by simp) (by simp[maxLen]) (by simp) (DX rfl bO cd) rfl;refine⟨_,.fn 204 [.bd 1 1 0 0],_,rfl,rfl,?_,ak.1,by rw[←N];exact ak.2,rfl,by rw[N];rfl⟩;rw[Rep];refine⟨_,rfl,?_⟩;rw[aE];refine⟨_,[],rfl,?_,by rw[aE]⟩;have h1:=Ln (r:=C.r) (bu:=C.bu) (bY:=C.bY) (w:=C.w.alloc (.cells #[.map (some oy)] 224)) (e:=224) (U:=1) (b:=C.w.heap.size) (cap:=1) (cells:= [.bE 0]) aA.dw;rw[cK] at h1;rw[aA.bZ];exact h1
def vh (M:cc)(h:List cX)(al:List dP)(aa:List cF):Int:=if vm M h al=0 then vi aa else vm M h al
theorem awM (M:cc)(h:List cX)(hl:h.length≤9223372036854775806)(al:List dP)(sF:al.length≤1000000)(aa:List cF)(gy:aa.length≤1000000):
 aO prog 42 [M.v,.pure 6 (ai h),.pure 7 (ai al),.pure 4 (ai aa)] []
  (fun v rs=>if vh M h al aa=0 then v= .bo [.own 0 (tW M h al aa).length 0 (tW M h al aa).length,.int .i64 0]∧rs= [.ag 136 3 (ai (tW M h al aa))] else v= .bo [.bH,.int .i64 (vh M h al aa)]∧rs= []):=by
 refine cu func42 acF (by simp[pn,qf]) ?_;unfold vh;simp only[go_sem,pn,qf,cc.v];refine bM (agv M h hl al sF) rfl rfl ?_
 by_cases an:vm M h al=0
 rotate_left
 ·have df: (vm M h al != 0)=true:=by simp[an]
  simp only[go_sem,pn,qf,df];exact E.bg rfl (by simp[an])
 obtain⟨bO,cd,fk,hB⟩:=Sl an;rw[an];simp only[go_sem,pn,qf];refine bM (aFP aa gy) rfl rfl ?_
 by_cases ak:vi aa=0
 rotate_left
 ·have hT: (vi aa != 0)=true:=by simp[ak]
  simp only[go_sem,pn,qf,hT];exact E.bg rfl (by simp[ak])
 rw[ak];have kk:aa.length≤4096:=by
  unfold vi at ak;split at ak
  ·cases ak
  ·omega
 have MA:=aFN aa;have fF:=zY (gt aa);have ki: ∀ x∈gt aa,(Lit.int .i64 x).wf=true:=fun x aj=>by
  obtain⟨q,aV,rfl⟩:=aiz.1 aj;have G: ∀ p∈aa,oE p:=by
   unfold vi at ak;split at ak
   ·cases ak
   ·split at ak
    ·assumption
    ·cases ak
  have:=G q aV;unfold oE at this;show (decide (IntKind.i64.min≤q.ah)&&decide (q.ah≤IntKind.i64.max))=true;rw[Bool.and_eq_true,decide_eq_true_eq,decide_eq_true_eq];show -9223372036854775808≤q.ah∧q.ah≤9223372036854775807;omega
 have EB:=D1 M h al aa (gt aa);simp only[go_sem,pn,qf];refine om [] [] (by decide) rfl rfl (aFC M bO h cd al fk hB aa ak) ?_;rintro _ _ ⟨rfl,rfl⟩;refine⟨.inl rfl,?_⟩;simp only[go_sem,pn,qf,Jn]
 (refine fy [1] (aFO (de (mJ M h al aa) (gt aa))) ?_;rintro _ _ ⟨rfl,rfl⟩;simp only[go_sem])
 (refine fy [1,2] (auO 224 (de (mJ M h al aa) (gt aa)) (gt aa) (by simp[de]) (aiy aa) ki (by omega)) ?_;rintro _ _ ⟨rfl,rfl⟩;simp only[go_sem])
 have RP: (fq (gt aa)).length≤4096:=by omega
 have aiH:tW M h al aa=sR M h al aa (fq (gt aa)).length:=by unfold tW sR;rw[List.take_length]
 have aiI:=fun c (av:c < (fq (gt aa)).length)=>aiF (M:=M) (h:=h) (al:=al) av;have aiJ:=fun c (av:c≤(fq (gt aa)).length)=>aiG (M:=M) (h:=h) (al:=al) av;rw[aiH];have cg: ∀ x∈fq (gt aa),x∈gt aa:=fun x aj=>(aER _ x).1 aj;generalize fq (gt aa)=K at RP aiH aiI aiJ cg ⊢;refine dN (fun D r=> ∃ (c:Nat),c≤K.length∧D= [(2,.pure 7 (ai al)),(12,.bE 1),(13,.own 3 (sR M h al aa c).length 0 (sR M h al aa c).length),(38,.pure 1 (cJ .i64 K)),(39,.int .i64 K.length),(40,.int .i64 c)]∧
  r= [.ag 32 2 [[.int .i64 M.off,.pure 2 (ai M.cS)]],.be (.map false [.int .i64] (de (mJ M h al aa) (gt aa))),.ag 224 1 [[.bE 1]],.ag 136 3 (ai (sR M h al aa c))])
  (fun D _=>match bs D 40 with| .int _ j=>(K.length-j).toNat|_=>0) ?_ ?_
 ·(refine E.iv 13 136 3 rfl (E.eW [2,12,13,38,39,40] ?_);simp only[go_sem])
  exact E.ac ⟨0,by omega,by simp[sR],by simp[sR,ai]⟩
 ·rintro D r ⟨c,av,rfl,rfl⟩;have fK:=dB (c:=c) (by omega);simp only[go_sem,pn,qf];refine cf ?_ ?_<;>intro ct<;>simp only[bC] at ct<;>simp only[go_sem,pn,qf]
  ·have aI:c < K.length:=by omega
   refine⟨by omega,by omega,?_⟩
   try simp only[Int.toNat_natCast]
   rw[tw aI,show K.getD c 0=K[c] by simp[List.getD_eq_getElem?_getD,aI]];have Uk:=aiI c aI;have aFQ:=aiJ c (by omega);have ay:=cg _ (List.getElem_mem aI);have aiK:=fun n=>Uj M h al aa K[c] n;generalize K[c]=B at Uk ay aiK ⊢;generalize aKo:sR M h al aa c=aY at Uk aFQ ⊢;have wB:aY.length≤65536:=by
    have:c*al.length≤4096*16:=Nat.mul_le_mul (by omega) fk;omega
   simp only[go_sem,pn,qf];rw[if_pos ay,Option.getD_some,show cp (mJ M h al aa B)=gV (cN M h al aa B) from rfl];refine⟨F0 _,by simp[gV,List.range,List.range.loop,Abs.cV],?_⟩;have aKp:fb [F.int .i64 0,.int .i64 0,.int .i64 0,.int .i64 0,.int .i64 0,.int .i64 0,.int .i64 0,.int .i64 0,.int .i64 0,.int .i64 0,.int .i64 0,.int .i64 0,.int .i64 0,.int .i64 0,.int .i64 0,.int .i64 0] 0 (gV (cN M h al aa B))=gV (cN M h al aa B):=by
    unfold fb;simp[F0]
   refine dN (fun D r=> ∃ (j:Nat),j≤al.length∧D= [(2,.pure 7 (ai al)),(12,.bE 1),(13,.own 3 (aY++ox M h al aa B j).length 0 (aY++ox M h al aa B j).length),(15,.int .i64 B),(16,.bd 4 1 0 0),(38,.pure 1 (cJ .i64 K)),(39,.int .i64 K.length),(40,.int .i64 c),(47,.pure 7 (ai al)),(48,.int .i64 al.length),(49,.int .i64 j)]∧
    r= [.ag 32 2 [[.int .i64 M.off,.pure 2 (ai M.cS)]],.be (.map false [.int .i64] (de (mJ M h al aa) (gt aa))),.ag 224 1 [[.bE 1]],.ag 136 3 (ai (aY++ox M h al aa B j)),.ag 227 16 [gV (cN M h al aa B)]])
    (fun D _=>match bs D 49 with| .int _ j=>(al.length-j).toNat|_=>0) ?_ ?_
   ·refine E.ac ⟨0,by omega,by simp[ox],?_⟩;simp[ox,F0]
   ·rintro D r ⟨j,aX,rfl,rfl⟩;have nf:=dB (c:=j) (by omega);simp only[go_sem,pn,qf];refine cf ?_ ?_<;>intro fH<;>simp only[bC] at fH<;>simp only[go_sem,pn,qf]
    ·have nC:j < al.length:=by omega
     refine⟨by omega,by omega,?_⟩
     try simp only[Int.toNat_natCast]
     rw[cT nC,←Jl nC];have Af:ox M h al aa B (j+1)=ox M h al aa B j++if 0 < cN M h al aa B j then [⟨B,(fL al j).name,cN M h al aa B j⟩] else []:=rfl
     have ud: (0:Int)≤j:=by omega
     have Jo: (j:Int) < 16:=by omega
     have eR: (gV (cN M h al aa B)).getD (j*1) F.cj= .int .i64 (cN M h al aa B j):=by rw[Nat.mul_one,aiB (by omega)]
     generalize fL al j=w at Af ⊢;simp only[go_sem,pn,qf,A4];refine⟨ud,Jo,by omega,?_⟩;rw[eR]
     by_cases hm:cN M h al aa B j>0
     ·rw[if_pos hm] at Af;simp only[go_sem,pn,qf,hm,ud,Jo,eR,Int.toNat_natCast];have AQ:=aiK j;refine⟨by omega,by rw[List.length_append];omega,?_⟩;rw[nf,aFM,List.append_assoc,←Af];have QG: (aY++ox M h al aa B j).length+1=(aY++ox M h al aa B (j+1)).length:=by rw[Af];simp;omega
      rw[QG]
      (refine E.bB [some 0,some 1,some 2,some 3,some 4] ?_;simp only[go_sem])
      refine E.ac ⟨⟨j+1,by omega,rfl,rfl⟩,?_⟩;simp only[go_sem];omega
     ·rw[if_neg hm,List.append_nil] at Af;simp only[go_sem,pn,qf,hm,nf]
      (refine E.bB [some 0,some 1,some 2,some 3,some 4] ?_;simp only[go_sem])
      refine E.ac ⟨⟨j+1,by omega,by rw[Af],by rw[Af]⟩,?_⟩;simp only[go_sem];omega
    ·obtain rfl:j=al.length:=by omega
     rw[fK];rw[←Uk]
     (refine E.bB [some 0,some 1,some 2,some 3] ?_;simp only[go_sem])
     refine E.ac ⟨⟨c+1,by omega,rfl,rfl⟩,?_⟩;simp only[go_sem];omega
  ·obtain rfl:c=K.length:=by omega
   (refine E.bB [some 3] ?_;simp only[go_sem])
   exact E.ac ⟨rfl,rfl⟩
end Go.Proofs.YtpincjkjoeopkaaGreatDoor.Pm
