/- Presences and working time. -/
import Derived.Test.YtpincjkjoeopkaaGreatDoorD31
set_option linter.all false
namespace Go.Proofs.YtpincjkjoeopkaaGreatDoor.Pr
open Go Go.Abs
def rQ:Int→List bx→Int
 |e,[]=>e
 |_,b::z=>rQ b.ab z
theorem Uu: ∀ {l:List bx} {e:Int} {b:bx},rQ e (l++ [b])=b.ab
 | [],_,_=>rfl
 |x::z,_,b=>by rw[List.cons_append,rQ,Uu]
theorem yS: ∀ {l:List bx} {e t tC:Int},dd e t l=true→t≤tC→dd e tC l=true
 | [],_,_,_,_,_=>rfl
 |b::z,e,t,tC,h,ht=>by
  simp only[dd,hR,Bool.and_eq_true,decide_eq_true_eq] at h ⊢;exact⟨by omega,yS h.2 ht⟩
theorem Uv: ∀ {l:List bx} {e t:Int} {b:bx},dd e t l=true→rQ e l≤b.R→b.R < b.ab→b.ab≤t→dd e t (l++ [b])=true
 | [],e,t,b,_,h1,G,au=>by
  simp only[rQ] at h1;simp only[List.nil_append,dd,hR,Bool.and_true,decide_eq_true_eq];omega
 |x::z,e,t,b,h,h1,G,au=>by
  simp only[dd,Bool.and_eq_true] at h;simp only[List.cons_append,dd,Bool.and_eq_true];exact⟨h.1,Uv h.2 h1 G au⟩
def lH:Int→List dF→Int
 |e,[]=>e
 |_,p::z=>lH p.ab z
theorem aiY: ∀ {l:List dF} {e:Int} {p:dF},lH e (l++ [p])=p.ab
 | [],_,_=>rfl
 |x::z,_,p=>by rw[List.cons_append,lH,aiY]
theorem aiZ: ∀ {l:List dF} {e:Int} {p:dF},io e l=true→tL (lH e l) p=true→io e (l++ [p])=true
 | [],e,p,_,h=>by simp only[List.nil_append,io,Bool.and_true];exact h
 |x::z,e,p,h,h1=>by
  simp only[io,Bool.and_eq_true] at h;simp only[List.cons_append,io,Bool.and_eq_true];exact⟨h.1,aiZ h.2 h1⟩
structure Uw (aY:List Stamp) (n:Int) (p:dF):Prop where
 len:p.ab-p.R≤n
 R:rP aY p.R 1=true
 ab:rP aY p.ab 2=true
 ey: ∀ b∈p.ey,rP aY b.R 3=true∧(rP aY b.ab 4=true∨b.ab=p.ab)
structure Jq (aY:List Stamp) (n:Int) (k:Nat) (t:Int) (p:bN):Prop where
 aKs:p.vy=n
 bw:p.state=0∨p.state=1∨p.state=2
 t0:0≤t
 ok:io 0 p.fM=true
 rR: ∀ q∈p.fM,Uw aY n q
 bg:lH 0 p.fM≤t
 HS:p.fM.length+p.np.length+(if p.state=0 then 0 else 1)≤k
 fM:p.state≠0→lH 0 p.fM≤p.gu∧p.gu≤t∧0≤p.gu∧rP aY p.gu 1=true∧dd p.gu t p.ks=true∧p.ks.length≤k∧p.gu≤rQ p.gu p.ks∧rQ p.gu p.ks≤t∧ ∀ b∈p.ks,rP aY b.R 3=true∧rP aY b.ab 4=true
 aKt:p.state=2→rQ p.gu p.ks≤p.lg∧p.lg≤t∧rP aY p.lg 3=true
theorem Ux {aY:List Stamp}{n:Int}{k:Nat}{t:Int}{p:bN}(O:k+1≤1024)(ps:p.vy=n)(aA:io 0 p.fM=true)(mD: ∀ q∈p.fM,Uw aY n q)(yT:p.fM.length+p.np.length≤k)
 (mX:lH 0 p.fM≤p.gu) (ht:p.gu≤t) (EH:t≤120968639) (h0:0≤p.gu) (aGf:rP aY p.gu 1=true) (aGg:rP aY t 2=true) (pP:dd p.gu t p.ks=true) (nK:p.ks.length≤1024)
 (aGh: ∀ b∈p.ks,rP aY b.R 3=true∧(rP aY b.ab 4=true∨b.ab=t)):Jq aY n (k+1) t (p.qY t):=by
 unfold bN.qY bN.ea;split
 ·exact⟨ps,.inl rfl,by omega,aA,mD,by show lH 0 p.fM≤t;omega,by simp[bN.eP];omega,fun h=>(h rfl).elim,fun h=>by simp at h⟩
 ·split
  ·refine⟨ps,.inl rfl,by omega,?_,?_,?_,by simp;omega,fun h=>(h rfl).elim,fun h=>by simp at h⟩
   ·refine aiZ aA ?_;simp only[tL,hR,Bool.and_eq_true,decide_eq_true_eq];exact⟨⟨by omega,nK⟩,pP⟩
   ·intro q aV;simp only[List.mem_append,List.mem_singleton] at aV;rcases aV with aV|rfl
    ·exact mD q aV
    ·exact⟨by simp only;omega,aGf,aGg,aGh⟩
   ·show lH 0 (p.fM++ [_])≤t;rw[aiY];exact Int.le_refl _
  ·exact⟨ps,.inl rfl,by omega,aA,mD,by show lH 0 p.fM≤t;omega,by simp;omega,fun h=>(h rfl).elim,fun h=>by simp at h⟩
theorem aGi {aY:List Stamp}{I:Stamp}(h:I∈aY):rP aY I.time I.cB=true:=by
 simp only[rP,List.any_eq_true,Bool.and_eq_true,decide_eq_true_eq];exact⟨I,h,rfl,rfl⟩
theorem aGj {aY:List Stamp}{n:Int}{k:Nat}{t:Int}{p:bN}(h:Jq aY n k t p)(O:k+1≤1024){I:Stamp}(ao:I∈aY)(ht:t≤I.time)(EH:I.time≤120968639)(aKu:1≤I.cB∧I.cB≤4):Jq aY n (k+1) I.time (p.ji I):=by
 have hm:=aGi ao;obtain⟨vy,state,gu,lg,ks,fM,np⟩:=p;obtain⟨ps,cn,zR,aA,mD,mX,yT,Uy,aja⟩:=h;simp only at ps cn aA mD mX yT Uy aja;unfold bN.ji;rcases cn with rfl|rfl|rfl
 ·simp only[if_true] at yT;simp only[if_true];split
  ·rename_i kL;rw[kL] at hm;exact⟨ps,.inr (.inl rfl),by omega,aA,mD,by show lH 0 fM≤I.time;omega,by simp[bN.enter];omega,
    fun _=>⟨by show lH 0 fM≤I.time;omega,Int.le_refl _,by show 0≤I.time;omega,hm,rfl,by simp[bN.enter],by simp[bN.enter,rQ],by simp[bN.enter,rQ],by simp[bN.enter]⟩,fun h=>by simp[bN.enter] at h⟩
  ·exact⟨ps,.inl rfl,by omega,aA,mD,by show lH 0 fM≤I.time;omega,by simp[bN.eP];omega,fun h=>(h rfl).elim,fun h=>by simp[bN.eP] at h⟩
 ·obtain⟨cH,ff,a3,a4,a5,MV,Az,Au,a9⟩:=Uy (by decide);have ad:fM.length+np.length+1≤k:=by simpa using yT
  simp only[show ¬((1:Int)=0) by decide,if_false,if_true];split
  ·rename_i kL;rw[kL] at hm;exact⟨ps,.inr (.inl rfl),by omega,aA,mD,by show lH 0 fM≤I.time;omega,by simp[bN.enter,bN.eP];omega,
    fun _=>⟨by show lH 0 fM≤I.time;omega,Int.le_refl _,by show 0≤I.time;omega,hm,rfl,by simp[bN.enter],by simp[bN.enter,rQ],by simp[bN.enter,rQ],by simp[bN.enter]⟩,fun h=>by simp[bN.enter,bN.eP] at h⟩
  ·split
   ·rename_i sf;rw[sf] at hm;exact Ux O ps aA mD (by simp only;omega) cH (by simp only;omega) EH a3 a4 hm (yS a5 ht) (by simp only;omega) (fun b hb=>⟨(a9 b hb).1,.inl (a9 b hb).2⟩)
   ·split
    ·rename_i wD;rw[wD] at hm;exact⟨ps,.inr (.inr rfl),by omega,aA,mD,by show lH 0 fM≤I.time;omega,by simp;omega,
      fun _=>⟨cH,by simp only;omega,a3,a4,yS a5 ht,by simp only;omega,Az,by simp only;omega,a9⟩,fun _=>⟨by simp only;omega,Int.le_refl _,hm⟩⟩
    ·exact⟨ps,.inr (.inl rfl),by omega,aA,mD,by show lH 0 fM≤I.time;omega,by simp[bN.eP];omega,
      fun _=>⟨cH,by simp only[bN.eP];omega,a3,a4,yS a5 ht,by simp only[bN.eP];omega,Az,by simp only[bN.eP];omega,a9⟩,fun h=>by simp[bN.eP] at h⟩
 ·obtain⟨cH,ff,a3,a4,a5,MV,Az,Au,a9⟩:=Uy (by decide);obtain⟨b1,eJ,lX⟩:=aja rfl;have ad:fM.length+np.length+1≤k:=by simpa using yT
  simp only[show ¬((2:Int)=0) by decide,show ¬((2:Int)=1) by decide,if_false];split
  ·rename_i kL;rw[kL] at hm;exact⟨ps,.inr (.inl rfl),by omega,aA,mD,by show lH 0 fM≤I.time;omega,by simp[bN.enter,bN.eP];omega,
    fun _=>⟨by show lH 0 fM≤I.time;omega,Int.le_refl _,by show 0≤I.time;omega,hm,rfl,by simp[bN.enter],by simp[bN.enter,rQ],by simp[bN.enter,rQ],by simp[bN.enter]⟩,fun h=>by simp[bN.enter,bN.eP] at h⟩
  ·split
   ·rename_i sf;rw[sf] at hm;unfold bN.qg bN.eP;simp only;split
    ·refine Ux O ps aA mD (by simp only[List.length_append,List.length_cons,List.length_nil];omega) cH (by simp only;omega) EH a3 a4 hm (Uv (yS a5 ht) (by simp only;omega) (by simp only;omega) (by simp only;omega)) (by simp only[List.length_append,List.length_cons,List.length_nil];omega) (fun b hb=> ?_);simp only[List.mem_append,List.mem_singleton] at hb;rcases hb with hb|rfl
     ·exact⟨(a9 b hb).1,.inl (a9 b hb).2⟩
     ·exact⟨lX,.inr rfl⟩
    ·exact Ux O ps aA mD (by simp only[List.length_append,List.length_cons,List.length_nil];omega) cH (by simp only;omega) EH a3 a4 hm (yS a5 ht) (by simp only;omega) (fun b hb=>⟨(a9 b hb).1,.inl (a9 b hb).2⟩)
   ·split
    ·rename_i wD;rw[wD] at hm;exact⟨ps,.inr (.inr rfl),by omega,aA,mD,by show lH 0 fM≤I.time;omega,by simp[bN.eP];omega,
      fun _=>⟨cH,by simp only[bN.eP];omega,a3,a4,yS a5 ht,by simp only[bN.eP];omega,Az,by simp only[bN.eP];omega,a9⟩,fun _=>⟨by simp only[bN.eP];omega,Int.le_refl _,hm⟩⟩
    ·have Rz:I.cB=4:=by omega
     rw[Rz] at hm;unfold bN.qg;simp only;split
     ·refine⟨ps,.inr (.inl rfl),by omega,aA,mD,by show lH 0 fM≤I.time;omega,by simp;omega,
       fun _=>⟨cH,by simp only;omega,a3,a4,Uv (yS a5 ht) (by simp only;omega) (by simp only;omega) (by simp only;omega),by simp only[List.length_append,List.length_cons,List.length_nil];omega,by simp only[Uu];omega,by simp only[Uu];omega,fun b hb=> ?_⟩,fun h=>by simp at h⟩
      simp only[List.mem_append,List.mem_singleton] at hb;rcases hb with hb|rfl
      ·exact a9 b hb
      ·exact⟨lX,hm⟩
     ·exact⟨ps,.inr (.inl rfl),by omega,aA,mD,by show lH 0 fM≤I.time;omega,by simp;omega,
       fun _=>⟨cH,by simp only;omega,a3,a4,yS a5 ht,by simp only;omega,Az,by simp only;omega,a9⟩,fun h=>by simp at h⟩
theorem ajb {aY:List Stamp}{n:Int}: ∀ {l:List Stamp} {k:Nat} {t:Int} {p:bN},Jq aY n k t p→(∀ I∈l,I∈aY)→qM t l=true→k+l.length≤1024→Jq aY n (k+l.length) (aiX t l) (l.foldl bN.ji p)
 | [],_,_,_,h,_,_,_=>h
 |I::z,k,t,p,h,hL,ao,O=>by
  simp only[qM,Bool.and_eq_true,decide_eq_true_eq] at ao;simp only[List.length_cons] at O ⊢;have:=ajb (l:=z) (aGj h (by omega) (hL I (by simp)) (by omega) (by omega) ⟨by omega,by omega⟩) (fun x aj=>hL x (by simp[aj])) ao.2 (by omega);rw[show k+(z.length+1)=k+1+z.length from by omega];exact this
theorem aaI {aY:List Stamp}{n:Int}(hL:qM 0 aY=true)(cK:aY.length≤1024)(aH:1≤n)(GS:n≤10080):
 lb aY n=0∧lx (nQ aY n)=0∧(∀ p∈nQ aY n,Uw aY n p)∧(nQ aY n).length+(tY aY n).length≤aY.length:=by
 have ad:lb aY n=0:=by rw[lb,if_neg (by omega),if_neg (by omega),if_pos hL]
 have h:=ajb (aY:=aY) (n:=n) (l:=aY) (k:=0) (t:=0) (p:=qZ n) ⟨rfl,.inl rfl,by omega,rfl,by simp[qZ],by simp[qZ,lH],by simp[qZ],fun h=>(h rfl).elim,fun h=>by simp[qZ] at h⟩ (fun _ h=>h) hL (by omega);have bF: (ra aY n).bg.fM=(ra aY n).fM:=by unfold bN.bg;split<;>rfl
 have yT:=h.HS;have iI:aY.foldl bN.ji (qZ n)=ra aY n:=rfl;rw[iI] at h yT;have bK: (ra aY n).fM.length+(ra aY n).bg.np.length≤aY.length:=by
  unfold bN.bg;split
  ·rename_i ba;rw[if_pos ba] at yT;omega
  ·rename_i ba;rw[if_neg ba] at yT;simp[bN.eP];omega
 refine⟨ad,?_,?_,?_⟩
 ·rw[nQ,if_pos ad,bF,lx,if_neg (by omega),if_pos h.ok]
 ·rw[nQ,if_pos ad,bF];exact h.rR
 ·rw[nQ,if_pos ad,tY,if_pos ad,bF];exact bK
theorem LV: ∀ {l:List dF} {e:Int},io e l=true→0≤e→ ∀ p∈l,0≤p.R∧p.R < p.ab∧p.ab≤120968640∧p.ey.length≤1024∧dd p.R p.ab p.ey=true
 | [],_,_,_,p,ak=>by simp at ak
 |x::z,e,h,he,p,ak=>by
  simp only[io,tL,hR,Bool.and_eq_true,decide_eq_true_eq] at h;rcases List.mem_cons.1 ak with rfl|ak
  ·exact⟨by omega,by omega,by omega,h.1.1.2,h.1.2⟩
  ·exact LV h.2 (by omega) p ak
theorem LU {l:List dF}(h:lx l=0):io 0 l=true:=by
 unfold lx at h;split at h
 ·omega
 ·split at h
  ·assumption
  ·omega
open Go.Proofs.Tryz
theorem ajo {z:gK}(N:z.qh){t:Int}(e:Bool)(h0:0≤t):0≤um z t e∧t-60≤um z t e∧um z t e≤t+60:=by
 rw[um];split
 ·omega
 ·have hm:1≤z.eI∧z.eI≤60:=by unfold gK.qh at N;omega
  have iN:0≤t / z.eI:=Int.ediv_nonneg h0 (by omega);have oY:0≤t / z.eI*z.eI:=Int.mul_nonneg iN (by omega);have jK:t / z.eI*z.eI≤t:=Int.ediv_mul_le _ (by omega);have lp:t < (t / z.eI+1)*z.eI:=Int.lt_ediv_add_one_mul_self _ (by omega);rw[Int.add_mul,Int.one_mul] at lp;split
  ·omega
  ·split<;>omega
def HM (ae:bx):Prop:=(ae.R=0∧ae.ab=0)∨hR ae 0 120968640=true
theorem Zp (z:gK)(N:z.qh)(ae:bx)(Bx:HM ae)(aa:List dF)(kk:io 0 aa=true)(gy:aa.length≤1024):aO prog 228 [.agg (aJ.J z),.agg (aJ.J ae),.pure 3 (ai aa)] []
 (fun v rs=>v= .pure 2 (ai (kB z ae 0 aa))∧rs= []):=by
 refine hJ func228 afl (by simp[a228,xg]) ?_;have hC:=LV kk (by omega);simp only[go_sem,a228,xg,Ab,eY]
 repeat (refine E.ac ?_;simp only[go_sem])
 have UL: (!(ae.R==0&&ae.ab==0))=true↔ ¬(ae.R=0∧ae.ab=0):=by simp;omega
 generalize (!(ae.R==0&&ae.ab==0))=tj at UL ⊢;refine hv (fun D r=> ∃ (c:Nat) (last:Int) (bw:List bx),c≤aa.length∧kB z ae 0 aa=bw++kB z ae last (aa.drop c)∧0≤last∧last≤120968640∧bw.length≤c∧
  D= [(3,.bd 0 1 0 0),(4,.bd 1 1 0 0),(7,.own 2 bw.length 0 bw.length),(8,.bool tj),(9,.int .i64 last),(16,.pure 3 (ai aa)),(17,.int .i64 aa.length),(18,.int .i64 c)]∧
  r= [.ag 35 4 [[.int .i64 z.eI,.int .i64 z.lw,.int .i64 z.lP,.pure 2 (ai z.iA)]],.ag 64 2 [[.int .i64 ae.R,.int .i64 ae.ab]],.ag 64 2 (ai bw)])
  (fun D _=>match bs D 18 with| .int _ j=>(aa.length-j).toNat|_=>0) ?_ ?_
 ·(refine E.iv 7 64 2 rfl (E.eW [3,4,7,8,9,16,17,18] ?_);simp only[go_sem])
  exact E.ac ⟨0,0,[],by omega,by simp,by omega,by omega,by simp,rfl,rfl⟩
 ·rintro D r ⟨c,last,bw,kv,cn,oY,jK,fF,rfl,rfl⟩;simp only[go_sem,a228,xg]
  (refine E.ac ?_;simp only[go_sem])
  refine dj ?_ ?_<;>intro dI<;>simp only[bC] at dI<;>simp only[go_sem,a228,xg]
  ·have aI:c < aa.length:=by omega
   have nT: (0:Int)≤c:=by omega
   have vB: (c:Int) < aa.length:=by omega
   have eR: (ai aa).getD c []= [.int .i64 aa[c].R,.int .i64 aa[c].ab,.pure 2 (ai aa[c].ey)]:=by rw[cT aI,H3]
   have ak:=hC _ (List.getElem_mem aI);have dn:=dB (c:=c) (by omega);rw[oF aI,kB] at cn;generalize aa[c]=p at eR ak cn;obtain⟨g1,bR,dq⟩:=ajo N (t:=p.R) false (by omega);obtain⟨gP,uN,aKA⟩:=ajo N (t:=p.ab) true (by omega);have aGE:=ajj z N p.R false (by omega) (by omega);have SV:=ajj z N p.ab true (by omega) (by omega);generalize vD:um z p.R false=AZ at *;generalize zR:um z p.ab true=t0 at *
   (refine E.ac ?_;simp only[go_sem])
   simp only[go_sem,nT,vB,eR]
   (refine E.ac ?_;simp only[go_sem])
   refine gG aGE rfl rfl ?_;simp only[go_sem];refine gG SV rfl rfl ?_;simp only[go_sem]
   (refine E.ac ?_;simp only[go_sem])
   cases tj with
   |false=>
    have Dg:ae.R=0∧ae.ab=0:=by simpa using UL
    try simp only[go_sem]
    repeat (refine E.ac ?_;try simp only[go_sem])
    have ho:mo z ae last p=⟨max AZ last,min t0 120968640⟩:=by rw[mo];simp[vD,zR,Dg]
    rw[ho] at cn;simp only at cn
    repeat (refine E.ac ?_;try simp only[go_sem])
    refine dj ?_ ?_<;>intro ct<;>simp only[bC] at ct<;>simp only[go_sem,a228,xg]
    ·rw[if_pos ct] at cn;refine⟨by omega,?_⟩
     (refine E.ac ?_;simp only[go_sem])
     rw[dn]
     (refine E.bB [some 0,some 1,some 2] ?_;simp only[go_sem])
     refine E.ac ⟨⟨c+1,_,bw++ [⟨max AZ last,min t0 120968640⟩],by omega,by rw[cn,List.append_assoc];rfl,by omega,by omega,by simp;omega,by simp,by simp⟩,?_⟩;simp only[go_sem];omega
    ·rw[if_neg (by omega)] at cn
     (refine E.ac ?_;simp only[go_sem])
     rw[dn]
     (refine E.bB [some 0,some 1,some 2] ?_;simp only[go_sem])
     refine E.ac ⟨⟨c+1,_,bw,by omega,cn,by omega,by omega,by omega,rfl,rfl⟩,?_⟩;simp only[go_sem];omega
   |true=>
    have Dg: ¬(ae.R=0∧ae.ab=0):=UL.1 rfl;have aKB:0≤ae.R∧ae.R < ae.ab∧ae.ab≤120968640:=by
     rcases Bx with h|h
     ·exact absurd h Dg
     ·simpa[hR] using h
    simp only[go_sem];refine bM (aji p.R ae.R z.lP (by omega) (by omega)) rfl rfl ?_;have ajp:=aji p.ab ae.ab z.lP (by omega) (by omega)
    by_cases F6:p.R-ae.R≤z.lP∧ae.R-p.R≤z.lP
    ·rw[decide_eq_true F6];simp only[go_sem]
     repeat (refine E.ac ?_;try simp only[go_sem])
     refine bM ajp rfl rfl ?_
     by_cases yW:p.ab-ae.ab≤z.lP∧ae.ab-p.ab≤z.lP
     ·rw[decide_eq_true yW];simp only[go_sem];have ho:mo z ae last p=⟨max ae.R last,min ae.ab 120968640⟩:=by rw[mo];simp[Dg,F6,yW]
      rw[ho] at cn;simp only at cn
      repeat (refine E.ac ?_;try simp only[go_sem])
      refine dj ?_ ?_<;>intro ct<;>simp only[bC] at ct<;>simp only[go_sem,a228,xg]
      ·rw[if_pos ct] at cn;refine⟨by omega,?_⟩
       (refine E.ac ?_;simp only[go_sem])
       rw[dn]
       (refine E.bB [some 0,some 1,some 2] ?_;simp only[go_sem])
       refine E.ac ⟨⟨c+1,_,bw++ [⟨max ae.R last,min ae.ab 120968640⟩],by omega,by rw[cn,List.append_assoc];rfl,by omega,by omega,by simp;omega,by simp,by simp⟩,?_⟩;simp only[go_sem];omega
      ·rw[if_neg (by omega)] at cn
       (refine E.ac ?_;simp only[go_sem])
       rw[dn]
       (refine E.bB [some 0,some 1,some 2] ?_;simp only[go_sem])
       refine E.ac ⟨⟨c+1,_,bw,by omega,cn,by omega,by omega,by omega,rfl,rfl⟩,?_⟩;simp only[go_sem];omega
     ·rw[decide_eq_false yW];simp only[go_sem];have ho:mo z ae last p=⟨max ae.R last,min t0 120968640⟩:=by rw[mo];simp[Dg,F6,yW,zR]
      rw[ho] at cn;simp only at cn
      repeat (refine E.ac ?_;try simp only[go_sem])
      refine dj ?_ ?_<;>intro ct<;>simp only[bC] at ct<;>simp only[go_sem,a228,xg]
      ·rw[if_pos ct] at cn;refine⟨by omega,?_⟩
       (refine E.ac ?_;simp only[go_sem])
       rw[dn]
       (refine E.bB [some 0,some 1,some 2] ?_;simp only[go_sem])
       refine E.ac ⟨⟨c+1,_,bw++ [⟨max ae.R last,min t0 120968640⟩],by omega,by rw[cn,List.append_assoc];rfl,by omega,by omega,by simp;omega,by simp,by simp⟩,?_⟩;simp only[go_sem];omega
      ·rw[if_neg (by omega)] at cn
       (refine E.ac ?_;simp only[go_sem])
       rw[dn]
       (refine E.bB [some 0,some 1,some 2] ?_;simp only[go_sem])
       refine E.ac ⟨⟨c+1,_,bw,by omega,cn,by omega,by omega,by omega,rfl,rfl⟩,?_⟩;simp only[go_sem];omega
    ·rw[decide_eq_false F6];simp only[go_sem]
     repeat (refine E.ac ?_;try simp only[go_sem])
     refine bM ajp rfl rfl ?_
     by_cases yW:p.ab-ae.ab≤z.lP∧ae.ab-p.ab≤z.lP
     ·rw[decide_eq_true yW];simp only[go_sem];have ho:mo z ae last p=⟨max AZ last,min ae.ab 120968640⟩:=by rw[mo];simp[Dg,F6,yW,vD]
      rw[ho] at cn;simp only at cn
      repeat (refine E.ac ?_;try simp only[go_sem])
      refine dj ?_ ?_<;>intro ct<;>simp only[bC] at ct<;>simp only[go_sem,a228,xg]
      ·rw[if_pos ct] at cn;refine⟨by omega,?_⟩
       (refine E.ac ?_;simp only[go_sem])
       rw[dn]
       (refine E.bB [some 0,some 1,some 2] ?_;simp only[go_sem])
       refine E.ac ⟨⟨c+1,_,bw++ [⟨max AZ last,min ae.ab 120968640⟩],by omega,by rw[cn,List.append_assoc];rfl,by omega,by omega,by simp;omega,by simp,by simp⟩,?_⟩;simp only[go_sem];omega
      ·rw[if_neg (by omega)] at cn
       (refine E.ac ?_;simp only[go_sem])
       rw[dn]
       (refine E.bB [some 0,some 1,some 2] ?_;simp only[go_sem])
       refine E.ac ⟨⟨c+1,_,bw,by omega,cn,by omega,by omega,by omega,rfl,rfl⟩,?_⟩;simp only[go_sem];omega
     ·rw[decide_eq_false yW];simp only[go_sem];have ho:mo z ae last p=⟨max AZ last,min t0 120968640⟩:=by rw[mo];simp[Dg,F6,yW,vD,zR]
      rw[ho] at cn;simp only at cn
      repeat (refine E.ac ?_;try simp only[go_sem])
      refine dj ?_ ?_<;>intro ct<;>simp only[bC] at ct<;>simp only[go_sem,a228,xg]
      ·rw[if_pos ct] at cn;refine⟨by omega,?_⟩
       (refine E.ac ?_;simp only[go_sem])
       rw[dn]
       (refine E.bB [some 0,some 1,some 2] ?_;simp only[go_sem])
       refine E.ac ⟨⟨c+1,_,bw++ [⟨max AZ last,min t0 120968640⟩],by omega,by rw[cn,List.append_assoc];rfl,by omega,by omega,by simp;omega,by simp,by simp⟩,?_⟩;simp only[go_sem];omega
      ·rw[if_neg (by omega)] at cn
       (refine E.ac ?_;simp only[go_sem])
       rw[dn]
       (refine E.bB [some 0,some 1,some 2] ?_;simp only[go_sem])
       refine E.ac ⟨⟨c+1,_,bw,by omega,cn,by omega,by omega,by omega,rfl,rfl⟩,?_⟩;simp only[go_sem];omega
  ·have vC:c=aa.length:=by omega
   rw[vC,List.drop_length,kB,List.append_nil] at cn
   (refine E.kK [] [2] ?_;simp only[go_sem])
   (refine E.ac ?_;simp only[go_sem])
   (refine E.ac ?_;simp only[go_sem])
   refine E.ac ⟨?_,rfl⟩;rw[cn];rfl
theorem HP {z:gK}{ae:bx}: ∀ {aa:List dF} {last:Int},dd last 120968640 (kB z ae last aa)=true
 | [],_=>rfl
 |p::aa,last=>by
  have ih:=HP (z:=z) (ae:=ae) (aa:=aa) (last:=max last (mo z ae last p).ab);have h1:last≤(mo z ae last p).R:=by simp only[mo];omega
  have G: (mo z ae last p).ab≤120968640:=by simp only[mo];omega
  rw[kB];split
  ·rw[dd,Bool.and_eq_true];exact⟨by simp only[hR,decide_eq_true_eq];omega,F5 ih (by omega)⟩
  ·exact F5 ih (by omega)
theorem yz: ∀ {l z:List bx} {e t aW:Int},dd e t l=true→dd t aW z=true→e≤t→t≤aW→dd e aW (l++z)=true
 | [],z,e,t,aW,_,h,he,_=>F5 h he
 |b::l,z,e,t,aW,h,G,he,hN=>by
  simp only[dd,hR,Bool.and_eq_true,decide_eq_true_eq] at h;rw[List.cons_append,dd,Bool.and_eq_true];exact⟨by simp only[hR,decide_eq_true_eq];omega,yz h.2 G (by omega) hN⟩
theorem Ig: ∀ {aa:List dF} {e:Int},io e aa=true→dd e 120968640 (na aa)=true
 | [],_,_=>rfl
 |p::aa,e,h=>by
  simp only[io,tL,hR,Bool.and_eq_true,decide_eq_true_eq] at h;have ih:=Ig h.2;show dd e 120968640 (p.ey++na aa)=true;exact yz (t:=p.ab) (F5 h.1.2 (by omega)) ih (by omega) (by omega)
theorem ajq: ∀ {aa:List dF},(∀ p∈aa,p.ey.length≤1024)→(na aa).length≤1024*aa.length
 | [],_=>by simp[na]
 |p::aa,h=>by
  have ih:=ajq (aa:=aa) (fun q aV=>h q (by simp[aV]));have ak:=h p (by simp);show (p.ey++na aa).length≤_;rw[List.length_append,List.length_cons];omega
theorem LS {z:gK}(h:mq z=0):z.qh∧lz (-1) 0 z.iA=true∧z.iA.length≤16:=by
 unfold mq at h;split at h
 ·omega
 ·split at h
  ·rename_i h1;exact⟨h1.1,h1.2,by omega⟩
  ·omega
theorem Sc {z:gK}{ae:bx}{aa:List dF}(h:qD z ae aa=0):mq z=0∧HM ae∧lx aa=0∧da (kB z ae 0 aa)≤100000:=by
 unfold qD at h;split at h
 ·omega
 ·rename_i h1;split at h
  ·omega
  ·rename_i G;split at h
   ·omega
   ·rename_i au;split at h
    ·omega
    ·refine⟨by omega,?_,by omega,by omega⟩;unfold HM
     by_cases ba:ae.R=0∧ae.ab=0
     ·exact .inl ba
     ·right
      cases qE:hR ae 0 120968640
      ·exact absurd ⟨ba,qE⟩ G
      ·rfl
theorem avm (z:gK)(ae:bx)(bP ah:Int)(aa:List dF)(h:qD z ae aa=0):aO prog 156 [.agg (aJ.J z),.agg (aJ.J ae),.agg [.int .i64 bP,.int .i64 ah,.pure 3 (ai aa)]] []
 (fun v rs=>v= .bo [.agg [.int .i64 ah,.pure 2 (ai (pb z ae aa))],.int .i64 0]∧rs= []):=by
 obtain⟨h1,G,au,bv⟩:=Sc h;obtain⟨yn,kX,nK⟩:=LS h1;have tG:=LU au;have hC:=LV tG (by omega);have cK:aa.length≤1024:=by unfold lx at au;split at au<;>omega
 refine cu func156 Rb (by simp[EZ,HO]) ?_;simp only[go_sem,EZ,HO,Ab,eY];refine bM (Re z) rfl rfl ?_;rw[h1];simp only[go_sem];have hA:=Zp z yn ae G aa tG cK;have pv:=HP (z:=z) (ae:=ae) (aa:=aa) (last:=0);have E0:=Rf pv (by omega);have LW:=nO E0;have hN:=LX _ E0 (by omega);have hp:=Ig tG;have cU:=aGr aa cK (fun p ak=>(hC p ak).2.2.2.1);have aKC:=ajq (aa:=aa) (fun p ak=>(hC p ak).2.2.2.1);have hW:=aGt _ _ E0 bv hp (by omega);obtain⟨fK,E8⟩:=Sd (z:= []) hp (by omega) E0 (by simp[gz]);have dp:=aGz z.iA _ nK kX fK (by simp only[da] at E8;omega);have nH:pb z ae aa=if (mx (kB z ae 0 aa) (na aa) []).isEmpty then [] else pR z.iA (vg (mx (kB z ae 0 aa) (na aa) [])) (mx (kB z ae 0 aa) (na aa) []):=rfl
 generalize kB z ae 0 aa=bw at *;generalize na aa=Ot at *;generalize mx bw Ot []=aKD at *;have ay:decide (100000 < da bw)=false:=decide_eq_false (by omega)
 by_cases ba:ae.R=0∧ae.ab=0
 ·have hb: (!(ae.R==0&&ae.ab==0))=false:=by simp[ba.1,ba.2]
  simp only[go_sem,hb];refine bM (lQ aa (by omega)) rfl rfl ?_;rw[au];simp only[go_sem];refine bM hA rfl rfl ?_;simp only[go_sem];refine bM hN rfl rfl ?_;simp only[go_sem,ay];refine gG cU rfl rfl ?_;simp only[go_sem];refine gG hW rfl rfl ?_;simp only[go_sem];refine gG dp rfl rfl ?_;simp only[go_sem];exact E.bg rfl ⟨by rw[nH],rfl⟩
 ·have hb: (!(ae.R==0&&ae.ab==0))=true:=by simp;omega
  have qE:hR ⟨ae.R,ae.ab⟩ 0 120968640=true:=by rcases G with G|G;exact absurd G ba;exact G
  simp only[go_sem,hb];refine bM (Zr ae.R ae.ab) rfl rfl ?_;rw[qE];simp only[go_sem];refine bM (lQ aa (by omega)) rfl rfl ?_;rw[au];simp only[go_sem];refine bM hA rfl rfl ?_;simp only[go_sem];refine bM hN rfl rfl ?_;simp only[go_sem,ay];refine gG cU rfl rfl ?_;simp only[go_sem];refine gG hW rfl rfl ?_;simp only[go_sem];refine gG dp rfl rfl ?_;simp only[go_sem];exact E.bg rfl ⟨by rw[nH],rfl⟩
end Go.Proofs.YtpincjkjoeopkaaGreatDoor.Pr
