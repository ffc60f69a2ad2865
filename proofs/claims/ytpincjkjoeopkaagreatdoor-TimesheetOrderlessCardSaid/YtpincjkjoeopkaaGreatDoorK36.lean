/- Events and bands. -/
import Derived.Test.YtpincjkjoeopkaaGreatDoorK25
import Derived.Test.YtpincjkjoeopkaaGreatDoorK4
import Derived.Test.YtpincjkjoeopkaaGreatDoorK15
set_option linter.unusedSimpArgs false
set_option linter.unusedVariables false
set_option linter.unusedSectionVars false
namespace Go.Proofs.YtpincjkjoeopkaaGreatDoor.Ib
open Go Go.Abs
open Go.Proofs.Tryz
def tb (t E:Int):Prop:=0≤t∧t≤65535∧0≤E∧E≤2147483647
def qT (e:Ev):Prop:=tb e.da e.M∧1≤e.bh∧e.bh≤2147483647∧0≤e.time∧e.time≤120968639∧
 ((1≤e.cH∧e.cH≤4∧e.ln=0∧e.fa=0)∨((e.cH=5∨e.cH=6)∧tb e.ln e.fa))
instance (t E:Int):Decidable (tb t E):=by unfold tb;infer_instance
instance (e:Ev):Decidable (qT e):=by unfold qT;infer_instance
theorem afG (t E:Int):aK prog 181 [.agg [.int .i64 t,.int .i64 E]] [] (fun v d=>v= .bool (decide (tb t E))∧d= []):=by
 refine cr func181 adj (by simp[Hr,Mo]) ?_;simp only[go_sem,Hr,Mo]
 repeat' ((first|refine gF ?_ ?_|refine gP ?_ ?_|refine cg ?_ ?_|refine dg ?_ ?_)<;>intro ao<;>(have ae:=ao;try simp only[bA] at ae)<;>(first|omega| (simp only[go_sem,ao,Hr,Mo];clear ao)))
 all_goals (refine s.bb rfl ⟨?_,rfl⟩;congr 1;first| (rw[decide_eq_decide];simp only[tb];omega)| (symm;rw[decide_eq_false_iff_not];simp only[tb];omega))
theorem aBG (e:Ev):aK prog 94 [.agg (aG.F e)] [] (fun v d=>v= .bool (decide (qT e))∧d= []):=by
 refine cr func94 abO (by simp[BJ,Ez]) ?_;simp only[go_sem,BJ,Ez,us];refine bH (afG _ _) rfl rfl ?_;simp only[go_sem,BJ,Ez]
 repeat' ((first|refine gF ?_ ?_|refine gP ?_ ?_|refine cg ?_ ?_|refine dg ?_ ?_)<;>intro ao<;>(have ae:=ao;try simp only[bA] at ae)<;>(first|omega| (simp only[go_sem,ao,BJ,Ez];clear ao)))
 all_goals (try (refine bH (afG _ _) rfl rfl ?_;simp only[go_sem,BJ,Ez]))
 all_goals (refine s.bb rfl ⟨congrArg z.bool ?_,rfl⟩;rw[Bool.eq_iff_iff];simp only[bA,Bool.false_eq_true,false_iff,true_iff,iff_true,iff_false,and_true,true_and] at *;try simp only[qT,tb] at *;omega)
def ul (e:Ev):Prop:=qT e∧e.da≤3∧1000≤e.time∧e.bh≤2
theorem afH (l:List Int)(hl:kx l):vd prog 143 91 [] l (fun v=> ∃ e:Ev,v= .agg (aG.F e)∧ul e):=by
 intro aD h0 h1;refine cr func91 abL (by simp[Hq,Mp]) ?_;simp only[go_sem,Hq,Mp];refine wL (afI l hl) rfl rfl h0 h1 ?_;rintro _ aD _ _ ⟨da,M,rfl,_,_,_,_⟩;simp only[go_sem]
 (refine ie (fB l hl 6 (by omega)) ?_;rintro _ aD _ _ ⟨x,rfl,_,_⟩;simp only[go_sem])
 have ad:x.tdiv 5=x / 5:=Int.tdiv_eq_ediv_of_nonneg (by omega);refine⟨by omega,?_⟩;refine wL (Mq l hl) rfl rfl (by omega) (by omega) ?_;rintro _ aD _ _ ⟨t,rfl,_,_⟩;simp only[go_sem]
 (refine iy [1,2,3,4,1,2,5,6] (gG l hl _ (by simp) (by simp)) ?_;rintro _ aD _ _ ⟨k,bV,rfl⟩;simp only[fA] at bV;simp only[go_sem])
 rw[ad];simp (disch:=omega) only[bf,Vp,Vq];refine cg ?_ ?_<;>intro ao<;>simp only[bA] at ao<;>simp only[go_sem,Hq,Mp]
 ·refine wL (afI l hl) rfl rfl (by omega) (by omega) ?_;rintro _ aD _ _ ⟨ln,fa,rfl,_,_,_,_⟩;simp only[go_sem];exact s.tape rfl (by omega) (by omega) ⟨⟨_,_,_,_,_,_,_⟩,rfl,by simp only[ul,qT,tb,and_true];omega⟩
 ·exact s.tape rfl (by omega) (by omega) ⟨⟨_,_,_,_,_,_,_⟩,rfl,by simp only[ul,qT,tb,and_true];omega⟩
theorem awd (l:List Int)(hl:kx l)(n:Int)(Gh:0≤n)(aB:n≤1000)(aD:Int)(h0:0≤aD)(h1:aD≤l.length):aK prog 31 [.aW 0 1 0 0,.int .i64 n] [fx l aD]
 (fun v rs=> ∃ (a:Int) (al:List Ev),v= .own 1 al.length 0 al.length∧rs= [fx l a,.aa 71 7 (ac al)]∧0≤a∧a≤l.length∧al.length≤n∧ ∀ e∈al,ul e):=by
 refine cr func31 aaZ (by simp[a31,BQ]) ?_;simp only[go_sem,a31,BQ,fx];simp (disch:=omega) only[bf,Vp,Vq]
 (refine ie (fB l hl (n+1) (by omega)) ?_;rintro _ aD _ _ ⟨k,rfl,_,_⟩;simp only[go_sem])
 refine dR (fun r d=> ∃ (a:Int) (al:List Ev) (j:Int),r= [(0,.aW 0 1 0 0),(5,.own 1 al.length 0 al.length),(6,.int .i64 j)]∧d= [dK 143 l a,.aa 71 7 (ac al)]∧0≤a∧a≤l.length∧0≤j∧al.length+j≤n∧ ∀ e∈al,ul e)
  (fun r _=>match bn r 6 with| .int _ j=>j.toNat|_=>0) ?_ ?_
 ·(refine s.iI 5 71 7 rfl (s.eW [0,5,6] ?_);simp only[go_sem])
  exact s.U ⟨aD,[],k,rfl,rfl,by omega,by omega,by omega,by simp;omega,by simp⟩
 ·rintro r d ⟨aD,al,j,rfl,rfl,_,_,_,_,iu⟩;simp only[go_sem,a31,BQ];refine cg ?_ ?_<;>intro ao<;>simp only[bA] at ao<;>simp only[go_sem]
  ·refine gF ?_ ?_<;>intro Z<;>simp only[go_sem,Z]<;>simp only[bA] at Z
   ·(refine ie (fB l hl 8 (by omega)) ?_;rintro _ aD _ _ ⟨x,rfl,_,_⟩;simp only[go_sem])
    refine cg ?_ ?_<;>intro V<;>simp only[go_sem,a31,BQ]
    ·(refine ie (fB l hl (al.length:Int) (by omega)) ?_;rintro _ aD _ _ ⟨y,rfl,_,_⟩;simp only[go_sem])
     refine⟨by omega,by omega,?_⟩;rw[cQ (by omega)];simp only[go_sem];refine⟨by omega,?_⟩
     (refine s.bw [some 0,some 1] ?_;simp only[go_sem])
     rw[bf (by omega) (by omega)];refine s.U ⟨⟨aD,al++ [al[y.toNat]],j-1,by simp,rfl,by omega,by omega,by omega,by simp;omega,?_⟩,?_⟩
     ·intro e he;simp only[List.mem_append,List.mem_singleton] at he;rcases he with he|rfl
      ·exact iu e he
      ·exact iu _ (List.getElem_mem _)
     ·simp only[go_sem];omega
    ·refine wL (afH l hl) rfl rfl (by omega) (by omega) ?_;rintro _ aD _ _ ⟨e,rfl,he⟩;simp only[go_sem,a31,BQ];refine⟨by omega,?_⟩
     (refine s.bw [some 0,some 1] ?_;simp only[go_sem])
     rw[bf (by omega) (by omega)];refine s.U ⟨⟨aD,al++ [e],j-1,by simp,rfl,by omega,by omega,by omega,by simp;omega,?_⟩,?_⟩
     ·intro cA rA;simp only[List.mem_append,List.mem_singleton] at rA;rcases rA with rA|rfl
      ·exact iu cA rA
      ·exact he
     ·simp only[go_sem];omega
   ·refine wL (afH l hl) rfl rfl (by omega) (by omega) ?_;rintro _ aD _ _ ⟨e,rfl,he⟩;simp only[go_sem,a31,BQ];refine⟨by omega,?_⟩
    (refine s.bw [some 0,some 1] ?_;simp only[go_sem])
    rw[bf (by omega) (by omega)];refine s.U ⟨⟨aD,al++ [e],j-1,by simp,rfl,by omega,by omega,by omega,by simp;omega,?_⟩,?_⟩
    ·intro cA rA;simp only[List.mem_append,List.mem_singleton] at rA;rcases rA with rA|rfl
     ·exact iu cA rA
     ·exact he
    ·simp only[go_sem];omega
  ·exact s.U ⟨aD,al,rfl,rfl,by omega,by omega,by omega,iu⟩
deriving instance DecidableEq for Ev
deriving instance DecidableEq for Ky
deriving instance DecidableEq for Stamp
def zI {bd:Type}[DecidableEq bd](acc:List bd)(x:bd):List bd:=if acc.getLast?=some x then acc else acc++ [x]
def hT {bd:Type}[DecidableEq bd](l:List bd):List bd:=l.foldl zI []
theorem HT {bd:Type}[DecidableEq bd](l:List bd)(x:bd):hT (l++ [x])=zI (hT l) x:=by simp[hT]
theorem ut {bd:Type}{P:List bd→Prop}(h0:P [])(h1: ∀ l x,P l→P (l++ [x]))(l:List bd):P l:=by
 rw[←List.reverse_reverse l]
 induction l.reverse with
 |nil=>exact h0
 |cons x l ih=>rw[List.reverse_cons];exact h1 _ _ ih
theorem ago {bd:Type}[DecidableEq bd](l:List bd): (hT l).getLast?=l.getLast?:=by
 induction l using ut with
 |h0=>rfl
 |h1 l x ih=>
  rw[HT];unfold zI;split
  ·next h=>rw[h];simp
  ·simp
theorem R4 {bd:Type}[DecidableEq bd]{l:List bd}{q:Nat}(h0:0 < q)(h:q < l.length):hT (l.take (q+1))=if l[q]=l[q-1] then hT (l.take q) else hT (l.take q)++ [l[q]]:=by
 rw[List.take_succ_eq_append_getElem h,HT];unfold zI;rw[ago];have: (l.take q).getLast?=some l[q-1]:=by
  rw[List.getLast?_eq_getElem?,List.length_take,show min q l.length-1=q-1 from by omega,List.getElem?_take,if_pos (by omega),List.getElem?_eq_getElem (by omega)]
 rw[this]
 by_cases B:l[q]=l[q-1]
 ·rw[if_pos B,if_pos (by rw[B])]
 ·rw[if_neg B,if_neg (fun h=>B (by simpa using h.symm))]
theorem afw {bd:Type}[DecidableEq bd](l:List bd): (hT l).length≤l.length:=by
 induction l using ut with
 |h0=>simp[hT]
 |h1 l x ih=>
  rw[HT];unfold zI;split<;>simp<;>omega
theorem SF {bd:Type}[DecidableEq bd](l:List bd)(a:bd):a∈hT l↔a∈l:=by
 induction l using ut with
 |h0=>simp[hT]
 |h1 l x ih=>
  rw[HT];unfold zI;split
  ·next h=>
   rw[ih,List.mem_append,List.mem_singleton];rw[ago] at h;have:=List.mem_of_getLast? h;constructor
   ·exact .inl
   ·rintro (h|rfl)
    ·exact h
    ·exact this
  ·rw[List.mem_append,List.mem_append,ih]
theorem Mj {bd:Type}[DecidableEq bd]{l:List bd}: ∀ q,q≤l.length→(∀ c (h:c < l.length),0 < c→c < q→l[c]≠l[c-1])→hT (l.take q)=l.take q
 |0,_,_=>by simp[hT]
 |1,h,_=>by
  cases l with
  |nil=>simp[hT]
  |cons x l=>simp[hT,zI]
 |q+2,h,aq=>by
  have ih:=Mj (l:=l) (q+1) (by omega) fun c h1 B am=>aq c h1 B (by omega);rw[R4 (by omega) (by omega),if_neg (aq (q+1) (by omega) (by omega) (by omega)),ih,←List.take_succ_eq_append_getElem (by omega)]
theorem agp (a:Ev): ¬jl a a:=by unfold jl;omega
theorem aCv {a b F:Ev}:jl a b→jl b F→jl a F:=by unfold jl;omega
theorem aCw {a b:Ev}:jl a b→ ¬jl b a:=by unfold jl;omega
theorem agq {a b:Ev}(h1: ¬jl a b)(B: ¬jl b a):a=b:=by
 unfold jl at *;exact Ev.ext' (by omega) (by omega) (by omega) (by omega) (by omega) (by omega) (by omega)
def rT (l:List Ev):Prop:=l.Pairwise jl
theorem agr {a b:List Ev}(aw:rT a)(Z:rT b)(h: ∀ e,e∈a↔e∈b):a=b:=by
 have aCx:a.Nodup:=List.Pairwise.imp (S:=fun x y=>x≠y) (fun {x y} h (e:x=y)=>agp x (by subst e;exact h)) aw;have aCy:b.Nodup:=List.Pairwise.imp (S:=fun x y=>x≠y) (fun {x y} h (e:x=y)=>agp x (by subst e;exact h)) Z;exact ((List.perm_ext_iff_of_nodup aCx aCy).2 h).eq_of_pairwise (fun x y _ _ h1 B=>(aCw h1 B).elim) aw Z
theorem aCz {l:List Ev}(h:l.Pairwise fun x y=> ¬jl y x):rT (hT l):=by
 induction l using ut with
 |h0=>simp[hT,rT]
 |h1 l x ih=>
  rw[List.pairwise_append] at h;have ih:=ih h.1;rw[HT];unfold zI;split
  ·exact ih
  ·next hne=>
   unfold rT at *;rw[List.pairwise_append];refine⟨ih,by simp,fun a aw b Z=> ?_⟩;rw[List.mem_singleton] at Z;subst Z;have h1:=h.2.2 a ((SF l a).1 aw) b (by simp);apply Classical.byContradiction;intro B;have e:=agq B h1;subst e;apply hne;cases hl: (hT l).getLast? with
   |none=>rw[List.getLast?_eq_none_iff] at hl;rw[hl] at aw;simp at aw
   |some D=>
    congr 1;obtain⟨ys,kr⟩:=List.getLast?_eq_some_iff.1 hl;rw[kr,List.mem_append,List.mem_singleton] at aw;rcases aw with aw|rfl
    ·rw[kr,List.pairwise_append] at ih;have am:=ih.2.2 a aw D (by simp);have bp:=h.2.2 D ((SF l D).1 (by rw[kr];simp)) a (by simp);exact (bp am).elim
    ·rfl
instance (a b:Ev):Decidable (jl a b):=by unfold jl;infer_instance
def tf (e:Ev):List Ev→List Ev
 | []=> [e]
 |x::ai=>if jl e x then e::x::ai else if e=x then x::ai else x::tf e ai
def fi (l:List Ev):List Ev:=l.foldl (fun acc e=>tf e acc) []
theorem SG (e a:Ev): ∀ l,a∈tf e l↔a=e∨a∈l
 | []=>by simp[tf]
 |x::ai=>by
  have ih:=SG e a ai;unfold tf;split
  ·simp
  ·split
   ·next h=>subst h;simp
   ·simp only[List.mem_cons,ih];constructor
    ·rintro (h|h|h)
     ·exact .inr (.inl h)
     ·exact .inl h
     ·exact .inr (.inr h)
    ·rintro (h|h|h)
     ·exact .inr (.inl h)
     ·exact .inl h
     ·exact .inr (.inr h)
theorem ags (e:Ev): ∀ {l},rT l→rT (tf e l)
 | [],_=>by simp[tf,rT]
 |x::ai,h=>by
  unfold rT at *;rw[List.pairwise_cons] at h;have ih:=ags e (l:=ai) h.2;unfold tf;split
  ·next hl=>
   rw[List.pairwise_cons,List.pairwise_cons];refine⟨fun y bl=> ?_,h⟩;rcases List.mem_cons.1 bl with rfl|bl
   ·exact hl
   ·exact aCv hl (h.1 y bl)
  ·next hl=>
   split
   ·rw[List.pairwise_cons];exact h
   ·next hne=>
    rw[List.pairwise_cons];refine⟨fun y bl=> ?_,ih⟩;rcases (SG e y ai).1 bl with rfl|bl
    ·apply Classical.byContradiction;intro B;exact hne (agq hl B)
    ·exact h.1 y bl
theorem SH (l:List Ev)(e:Ev):fi (l++ [e])=tf e (fi l):=by simp[fi]
theorem Mn (l:List Ev):rT (fi l):=by
 induction l using ut with
 |h0=>simp[fi,rT]
 |h1 l x ih=>rw[SH];exact ags x ih
theorem D7 (l:List Ev)(a:Ev):a∈fi l↔a∈l:=by
 induction l using ut with
 |h0=>simp[fi]
 |h1 l x ih=>
  rw[SH,SG,ih,List.mem_append,List.mem_singleton];constructor
  ·rintro (h|h)
   ·exact .inr h
   ·exact .inl h
  ·rintro (h|h)
   ·exact .inr h
   ·exact .inl h
theorem avE {a b:List Ev}(h: ∀ e,e∈a↔e∈b):fi a=fi b:=
 agr (Mn a) (Mn b) fun e=>by rw[D7,D7,h]
theorem aCA {l bX:List Ev}(ae:bX.Perm l)(h:bX.Pairwise fun x y=> ¬jl y x):hT bX=fi l:=
 agr (aCz h) (Mn l) fun e=>by rw[SF,D7,ae.mem_iff]
theorem R2 (l:List Ev): (fi l).length≤l.length:=by
 induction l using ut with
 |h0=>simp[fi]
 |h1 l x ih=>
  have: ∀ (e:Ev) (ai:List Ev),(tf e ai).length≤ai.length+1:=by
   intro e ai
   induction ai with
   |nil=>simp[tf]
   |cons y ys Cs=>
    unfold tf;split
    ·simp
    ·split
     ·simp
     ·simp;omega
  rw[SH];have:=this x (fi l);simp;omega
theorem aCt (n:Int)(h0:0≤n)(h1:n≤100000000):aK prog 247 [.bD,.int .i64 n] [] (fun v rs=>v= .own 0 0 0 0∧rs= [.aa 71 7 (ac ([]:List Ev))]):=by
 refine hr func247 aee (by simp[L6,SE]) ?_;have aB:decide (n < 0)=false:=decide_eq_false (by omega);have aR:IntKind.i64.wrap n=n:=bf (by omega) (by omega);simp only[go_sem,L6,SE]
 (refine s.U ?_;simp only[go_sem])
 (refine s.U ?_;simp only[go_sem])
 simp only[go_sem,aB]
 repeat (refine s.U ?_;simp only[go_sem])
 have gg:IntKind.i64.wrap (n-IntKind.i64.wrap (0-0))=n:=by rw[bf (x:=0-0) (by omega) (by omega),bf (by omega) (by omega)];omega
 rw[gg]
 by_cases ae:0 < n
 ·have Z:decide ((0:Int) < n)=true:=decide_eq_true ae;simp only[go_sem,Z]
  repeat (refine s.U ?_;simp only[go_sem])
  refine⟨by omega,by omega,?_⟩;simp only[go_sem];refine⟨by omega,by omega,by omega,by rw[List.length_replicate],?_⟩;refine s.nt (.IZ (ah:=List.replicate n.toNat [.int .i64 0,.int .i64 0,.int .i64 0,.int .i64 0,.int .i64 0,.int .i64 0,.int .i64 0]) 0 0 n.toNat 0 rfl rfl (by rw[List.length_replicate])) ?_;simp only[go_sem]
  (refine s.bw [some 1] ?_;simp only[go_sem])
  repeat (refine s.U ?_;simp only[go_sem])
  exact s.U ⟨rfl,rfl⟩
 ·have Z:decide ((0:Int) < n)=false:=decide_eq_false ae;simp only[go_sem,Z]
  (refine s.iI 0 71 7 rfl (s.eW [0] ?_);simp only[go_sem])
  repeat (refine s.U ?_;simp only[go_sem])
  exact s.U ⟨rfl,rfl⟩
theorem aCu (a b:List Ev)(aw:a.length≤10000000)(Z:b.length≤10000000):aK prog 177 [.own 0 2 0 2] [.aa 53 1 [[.pure 7 (ac a)],[.pure 7 (ac b)]]]
 (fun v rs=>v= .own 1 (a++b).length 0 (a++b).length∧rs= [.aa 53 1 [[.pure 7 (ac a)],[.pure 7 (ac b)]],.aa 71 7 (ac (a++b))]):=by
 refine hr func177 adf (by simp[vF,xC]) ?_;simp only[go_sem,vF,xC]
 repeat (refine s.U ?_;simp only[go_sem])
 refine gY (fun r d=> ∃ (c x:Int),(c=0∧x=0∨c=1∧x=a.length∨c=2∧x=a.length+b.length)∧r= [(0,.own 0 2 0 2),(3,.int .i64 x),(9,.own 0 2 0 2),(10,.int .i64 2),(11,.int .i64 c)]∧d= [.aa 53 1 [[.pure 7 (ac a)],[.pure 7 (ac b)]]])
  (fun r _=>match bn r 11 with| .int _ j=>(2-j).toNat|_=>0) ?_ ?_
 ·exact s.U ⟨0,0,.inl ⟨rfl,rfl⟩,rfl,rfl⟩
 have jt:IntKind.i64.wrap (0+1)=1:=by rw[bf (by omega) (by omega)];omega
 have ju:IntKind.i64.wrap (1+1)=2:=by rw[bf (by omega) (by omega)];omega
 rintro r d ⟨c,x,⟨rfl,rfl⟩|⟨rfl,rfl⟩|⟨rfl,rfl⟩,rfl,rfl⟩
 ·simp only[go_sem,vF,xC]
  repeat (refine s.U ?_;simp only[go_sem])
  have bF:IntKind.i64.wrap (0+(a.length:Int))=a.length:=by rw[bf (by omega) (by omega)];omega
  have bJ:decide ((a.length:Int) < 0)=false:=decide_eq_false (by omega);simp only[go_sem,bF,bJ]
  repeat (refine s.U ?_;simp only[go_sem])
  simp only[go_sem,jt];exact⟨⟨1,_,.inr (.inl ⟨rfl,rfl⟩),rfl⟩,by omega⟩
 ·simp only[go_sem,vF,xC]
  repeat (refine s.U ?_;simp only[go_sem])
  have bF:IntKind.i64.wrap ((a.length:Int)+(b.length:Int))=a.length+b.length:=by rw[bf (by omega) (by omega)]
  have bJ:decide ((a.length:Int)+b.length < 0)=false:=decide_eq_false (by omega);simp only[go_sem,bF,bJ]
  repeat (refine s.U ?_;simp only[go_sem])
  simp only[go_sem,ju];exact⟨⟨2,_,.inr (.inr ⟨rfl,rfl⟩),rfl⟩,by omega⟩
 simp only[go_sem,vF,xC]
 repeat (refine s.U ?_;simp only[go_sem])
 (refine vf (aCt (a.length+b.length) (by omega) (by omega)) ?_;rintro _ _ ⟨rfl,rfl⟩;simp only[go_sem])
 repeat (refine s.U ?_;simp only[go_sem])
 refine gY (fun r d=> ∃ (c:Int) (X:List Ev),(c=0∧X= []∨c=1∧X=a∨c=2∧X=a++b)∧r= [(6,.own 1 X.length 0 X.length),(25,.own 0 2 0 2),(26,.int .i64 2),(27,.int .i64 c)]∧d= [.aa 53 1 [[.pure 7 (ac a)],[.pure 7 (ac b)]],.aa 71 7 (ac X)])
  (fun r _=>match bn r 27 with| .int _ j=>(2-j).toNat|_=>0) ?_ ?_
 ·exact s.U ⟨0,[],.inl ⟨rfl,rfl⟩,rfl,rfl⟩
 rintro r d ⟨c,X,⟨rfl,rfl⟩|⟨rfl,rfl⟩|⟨rfl,rfl⟩,rfl,rfl⟩
 ·simp only[go_sem,vF,xC]
  repeat (refine s.U ?_;simp only[go_sem])
  refine⟨by omega,?_⟩
  repeat (refine s.U ?_;simp only[go_sem])
  simp only[go_sem,jt];exact⟨⟨1,a,.inr (.inl ⟨rfl,rfl⟩),rfl,rfl⟩,by omega⟩
 ·simp only[go_sem,vF,xC]
  repeat (refine s.U ?_;simp only[go_sem])
  refine⟨by omega,?_⟩
  repeat (refine s.U ?_;simp only[go_sem])
  simp only[go_sem,ju];exact⟨⟨2,_,.inr (.inr ⟨rfl,rfl⟩),by simp,rfl⟩,by omega⟩
 ·simp only[go_sem,vF,xC]
  repeat (refine s.U ?_;simp only[go_sem])
  exact s.U ⟨rfl,rfl⟩
theorem afs (e:Ev):cv [.int .i64,.int .i64,.int .i64,.int .i64,.int .i64,.int .i64,.int .i64] (aG.F e):=by simp[cv,us]
theorem aft (a b:Ev):dU (aG.F a) (aG.F b)=decide (a=b):=by
 rw[Bool.eq_iff_iff,decide_eq_true_eq];simp only[us,dU,Bool.and_eq_true,beq_iff_eq,and_true];constructor
 ·rintro⟨h1,B,am,bp,cn,dj,mM⟩;exact Ev.ext' h1 B am bp cn dj mM
 ·rintro rfl;simp
theorem afp (a b:Ky):dU (aG.F a) (aG.F b)=decide (a=b):=by
 rw[Bool.eq_iff_iff,decide_eq_true_eq];simp only[aBg,dU,Bool.and_eq_true,beq_iff_eq,and_true];constructor
 ·rintro⟨h1,B⟩;exact Ky.ext' h1 B
 ·rintro rfl;simp
theorem afu {bd:Type}{C l:List bd}{m c:Nat}(h:C.drop m=l.drop m)(hm:m≤c)(h1:c < C.length)(B:c < l.length):C[c]=l[c]:=by
 have bF: (C.drop m)[c-m]? =some C[c]:=by rw[List.getElem?_drop,show m+(c-m)=c from by omega,List.getElem?_eq_getElem h1]
 have bJ: (l.drop m)[c-m]? =some l[c]:=by rw[List.getElem?_drop,show m+(c-m)=c from by omega,List.getElem?_eq_getElem B]
 rw[h,bJ] at bF;exact (Option.some.inj bF).symm
theorem aBh (l:List Ev)(hl:l.length≤1000000000):aK prog 180 [.own 0 l.length 0 l.length] [.aa 71 7 (ac l)]
 (fun v rs=>v= .own 0 l.length 0 (hT l).length∧rs= [.aa 71 7 (ac (hT l++List.replicate (l.length-(hT l).length) (⟨0,0,0,0,0,0,0⟩:Ev)))]):=by
 refine cr func180 adi (by simp[uo,vH]) ?_;simp only[go_sem,uo,vH];refine cg ?_ ?_<;>intro ao<;>simp only[bA] at ao<;>simp only[go_sem,uo,vH]
 ·have e:hT l=l:=by
   have:=Mj (l:=l) l.length (Nat.le_refl _) (fun c h1 B am=>by omega)
   rwa [List.take_length] at this
  exact s.U ⟨by rw[e];rfl,by rw[e,Nat.sub_self];simp⟩
 refine dR (fun r d=> ∃ k:Nat,1≤k∧k≤l.length∧r= [(0,.own 0 l.length 0 l.length),(3,.int .i64 k)]∧d= [.aa 71 7 (ac l)]∧(∀ c (h:c < l.length),0 < c→c < k→l[c]≠l[c-1]))
  (fun r _=>match bn r 3 with| .int _ j=>(l.length-j).toNat|_=>0) ?_ ?_
 ·exact s.U ⟨1,by omega,by omega,rfl,rfl,fun c h h1 B=>by omega⟩
 rintro r d ⟨k,kq,fP,rfl,rfl,aq⟩;have cW:=dr (c:=k) (by omega);have pm:IntKind.i64.wrap ((k:Int)-1)=((k-1:Nat):Int):=by rw[bf (by omega) (by omega)];omega
 simp only[go_sem,uo,vH];refine cg ?_ ?_<;>intro dL<;>simp only[bA] at dL<;>simp only[go_sem,uo,vH]
 rotate_left
 ·have e:hT l=l:=by
   have:=Mj (l:=l) l.length (Nat.le_refl _) (fun c h1 B am=>aq c h1 B (by omega))
   rwa [List.take_length] at this
  exact s.U ⟨by rw[e];rfl,by rw[e,Nat.sub_self];simp⟩
 have aC:k < l.length:=by omega
 have h0: (0:Int)≤k:=by omega
 have h1: (k:Int) < l.length:=by omega
 have B: (0:Int)≤((k-1:Nat):Int):=by omega
 have am: ((k-1:Nat):Int) < l.length:=by omega
 have g1: (ac l).getD k []=aG.F l[k]:=cQ aC;have bM: (ac l).getD (k-1) []=aG.F l[k-1]:=cQ (by omega);simp only[go_sem,h0,h1,pm,B,am,g1,bM,afs,aft];refine cg ?_ ?_<;>intro ck<;>simp only[bA] at ck<;>simp only[go_sem,uo,vH]
 rotate_left
 ·simp only[go_sem,cW];refine s.U ⟨⟨k+1,by omega,by omega,rfl,rfl,fun c h Qv NW=> ?_⟩,?_⟩
  ·rcases Nat.lt_or_ge c k with afv|afv
   ·exact aq c h Qv afv
   ·obtain rfl:c=k:=by omega
    exact ck
  ·simp only[go_sem];omega
 have xA: (k:Int)≤l.length:=by omega
 have aIF: ((l.length-k:Nat):Int)=(l.length:Int)-k:=by omega
 simp only[go_sem,h0,xA,Int.le_refl];refine dR (fun r d=> ∃ (j p:Nat) (C:List Ev),1≤j∧k+j≤l.length∧p+1≤k+j∧C.length=l.length∧C.drop (k+j-1)=l.drop (k+j-1)∧C.take p=hT (l.take (k+j))∧r= [(0,.own 0 l.length 0 l.length),(3,.int .i64 p),(4,.own 0 l.length k (l.length-k)),(5,.int .i64 j)]∧d= [.aa 71 7 (ac C)])
  (fun r _=>match bn r 5 with| .int _ j=>(l.length-j).toNat|_=>0) ?_ ?_
 ·refine s.U ⟨1,k,l,by omega,by omega,by omega,rfl,rfl,?_,rfl,rfl⟩;rw[R4 (by omega) aC,if_pos ck,Mj k (by omega) aq]
 clear ck cW pm h1 B am g1 bM dL;rintro r d ⟨j,p,C,R5,oY,aIG,HH,Mk,HI,rfl,rfl⟩;have cW:=dr (c:=j) (by omega);have mx:=dr (c:=p) (by omega);have pm:IntKind.i64.wrap ((j:Int)-1)=((j-1:Nat):Int):=by rw[bf (by omega) (by omega)];omega
 simp only[go_sem,uo,vH];refine cg ?_ ?_<;>intro fQ<;>simp only[bA] at fQ<;>simp only[go_sem,uo,vH]
 ·have aQ:k+j < C.length:=by omega
  have c0: (0:Int)≤j:=by omega
  have c1: (j:Int) < ((l.length-k:Nat):Int):=by omega
  have c2: (0:Int)≤((j-1:Nat):Int):=by omega
  have c3: ((j-1:Nat):Int) < ((l.length-k:Nat):Int):=by omega
  have g1: (ac C).getD (k+j) []=aG.F C[k+j]:=cQ aQ;have bM: (ac C).getD (k+(j-1)) []=aG.F (C[k+j-1]'(by omega)):=by
   have e:k+(j-1)=k+j-1:=by omega
   rw[e];exact cQ (by omega)
  have bF:C[k+j]=l[k+j]'(by omega):=afu Mk (by omega) aQ (by omega);have bJ:C[k+j-1]'(by omega)=l[k+j-1]'(by omega):=afu Mk (by omega) (by omega) (by omega);rw[bF] at g1;rw[bJ] at bM;have dQ:=R4 (l:=l) (q:=k+j) (by omega) (by omega);simp only[go_sem,c0,c1,pm,c2,c3,g1,bM,afs,aft,HH];refine cg ?_ ?_<;>intro oj<;>simp only[go_sem,uo,vH]
  ·have hne: ¬l[k+j]'(by omega)=l[k+j-1]'(by omega):=by simpa using oj
   rw[if_neg hne] at dQ;have p0: (0:Int)≤p:=by omega
   have p1: (p:Int) < l.length:=by omega
   have ae:p < C.length:=by omega
   have yy: ∀ x:Ev,List.drop 7 (aG.F x)= []:=fun _=>rfl;simp only[go_sem,c0,c1,g1,p0,p1,HH,mx,cW];rw[cQ ae,yy,List.append_nil,ve];refine s.U ⟨⟨j+1,p+1,C.set p (l[k+j]'(by omega)),by omega,by omega,by omega,by rw[List.length_set];exact HH,?_,?_,rfl,rfl⟩,?_⟩
   ·rw[show k+(j+1)-1=k+j from by omega,List.drop_set_of_lt (by omega)];have:=congrArg (List.drop 1) Mk
    rwa [List.drop_drop,List.drop_drop,show k+j-1+1=k+j from by omega] at this
   ·rw[show k+(j+1)=k+j+1 from by omega,dQ,←HI,List.take_succ_eq_append_getElem (by rw[List.length_set];exact ae),List.take_set_of_le (by omega)];simp
   ·simp only[go_sem];omega
  ·have he:l[k+j]'(by omega)=l[k+j-1]'(by omega):=by simpa using oj
   rw[if_pos he] at dQ;simp only[go_sem,cW];refine s.U ⟨⟨j+1,p,C,by omega,by omega,by omega,HH,?_,?_,rfl,rfl⟩,?_⟩
   ·rw[show k+(j+1)-1=k+j from by omega];have:=congrArg (List.drop 1) Mk
    rwa [List.drop_drop,List.drop_drop,show k+j-1+1=k+j from by omega] at this
   ·rw[show k+(j+1)=k+j+1 from by omega,dQ];exact HI
   ·simp only[go_sem];omega
 ·have aBi:k+j=l.length:=by omega
  rw[aBi,List.take_length] at HI;have gm:p=(hT l).length:=by rw[←HI,List.length_take];omega
  have p0: (0:Int)≤p:=by omega
  have p1: (p:Int)≤l.length:=by omega
  simp only[go_sem,p0,p1,Int.le_refl,HH];refine⟨by omega,?_⟩;have aS:List.replicate (l.length-p) [.int .i64 0,.int .i64 0,.int .i64 0,.int .i64 0,.int .i64 0,.int .i64 0,.int .i64 0]=ac (List.replicate (l.length-p) (⟨0,0,0,0,0,0,0⟩:Ev)):=by simp[ac,us]
  rw[aS];simp only[go_sem];have uN:JG C p (List.replicate (l.length-p) (⟨0,0,0,0,0,0,0⟩:Ev))=hT l++List.replicate (l.length-(hT l).length) (⟨0,0,0,0,0,0,0⟩:Ev):=by
   unfold JG;rw[HI,List.length_replicate,List.drop_of_length_le (by omega),List.append_nil,gm]
  rw[uN];have ed:=afw l;refine⟨by rw[List.length_append,List.length_replicate];omega,?_⟩;exact s.U ⟨by rw[←gm];rfl,rfl⟩
theorem afr (a b:List Ev)(aw:a.length≤1000000)(Z:b.length≤1000000):aK prog 93 [.pure 7 (ac a),.pure 7 (ac b)] []
 (fun v rs=>v= .own 0 (fi (a++b)).length 0 (fi (a++b)).length∧rs= [.aa 71 7 (ac (fi (a++b)))]):=by
 refine hr func93 abN (by simp[LR,SI]) ?_;simp only[go_sem,LR,SI]
 repeat (refine s.U ?_;simp only[go_sem])
 have hl: (a++b).length≤2000000:=by rw[List.length_append];omega
 (refine eY [0] (aCu a b (by omega) (by omega)) ?_;rintro _ _ ⟨rfl,rfl⟩;simp only[go_sem])
 generalize eD:a++b=X at *
 repeat (refine s.U ?_;simp only[go_sem])
 (refine eY [1] (aA1 X (by omega)) ?_;rintro _ _ ⟨rfl,bX,ae,ak,rfl⟩;simp only[go_sem])
 have iv:=ae.length_eq;rw[←iv] at hl ⊢
 repeat (refine s.U ?_;simp only[go_sem])
 (refine eY [1] (aBh bX (by omega)) ?_;rintro _ _ ⟨rfl,rfl⟩;simp only[go_sem])
 have ed:=afw bX;have aZ:=aCA ae ak;rw[aZ] at ed ⊢
 repeat (refine s.U ?_;simp only[go_sem])
 refine s.nt (.IZ (ah:=ac (fi X++List.replicate (bX.length-(fi X).length) ⟨0,0,0,0,0,0,0⟩)) 0 1 bX.length (fi X).length rfl rfl (by rw[bO,List.length_append,List.length_replicate];omega)) ?_;have ht: (ac (fi X++List.replicate (bX.length-(fi X).length) (⟨0,0,0,0,0,0,0⟩:Ev))).take (fi X).length=ac (fi X):=by
  unfold ac;rw[←List.map_take,List.take_left]
 rw[ht];simp only[go_sem]
 (refine s.bw [some 2] ?_;simp only[go_sem])
 exact s.U ⟨rfl,rfl⟩
def oz (l:List Ev):Bool:=l.all fun e=>decide (qT e)
theorem aCr {l:List Ev}{c:Nat}(h:c < l.length):oz (l.drop c)=(decide (qT l[c])&&oz (l.drop (c+1))):=by
 unfold oz;rw[List.drop_eq_getElem_cons h,List.all_cons]
theorem R0 (l:List Ev)(hl:l.length≤1000000):aK prog 92 [.pure 7 (ac l)] [] (fun v rs=>v= .bool (oz l)∧rs= []):=by
 refine hr func92 abM (by simp[Eh,HQ]) ?_;simp only[go_sem,Eh,HQ]
 repeat (refine s.U ?_;simp only[go_sem])
 refine gY (fun r d=> ∃ c:Nat,c≤l.length∧oz (l.drop c)=oz l∧r= [(5,.pure 7 (ac l)),(6,.int .i64 l.length),(7,.int .i64 c)]∧d= [])
  (fun r _=>match bn r 7 with| .int _ j=>(l.length-j).toNat|_=>0) ?_ ?_
 ·exact s.U ⟨0,by omega,rfl,rfl,rfl⟩
 rintro r d ⟨c,an,aq,rfl,rfl⟩;have cW:=dr (c:=c) (by omega);simp only[go_sem,Eh,HQ]
 repeat (refine s.U ?_;simp only[go_sem])
 refine dg ?_ ?_<;>intro ao<;>simp only[bA] at ao<;>simp only[go_sem,Eh,HQ]
 ·have aC:c < l.length:=by omega
  have h0: (0:Int)≤c:=by omega
  have h1: (c:Int) < l.length:=by omega
  have g1: (ac l).getD c []=aG.F l[c]:=cQ aC;rw[aCr aC] at aq
  repeat (refine s.U ?_;simp only[go_sem])
  simp only[go_sem,h0,h1,g1]
  repeat (refine s.U ?_;simp only[go_sem])
  refine bH (aBG l[c]) (by simp only[go_sem]) rfl ?_;simp only[go_sem]
  by_cases ag:qT l[c]
  ·rw[decide_eq_true ag] at aq ⊢;simp only[go_sem]
   (refine s.bw [] ?_;simp only[go_sem])
   repeat (refine s.U ?_;simp only[go_sem])
   simp only[go_sem,cW];exact⟨⟨c+1,by omega,by simpa using aq,rfl⟩,by omega⟩
  ·rw[decide_eq_false ag] at aq ⊢;simp only[go_sem]
   repeat (refine s.U ?_;simp only[go_sem])
   exact s.bb rfl ⟨by rw[←aq];rfl,rfl⟩
 ·repeat (refine s.U ?_;simp only[go_sem])
  rw[List.drop_of_length_le (by omega)] at aq;exact s.U ⟨by rw[←aq];rfl,rfl⟩
def EA (a b:List Ev):Int:=if 1024 < a.length∨1024 < b.length then 3 else if ¬(oz a=true∧oz b=true) then 1 else if 1024 < (fi (a++b)).length then 3 else 0
def afK (a b:List Ev)(v:z)(rs:List R):Prop:=
 (EA a b≠0∧v= .bg [.bD,.int .i64 (EA a b)]∧rs= [])∨
 (EA a b=0∧v= .bg [.own 0 (fi (a++b)).length 0 (fi (a++b)).length,.int .i64 0]∧rs= [.aa 71 7 (ac (fi (a++b)))])
theorem aBZ (a b:List Ev)(aw:a.length≤9223372036854775807)(Z:b.length≤9223372036854775807):aK prog 32 [.pure 7 (ac a),.pure 7 (ac b)] [] (afK a b):=by
 refine hr func32 aba (by simp[LP,Sj]) ?_;unfold afK EA;simp only[go_sem,LP,Sj]
 repeat (refine s.U ?_;simp only[go_sem])
 by_cases h1:1024 < a.length∨1024 < b.length
 ·rw[if_pos h1]
  by_cases B:1024 < a.length
  ·have aq:decide ((1024:Int) < a.length)=true:=decide_eq_true (by omega);simp only[go_sem,aq]
   repeat (refine s.U ?_;simp only[go_sem])
   exact s.bb rfl (.inl ⟨by decide,rfl,rfl⟩)
  ·have aq:decide ((1024:Int) < a.length)=false:=decide_eq_false (by omega);have BR:decide ((1024:Int) < b.length)=true:=decide_eq_true (by omega);simp only[go_sem,aq,BR]
   repeat (refine s.U ?_;simp only[go_sem])
   exact s.bb rfl (.inl ⟨by decide,rfl,rfl⟩)
 rw[if_neg h1];have aq:decide ((1024:Int) < a.length)=false:=decide_eq_false (by omega);have BR:decide ((1024:Int) < b.length)=false:=decide_eq_false (by omega);simp only[go_sem,aq,BR]
 repeat (refine s.U ?_;simp only[go_sem])
 refine bH (R0 a (by omega)) rfl rfl ?_;simp only[go_sem]
 by_cases Ew:oz a=true
 rotate_left
 ·have R1:oz a=false:=by simpa using Ew
  rw[if_pos (fun h=>Ew h.1)];simp only[go_sem,R1]
  repeat (refine s.U ?_;simp only[go_sem])
  exact s.bb rfl (.inl ⟨by decide,rfl,rfl⟩)
 rw[Ew];simp only[go_sem];refine bH (R0 b (by omega)) rfl rfl ?_;simp only[go_sem]
 by_cases afL:oz b=true
 rotate_left
 ·have afM:oz b=false:=by simpa using afL
  rw[if_pos (by simp[afM])];simp only[go_sem,afM]
  repeat (refine s.U ?_;simp only[go_sem])
  exact s.bb rfl (.inl ⟨by decide,rfl,rfl⟩)
 rw[afL,if_neg (by simp)];simp only[go_sem]
 repeat (refine s.U ?_;simp only[go_sem])
 (refine vf (afr a b (by omega) (by omega)) ?_;rintro _ _ ⟨rfl,rfl⟩;simp only[go_sem])
 repeat (refine s.U ?_;simp only[go_sem])
 by_cases am:1024 < (fi (a++b)).length
 ·have zD:decide ((1024:Int) < (fi (a++b)).length)=true:=decide_eq_true (by omega);rw[if_pos am];simp only[go_sem,zD]
  repeat (refine s.U ?_;simp only[go_sem])
  exact s.bb rfl (.inl ⟨by decide,rfl,rfl⟩)
 ·have zD:decide ((1024:Int) < (fi (a++b)).length)=false:=decide_eq_false (by omega);rw[if_neg am];simp only[go_sem,zD]
  repeat (refine s.U ?_;simp only[go_sem])
  exact s.U (.inr ⟨rfl,rfl⟩)
def Ev.key (e:Ev):Ky:=⟨e.da,e.M⟩
def Ev.pr (e:Ev):Ky:=⟨e.ln,e.fa⟩
def Stamp.key (E:Stamp):Ky:=⟨E.da,E.M⟩
theorem aBw {bd:Type}{l:List bd}{c:Nat}(h0:0 < c)(h:c≤l.length): (l.take c).getLast?=some (l[c-1]'(by omega)):=by
 rw[List.getLast?_eq_getElem?,List.length_take,show min c l.length-1=c-1 from by omega,List.getElem?_take,if_pos (by omega),List.getElem?_eq_getElem (by omega)]
def HM (acc:List Ev×Option Ky)(e:Ev):List Ev×Option Ky:=(if acc.2=some e.key then acc.1 else acc.1++ [e],some e.key)
def im (cI:List Ev):List Ev:=(cI.foldl HM ([],none)).1
theorem aBx (cI:List Ev): (cI.foldl HM ([],none)).2=cI.getLast?.map Ev.key:=by
 induction cI using ut with
 |h0=>rfl
 |h1 l x ih=>simp[HM]
theorem Ml (cI:List Ev)(e:Ev):im (cI++ [e])=if cI.getLast?.map Ev.key=some e.key then im cI else im cI++ [e]:=by
 unfold im;rw[List.foldl_append,List.foldl_cons,List.foldl_nil];show (if (cI.foldl HM ([],none)).2=some e.key then _ else _)=_;rw[aBx]
theorem aBa {cI:List Ev}(h:0 < cI.length):im (cI.take 1)= [cI[0]]:=by
 cases cI with
 |nil=>simp at h
 |cons x ai=>simp[im,HM]
theorem aBc {cI:List Ev}{c:Nat}(h0:0 < c)(h:c < cI.length):im (cI.take (c+1))=if cI[c].key=(cI[c-1]'(by omega)).key then im (cI.take c) else im (cI.take c)++ [cI[c]]:=by
 rw[List.take_succ_eq_append_getElem h,Ml,aBw h0 (by omega)]
 by_cases B:cI[c].key=(cI[c-1]'(by omega)).key
 ·rw[if_pos B,if_pos (by simp[B])]
 ·rw[if_neg B,if_neg (fun am=>B (by simpa using am.symm))]
theorem aBy {cI:List Ev}{e:Ev}(h:e∈im cI):e∈cI:=by
 induction cI using ut with
 |h0=>simp[im] at h
 |h1 l x ih=>
  rw[Ml] at h;split at h
  ·exact List.mem_append_left _ (ih h)
  ·rcases List.mem_append.1 h with h|h
   ·exact List.mem_append_left _ (ih h)
   ·exact List.mem_append_right _ h
theorem aBz {a b:Ev}(h:jl a b)(I:a.key≠b.key):pq a.key b.key:=by
 have: ¬(a.da=b.da∧a.M=b.M):=fun h=>I (Ky.ext' h.1 h.2);unfold jl at h;unfold pq Ev.key;simp only;omega
theorem aBA {a b:Ev}(h:jl a b): ¬pq b.key a.key:=by
 unfold jl at h;unfold pq Ev.key;simp only;omega
theorem aBB {a b F:Ky}(h1: ¬pq b a)(B:pq b F):pq a F:=by unfold pq at *;omega
theorem aBC {cI:List Ev}(h:rT cI): (im cI).Pairwise fun a b=>pq a.key b.key:=by
 induction cI using ut with
 |h0=>simp[im]
 |h1 l x ih=>
  unfold rT at *;rw[List.pairwise_append] at h;rw[Ml];split
  ·exact ih h.1
  ·next hne=>
   rw[List.pairwise_append];refine⟨ih h.1,by simp,fun a aw b Z=> ?_⟩;rw[List.mem_singleton] at Z;subst Z;have tC:=aBy aw;cases hl:l.getLast? with
   |none=>rw[List.getLast?_eq_none_iff] at hl;subst hl;simp at tC
   |some D=>
    rw[hl] at hne;have pg:D.key≠b.key:=fun e=>hne (by simp[e]);have Rf:=List.mem_of_getLast? hl;have afD:=aBz (h.2.2 D Rf b (by simp)) pg;obtain⟨ys,rfl⟩:=List.getLast?_eq_some_iff.1 hl;rcases List.mem_append.1 tC with CO|CO
    ·have:=(List.pairwise_append.1 h.1).2.2 a CO D (by simp);exact aBB (aBA this) afD
    ·rw[List.mem_singleton] at CO;subst CO;exact afD
def mC (n:Int)(l:List Ev):List Ev:=l.filter fun e=>decide (e.bh=n)
theorem aBd (n:Int)(l:List Ev)(e:Ev):mC n (l++ [e])=if e.bh=n then mC n l++ [e] else mC n l:=by
 unfold mC;rw[List.filter_append]
 by_cases h:e.bh=n<;>simp[h]
def vK (be:List Ev)(k:Ky):Bool:=be.any fun y=>decide (y.cH=5∧y.pr=k)
def vL (be:List Ev)(k:Ky):Option Int:=be.foldl (fun acc y=>if y.cH=6∧y.pr=k then some y.time else acc) none
theorem aBr (be:List Ev)(y:Ev)(k:Ky):vK (be++ [y]) k=(vK be k||decide (y.cH=5∧y.pr=k)):=by simp[vK]
theorem aBs (be:List Ev)(y:Ev)(k:Ky):vL (be++ [y]) k=if y.cH=6∧y.pr=k then some y.time else vL be k:=by simp[vL]
def kj (be:List Ev)(e:Ev):Option Stamp:=if e.cH=5∨e.cH=6∨vK be e.key=true then none else some ⟨(vL be e.key).getD e.time,e.cH,e.da,e.M⟩
def BN (be:List Ev):List Stamp:=be.filterMap (kj be)
def jS (l:List Ev)(n:Int):List Ev:=mC n (im (fi l))
theorem aBq (l:List Ev)(n:Int): (jS l n).Pairwise fun a b=>pq a.key b.key:=(aBC (Mn l)).filter _
theorem afE {be:List Ev}{e:Ev}{E:Stamp}(h:kj be e=some E):E.key=e.key∧E.cH=e.cH:=by
 unfold kj at h;split at h
 ·simp at h
 ·simp only[Option.some.injEq] at h;subst h;exact⟨rfl,rfl⟩
theorem aBD (a:Ky): ¬pq a a:=by unfold pq;omega
theorem aBt {be iK:List Ev}(h:be.Pairwise fun a b=>pq a.key b.key): (be.filterMap (kj iK)).Pairwise fun a b=>pq a.key b.key:=by
 rw[List.pairwise_filterMap];refine h.imp fun {a b} oG x ad y bl=> ?_;rw[(afE ad).1,(afE bl).1];exact oG
theorem aBE {a b:Stamp}:mB a b→ ¬mB b a:=by unfold mB;omega
theorem aBF {a b:Stamp}(h: ¬mB b a)(I:a.key≠b.key):mB a b:=by
 have: ¬(a.da=b.da∧a.M=b.M):=fun h=>I (Ky.ext' h.1 h.2);unfold mB at *;omega
theorem aAI {a b:List Stamp}(ae:a.Perm b)(aw:a.Pairwise mB)(Z:b.Pairwise mB):a=b:=
 ae.eq_of_pairwise (fun x y _ _ h1 B=>(aBE h1 B).elim) aw Z
theorem aBv {a b:List Stamp}(ae:a.Perm b)(aw:a.Pairwise fun x y=> ¬mB y x)(Z:b.Pairwise fun x y=>pq x.key y.key):a.Pairwise mB:=by
 have aB:b.Pairwise fun x y=>x.key≠y.key:=List.Pairwise.imp (S:=fun x y:Stamp=>x.key≠y.key) (fun {x y} h (e:x.key=y.key)=>aBD y.key (by rw[e] at h;exact h)) Z;have zo:a.Pairwise fun x y=>x.key≠y.key:=(ae.pairwise_iff (fun {x y} h e=>h e.symm)).2 aB;exact (aw.and zo).imp fun {x y} h=>aBF h.1 h.2
def mD {iF:Type}(f:iF→z)(l:List (Ky×iF)):List (z×z):=l.map fun p=>(.agg [.int .i64 p.1.t,.int .i64 p.1.E],f p.2)
def vJ {iF:Type}(l:List (Ky×iF))(k:Ky):Option iF:=(l.find? fun p=>decide (k=p.1)).map (·.2)
def vM {iF:Type}(k:Ky)(v:iF):List (Ky×iF)→List (Ky×iF)
 | []=> [(k,v)]
 |p::O=>if k=p.1 then (k,v)::O else p::vM k v O
theorem afF (a b:Ky):fp (.agg [.int .i64 a.t,.int .i64 a.E]) (.agg [.int .i64 b.t,.int .i64 b.E])=decide (a=b):=afp a b
theorem R8 {iF:Type}{f:iF→z}{k:Ky}: ∀ {l:List (Ky×iF)},dd (.agg [.int .i64 k.t,.int .i64 k.E]) (mD f l)=(vJ l k).map f
 | []=>rfl
 |p::l=>by
  have ih:=R8 (f:=f) (k:=k) (l:=l);unfold mD vJ at *;rw[List.map_cons,dd,List.find?_cons,afF]
  by_cases h:k=p.1
  ·simp[h]
  ·simp[h];simpa using ih
theorem R6 {iF:Type}{f:iF→z}{k:Ky}{v:iF}: ∀ {l:List (Ky×iF)},dp (.agg [.int .i64 k.t,.int .i64 k.E]) (f v) (mD f l)=mD f (vM k v l)
 | []=>rfl
 |p::l=>by
  have ih:=R6 (f:=f) (k:=k) (v:=v) (l:=l);unfold mD at *;rw[List.map_cons,dp,afF,vM]
  by_cases h:k=p.1
  ·simp[h]
  ·simp[h];exact ih
theorem R7 {iF:Type}{k bo:Ky}{v:iF}: ∀ {l:List (Ky×iF)},vJ (vM k v l) bo=if bo=k then some v else vJ l bo
 | []=>by
  unfold vJ vM
  by_cases h:bo=k<;>simp[h]
 |p::l=>by
  have ih:=R7 (k:=k) (bo:=bo) (v:=v) (l:=l);unfold vJ at *;rw[vM]
  by_cases h:k=p.1
  ·subst h
   by_cases B:bo=p.1
   ·simp[B]
   ·simp[B]
  ·rw[if_neg h]
   by_cases B:bo=p.1
   ·have: ¬bo=k:=fun e=>h (by rw[←e,B]);simp[B];intro e;exact (h e.symm).elim
   ·simp only[List.find?_cons,B,decide_false,ih]
def cD (l:List Ev):Int:=if 1024 < l.length then 3 else if oz l=true then 0 else 1
theorem RY (l:List Ev)(hl:l.length≤9223372036854775807):aK prog 144 [.pure 7 (ac l)] [] (fun v rs=>v= .int .i64 (cD l)∧rs= []):=by
 refine hr func144 acC (by simp[LW,RZ]) ?_;unfold cD;simp only[go_sem,LW,RZ]
 repeat (refine s.U ?_;simp only[go_sem])
 by_cases h1:1024 < l.length
 ·have aq:decide ((1024:Int) < l.length)=true:=decide_eq_true (by omega);rw[if_pos h1];simp only[go_sem,aq]
  repeat (refine s.U ?_;simp only[go_sem])
  exact s.bb rfl ⟨rfl,rfl⟩
 have aq:decide ((1024:Int) < l.length)=false:=decide_eq_false (by omega);rw[if_neg h1];simp only[go_sem,aq]
 repeat (refine s.U ?_;simp only[go_sem])
 refine bH (R0 l (by omega)) rfl rfl ?_;simp only[go_sem]
 by_cases Ew:oz l=true
 ·rw[Ew];simp only[go_sem]
  repeat (refine s.U ?_;simp only[go_sem])
  exact s.bb rfl ⟨rfl,rfl⟩
 ·have R1:oz l=false:=by simpa using Ew
  rw[R1];simp only[go_sem]
  repeat (refine s.U ?_;simp only[go_sem])
  exact s.bb rfl ⟨rfl,rfl⟩
theorem aA7 (a b:Ev):dU [.int .i64 a.da,.int .i64 a.M] [.int .i64 b.da,.int .i64 b.M]=decide (a.key=b.key):=afp a.key b.key
theorem aA8 (a b:Int):cv [.int .i64,.int .i64] [.int .i64 a,.int .i64 b]:=by simp[cv]
end Go.Proofs.YtpincjkjoeopkaaGreatDoor.Ib
