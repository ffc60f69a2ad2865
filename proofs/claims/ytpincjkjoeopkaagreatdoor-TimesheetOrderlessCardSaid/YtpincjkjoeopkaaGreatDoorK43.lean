/- Time evaluation. -/
import Derived.Test.YtpincjkjoeopkaaGreatDoorK41
import Derived.Test.YtpincjkjoeopkaaGreatDoorK42
set_option linter.unusedSimpArgs false
set_option linter.unusedVariables false
set_option linter.unusedSectionVars false
namespace Go.Proofs.YtpincjkjoeopkaaGreatDoor
open Go Go.Abs Go.Proofs.Tryz
theorem aab (a b:Ib.Ev):List.take 7 (aG.F a)++List.drop (List.take 7 (aG.F a)).length (aG.F b)=aG.F a:=rfl
set_option maxHeartbeats 4000000 in
theorem avY (hv:aK prog 15 [] [] (fun v rs=>v= .bool true∧rs= []))(l:List Int)(hl:kx l)(n:Int):aK prog 7 [.pure 1 (cC .i64 l),.int .i64 n] [] (fun v rs=>v= .bool true∧rs= []):=by
 refine hr func7 aac (by simp[sY,He]) ?_;simp only[go_sem,sY,He]
 (repeat (first| (refine s.U ?_;simp only[go_sem])|simp only[go_sem]))
 (refine vf (arT l) ?_;rintro _ _ ⟨rfl,rfl⟩;simp only[go_sem])
 (repeat (first| (refine s.U ?_;simp only[go_sem])|simp only[go_sem]))
 (refine eY [0] (avZ l hl 0 (by omega) (by omega)) ?_;rintro _ _ ⟨aad,i,aj,rfl,es,rfl,h0,h1,aIr,aIs,pm⟩;simp only[go_sem])
 simp only[go_sem,fx]
 (refine eY [0] (asr l hl 4 (by omega) (by omega) aad h0 h1) ?_;rintro _ _ ⟨awa,Y,rfl,rfl,B,am,gm,Bq,aIt,DA⟩;simp only[go_sem])
 simp only[go_sem,fx,Ib.fx]
 (refine eY [0] (Ib.awb l hl 4 (by omega) (by omega) awa B am) ?_;rintro _ _ ⟨awc,ds,rfl,rfl,bp,cn,Rm,Rn⟩;simp only[go_sem])
 simp only[go_sem,fx,Ib.fx]
 (refine eY [0] (Ib.awd l hl 3 (by omega) (by omega) awc bp cn) ?_;rintro _ _ ⟨awe,al,rfl,rfl,dj,mM,iV,awf⟩;simp only[go_sem])
 simp only[go_sem,fx,Ib.fx]
 repeat (refine s.U ?_;simp only[go_sem])
 have uj:=D4 aj i.F es i.fU;have awg: ∀ f,iX f aj=aj:=fun f=>Cm f aj uj;refine⟨by omega,?_⟩
 (refine eY [0] (asj l hl 3 (by omega) (by omega) awe dj mM) ?_;rintro _ _ ⟨aIu,ai,rfl,rfl,DX,DY,wn,aae⟩;simp only[go_sem])
 simp only[go_sem,fx,awg];obtain⟨gB,uk⟩:=ZX aj i.F es i.on;refine⟨gB,uk,?_⟩;have gB:aj.length=14:=gB;have yy: ∀ fb:List z,fb.length=14→aj++List.drop aj.length fb=aj:=fun fb aIv=>by rw[List.drop_eq_nil_of_le (by omega),List.append_nil]
 simp only[go_sem,yy];have awh: (ds++al).length=ds.length+al.length:=List.length_append;have awi: ∀ e∈ds++al,Ib.ul e:=fun e he=>(List.mem_append.1 he).elim (Rn e) (awf e);rw[←awh];have awj: (ds++al).length≤23:=by omega
 generalize ds++al=br at *;refine s.kc [some 5] [1,2,4] rfl rfl (by simp only[go_sem,uj]<;>rfl) ?_;simp only[go_sem,uj];have cW:IntKind.i64.wrap ((br.length:Int)+1)=br.length+1:=bf (by omega) (by omega)
 repeat (refine s.U ?_;simp only[go_sem])
 rw[cW];refine bH (Dn n (br.length+1) (by omega) (by omega)) rfl rfl ?_;obtain⟨qg,Ln⟩:=arU (v:=n) (n:=(br.length:Int)+1) (by omega);generalize mod n (br.length+1)=k at *;simp only[go_sem]
 repeat (refine s.U ?_;simp only[go_sem])
 have zk:Ib.ow br 23:=⟨fun e he=>Ib.awk (awi e he),awj⟩;obtain⟨q,rfl⟩: ∃ q:Nat,k=q:=⟨k.toNat,by omega⟩;have bF:List.take (br.length-(q:Int).toNat) (List.drop (q:Int).toNat br)=List.drop q br:=by rw[Int.toNat_natCast];exact List.take_of_length_le (by simp)
 have bJ:List.take ((q:Int).toNat-0) br=List.take q br:=by rw[Int.toNat_natCast,Nat.sub_zero]
 have it:List.take (q:Int).toNat br=List.take q br:=by rw[Int.toNat_natCast]
 refine⟨by omega,by omega,by omega,by omega,by omega,?_⟩
 try rw[bF]
 try rw[bJ]
 try rw[it]
 have aaf:Ib.ow (br.drop q) 23:=⟨fun e he=>zk.v e (List.mem_of_mem_drop he),by have:=zk.len;simp;omega⟩;have Lo:Ib.ow (br.take q) 23:=⟨fun e he=>zk.v e (List.mem_of_mem_take he),by have:=zk.len;simp;omega⟩;have Ro:=(aaf.lC Lo).fi;have Fp:=Ib.aag aaf Lo (by omega);have ud:=(Ro.lC zk).fi;have awl:=Ib.aag Ro zk (by omega);have DV: ∀ e,e∈Ib.fi (Ib.fi (br.drop q++br.take q)++br)↔e∈br:=fun e=>by
  rw[Ib.D7,List.mem_append,Ib.D7,List.mem_append];exact⟨fun h=>h.elim (fun h=>h.elim List.mem_of_mem_drop List.mem_of_mem_take) id,.inr⟩
 have aIw:=Ro.len;have aIx:=ud.len;generalize Ib.fi (br.drop q++br.take q)=awm at *;generalize Ib.fi (awm++br)=dG at *
 (refine aqf (Fp) ?_;rintro _ _ ⟨rfl,rfl⟩;simp only[go_sem])
 refine s.kc [some 0] [1] rfl rfl (by simp only[go_sem,uj]<;>rfl) ?_;simp only[go_sem,uj]
 (refine s.U ?_;simp only[go_sem])
 (refine vf (awl) ?_;rintro _ _ ⟨rfl,rfl⟩;simp only[go_sem])
 try simp only[go_sem,uj]
 (refine s.U ?_;simp only[go_sem])
 (refine s.U ?_;simp only[go_sem])
 have aah:IntKind.i64.wrap ((dG.length:Int)-1)=dG.length-1:=bf (by omega) (by omega)
 try rw[aah]
 refine s.U ?_;simp only[go_sem];refine s.U ?_
 try simp only[go_sem]
 refine gY (fun r d=> ∃ (c:Nat) (X:List Ib.Ev),c≤dG.length∧X.Perm dG∧r= [(6,.aW 0 1 0 0),(7,.pure 3 (ac Y)),(8,.pure 7 (ac br)),(9,.pure 4 (ac ai)),(11,.own 1 dG.length 0 dG.length),(14,.int .i64 c),(15,.int .i64 ((dG.length:Int)-1-c))]∧d= [.aa 42 14 [aj],.aa 71 7 (ac X)])
  (fun r _=>match bn r 14 with| .int _ j=>(dG.length-j).toNat|_=>0) ?_ ?_
 ·exact s.U ⟨0,dG,by omega,.refl _,by simp[aah],rfl⟩
 rintro r d ⟨c,X,an,eD,rfl,rfl⟩;have ol:=eD.length_eq
 by_cases aC: (c:Int) < (dG.length:Int)-1-c
 ·have q1:decide ((c:Int) < (dG.length:Int)-1-c)=true:=decide_eq_true aC;obtain⟨j,aT⟩: ∃ j:Nat,(dG.length:Int)-1-c=j:=⟨dG.length-1-c,by omega⟩;have Lp:c < X.length:=by omega
  have BD:j < X.length:=by omega
  have Rp: (ac X).getD c []=aG.F X[c]:=cQ Lp;have Hf: (ac X).getD j []=aG.F X[j]:=cQ BD;have z0: (0:Int)≤c:=by omega
  have lj: (c:Int) < dG.length:=by omega
  have D8: (0:Int)≤j:=by omega
  have z3: (j:Int) < dG.length:=by omega
  have awn:=(List.set_set_perm Lp BD).trans eD;have cW:=dr (c:=c) (by omega);have gg:IntKind.i64.wrap ((j:Int)-1)=(dG.length:Int)-1-((c+1:Nat):Int):=by rw[bf (by omega) (by omega)];omega
  simp only[go_sem,sY,He,q1]
  (refine s.U ?_;simp only[go_sem])
  simp only[go_sem,q1,aT]
  (refine s.U ?_;simp only[go_sem])
  refine⟨ol.symm,D8,z3,ol.symm,ol.symm,z0,lj,ol.symm,ol.symm,z0,lj,ol.symm,by rw[Hf];rfl,by rw[Hf];rfl,ol.symm,D8,z3,ol.symm,by rw[Rp];rfl,by rw[Rp];rfl,?_⟩
  (refine s.U ?_;simp only[go_sem])
  have bM: (ac (X.set c X[j])).getD j []=aG.F ((X.set c X[j])[j]'(by simpa using BD)):=cQ (by simpa using BD);rw[Rp,Hf,aab,ve,bM,aab,ve,cW,gg];refine s.U ⟨⟨c+1,_,by omega,awn,rfl,rfl⟩,?_⟩;simp only[go_sem];omega
 ·have q1:decide ((c:Int) < (dG.length:Int)-1-c)=false:=decide_eq_false aC;simp only[go_sem,sY,He,q1]
  (refine s.U ?_;simp only[go_sem])
  try simp only[go_sem,q1]
  refine s.kc [some 0] [1] rfl rfl (by simp only[go_sem,uj]<;>rfl) ?_;simp only[go_sem,uj];rw[if_pos ol.symm,List.take_of_length_le (by omega)];have bV: ∀ e,e∈X↔e∈br:=fun e=>eD.mem_iff.trans (DV e);have aai:Ib.ow X 69:=⟨fun e he=>zk.v e ((bV e).1 he),by omega⟩;have aIy:=aai.len;have aaj:Ib.jS X 1=Ib.jS br 1:=avD bV;have lx:Ib.cD X=Ib.cD br:=by rw[aai.hQ (by omega),zk.hQ (by omega)]
  have cY:D1 ai 20452 20462=0:=by
   unfold D1;rw[if_neg (by omega),if_neg (by omega),if_neg (by omega)]
  have Lk:le (.pure 4 (ac ai)) (.pure 4 (ac ai)):=le_refl _ (by simp) (by simp);have c1:=ZY es uj (by omega) (by omega) Y (by omega) br (by omega) ai Lk aae 1 20452 20462 cY;have c2:=ZY es uj (by omega) (by omega) Y (by omega) X (by omega) ai Lk aae 1 20452 20462 cY;rw[(ZU (i:=i) (Y:=Y) aaj lx).1,avF aaj lx] at c2;have awo:= @avG i Y br ai 1 20452 20462;generalize iZ i Y br ai 1 20452 20462=az at *;generalize qQ i Y br 1=dM at *;have ht:List.take 14 aj=aj:=List.take_of_length_le (by omega)
  (refine s.U ?_;simp only[go_sem])
  simp only[go_sem,ht,gB];have nT: ∀ aU:List Ib.Ev,bP [.agg aj,.pure 3 (ac Y),.pure 7 (ac aU),.pure 4 (ac ai),.int .i64 1,.int .i64 20452,.int .i64 20462]=true:=fun aU=>by simp only[bP,bE,uj,cw,Bool.and_self]
  by_cases h0:dM=0
  ·simp only[if_pos h0] at c1 c2;obtain⟨yZ,jg⟩:=awo h0 (by omega) (by omega) (by omega);refine bH c1 (nT br) rfl ?_;simp only[go_sem,cw]
   (refine s.U ?_;simp only[go_sem])
   simp only[go_sem,ht,gB];refine bH c2 (nT X) rfl ?_;simp only[go_sem,cw]
   (refine s.U ?_;simp only[go_sem])
   refine bH (aak az (by omega) jg) (by simp only[bP,bE,cw,Bool.and_self]) rfl ?_;simp only[go_sem];refine bH hv rfl rfl ?_;simp only[go_sem]
   (refine s.U ?_;simp only[go_sem])
   exact s.bb rfl ⟨rfl,rfl⟩
  ·simp only[if_neg h0] at c1 c2;refine bH c1 (nT br) rfl ?_;simp only[go_sem]
   (refine s.U ?_;simp only[go_sem])
   simp only[go_sem,ht,gB];refine bH c2 (nT X) rfl ?_;simp only[go_sem]
   (refine s.U ?_;simp only[go_sem])
   refine bH (aK.le (aak [] (by simp) (by simp)) (args':= [.bD,.bD]) (by simp[hs,le,ac])) rfl rfl ?_;simp only[go_sem];refine bH hv rfl rfl ?_;simp only[go_sem]
   (refine s.U ?_;simp only[go_sem])
   exact s.bb rfl ⟨rfl,rfl⟩
theorem timesheetOrderless (l:List Int)(hl:kx l)(n:Int):aK prog 7 [.pure 1 (cC .i64 l),.int .i64 n] [] (fun v rs=>v= .bool true∧rs= []):=avY awp l hl n
end Go.Proofs.YtpincjkjoeopkaaGreatDoor
