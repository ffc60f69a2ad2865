/- Time evaluation. -/
import Derived.Test.YtpincjkjoeopkaaGreatDoorD28
set_option linter.all false
namespace Go.Proofs.YtpincjkjoeopkaaGreatDoor
open Go Go.Abs
theorem Aq {R ab B:Int}: ∀ (aY:List (Int×List F)) (bw:List Int×(Int→Bool→List (List F))),
 (eS R ab bw aY).2 B false=bw.2 B false++(if R≤B∧B≤ab then (aY.filter fun x=>decide (x.1=B)).map (·.2) else [])∧(eS R ab bw aY).2 B true=bw.2 B true∧
 (B∈(eS R ab bw aY).1↔B∈bw.1∨(R≤B∧B≤ab∧ ∃ x∈aY,x.1=B))
 | [],bw=>by simp[eS]
 |x::aY,bw=>by
  have e:eS R ab bw (x::aY)=eS R ab (nN R ab bw x) aY:=rfl;obtain⟨h1,G,au⟩:=Aq (R:=R) (ab:=ab) (B:=B) aY (nN R ab bw x);rw[e,h1,G,au];unfold nN
  by_cases J:R≤x.1∧x.1≤ab
  ·rw[if_pos J]
   by_cases ay:x.1=B
   ·have N:R≤B∧B≤ab:=ay▸J;rw[List.filter_cons_of_pos (by simp[ay]),if_pos N,if_pos N];refine⟨by simp[gR,ay],by simp[gR],?_⟩;simp only[CO];constructor
    ·intro _;exact .inr ⟨N.1,N.2,x,List.mem_cons_self,ay⟩
    ·intro _;exact .inl (.inl ay.symm)
   ·rw[List.filter_cons_of_neg (by simp[ay])];refine⟨by simp[gR];intro e;exact absurd e.symm ay,by simp[gR],?_⟩;simp only[CO];constructor
    ·rintro ((h|h)|⟨a,b,y,bt,h⟩)
     ·exact absurd h.symm ay
     ·exact .inl h
     ·exact .inr ⟨a,b,y,List.mem_cons_of_mem _ bt,h⟩
    ·rintro (h|⟨a,b,y,bt,h⟩)
     ·exact .inl (.inr h)
     ·rcases List.mem_cons.1 bt with rfl|bt
      ·exact absurd h ay
      ·exact .inr ⟨a,b,y,bt,h⟩
  ·rw[if_neg J]
   by_cases ay:x.1=B
   ·have N: ¬(R≤B∧B≤ab):=ay▸J;refine⟨by rw[if_neg N,if_neg N],rfl,?_⟩;constructor
    ·rintro (h|⟨a,b,_⟩)
     ·exact .inl h
     ·exact absurd ⟨a,b⟩ N
    ·rintro (h|⟨a,b,_⟩)
     ·exact .inl h
     ·exact absurd ⟨a,b⟩ N
   ·rw[List.filter_cons_of_neg (by simp[ay])];refine⟨rfl,rfl,?_⟩;constructor
    ·rintro (h|⟨a,b,y,bt,h⟩)
     ·exact .inl h
     ·exact .inr ⟨a,b,y,List.mem_cons_of_mem _ bt,h⟩
    ·rintro (h|⟨a,b,y,bt,h⟩)
     ·exact .inl h
     ·rcases List.mem_cons.1 bt with rfl|bt
      ·exact absurd h ay
      ·exact .inr ⟨a,b,y,bt,h⟩
def Fb (M:cc)(B:Int)(a:Pr.kn):Bool:=decide (ot M a.time=0∧mm M a.time=B)
def abY (a:Pr.kn):List F:= [.int .i64 a.cB,.int .i64 a.time]
theorem Ap {M:cc}{R ab B:Int}: ∀ (aY:List Pr.kn) (bw:List Int×(Int→Bool→List (List F))),
 (kY M R ab bw aY).2 B true=bw.2 B true++(if R≤B∧B≤ab then (aY.filter (Fb M B)).map abY else [])∧(kY M R ab bw aY).2 B false=bw.2 B false∧
 (B∈(kY M R ab bw aY).1↔B∈bw.1∨(R≤B∧B≤ab∧ ∃ x∈aY,Fb M B x=true))
 | [],bw=>by simp[kY]
 |x::aY,bw=>by
  have e:kY M R ab bw (x::aY)=kY M R ab (qF M R ab bw x) aY:=rfl;obtain⟨h1,G,au⟩:=Ap (M:=M) (R:=R) (ab:=ab) (B:=B) aY (qF M R ab bw x);rw[e,h1,G,au];unfold qF
  by_cases ay:Fb M B x=true
  ·have mS:=ay;unfold Fb at mS;simp only[decide_eq_true_eq] at mS;rw[List.filter_cons_of_pos ay]
   by_cases N:R≤B∧B≤ab
   ·rw[if_pos ⟨mS.1,by rw[mS.2];exact N⟩,if_pos N,if_pos N,mS.2];refine⟨by simp[gR,abY],by simp[gR],?_⟩;simp only[CO];constructor
    ·intro _;exact .inr ⟨N.1,N.2,x,List.mem_cons_self,ay⟩
    ·intro _;exact .inl (.inl trivial)
   ·rw[if_neg (fun h=>N (by rw[mS.2] at h;exact h.2)),if_neg N,if_neg N];refine⟨rfl,rfl,?_⟩;constructor
    ·rintro (h|⟨a,b,_⟩)
     ·exact .inl h
     ·exact absurd ⟨a,b⟩ N
    ·rintro (h|⟨a,b,_⟩)
     ·exact .inl h
     ·exact absurd ⟨a,b⟩ N
  ·rw[List.filter_cons_of_neg (by simpa using ay)];have key: (B∈(if ot M x.time=0∧R≤mm M x.time∧mm M x.time≤ab then (ek (mm M x.time) bw.1,gR bw.2 (mm M x.time) true [.int .i64 x.cB,.int .i64 x.time]) else bw).1↔B∈bw.1)∧ ∀ k,(if ot M x.time=0∧R≤mm M x.time∧mm M x.time≤ab then (ek (mm M x.time) bw.1,gR bw.2 (mm M x.time) true [.int .i64 x.cB,.int .i64 x.time]) else bw).2 B k=bw.2 B k:=by
    split
    ·rename_i J;have hne:mm M x.time≠B:=fun e=>ay (by unfold Fb;simp[J.1,e]);refine⟨?_,fun k=> ?_⟩
     ·simp only[CO];constructor
      ·rintro (h|h)
       ·exact absurd h.symm hne
       ·exact h
      ·exact .inr
     ·simp only[gR];rw[if_neg (fun h=>hne h.1.symm)]
    ·exact⟨Iff.rfl,fun _=>rfl⟩
   rw[key.2,key.2,key.1];refine⟨rfl,rfl,?_⟩;constructor
   ·rintro (h|⟨a,b,y,bt,h⟩)
    ·exact .inl h
    ·exact .inr ⟨a,b,y,List.mem_cons_of_mem _ bt,h⟩
   ·rintro (h|⟨a,b,y,bt,h⟩)
    ·exact .inl h
    ·rcases List.mem_cons.1 bt with rfl|bt
     ·exact absurd h ay
     ·exact .inr ⟨a,b,y,bt,h⟩
def rH (S:cv→Int)(aY:List cv):List (Int×List F):=(aY.filter fun k=>decide (0 < S k)).map fun k=>(k.B,[.str k.n,.int .i64 (S k)])
theorem aaV {S:cv→Int}{R ab:Int}: ∀ (aY:List cv) (Y:List Int) (bf:Int→Bool→List (List F)),sx S R ab Y bf aY=eS R ab (Y,bf) (rH S aY)
 | [],Y,bf=>rfl
 |k::aY,Y,bf=>by
  have e:sx S R ab Y bf (k::aY)=sx S R ab (wz S R ab (Y,bf) k).1 (wz S R ab (Y,bf) k).2 aY:=rfl;rw[e,aaV];unfold rH
  by_cases ao:0 < S k
  ·rw[List.filter_cons_of_pos (by simp[ao]),List.map_cons];have bK:eS R ab (Y,bf) ((k.B,[.str k.n,.int .i64 (S k)])::(aY.filter fun k=>decide (0 < S k)).map fun k=>(k.B,[.str k.n,.int .i64 (S k)]))=eS R ab (nN R ab (Y,bf) (k.B,[.str k.n,.int .i64 (S k)])) ((aY.filter fun k=>decide (0 < S k)).map fun k=>(k.B,[.str k.n,.int .i64 (S k)])):=rfl;rw[bK];congr 1;unfold wz nN
   by_cases J:R≤k.B∧k.B≤ab
   ·rw[if_pos ⟨ao,J⟩,if_pos J]
   ·rw[if_neg (fun h=>J h.2),if_neg J]
  ·rw[List.filter_cons_of_neg (by simp[ao])];congr 1;unfold wz;rw[if_neg (fun h=>ao h.1)]
theorem aO.awN {P:Program}{f:FuncId}{args:List F}{r:List Z}{bh Gx:F→List Z→Prop}(h:aO P f args r bh)(aP: ∀ v rs,bh v rs→ ∃ w,Gx w rs∧ ∀ C x,Rep C v x→Rep C w x):aO P f args r Gx:=by
 intro C dA h1 G hG au;refine (h C dA h1 G hG au).mono ?_;rintro e w' ⟨aZ,x,aB,a,b,J,B,cO,q⟩;obtain⟨w,aV,N⟩:=aP _ _ q;exact⟨aZ,w,aB,a,b,N _ _ J,B,cO,aV⟩
open Go.Proofs.Tryz
def As:List (yb prog):= [⟨3,a3,⟨_,_,func3,azl⟩⟩,⟨4,a4,⟨_,_,func4,azm⟩⟩,⟨5,a5,⟨_,_,func5,azn⟩⟩,⟨6,MV,⟨_,_,func6,azo⟩⟩,⟨7,Az,⟨_,_,func7,azp⟩⟩,⟨8,Au,⟨_,_,func8,aby⟩⟩,⟨9,a9,⟨_,_,func9,azq⟩⟩,⟨10,uW,⟨_,_,func10,Ls⟩⟩,⟨11,qN,⟨_,_,func11,aaM⟩⟩,⟨12,acl,⟨_,_,func12,azr⟩⟩,⟨13,acm,⟨_,_,func13,azs⟩⟩,⟨14,Fj,⟨_,_,func14,acb⟩⟩,⟨15,acn,⟨_,_,func15,azt⟩⟩,⟨16,Lt,⟨_,_,func16,Ye⟩⟩,⟨17,IA,⟨_,_,func17,abV⟩⟩,⟨18,EM,⟨_,_,func18,YG⟩⟩,⟨19,aco,⟨_,_,func19,azu⟩⟩,⟨20,Fo,⟨_,_,func20,acp⟩⟩,⟨21,acr,⟨_,_,func21,azv⟩⟩,⟨22,a22,⟨_,_,func22,aca⟩⟩,⟨23,a23,⟨_,_,func23,acs⟩⟩,⟨24,a24,⟨_,_,func24,YD⟩⟩,⟨25,a25,⟨_,_,func25,azw⟩⟩,⟨26,a26,⟨_,_,func26,azx⟩⟩,⟨27,a27,⟨_,_,func27,azy⟩⟩,⟨28,a28,⟨_,_,func28,azz⟩⟩,⟨29,acu,⟨_,_,func29,azA⟩⟩,⟨30,acv,⟨_,_,func30,azB⟩⟩,⟨31,a31,⟨_,_,func31,azC⟩⟩,⟨32,MW,⟨_,_,func32,acx⟩⟩,⟨33,a33,⟨_,_,func33,acy⟩⟩,⟨34,wJ,⟨_,_,func34,acz⟩⟩,⟨35,acA,⟨_,_,func35,azD⟩⟩,⟨36,acB,⟨_,_,func36,azE⟩⟩,⟨37,acC,⟨_,_,func37,azF⟩⟩,⟨38,acD,⟨_,_,func38,azG⟩⟩,⟨39,a39,⟨_,_,func39,azH⟩⟩,⟨40,LL,⟨_,_,func40,Y1⟩⟩,⟨41,AA,⟨_,_,func41,acE⟩⟩,⟨42,pn,⟨_,_,func42,acF⟩⟩,⟨43,qI,⟨_,_,func43,ZW⟩⟩,⟨44,Fh,⟨_,_,func44,abT⟩⟩,⟨45,a45,⟨_,_,func45,Zc⟩⟩,⟨46,a46,⟨_,_,func46,Zu⟩⟩,⟨47,acG,⟨_,_,func47,azI⟩⟩,⟨48,acH,⟨_,_,func48,azJ⟩⟩,⟨49,acI,⟨_,_,func49,azK⟩⟩,⟨50,a50,⟨_,_,func50,azL⟩⟩,⟨51,a51,⟨_,_,func51,azM⟩⟩,⟨52,acJ,⟨_,_,func52,azN⟩⟩,⟨53,a53,⟨_,_,func53,azO⟩⟩,⟨54,acK,⟨_,_,func54,azP⟩⟩,⟨55,a55,⟨_,_,func55,azQ⟩⟩,⟨56,Fi,⟨_,_,func56,abZ⟩⟩,⟨57,MX,⟨_,_,func57,acL⟩⟩,⟨58,EG,⟨_,_,func58,Yp⟩⟩,⟨59,zP,⟨_,_,func59,Lv⟩⟩,⟨60,yA,⟨_,_,func60,acM⟩⟩,⟨61,AB,⟨_,_,func61,acN⟩⟩,⟨62,AC,⟨_,_,func62,acO⟩⟩,⟨63,CP,⟨_,_,func63,acP⟩⟩,⟨64,uX,⟨_,_,func64,Lu⟩⟩,⟨65,acQ,⟨_,_,func65,azR⟩⟩,⟨66,a66,⟨_,_,func66,YO⟩⟩,⟨67,AD,⟨_,_,func67,acR⟩⟩,⟨68,yB,⟨_,_,func68,acS⟩⟩,⟨69,E3,⟨_,_,func69,ZT⟩⟩,⟨70,a70,⟨_,_,func70,Zs⟩⟩,⟨71,my,⟨_,_,func71,ack⟩⟩,⟨72,acT,⟨_,_,func72,azS⟩⟩,⟨73,MQ,⟨_,_,func73,ach⟩⟩,⟨74,Mj,⟨_,_,func74,aab⟩⟩,⟨75,acU,⟨_,_,func75,azT⟩⟩,⟨76,a76,⟨_,_,func76,azU⟩⟩,⟨77,a77,⟨_,_,func77,azV⟩⟩,⟨78,acV,⟨_,_,func78,azW⟩⟩,⟨79,acW,⟨_,_,func79,azX⟩⟩,⟨80,acX,⟨_,_,func80,azY⟩⟩,⟨81,acY,⟨_,_,func81,azZ⟩⟩,⟨82,acZ,⟨_,_,func82,aAa⟩⟩,⟨83,ada,⟨_,_,func83,aAb⟩⟩,⟨84,adb,⟨_,_,func84,aAc⟩⟩,⟨85,adc,⟨_,_,func85,aAd⟩⟩,⟨86,ade,⟨_,_,func86,aAe⟩⟩,⟨87,adf,⟨_,_,func87,aAf⟩⟩,⟨88,adg,⟨_,_,func88,aAg⟩⟩,⟨89,adh,⟨_,_,func89,aAh⟩⟩,⟨90,adi,⟨_,_,func90,aAi⟩⟩,⟨91,adj,⟨_,_,func91,aAj⟩⟩,⟨92,Fp,⟨_,_,func92,adk⟩⟩,⟨93,MY,⟨_,_,func93,adl⟩⟩,⟨94,ua,⟨_,_,func94,SX⟩⟩,⟨95,IE,⟨_,_,func95,adm⟩⟩,⟨96,AE,⟨_,_,func96,adn⟩⟩,⟨97,wK,⟨_,_,func97,ado⟩⟩,⟨98,adp,⟨_,_,func98,aAk⟩⟩,⟨99,adq,⟨_,_,func99,aAl⟩⟩,⟨100,adr,⟨_,_,func100,aAm⟩⟩,⟨101,ads,⟨_,_,func101,aAn⟩⟩,⟨102,adt,⟨_,_,func102,aAo⟩⟩,⟨103,adu,⟨_,_,func103,aAp⟩⟩,⟨104,adv,⟨_,_,func104,aAq⟩⟩,⟨105,adw,⟨_,_,func105,aAr⟩⟩,⟨106,adx,⟨_,_,func106,aAs⟩⟩,⟨107,ady,⟨_,_,func107,aAt⟩⟩,⟨108,adz,⟨_,_,func108,aAu⟩⟩,⟨109,MZ,⟨_,_,func109,adA⟩⟩,⟨110,ub,⟨_,_,func110,adB⟩⟩,⟨111,M0,⟨_,_,func111,adC⟩⟩,⟨112,M1,⟨_,_,func112,adD⟩⟩,⟨113,CQ,⟨_,_,func113,adE⟩⟩,⟨114,yC,⟨_,_,func114,adF⟩⟩,⟨115,ip,⟨_,_,func115,SK⟩⟩,⟨116,adG,⟨_,_,func116,aAv⟩⟩,⟨117,Fq,⟨_,_,func117,adH⟩⟩,⟨118,Cp,⟨_,_,func118,Zn⟩⟩,⟨119,yi,⟨_,_,func119,YY⟩⟩,⟨120,MP,⟨_,_,func120,acg⟩⟩,⟨121,adI,⟨_,_,func121,aAw⟩⟩,⟨122,Mo,⟨_,_,func122,aag⟩⟩,⟨123,CE,⟨_,_,func123,aaf⟩⟩,⟨124,Ml,⟨_,_,func124,aae⟩⟩,⟨125,EK,⟨_,_,func125,YB⟩⟩,⟨126,adJ,⟨_,_,func126,aAx⟩⟩,⟨127,adK,⟨_,_,func127,aAy⟩⟩,⟨129,adL,⟨_,_,func129,aAz⟩⟩,⟨130,adM,⟨_,_,func130,aAA⟩⟩,⟨131,a131,⟨_,_,func131,aAB⟩⟩,⟨132,adN,⟨_,_,func132,aAC⟩⟩,⟨133,adO,⟨_,_,func133,aAD⟩⟩,⟨134,adP,⟨_,_,func134,aAE⟩⟩,⟨135,adQ,⟨_,_,func135,aAF⟩⟩,⟨136,adR,⟨_,_,func136,aAG⟩⟩,⟨137,adS,⟨_,_,func137,aAH⟩⟩,⟨138,adT,⟨_,_,func138,aAI⟩⟩,⟨139,adU,⟨_,_,func139,aAJ⟩⟩,⟨140,adV,⟨_,_,func140,aAK⟩⟩,⟨141,EE,⟨_,_,func141,Yh⟩⟩,⟨142,wL,⟨_,_,func142,adW⟩⟩,⟨143,EP,⟨_,_,func143,YJ⟩⟩,⟨144,M2,⟨_,_,func144,adX⟩⟩,⟨145,Fr,⟨_,_,func145,adY⟩⟩,⟨146,adZ,⟨_,_,func146,aAL⟩⟩,⟨147,M3,⟨_,_,func147,aea⟩⟩,⟨148,M4,⟨_,_,func148,aeb⟩⟩,⟨149,wM,⟨_,_,func149,aec⟩⟩,⟨150,M5,⟨_,_,func150,aed⟩⟩,⟨151,M6,⟨_,_,func151,aee⟩⟩,⟨152,sH,⟨_,_,func152,aef⟩⟩,⟨153,EQ,⟨_,_,func153,YQ⟩⟩,⟨154,Mf,⟨_,_,func154,Z7⟩⟩,⟨155,zU,⟨_,_,func155,YI⟩⟩,⟨156,EZ,⟨_,_,func156,Rb⟩⟩,⟨157,aeg,⟨_,_,func157,aAM⟩⟩,⟨158,aeh,⟨_,_,func158,aAN⟩⟩,⟨159,Mi,⟨_,_,func159,aaa⟩⟩,⟨160,aei,⟨_,_,func160,aAO⟩⟩,⟨161,aej,⟨_,_,func161,aAP⟩⟩,⟨162,aek,⟨_,_,func162,aAQ⟩⟩,⟨163,ael,⟨_,_,func163,aAR⟩⟩,⟨164,aem,⟨_,_,func164,aAS⟩⟩,⟨165,aen,⟨_,_,func165,aAT⟩⟩,⟨166,aeo,⟨_,_,func166,aAU⟩⟩,⟨167,aep,⟨_,_,func167,aAV⟩⟩,⟨169,aeq,⟨_,_,func169,aAW⟩⟩,⟨170,aer,⟨_,_,func170,aAX⟩⟩,⟨171,aes,⟨_,_,func171,aAY⟩⟩,⟨172,aet,⟨_,_,func172,aAZ⟩⟩,⟨173,aeu,⟨_,_,func173,aA0⟩⟩,⟨174,aev,⟨_,_,func174,aA1⟩⟩,⟨175,aew,⟨_,_,func175,aA2⟩⟩,⟨176,aex,⟨_,_,func176,aA3⟩⟩,⟨177,wN,⟨_,_,func177,aey⟩⟩,⟨178,aez,⟨_,_,func178,aA4⟩⟩,⟨179,M7,⟨_,_,func179,aeA⟩⟩,⟨180,vn,⟨_,_,func180,aeB⟩⟩,⟨181,AF,⟨_,_,func181,SY⟩⟩,⟨182,a182,⟨_,_,func182,aeC⟩⟩,⟨183,a183,⟨_,_,func183,aA5⟩⟩,⟨184,aeD,⟨_,_,func184,aA6⟩⟩,⟨185,aeE,⟨_,_,func185,aA7⟩⟩,⟨186,aeF,⟨_,_,func186,aA8⟩⟩,⟨187,aeG,⟨_,_,func187,aA9⟩⟩,⟨188,aeH,⟨_,_,func188,aBa⟩⟩,⟨190,CR,⟨_,_,func190,aeI⟩⟩,⟨191,Fs,⟨_,_,func191,aeJ⟩⟩,⟨192,AG,⟨_,_,func192,aeK⟩⟩,⟨193,Ft,⟨_,_,func193,aeL⟩⟩,⟨194,IF,⟨_,_,func194,aeM⟩⟩,⟨195,aeN,⟨_,_,func195,aBb⟩⟩,⟨196,M8,⟨_,_,func196,aeO⟩⟩,⟨197,Fu,⟨_,_,func197,aeP⟩⟩,⟨198,yD,⟨_,_,func198,aeQ⟩⟩,⟨199,pX,⟨_,_,func199,aeR⟩⟩,⟨200,M9,⟨_,_,func200,aeS⟩⟩,⟨201,Ff,⟨_,_,func201,SJ⟩⟩,⟨202,IG,⟨_,_,func202,aeT⟩⟩,⟨203,pY,⟨_,_,func203,aeU⟩⟩,⟨205,aeV,⟨_,_,func205,aBc⟩⟩,⟨206,aeW,⟨_,_,func206,aBd⟩⟩,⟨208,Mk,⟨_,_,func208,aad⟩⟩,⟨209,EI,⟨_,_,func209,Yt⟩⟩,⟨211,aeX,⟨_,_,func211,aBe⟩⟩,⟨212,aeY,⟨_,_,func212,aBf⟩⟩,⟨213,aeZ,⟨_,_,func213,aBg⟩⟩,⟨214,afa,⟨_,_,func214,aBh⟩⟩,⟨215,afb,⟨_,_,func215,aBi⟩⟩,⟨216,afc,⟨_,_,func216,aBj⟩⟩,⟨217,afd,⟨_,_,func217,aBk⟩⟩,⟨218,a218,⟨_,_,func218,aBl⟩⟩,⟨219,afe,⟨_,_,func219,aBm⟩⟩,⟨220,Hk,⟨_,_,func220,Yg⟩⟩,⟨221,aff,⟨_,_,func221,aBn⟩⟩,⟨222,a222,⟨_,_,func222,afg⟩⟩,⟨223,Fv,⟨_,_,func223,afh⟩⟩,⟨224,IH,⟨_,_,func224,afi⟩⟩,⟨225,II,⟨_,_,func225,afj⟩⟩,⟨226,LB,⟨_,_,func226,Yz⟩⟩,⟨227,IJ,⟨_,_,func227,afk⟩⟩,⟨228,a228,⟨_,_,func228,afl⟩⟩,⟨229,a229,⟨_,_,func229,afm⟩⟩,⟨230,yE,⟨_,_,func230,afn⟩⟩,⟨231,qP,⟨_,_,func231,afo⟩⟩,⟨232,Fw,⟨_,_,func232,afp⟩⟩,⟨233,afq,⟨_,_,func233,aBo⟩⟩,⟨241,afr,⟨_,_,func241,aBp⟩⟩,⟨242,afs,⟨_,_,func242,aBq⟩⟩,⟨243,aft,⟨_,_,func243,aBr⟩⟩,⟨244,afu,⟨_,_,func244,aBs⟩⟩,⟨245,afv,⟨_,_,func245,aBt⟩⟩,⟨246,afw,⟨_,_,func246,aBu⟩⟩,⟨247,Na,⟨_,_,func247,afx⟩⟩,⟨248,afy,⟨_,_,func248,aBv⟩⟩,⟨249,afz,⟨_,_,func249,aBw⟩⟩,⟨251,afA,⟨_,_,func251,aBx⟩⟩,⟨252,IK,⟨_,_,func252,afB⟩⟩,⟨253,Fx,⟨_,_,func253,afC⟩⟩,⟨254,Nb,⟨_,_,func254,afD⟩⟩,⟨255,afE,⟨_,_,func255,aBy⟩⟩,⟨256,afF,⟨_,_,func256,aBz⟩⟩,⟨257,Nc,⟨_,_,func257,afG⟩⟩,⟨258,AH,⟨_,_,func258,afH⟩⟩,⟨259,Ly,⟨_,_,func259,Yn⟩⟩,⟨260,AI,⟨_,_,func260,afI⟩⟩,⟨262,afJ,⟨_,_,func262,aBA⟩⟩,⟨263,afK,⟨_,_,func263,aBB⟩⟩,⟨269,afL,⟨_,_,func269,aBC⟩⟩,⟨272,afM,⟨_,_,func272,aBD⟩⟩,⟨273,afN,⟨_,_,func273,aBE⟩⟩,⟨274,afO,⟨_,_,func274,aBF⟩⟩,⟨275,afP,⟨_,_,func275,aBG⟩⟩,⟨276,afQ,⟨_,_,func276,aBH⟩⟩,⟨284,EJ,⟨_,_,func284,Yv⟩⟩,⟨285,wO,⟨_,_,func285,afR⟩⟩,⟨286,IL,⟨_,_,func286,afS⟩⟩,⟨287,Fy,⟨_,_,func287,afT⟩⟩,⟨288,Fz,⟨_,_,func288,afU⟩⟩,⟨294,afV,⟨_,_,func294,aBI⟩⟩,⟨295,afW,⟨_,_,func295,aBJ⟩⟩,⟨303,afX,⟨_,_,func303,aBK⟩⟩,⟨309,afY,⟨_,_,func309,aBL⟩⟩,⟨312,Nf,⟨_,_,func312,afZ⟩⟩,⟨313,aga,⟨_,_,func313,aBM⟩⟩,⟨314,agb,⟨_,_,func314,aBN⟩⟩,⟨322,EF,⟨_,_,func322,Yl⟩⟩,⟨323,Ng,⟨_,_,func323,agc⟩⟩,⟨324,IM,⟨_,_,func324,agd⟩⟩,⟨325,age,⟨_,_,func325,aBO⟩⟩,⟨336,agf,⟨_,_,func336,aBP⟩⟩,⟨337,agh,⟨_,_,func337,aBQ⟩⟩,⟨338,agi,⟨_,_,func338,aBR⟩⟩,⟨352,FA,⟨_,_,func352,agj⟩⟩,⟨353,IN,⟨_,_,func353,agk⟩⟩,⟨358,agl,⟨_,_,func358,aBS⟩⟩,⟨359,agm,⟨_,_,func359,aBT⟩⟩,⟨360,agn,⟨_,_,func360,aBU⟩⟩,⟨361,ago,⟨_,_,func361,aBV⟩⟩,⟨366,AJ,⟨_,_,func366,agp⟩⟩,⟨368,lD,⟨_,_,func368,agq⟩⟩,⟨369,FB,⟨_,_,func369,agr⟩⟩,⟨370,Nh,⟨_,_,func370,ags⟩⟩,⟨371,CS,⟨_,_,func371,agt⟩⟩,⟨372,Ni,⟨_,_,func372,agu⟩⟩]
theorem axU {r:List Z}{a:Nat}:aO prog 116 [.bE a] r
 (fun v rs=>v= .fn 204 [.bd r.length 1 0 0]∧rs=r++ [.ag 224 1 [[.bE a]]]):=by
 refine aO.rZ fun oy w=> ?_
 go_enter func116,ntmps116
 go_wp2
 go_ret
 exact⟨rfl,rfl⟩
def SB (args:List F)(r:List Z):Option (F×List Z):=
 match args with
 | [.bE a]=>some (.fn 204 [.bd r.length 1 0 0],r++ [.ag 224 1 [[.bE a]]])
 |_=>none
theorem axV (args:List F)(r:List Z)(v:F)(rs:List Z)(h:SB args r=some (v,rs)):aO prog 116 args r fun gA hs=>gA=v∧hs=rs:=by
 unfold SB at h;split at h
 ·simp only[Option.some.injEq,Prod.mk.injEq] at h;obtain⟨rfl,rfl⟩:=h;exact axU
 ·cases h
open Go.RowKit (Below)
theorem axW {r:List Z}{a:Nat}:aO prog 82 [.bE a] r
 (fun v rs=>v= .fn 168 [.bd r.length 1 0 0]∧rs=r++ [.ag 169 1 [[.bE a]]]):=by
 refine aO.rZ fun oy w=> ?_
 go_enter func82,ntmps82
 go_wp2
 go_ret
 exact⟨rfl,rfl⟩
def Iv (g:FuncId)(aW:TypeId)(args:List F)(r:List Z):Option (F×List Z):=
 match args with
 | [.bE a]=>some (.fn g [.bd r.length 1 0 0],r++ [.ag aW 1 [[.bE a]]])
 |_=>none
theorem SC {f g:FuncId}{aW:TypeId}(cA: ∀ (r:List Z) (a:Nat),aO prog f [.bE a] r fun v rs=>v= .fn g [.bd r.length 1 0 0]∧rs=r++ [.ag aW 1 [[.bE a]]])(args:List F)(r:List Z)(v:F)(rs:List Z)(h:Iv g aW args r=some (v,rs)):aO prog f args r fun gA hs=>gA=v∧hs=rs:=by
 unfold Iv at h;split at h
 ·simp only[Option.some.injEq,Prod.mk.injEq] at h;obtain⟨rfl,rfl⟩:=h;exact cA _ _
 ·cases h
def SD:List (F×F)→Option (List cv)
 | []=>some []
 | [(.agg [.int .i64 B,.str n],_)]=>some [⟨B,n⟩]
 |_=>none
def SE (args:List F)(r:List Z):Option (F×List Z):=
 match args with
 | [.fn 207 [.bd b 1 0 0],.fn 122 []]=>
  match r[b]? with
  |some (.ag _ 1 [[.bE a]])=>
   match r[a]? with
   |some (.be (.map true [.int .i64,.str] ents))=>
    match SD ents with
    |some Y=>if (Y.all fun k=>abN k.B&&decide (k.n.size≤1000))&&r.all (jc r.length) then some (.own r.length Y.length 0 Y.length,r++ [.ag 235 2 (ai Y)]) else none
    |none=>none
   |_=>none
  |_=>none
 |_=>none
theorem axX {ents:List (F×F)}{Y:List cv}(h:SD ents=some Y):ents.map (·.1)=Ak Y∧Y.Nodup∧Y.length≤1:=by
 unfold SD at h;split at h
 ·cases h;exact⟨rfl,List.nodup_nil,by simp⟩
 ·cases h;exact⟨rfl,by simp,by simp⟩
 ·cases h
theorem axY (args:List F)(r:List Z)(v:F)(rs:List Z)(h:SE args r=some (v,rs)):aO prog 120 args r fun gA hs=>gA=v∧hs=rs:=by
 unfold SE at h;split at h
 ·split at h
  ·rename_i hb;split at h
   ·rename_i aC;split at h
    ·rename_i Y mg;split at h
     ·rename_i ad;simp only[Bool.and_eq_true,List.all_eq_true,decide_eq_true_eq] at ad;simp only[Option.some.injEq,Prod.mk.injEq] at h;obtain⟨rfl,rfl⟩:=h;obtain⟨bO,cd,fk⟩:=axX mg;refine (Zf (fun z bG N=>ad.2 bG (List.mem_of_getElem? N)) aC hb bO cd (fun x aj=>⟨(ad.1 x aj).1,Nat.le_trans (ad.1 x aj).2 (by decide)⟩) (by omega)).mono ?_;rintro v rs ⟨l,hl,_,rfl,rfl⟩;have:l=Y:=by
       match Y,fk with
       | [],_=>exact List.perm_nil.1 hl
       | [x],_=>exact List.perm_singleton.1 hl
      subst this;exact⟨rfl,rfl⟩
     ·cases h
    ·cases h
   ·cases h
  ·cases h
 ·cases h
theorem Z6 (w:World)(a:Addr)(l J:Nat): (binOp .eql 60 (.slice (some a) l J) (.slice none 0 0)).run prog w= .ok (.bool false) w:=by
 simp[binOp,Op.equal,Op.maxDepth,Vo (P:=prog) w 9999 60 _ a l J underlying60]
theorem Z5 (w:World)(l J:Nat): (binOp .eql 60 (.slice none l J) (.slice none 0 0)).run prog w= .ok (.bool true) w:=by
 have h: (Op.equalIn (9999+1) 60 (.slice none l J) (.slice none 0 0)).run prog w= .ok true w:=by
  rw[Op.equalIn];simp only[Sem.run_bind,run_underlying underlying60,Result.andThen_ok,Sem.run_pure];rfl
 simp[binOp,Op.equal,Op.maxDepth,h]
def SG (args:List F)(r:List Z):Option (F×List Z):=
 match args,r with
 | [.int .i64 y,.int .i64 m],[]=>if 0≤y∧1≤m∧m≤12 then some (.int .i64 (hZ y m),[]) else none
 |_,_=>none
theorem ayb (args:List F)(r:List Z)(v:F)(rs:List Z)(h:SG args r=some (v,rs)):aO prog 255 args r fun gA hs=>gA=v∧hs=rs:=by
 unfold SG at h;split at h
 ·split at h
  ·rename_i ad;simp only[Option.some.injEq,Prod.mk.injEq] at h;obtain⟨rfl,rfl⟩:=h;exact ES _ _ ad.1 ad.2.1 ad.2.2
  ·cases h
 ·cases h
def MH:List (uU prog):= [⟨47,SA,axT⟩,⟨116,SB,axV⟩,
 ⟨82,Iv 168 169,SC fun _ _=>axW⟩,
 ⟨48,Iv 128 116,SC fun _ _=>aaZ⟩,
 ⟨121,Iv 207 232,SC fun _ _=>Ze⟩,
 ⟨120,SE,axY⟩,⟨255,SG,ayb⟩]
end Go.Proofs.YtpincjkjoeopkaaGreatDoor
