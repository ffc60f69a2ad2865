/- Time evaluation. -/
import Derived.Test.YtpincjkjoeopkaaGreatDoorC16
set_option linter.all false
namespace Go.Proofs.YtpincjkjoeopkaaGreatDoor
open Go Go.Abs Go.Proofs.Tryz
def As:List (yb prog):=[⟨3,a3,⟨_,_,func3,azl⟩⟩,⟨4,a4,⟨_,_,func4,azm⟩⟩,⟨5,a5,⟨_,_,func5,azn⟩⟩,⟨6,MV,⟨_,_,func6,azo⟩⟩,⟨7,Az,⟨_,_,func7,azp⟩⟩,⟨8,Au,⟨_,_,func8,aby⟩⟩,⟨9,a9,⟨_,_,func9,azq⟩⟩,⟨10,uW,⟨_,_,func10,Ls⟩⟩,⟨11,qN,⟨_,_,func11,aaM⟩⟩,⟨12,acl,⟨_,_,func12,azr⟩⟩,⟨13,acm,⟨_,_,func13,azs⟩⟩,⟨14,Fj,⟨_,_,func14,acb⟩⟩,⟨15,acn,⟨_,_,func15,azt⟩⟩,⟨16,Lt,⟨_,_,func16,Ye⟩⟩,⟨17,IA,⟨_,_,func17,abV⟩⟩,⟨18,EM,⟨_,_,func18,YG⟩⟩,⟨19,aco,⟨_,_,func19,azu⟩⟩,⟨20,Fo,⟨_,_,func20,acp⟩⟩,⟨21,acr,⟨_,_,func21,azv⟩⟩,⟨22,a22,⟨_,_,func22,aca⟩⟩,⟨23,a23,⟨_,_,func23,acs⟩⟩,⟨24,a24,⟨_,_,func24,YD⟩⟩,⟨25,a25,⟨_,_,func25,azw⟩⟩,⟨26,a26,⟨_,_,func26,azx⟩⟩,⟨27,a27,⟨_,_,func27,azy⟩⟩,⟨28,a28,⟨_,_,func28,azz⟩⟩,⟨29,acu,⟨_,_,func29,azA⟩⟩,⟨30,acv,⟨_,_,func30,azB⟩⟩,⟨31,a31,⟨_,_,func31,azC⟩⟩,⟨32,MW,⟨_,_,func32,acx⟩⟩,⟨33,a33,⟨_,_,func33,acy⟩⟩,⟨34,wJ,⟨_,_,func34,acz⟩⟩,⟨35,acA,⟨_,_,func35,azD⟩⟩,⟨36,acB,⟨_,_,func36,azE⟩⟩,⟨37,acC,⟨_,_,func37,azF⟩⟩,⟨38,acD,⟨_,_,func38,azG⟩⟩,⟨39,a39,⟨_,_,func39,azH⟩⟩,⟨40,LL,⟨_,_,func40,Y1⟩⟩,⟨41,AA,⟨_,_,func41,acE⟩⟩,⟨42,pn,⟨_,_,func42,acF⟩⟩,⟨43,qI,⟨_,_,func43,ZW⟩⟩,⟨44,Fh,⟨_,_,func44,abT⟩⟩,⟨45,a45,⟨_,_,func45,Zc⟩⟩,⟨46,a46,⟨_,_,func46,Zu⟩⟩,⟨47,acG,⟨_,_,func47,azI⟩⟩,⟨48,acH,⟨_,_,func48,azJ⟩⟩,⟨49,acI,⟨_,_,func49,azK⟩⟩,⟨50,a50,⟨_,_,func50,azL⟩⟩,⟨51,a51,⟨_,_,func51,azM⟩⟩,⟨52,acJ,⟨_,_,func52,azN⟩⟩,⟨53,a53,⟨_,_,func53,azO⟩⟩,⟨54,acK,⟨_,_,func54,azP⟩⟩,⟨55,a55,⟨_,_,func55,azQ⟩⟩,⟨56,Fi,⟨_,_,func56,abZ⟩⟩,⟨57,MX,⟨_,_,func57,acL⟩⟩,⟨58,EG,⟨_,_,func58,Yp⟩⟩,⟨59,zP,⟨_,_,func59,Lv⟩⟩,⟨60,yA,⟨_,_,func60,acM⟩⟩,⟨61,AB,⟨_,_,func61,acN⟩⟩,⟨62,AC,⟨_,_,func62,acO⟩⟩,⟨63,CP,⟨_,_,func63,acP⟩⟩,⟨64,uX,⟨_,_,func64,Lu⟩⟩,⟨65,acQ,⟨_,_,func65,azR⟩⟩,⟨66,a66,⟨_,_,func66,YO⟩⟩,⟨67,AD,⟨_,_,func67,acR⟩⟩,⟨68,yB,⟨_,_,func68,acS⟩⟩,⟨69,E3,⟨_,_,func69,ZT⟩⟩,⟨70,a70,⟨_,_,func70,Zs⟩⟩,⟨71,my,⟨_,_,func71,ack⟩⟩,⟨72,acT,⟨_,_,func72,azS⟩⟩,⟨73,MQ,⟨_,_,func73,ach⟩⟩,⟨74,Mj,⟨_,_,func74,aab⟩⟩,⟨75,acU,⟨_,_,func75,azT⟩⟩,⟨76,a76,⟨_,_,func76,azU⟩⟩,⟨77,a77,⟨_,_,func77,azV⟩⟩,⟨78,acV,⟨_,_,func78,azW⟩⟩,⟨79,acW,⟨_,_,func79,azX⟩⟩,⟨80,acX,⟨_,_,func80,azY⟩⟩,⟨81,acY,⟨_,_,func81,azZ⟩⟩,⟨82,acZ,⟨_,_,func82,aAa⟩⟩,⟨83,ada,⟨_,_,func83,aAb⟩⟩,⟨84,adb,⟨_,_,func84,aAc⟩⟩,⟨85,adc,⟨_,_,func85,aAd⟩⟩,⟨86,ade,⟨_,_,func86,aAe⟩⟩,⟨87,adf,⟨_,_,func87,aAf⟩⟩,⟨88,adg,⟨_,_,func88,aAg⟩⟩,⟨89,adh,⟨_,_,func89,aAh⟩⟩,⟨90,adi,⟨_,_,func90,aAi⟩⟩,⟨91,adj,⟨_,_,func91,aAj⟩⟩,⟨92,Fp,⟨_,_,func92,adk⟩⟩,⟨93,MY,⟨_,_,func93,adl⟩⟩,⟨94,ua,⟨_,_,func94,SX⟩⟩,⟨95,IE,⟨_,_,func95,adm⟩⟩,⟨96,AE,⟨_,_,func96,adn⟩⟩,⟨97,wK,⟨_,_,func97,ado⟩⟩,⟨98,adp,⟨_,_,func98,aAk⟩⟩,⟨99,adq,⟨_,_,func99,aAl⟩⟩,⟨100,adr,⟨_,_,func100,aAm⟩⟩,⟨101,ads,⟨_,_,func101,aAn⟩⟩,⟨102,adt,⟨_,_,func102,aAo⟩⟩,⟨103,adu,⟨_,_,func103,aAp⟩⟩,⟨104,adv,⟨_,_,func104,aAq⟩⟩,⟨105,adw,⟨_,_,func105,aAr⟩⟩,⟨106,adx,⟨_,_,func106,aAs⟩⟩,⟨107,ady,⟨_,_,func107,aAt⟩⟩,⟨108,adz,⟨_,_,func108,aAu⟩⟩,⟨109,MZ,⟨_,_,func109,adA⟩⟩,⟨110,ub,⟨_,_,func110,adB⟩⟩,⟨111,M0,⟨_,_,func111,adC⟩⟩,⟨112,M1,⟨_,_,func112,adD⟩⟩,⟨113,CQ,⟨_,_,func113,adE⟩⟩,⟨114,yC,⟨_,_,func114,adF⟩⟩,⟨115,ip,⟨_,_,func115,SK⟩⟩,⟨116,adG,⟨_,_,func116,aAv⟩⟩,⟨117,Fq,⟨_,_,func117,adH⟩⟩,⟨118,Cp,⟨_,_,func118,Zn⟩⟩,⟨119,yi,⟨_,_,func119,YY⟩⟩,⟨120,MP,⟨_,_,func120,acg⟩⟩,⟨121,adI,⟨_,_,func121,aAw⟩⟩,⟨122,Mo,⟨_,_,func122,aag⟩⟩,⟨123,CE,⟨_,_,func123,aaf⟩⟩,⟨124,Ml,⟨_,_,func124,aae⟩⟩,⟨125,EK,⟨_,_,func125,YB⟩⟩,⟨126,adJ,⟨_,_,func126,aAx⟩⟩,⟨127,adK,⟨_,_,func127,aAy⟩⟩,⟨129,adL,⟨_,_,func129,aAz⟩⟩,⟨130,adM,⟨_,_,func130,aAA⟩⟩,⟨131,a131,⟨_,_,func131,aAB⟩⟩,⟨132,adN,⟨_,_,func132,aAC⟩⟩,⟨133,adO,⟨_,_,func133,aAD⟩⟩,⟨134,adP,⟨_,_,func134,aAE⟩⟩,⟨135,adQ,⟨_,_,func135,aAF⟩⟩,⟨136,adR,⟨_,_,func136,aAG⟩⟩,⟨137,adS,⟨_,_,func137,aAH⟩⟩,⟨138,adT,⟨_,_,func138,aAI⟩⟩,⟨139,adU,⟨_,_,func139,aAJ⟩⟩,⟨140,adV,⟨_,_,func140,aAK⟩⟩,⟨141,EE,⟨_,_,func141,Yh⟩⟩,⟨142,wL,⟨_,_,func142,adW⟩⟩,⟨143,EP,⟨_,_,func143,YJ⟩⟩,⟨144,M2,⟨_,_,func144,adX⟩⟩,⟨145,Fr,⟨_,_,func145,adY⟩⟩,⟨146,adZ,⟨_,_,func146,aAL⟩⟩,⟨147,M3,⟨_,_,func147,aea⟩⟩,⟨148,M4,⟨_,_,func148,aeb⟩⟩,⟨149,wM,⟨_,_,func149,aec⟩⟩,⟨150,M5,⟨_,_,func150,aed⟩⟩,⟨151,M6,⟨_,_,func151,aee⟩⟩,⟨152,sH,⟨_,_,func152,aef⟩⟩,⟨153,EQ,⟨_,_,func153,YQ⟩⟩,⟨154,Mf,⟨_,_,func154,Z7⟩⟩,⟨155,zU,⟨_,_,func155,YI⟩⟩,⟨156,EZ,⟨_,_,func156,Rb⟩⟩,⟨157,aeg,⟨_,_,func157,aAM⟩⟩,⟨158,aeh,⟨_,_,func158,aAN⟩⟩,⟨159,Mi,⟨_,_,func159,aaa⟩⟩,⟨160,aei,⟨_,_,func160,aAO⟩⟩,⟨161,aej,⟨_,_,func161,aAP⟩⟩,⟨162,aek,⟨_,_,func162,aAQ⟩⟩,⟨163,ael,⟨_,_,func163,aAR⟩⟩,⟨164,aem,⟨_,_,func164,aAS⟩⟩,⟨165,aen,⟨_,_,func165,aAT⟩⟩,⟨166,aeo,⟨_,_,func166,aAU⟩⟩,⟨167,aep,⟨_,_,func167,aAV⟩⟩,⟨169,aeq,⟨_,_,func169,aAW⟩⟩,⟨170,aer,⟨_,_,func170,aAX⟩⟩,⟨171,aes,⟨_,_,func171,aAY⟩⟩,⟨172,aet,⟨_,_,func172,aAZ⟩⟩,⟨173,aeu,⟨_,_,func173,aA0⟩⟩,⟨174,aev,⟨_,_,func174,aA1⟩⟩,⟨175,aew,⟨_,_,func175,aA2⟩⟩,⟨176,aex,⟨_,_,func176,aA3⟩⟩,⟨177,wN,⟨_,_,func177,aey⟩⟩,⟨178,aez,⟨_,_,func178,aA4⟩⟩,⟨179,M7,⟨_,_,func179,aeA⟩⟩,⟨180,vn,⟨_,_,func180,aeB⟩⟩,⟨181,AF,⟨_,_,func181,SY⟩⟩,⟨182,a182,⟨_,_,func182,aeC⟩⟩,⟨183,a183,⟨_,_,func183,aA5⟩⟩,⟨184,aeD,⟨_,_,func184,aA6⟩⟩,⟨185,aeE,⟨_,_,func185,aA7⟩⟩,⟨186,aeF,⟨_,_,func186,aA8⟩⟩,⟨187,aeG,⟨_,_,func187,aA9⟩⟩,⟨188,aeH,⟨_,_,func188,aBa⟩⟩,⟨190,CR,⟨_,_,func190,aeI⟩⟩,⟨191,Fs,⟨_,_,func191,aeJ⟩⟩,⟨192,AG,⟨_,_,func192,aeK⟩⟩,⟨193,Ft,⟨_,_,func193,aeL⟩⟩,⟨194,IF,⟨_,_,func194,aeM⟩⟩,⟨195,aeN,⟨_,_,func195,aBb⟩⟩,⟨196,M8,⟨_,_,func196,aeO⟩⟩,⟨197,Fu,⟨_,_,func197,aeP⟩⟩,⟨198,yD,⟨_,_,func198,aeQ⟩⟩,⟨199,pX,⟨_,_,func199,aeR⟩⟩,⟨200,M9,⟨_,_,func200,aeS⟩⟩,⟨201,Ff,⟨_,_,func201,SJ⟩⟩,⟨202,IG,⟨_,_,func202,aeT⟩⟩,⟨203,pY,⟨_,_,func203,aeU⟩⟩,⟨205,aeV,⟨_,_,func205,aBc⟩⟩,⟨206,aeW,⟨_,_,func206,aBd⟩⟩,⟨208,Mk,⟨_,_,func208,aad⟩⟩,⟨209,EI,⟨_,_,func209,Yt⟩⟩,⟨211,aeX,⟨_,_,func211,aBe⟩⟩,⟨212,aeY,⟨_,_,func212,aBf⟩⟩,⟨213,aeZ,⟨_,_,func213,aBg⟩⟩,⟨214,afa,⟨_,_,func214,aBh⟩⟩,⟨215,afb,⟨_,_,func215,aBi⟩⟩,⟨216,afc,⟨_,_,func216,aBj⟩⟩,⟨217,afd,⟨_,_,func217,aBk⟩⟩,⟨218,a218,⟨_,_,func218,aBl⟩⟩,⟨219,afe,⟨_,_,func219,aBm⟩⟩,⟨220,Hk,⟨_,_,func220,Yg⟩⟩,⟨221,aff,⟨_,_,func221,aBn⟩⟩,⟨222,a222,⟨_,_,func222,afg⟩⟩,⟨223,Fv,⟨_,_,func223,afh⟩⟩,⟨224,IH,⟨_,_,func224,afi⟩⟩,⟨225,II,⟨_,_,func225,afj⟩⟩,⟨226,LB,⟨_,_,func226,Yz⟩⟩,⟨227,IJ,⟨_,_,func227,afk⟩⟩,⟨228,a228,⟨_,_,func228,afl⟩⟩,⟨229,a229,⟨_,_,func229,afm⟩⟩,⟨230,yE,⟨_,_,func230,afn⟩⟩,⟨231,qP,⟨_,_,func231,afo⟩⟩,⟨232,Fw,⟨_,_,func232,afp⟩⟩,⟨233,afq,⟨_,_,func233,aBo⟩⟩,⟨241,afr,⟨_,_,func241,aBp⟩⟩,⟨242,afs,⟨_,_,func242,aBq⟩⟩,⟨243,aft,⟨_,_,func243,aBr⟩⟩,⟨244,afu,⟨_,_,func244,aBs⟩⟩,⟨245,afv,⟨_,_,func245,aBt⟩⟩,⟨246,afw,⟨_,_,func246,aBu⟩⟩,⟨247,Na,⟨_,_,func247,afx⟩⟩,⟨248,afy,⟨_,_,func248,aBv⟩⟩,⟨249,afz,⟨_,_,func249,aBw⟩⟩,⟨251,afA,⟨_,_,func251,aBx⟩⟩,⟨252,IK,⟨_,_,func252,afB⟩⟩,⟨253,Fx,⟨_,_,func253,afC⟩⟩,⟨254,Nb,⟨_,_,func254,afD⟩⟩,⟨255,afE,⟨_,_,func255,aBy⟩⟩,⟨256,afF,⟨_,_,func256,aBz⟩⟩,⟨257,Nc,⟨_,_,func257,afG⟩⟩,⟨258,AH,⟨_,_,func258,afH⟩⟩,⟨259,Ly,⟨_,_,func259,Yn⟩⟩,⟨260,AI,⟨_,_,func260,afI⟩⟩,⟨262,afJ,⟨_,_,func262,aBA⟩⟩,⟨263,afK,⟨_,_,func263,aBB⟩⟩,⟨269,afL,⟨_,_,func269,aBC⟩⟩,⟨272,afM,⟨_,_,func272,aBD⟩⟩,⟨273,afN,⟨_,_,func273,aBE⟩⟩,⟨274,afO,⟨_,_,func274,aBF⟩⟩,⟨275,afP,⟨_,_,func275,aBG⟩⟩,⟨276,afQ,⟨_,_,func276,aBH⟩⟩,⟨284,EJ,⟨_,_,func284,Yv⟩⟩,⟨285,wO,⟨_,_,func285,afR⟩⟩,⟨286,IL,⟨_,_,func286,afS⟩⟩,⟨287,Fy,⟨_,_,func287,afT⟩⟩,⟨288,Fz,⟨_,_,func288,afU⟩⟩,⟨294,afV,⟨_,_,func294,aBI⟩⟩,⟨295,afW,⟨_,_,func295,aBJ⟩⟩,⟨303,afX,⟨_,_,func303,aBK⟩⟩,⟨309,afY,⟨_,_,func309,aBL⟩⟩,⟨312,Nf,⟨_,_,func312,afZ⟩⟩,⟨313,aga,⟨_,_,func313,aBM⟩⟩,⟨314,agb,⟨_,_,func314,aBN⟩⟩,⟨322,EF,⟨_,_,func322,Yl⟩⟩,⟨323,Ng,⟨_,_,func323,agc⟩⟩,⟨324,IM,⟨_,_,func324,agd⟩⟩,⟨325,age,⟨_,_,func325,aBO⟩⟩,⟨336,agf,⟨_,_,func336,aBP⟩⟩,⟨337,agh,⟨_,_,func337,aBQ⟩⟩,⟨338,agi,⟨_,_,func338,aBR⟩⟩,⟨352,FA,⟨_,_,func352,agj⟩⟩,⟨353,IN,⟨_,_,func353,agk⟩⟩,⟨358,agl,⟨_,_,func358,aBS⟩⟩,⟨359,agm,⟨_,_,func359,aBT⟩⟩,⟨360,agn,⟨_,_,func360,aBU⟩⟩,⟨361,ago,⟨_,_,func361,aBV⟩⟩,⟨366,AJ,⟨_,_,func366,agp⟩⟩,⟨368,lD,⟨_,_,func368,agq⟩⟩,⟨369,FB,⟨_,_,func369,agr⟩⟩,⟨370,Nh,⟨_,_,func370,ags⟩⟩,⟨371,CS,⟨_,_,func371,agt⟩⟩,⟨372,Ni,⟨_,_,func372,agu⟩⟩]
theorem axU {r:List Z}{a:Nat}:aO prog 116 [.bE a] r
 (λv rs=>v= .fn 204 [.bd r.length 1 0 0]/\rs=r++[.ag 224 1 [[.bE a]]]):=by
 refine aO.rZ λoy w=> ?_
 go_enter func116,ntmps116
 go_wp2
 go_ret
 exact⟨rfl,rfl⟩
def SB (args:List F)(r:List Z):Option (F×List Z):=
 match args with
 | [.bE a]=>some (.fn 204 [.bd r.length 1 0 0],r++[.ag 224 1 [[.bE a]]])
 |_=>none
theorem axV (args:List F)(r:List Z)(v:F)(rs:List Z)(h:SB args r=some (v,rs)):aO prog 116 args r λgA hs=>gA=v/\hs=rs:=by
 unfold SB at h;split at h
 ·simp only[aLj,aLH] at h;obtain⟨rfl,rfl⟩:=h;exact axU
 ·cases h
open Go.RowKit (Below)
theorem axW {r:List Z}{a:Nat}:aO prog 82 [.bE a] r
 (λv rs=>v= .fn 168 [.bd r.length 1 0 0]/\rs=r++[.ag 169 1 [[.bE a]]]):=by
 refine aO.rZ λoy w=> ?_
 go_enter func82,ntmps82
 go_wp2
 go_ret
 exact⟨rfl,rfl⟩
def Iv (g:FuncId)(aW:TypeId)(args:List F)(r:List Z):Option (F×List Z):=
 match args with
 | [.bE a]=>some (.fn g [.bd r.length 1 0 0],r++[.ag aW 1 [[.bE a]]])
 |_=>none
theorem SC {f g:FuncId}{aW:TypeId}(cA:∀(r:List Z) (a:Nat),aO prog f [.bE a] r λv rs=>v= .fn g [.bd r.length 1 0 0]/\rs=r++[.ag aW 1 [[.bE a]]])(args:List F)(r:List Z)(v:F)(rs:List Z)(h:Iv g aW args r=some (v,rs)):aO prog f args r λgA hs=>gA=v/\hs=rs:=by
 unfold Iv at h;split at h
 ·simp only[aLj,aLH] at h;obtain⟨rfl,rfl⟩:=h;exact cA _ _
 ·cases h
def SD:List (F×F)->Option (List cv)
 | []=>some []
 | [(.agg [.int .i64 B,.str n],_)]=>some [⟨B,n⟩]
 |_=>none
def SE (args:List F)(r:List Z):Option (F×List Z):=
 match args with
 | [.fn 207 [.bd b 1 0 0],.fn 122 []]=>
  match r[b]? with
  |some (.ag _ 1 [[.bE a]])=>
   match r[a]? with
   |some (.be (.map true [.int .i64,.str] ents))=>
    match SD ents with
    |some Y=>if (Y.all λk=>abN k.B&&decide (k.n.size<=1000))&&r.all (jc r.length) then some (.own r.length Y.length 0 Y.length,r++[.ag 235 2 (ai Y)]) else none
    |none=>none
   |_=>none
  |_=>none
 |_=>none
theorem axX {ents:List (F×F)}{Y:List cv}(h:SD ents=some Y):ents.map (·.1)=Ak Y/\Y.Nodup/\Y.length<=1:=by
 unfold SD at h;split at h
 ·cases h;exact⟨rfl,aMQ,by simp⟩
 ·cases h;exact⟨rfl,by simp,by simp⟩
 ·cases h
theorem axY (args:List F)(r:List Z)(v:F)(rs:List Z)(h:SE args r=some (v,rs)):aO prog 120 args r λgA hs=>gA=v/\hs=rs:=by
 unfold SE at h;split at h
 ·split at h
  ·rename_i af;split at h
   ·rename_i aC;split at h
    ·rename_i Y mg;split at h
     ·rename_i ad;simp only[aKJ,aLW,aKN] at ad;simp only[aLj,aLH] at h;obtain⟨rfl,rfl⟩:=h;obtain⟨bO,cd,fk⟩:=axX mg;refine (Zf (λz bG N=>ad.2 bG (aMA N)) aC af bO cd (λx aj=>⟨(ad.1 x aj).1,aLk (ad.1 x aj).2 (by decide)⟩) (by omega)).mono ?_;rintro v rs ⟨l,hl,_,rfl,rfl⟩;have:l=Y:=by
       match Y,fk with
       | [],_=>exact List.perm_nil.1 hl
       | [x],_=>exact List.perm_singleton.1 hl
      subst this;exact⟨rfl,rfl⟩
     ·cases h
    ·cases h
   ·cases h
  ·cases h
 ·cases h
theorem Z6 (w:World)(a:Addr)(l J:Nat): (binOp .eql 60 (.slice (some a) l J) (.slice none 0 0)).run prog w= .ok (.bool false) w:=by
 simp[binOp,Op.equal,Op.maxDepth,Vo (P:=prog) w 9999 60 _ a l J underlying60]
theorem Z5 (w:World)(l J:Nat): (binOp .eql 60 (.slice none l J) (.slice none 0 0)).run prog w= .ok (.bool true) w:=by
 have h: (Op.equalIn (9999+1) 60 (.slice none l J) (.slice none 0 0)).run prog w= .ok true w:=by
  rw[Op.equalIn];simp only[Sem.run_bind,run_underlying underlying60,Result.andThen_ok,Sem.run_pure];rfl
 simp[binOp,Op.equal,Op.maxDepth,h]
def SG (args:List F)(r:List Z):Option (F×List Z):=
 match args,r with
 | [.int .i64 y,.int .i64 m],[]=>if 0<=y/\1<=m/\m<=12 then some (.int .i64 (hZ y m),[]) else none
 |_,_=>none
theorem ayb (args:List F)(r:List Z)(v:F)(rs:List Z)(h:SG args r=some (v,rs)):aO prog 255 args r λgA hs=>gA=v/\hs=rs:=by
 unfold SG at h;split at h
 ·split at h
  ·rename_i ad;simp only[aLj,aLH] at h;obtain⟨rfl,rfl⟩:=h;exact ES _ _ ad.1 ad.2.1 ad.2.2
  ·cases h
 ·cases h
def MH:List (uU prog):=[⟨47,SA,axT⟩,⟨116,SB,axV⟩,
 ⟨82,Iv 168 169,SC λ_ _=>axW⟩,
 ⟨48,Iv 128 116,SC λ_ _=>aaZ⟩,
 ⟨121,Iv 207 232,SC λ_ _=>Ze⟩,
 ⟨120,SE,axY⟩,⟨255,SG,ayb⟩]
end Go.Proofs.YtpincjkjoeopkaaGreatDoor
namespace Go.Proofs.YtpincjkjoeopkaaGreatDoor.Pr
open Go Go.Abs Go.Proofs.Tryz
def gp (l:List Int)(a:Int):Z:=dX 143 l a
theorem ED (v n:Int)(aH:0<n)(GS:n<=9223372036854775807):aO prog 10 [.int .i64 v,.int .i64 n] [] (λz r=>z= .int .i64 (mod v n)/\r=[]):=by
 refine cu func10 Ls (by simp[uW,sn]) ?_;simp only[go_sem,uW,sn];refine⟨by omega,?_⟩;have d:=aO7 v aH;refine cf ?_ ?_<;>intro aw<;>simp only[go_sem,uW,sn]<;>refine aKG rfl ⟨?_,rfl⟩<;>simp only[aKN,aLX] at aw
 ·have G: -n<v.tmod n:=by
   have:=aO8 v aH;omega
  rw[bl,mod,Rc aw]
 ·rw[mod,S aw]
theorem hi (l:List Int)(hl:mW l)(n:Int)(aH:n<=9223372036854775807):BU prog 143 64 [.int .i64 n] l (PR n):=by
 intro az h0 d;refine cu func64 Lu (by simp[uX,wu]) ?_;simp only[go_sem,uX,wu,dX];have cK:=hl.len
 repeat' ((first|refine gv ?_ ?_|refine gw ?_ ?_|refine cf ?_ ?_|refine dj ?_ ?_)<;>intro aw<;>(have ak:=aw;try simp only[bC] at ak)<;>(first|omega| (simp only[go_sem,aw,uX,wu];clear aw)))
 ·exact E.tape rfl h0 d ⟨0,rfl,by omega,by omega⟩
 ·exact E.tape rfl h0 d ⟨0,rfl,by omega,by omega⟩
 ·simp (disch:=omega) only[bl,tw,aP7];refine⟨by omega,by omega,by simp,?_⟩;simp only[go_sem];refine gG (ED _ _ (by omega) aH) rfl rfl ?_;simp only[go_sem];have af:=PS (v:=l.getD az.toNat 0) (n:=n) (by omega);exact E.tape rfl (by omega) (by omega) ⟨_,rfl,by omega,by omega⟩
theorem aLs (l:List Int)(hl:mW l)(aq:List Int)(aj:0<aq.length)(rY:aq.length<=1000):BV prog 143 3 59 l aq (λv=> ∃x,x∈aq/\v= .int .i64 x):=by
 intro az h0 d;refine cu func59 Lv (by simp[zP,Cg]) ?_;simp only[go_sem,zP,Cg];refine KP (hi l hl _ (by omega)) rfl (by simp) h0 d ?_;rintro v a G au ⟨x,rfl,bv,cx⟩;simp only[go_sem];refine⟨by omega,by omega,?_⟩;rw[tw (by omega)];simp only[go_sem];refine i ⟨a,rfl,G,au,rfl,_,?_,rfl⟩;rw[aLn,aKS (by omega)];simp
structure bx where
 R:Int
 ab:Int
def bx.cells (e:bx):List F:=[.int .i64 e.R,.int .i64 e.ab]
instance:aJ bx:=⟨bx.cells,2,λ_=>rfl,λ_=>rfl,λ_=>rfl⟩
theorem eY (e:bx):aJ.J e=[.int .i64 e.R,.int .i64 e.ab]:=rfl
theorem Tk:aJ.U bx=2:=rfl
theorem Tl (e:bx):List.take 2 (aJ.J e)=aJ.J e:=rfl
attribute [go_sem] Tk Tl
structure Stamp where
 time:Int
 cB:Int
 cZ:Int
 Y:Int
def Stamp.cells (e:Stamp):List F:=[.int .i64 e.time,.int .i64 e.cB,.int .i64 e.cZ,.int .i64 e.Y]
instance:aJ Stamp:=⟨Stamp.cells,4,λ_=>rfl,λ_=>rfl,λ_=>rfl⟩
theorem Nn (e:Stamp):aJ.J e=[.int .i64 e.time,.int .i64 e.cB,.int .i64 e.cZ,.int .i64 e.Y]:=rfl
theorem Tm:aJ.U Stamp=4:=rfl
theorem Tn (e:Stamp):List.take 4 (aJ.J e)=aJ.J e:=rfl
attribute [go_sem] Tm Tn
structure kn where
 cB:Int
 time:Int
def kn.cells (e:kn):List F:=[.int .i64 e.cB,.int .i64 e.time]
instance:aJ kn:=⟨kn.cells,2,λ_=>rfl,λ_=>rfl,λ_=>rfl⟩
theorem Zv (e:kn):aJ.J e=[.int .i64 e.cB,.int .i64 e.time]:=rfl
theorem aF3:aJ.U kn=2:=rfl
theorem aF4 (e:kn):List.take 2 (aJ.J e)=aJ.J e:=rfl
attribute [go_sem] aF3 aF4
structure dF where
 R:Int
 ab:Int
 ey:List bx
def dF.cells (p:dF):List F:=[.int .i64 p.R,.int .i64 p.ab,.pure 2 (ai p.ey)]
theorem aF5 (p:dF):p.cells.all Abs.cV=true:=by simp[dF.cells,Abs.cV]
theorem aF6 (p:dF):bU p.cells=true:=by simp[dF.cells,bU,bJ]
instance:aJ dF:=⟨dF.cells,3,λ_=>rfl,aF6,aF5⟩
theorem H3 (p:dF):aJ.J p=[.int .i64 p.R,.int .i64 p.ab,.pure 2 (ai p.ey)]:=rfl
theorem aF7:aJ.U dF=3:=rfl
theorem aF8 (p:dF):List.take 3 (aJ.J p)=aJ.J p:=rfl
attribute [go_sem] aF7 aF8
theorem aF9 {l:List bx}{a b:Int}:ai l++[[.int .i64 a,.int .i64 b]]=ai (l++[⟨a,b⟩]):=kT (x:=bx.mk a b)
theorem aGa {l:List kn}{a b:Int}:ai l++[[.int .i64 a,.int .i64 b]]=ai (l++[⟨a,b⟩]):=kT (x:=kn.mk a b)
theorem aGb {l:List dF}{a b:Int}{dl:List bx}:ai l++[[.int .i64 a,.int .i64 b,.pure 2 (ai dl)]]=ai (l++[⟨a,b,dl⟩]):=kT (x:=dF.mk a b dl)
attribute [go_sem] aF9 aGa aGb
structure bN where
 vy:Int
 state:Int
 gu:Int
 lg:Int
 ks:List bx
 fM:List dF
 np:List kn
def bN.eP (p:bN)(k t:Int):bN:= {p with np:=p.np++[⟨k,t⟩]}
def bN.enter (p:bN)(t:Int):bN:= {p with state:=1,gu:=t,ks:=[]}
def bN.qg (p:bN)(t:Int):bN:=if t>p.lg then {p with ks:=p.ks++[⟨p.lg,t⟩],state:=1} else {p with state:=1}
def bN.ea (p:bN)(t:Int):bN:=if t-p.gu>p.vy then p.eP 3 p.gu else if t>p.gu then {p with fM:=p.fM++[⟨p.gu,t,p.ks⟩]} else p
def bN.qY (p:bN)(t:Int):bN:= {p.ea t with state:=0,ks:=[]}
def fU (p:bN)(b:F):Z:= .ag 274 7 [[.int .i64 p.vy,.int .i64 p.state,.int .i64 p.gu,.int .i64 p.lg,b,.own 1 p.fM.length 0 p.fM.length,.own 2 p.np.length 0 p.np.length]]
def fN (p:bN):List Z:=[fU p (.own 3 p.ks.length 0 p.ks.length),.ag 88 3 (ai p.fM),.ag 132 2 (ai p.np),.ag 64 2 (ai p.ks)]
def kG (p:bN):List Z:=[fU p .bH,.ag 88 3 (ai p.fM),.ag 132 2 (ai p.np),.fP]
structure bN.di (p:bN) (n:Nat):Prop where
 h:n<=1000000
 b0:0<=p.gu
 aKU:p.gu<=120968639
 p0:0<=p.lg
 aK6:p.lg<=120968639
 mN:p.ks.length<=n
 nv:p.fM.length<=n
 yQ:p.np.length<=n
theorem xd (p:bN){n:Nat}(cU:p.di n)(k t:Int):aO prog 151 [.bd 0 1 0 0,.int .i64 k,.int .i64 t] (fN p) (λv rs=>v= .bo []/\rs=fN (p.eP k t)):=by
 refine hJ func151 aee (by simp[M6,Um]) ?_;simp only[go_sem,M6,Um,fN,fU];have au:=cU.yQ;have bv:=cU.h;refine⟨by omega,?_⟩
 (refine E.bB [some 0,some 1,some 2,some 3] ?_;simp only[go_sem])
 exact i ⟨rfl,by simp[fN,fU,bN.eP]⟩
theorem Un (p:bN)(t:Int):aO prog 222 [.bd 0 1 0 0,.int .i64 t] (fN p) (λv rs=>v= .bo []/\rs=kG (p.enter t)):=by
 refine hJ func222 afg (by simp[a222,Uo]) ?_;simp only[go_sem,a222,Uo,fN,fU]
 (refine E.bB [some 0,some 1,some 2,none] ?_;simp only[go_sem])
 exact i ⟨rfl,rfl⟩
theorem aiQ (p:bN){n:Nat}(cU:p.di n)(t:Int):aO prog 224 [.bd 0 1 0 0,.int .i64 t] (fN p) (λv rs=>v= .bo []/\rs=fN (p.qg t)):=by
 refine hJ func224 afi (by simp[IH,N7]) ?_;simp only[go_sem,IH,N7,fN,fU];have au:=cU.mN;have bv:=cU.h
 (refine i ?_;simp only[go_sem])
 repeat' ((first|refine gv ?_ ?_|refine gw ?_ ?_|refine cf ?_ ?_|refine dj ?_ ?_)<;>intro aw<;>(have ak:=aw;try simp only[bC] at ak)<;>(first|omega| (simp only[go_sem,aw,IH,N7];clear aw)))
 ·refine⟨by omega,?_⟩
  (refine E.bB [some 0,some 1,some 2,some 3] ?_;simp only[go_sem])
  (refine i ?_;simp only[go_sem])
  exact i ⟨rfl,by simp[fN,fU,bN.qg,ak]⟩
 ·(refine i ?_;simp only[go_sem])
  exact i ⟨rfl,by rw[bN.qg,S (by omega)]<;>rfl⟩
theorem aiR (p:bN){n:Nat}(cU:p.di n)(t:Int)(h0:0<=t)(d:t<=120968639):aO prog 223 [.bd 0 1 0 0,.int .i64 t] (fN p) (λv rs=>v= .bo []/\rs=kG (p.qY t)):=by
 refine hJ func223 afh (by simp[Fv,Jp]) ?_;simp only[go_sem,Fv,Jp,fN,fU];have G:=cU.nv;have cx:=cU.h;have au:=cU.b0;have bv:=cU.aKU;have aP:IntKind.i64.wrap (t-p.gu)=t-p.gu:=bl;rw[aP]
 (refine i ?_;simp only[go_sem])
 refine dj ?_ ?_<;>intro aw<;>(have ak:=aw;try simp only[bC] at ak)<;>simp only[go_sem,Fv,Jp]
 ·have N:=xd p cU 3 p.gu;refine om [0,1,2,3] [] (by decide) (srows:=fN p) (by simp only[go_sem]<;>rfl) (by simp only[go_sem]<;>rfl) N ?_;rintro _ _ ⟨rfl,rfl⟩;refine⟨.inl rfl,?_⟩;simp only[go_sem,fN,fU]
  (refine i ?_;simp only[go_sem])
  (refine E.bB [some 0,some 1,some 2,none] ?_;simp only[go_sem])
  exact i ⟨rfl,by rw[bN.qY,bN.ea,Rc (by omega)];rfl⟩
 ·(refine i ?_;simp only[go_sem])
  repeat' ((first|refine gv ?_ ?_|refine gw ?_ ?_|refine cf ?_ ?_|refine dj ?_ ?_)<;>intro aw<;>(have ak:=aw;try simp only[bC] at ak)<;>(first|omega| (simp only[go_sem,aw,Fv,Jp];clear aw)))
  ·(refine i ?_;simp only[go_sem])
   refine⟨by omega,?_⟩
   (refine i ?_;simp only[go_sem])
   refine E.jN [some 0,some 1,some 2,none] [3] rfl rfl (by simp only[go_sem];rfl) ?_;simp only[go_sem];exact i ⟨rfl,by rw[bN.qY,bN.ea,S (by omega),Rc (by omega)];simp[kG,fU]⟩
  ·(refine i ?_;simp only[go_sem])
   (refine E.bB [some 0,some 1,some 2,none] ?_;simp only[go_sem])
   exact i ⟨rfl,by rw[bN.qY,bN.ea,S (by omega),S (by omega)];rfl⟩
theorem bN.di.eP {p:bN}{n:Nat}(h:p.di n)(aH:n+1<=1000000)(k t:Int): (p.eP k t).di (n+1):=
 ⟨aH,h.b0,h.aKU,h.p0,h.aK6,by have:=h.mN;simp only[bN.eP];omega,by have:=h.nv;simp only[bN.eP];omega,by have:=h.yQ;simp only[bN.eP,aKK,aK8,aLQ];omega⟩
theorem bN.di.enter {p:bN}{n:Nat}(h:p.di n){t:Int}(h0:0<=t)(d:t<=120968639): (p.enter t).di n:=
 ⟨h.h,h0,d,h.p0,h.aK6,by simp[bN.enter],h.nv,h.yQ⟩
theorem bN.di.qg {p:bN}{n:Nat}(h:p.di n)(aH:n+1<=1000000)(t:Int): (p.qg t).di (n+1):=by
 unfold bN.qg;have:=h.mN;have:=h.nv;have:=h.yQ;split
 ·exact⟨aH,h.b0,h.aKU,h.p0,h.aK6,by simp;omega,by simp;omega,by simp;omega⟩
 ·exact⟨aH,h.b0,h.aKU,h.p0,h.aK6,by simp;omega,by simp;omega,by simp;omega⟩
theorem bN.di.qY {p:bN}{n:Nat}(h:p.di n)(aH:n+1<=1000000)(t:Int): (p.qY t).di (n+1):=by
 unfold bN.qY bN.ea bN.eP;have:=h.mN;have:=h.nv;have:=h.yQ;split
 ·exact⟨aH,h.b0,h.aKU,h.p0,h.aK6,by simp,by simp;omega,by simp;omega⟩
 ·split
  ·exact⟨aH,h.b0,h.aKU,h.p0,h.aK6,by simp,by simp;omega,by simp;omega⟩
  ·exact⟨aH,h.b0,h.aKU,h.p0,h.aK6,by simp,by simp;omega,by simp;omega⟩
def bN.ji (p:bN)(I:Stamp):bN:=
 if p.state=0 then (if I.cB=1 then p.enter I.time else p.eP 2 I.time)
 else if p.state=1 then
  if I.cB=1 then (p.eP 1 p.gu).enter I.time else if I.cB=2 then p.qY I.time else if I.cB=3 then {p with state:=2,lg:=I.time} else p.eP 5 I.time
 else
  if I.cB=1 then (p.eP 1 p.gu).enter I.time else if I.cB=2 then ((p.eP 4 p.lg).qg I.time).qY I.time else if I.cB=3 then {p.eP 4 p.lg with lg:=I.time} else p.qg I.time
def bN.bw (p:bN):Prop:=p.state=0\/p.state=1\/p.state=2
def Stamp.ok (I:Stamp):Prop:=(I.cB=1\/I.cB=2\/I.cB=3\/I.cB=4)/\0<=I.time/\I.time<=120968639
theorem Up (p:bN){n:Nat}(cU:p.di n)(aH:n+3<=1000000)(ao:p.bw)(I:Stamp)(bp:I.ok):aO prog 150 [.bd 0 1 0 0,.agg (aJ.J I)] (fN p)
 (λv rs=>v= .bo []/\(rs=fN (p.ji I)\/(rs=kG (p.ji I)/\(p.ji I).ks=[]))):=by
 refine cu func150 aed (by simp[M5,Uq]) ?_;obtain⟨O,h0,d⟩:=bp;obtain⟨vy,state,gu,lg,ks,fM,np⟩:=p;simp only[bN.bw] at ao;rcases ao with rfl|rfl|rfl<;>rcases O with O|O|O|O<;>simp only[go_sem,M5,Uq,fN,fU,Nn,O]
 ·(refine fy [0,1,2,3] (Un ⟨vy,0,gu,lg,ks,fM,np⟩ I.time) ?_;rintro _ _ ⟨rfl,rfl⟩;simp only[go_sem,fN,kG,fU])
  (refine E.bB [some 0,some 1,some 2,some 3] ?_;simp only[go_sem])
  exact i ⟨rfl,.inr (by simp[bN.ji,O,kG,fU,bN.enter])⟩
 ·(refine fy [0,1,2,3] (xd _ cU 2 I.time) ?_;rintro _ _ ⟨rfl,rfl⟩;simp only[go_sem,fN,kG,fU])
  (refine E.bB [some 0,some 1,some 2,some 3] ?_;simp only[go_sem])
  exact i ⟨rfl,.inl (by simp[bN.ji,O,fN,fU,bN.eP])⟩
 ·(refine fy [0,1,2,3] (xd _ cU 2 I.time) ?_;rintro _ _ ⟨rfl,rfl⟩;simp only[go_sem,fN,kG,fU])
  (refine E.bB [some 0,some 1,some 2,some 3] ?_;simp only[go_sem])
  exact i ⟨rfl,.inl (by simp[bN.ji,O,fN,fU,bN.eP])⟩
 ·(refine fy [0,1,2,3] (xd _ cU 2 I.time) ?_;rintro _ _ ⟨rfl,rfl⟩;simp only[go_sem,fN,kG,fU])
  (refine E.bB [some 0,some 1,some 2,some 3] ?_;simp only[go_sem])
  exact i ⟨rfl,.inl (by simp[bN.ji,O,fN,fU,bN.eP])⟩
 ·(refine fy [0,1,2,3] (xd _ cU 1 gu) ?_;rintro _ _ ⟨rfl,rfl⟩;simp only[go_sem,fN,kG,fU])
  (refine fy [0,1,2,3] (Un (bN.eP ⟨vy,1,gu,lg,ks,fM,np⟩ 1 gu) I.time) ?_;rintro _ _ ⟨rfl,rfl⟩;simp only[go_sem,fN,kG,fU])
  (refine E.bB [some 0,some 1,some 2,some 3] ?_;simp only[go_sem])
  exact i ⟨rfl,.inr (by simp[bN.ji,O,kG,fU,bN.enter,bN.eP])⟩
 ·(refine fy [0,1,2,3] (aiR _ cU I.time h0 d) ?_;rintro _ _ ⟨rfl,rfl⟩;simp only[go_sem,fN,kG,fU])
  (refine E.bB [some 0,some 1,some 2,some 3] ?_;simp only[go_sem])
  exact i ⟨rfl,.inr (by simp[bN.ji,O,kG,fU,bN.qY])⟩
 ·(refine E.bB [some 0,some 1,some 2,some 3] ?_;simp only[go_sem])
  exact i ⟨rfl,.inl (by simp[bN.ji,O,fN,fU])⟩
 ·(refine fy [0,1,2,3] (xd _ cU 5 I.time) ?_;rintro _ _ ⟨rfl,rfl⟩;simp only[go_sem,fN,kG,fU])
  (refine E.bB [some 0,some 1,some 2,some 3] ?_;simp only[go_sem])
  exact i ⟨rfl,.inl (by simp[bN.ji,O,fN,fU,bN.eP])⟩
 ·(refine fy [0,1,2,3] (xd _ cU 1 gu) ?_;rintro _ _ ⟨rfl,rfl⟩;simp only[go_sem,fN,kG,fU])
  (refine fy [0,1,2,3] (Un (bN.eP ⟨vy,2,gu,lg,ks,fM,np⟩ 1 gu) I.time) ?_;rintro _ _ ⟨rfl,rfl⟩;simp only[go_sem,fN,kG,fU])
  (refine E.bB [some 0,some 1,some 2,some 3] ?_;simp only[go_sem])
  exact i ⟨rfl,.inr (by simp[bN.ji,O,kG,fU,bN.enter,bN.eP])⟩
 ·(refine fy [0,1,2,3] (xd _ cU 4 lg) ?_;rintro _ _ ⟨rfl,rfl⟩;simp only[go_sem,fN,kG,fU])
  (refine fy [0,1,2,3] (aiQ (bN.eP ⟨vy,2,gu,lg,ks,fM,np⟩ 4 lg) (cU.eP (by omega) _ _) I.time) ?_;rintro _ _ ⟨rfl,rfl⟩;simp only[go_sem,fN,kG,fU])
  (refine fy [0,1,2,3] (aiR (bN.qg (bN.eP ⟨vy,2,gu,lg,ks,fM,np⟩ 4 lg) I.time) ((cU.eP (by omega) _ _).qg (by omega) _) I.time h0 d) ?_;rintro _ _ ⟨rfl,rfl⟩;simp only[go_sem,fN,kG,fU])
  (refine E.bB [some 0,some 1,some 2,some 3] ?_;simp only[go_sem])
  exact i ⟨rfl,.inr (by simp[bN.ji,O,kG,fU,bN.qY])⟩
 ·(refine fy [0,1,2,3] (xd _ cU 4 lg) ?_;rintro _ _ ⟨rfl,rfl⟩;simp only[go_sem,fN,kG,fU])
  (refine E.bB [some 0,some 1,some 2,some 3] ?_;simp only[go_sem])
  exact i ⟨rfl,.inl (by simp[bN.ji,O,fN,fU,bN.eP])⟩
 ·(refine fy [0,1,2,3] (aiQ _ cU I.time) ?_;rintro _ _ ⟨rfl,rfl⟩;simp only[go_sem,fN,kG,fU])
  (refine E.bB [some 0,some 1,some 2,some 3] ?_;simp only[go_sem])
  exact i ⟨rfl,.inl (by simp[bN.ji,O,fN,fU])⟩
def qM:Int->List Stamp->Bool
 |_,[]=>true
 |b,I::z=>decide (1<=I.cB/\I.cB<=4/\b<=I.time/\I.time<=120968639)&&qM I.time z
def lb (l:List Stamp)(n:Int):Int:=if 1024<l.length then 3 else if n<1\/10080<n then 2 else if qM 0 l then 0 else 1
theorem oF {bj:Type}{l:List bj}{c:Nat}(h:c<l.length):l.drop c=l[c]::l.drop (c+1):=aL4 h
theorem S7 (l:List Stamp)(n:Int)(hl:l.length<=9223372036854775806):aO prog 149 [.pure 4 (ai l),.int .i64 n] [] (λv rs=>v= .int .i64 (lb l n)/\rs=[]):=by
 refine cu func149 aec (by simp[wM,yR]) ?_;simp only[go_sem,wM,yR];refine cf ?_ ?_<;>intro dI<;>simp only[bC] at dI<;>simp only[go_sem,wM,yR]
 ·exact aKG rfl ⟨by rw[lb,Rc (by omega)],rfl⟩
 repeat' ((first|refine gv ?_ ?_|refine gw ?_ ?_|refine cf ?_ ?_|refine dj ?_ ?_)<;>intro aw<;>(have ak:=aw;try simp only[bC] at ak)<;>(first|omega| (simp only[go_sem,aw,wM,yR];clear aw)))
 ·exact aKG rfl ⟨by rw[lb,S (by omega),Rc (by omega)],rfl⟩
 ·exact aKG rfl ⟨by rw[lb,S (by omega),Rc (by omega)],rfl⟩
 have pM:lb l n=if qM 0 l then 0 else 1:=by rw[lb,S (by omega),S (by omega)]
 refine dN (λD r=> ∃(c:Nat) (b:Int),c<=l.length/\qM 0 l=qM b (l.drop c)/\D=[(5,.int .i64 b),(17,.pure 4 (ai l)),(18,.int .i64 l.length),(19,.int .i64 c)]/\r=[])
  (λD _=>match bs D 19 with| .int _ j=>(l.length-j).toNat|_=>0) ?_ ?_
 ·exact i ⟨0,0,by omega,by simp,rfl,rfl⟩
 ·rintro D r ⟨c,b,av,af,rfl,rfl⟩;simp only[go_sem,wM,yR];refine cf ?_ ?_<;>intro ct<;>simp only[bC] at ct<;>simp only[go_sem,wM,yR]
  ·have aI:c<l.length:=by omega
   refine⟨by omega,by omega,?_⟩
   try simp only[aKX]
   rw[cT aI,Nn];rw[oF aI,qM] at af;have aP:=dB (c:=c) (by omega);simp only[go_sem,wM,yR]
   repeat' ((first|refine gv ?_ ?_|refine gw ?_ ?_|refine cf ?_ ?_|refine dj ?_ ?_)<;>intro aw<;>(have ak:=aw;try simp only[bC] at ak)<;>(first|omega| (simp only[go_sem,aw,wM,yR,aP];clear aw)))
   any_goals (refine aKG rfl ⟨?_,rfl⟩;rw[pM,S];rw[af];simp only[aKJ,aKN];omega)
   (refine E.bB [] ?_;simp only[go_sem])
   refine i ⟨⟨c+1,l[c].time,by omega,?_,rfl,rfl⟩,?_⟩
   ·rw[af,aLv,aLw]
   ·simp only[go_sem];omega
  ·have:c=l.length:=by omega
   subst this;exact aKG rfl ⟨by rw[pM,af];simp[qM],rfl⟩
theorem Ur:∀{l:List Stamp} {b:Int},qM b l=true->0<=b-> ∀I∈l,I.ok
 | [],_,_,_,I,ao=>by simp at ao
 |x::z,b,h,af,I,ao=>by
  simp only[qM,aKJ,aKN] at h;rcases aKV.1 ao with rfl|ao
  ·exact⟨by omega,by omega,by omega⟩
  ·exact Ur h.2 (by omega) I ao
theorem bN.di.vz {p:bN}{n m:Nat}(h:p.di n)(aH:n<=m)(hm:m<=1000000):p.di m:=
 ⟨hm,h.b0,h.aKU,h.p0,h.aK6,by have:=h.mN;omega,by have:=h.nv;omega,by have:=h.yQ;omega⟩
theorem bN.di.ji {p:bN}{n:Nat}(h:p.di n)(aH:n+3<=1000000){I:Stamp}(bp:I.ok): (p.ji I).di (n+3):=by
 obtain⟨O,h0,d⟩:=bp;unfold bN.ji;split
 ·split
  ·exact (h.enter h0 d).vz (by omega) aH
  ·exact (h.eP (by omega) _ _).vz (by omega) aH
 ·split
  ·split
   ·exact ((h.eP (by omega) _ _).enter h0 d).vz (by omega) aH
   ·split
    ·exact (h.qY (by omega) _).vz (by omega) aH
    ·split
     ·have:=h.mN;have:=h.nv;have:=h.yQ;exact⟨aH,h.b0,h.aKU,h0,d,by simp;omega,by simp;omega,by simp;omega⟩
     ·exact (h.eP (by omega) _ _).vz (by omega) aH
  ·split
   ·exact ((h.eP (by omega) _ _).enter h0 d).vz (by omega) aH
   ·split
    ·exact (((h.eP (by omega) _ _).qg (by omega) _).qY (by omega) _).vz (by omega) aH
    ·split
     ·have N:=h.eP (by omega) 4 p.lg;have:=N.mN;have:=N.nv;have:=N.yQ;exact⟨aH,N.b0,N.aKU,h0,d,by simp at *;omega,by simp at *;omega,by simp at *;omega⟩
     ·exact (h.qg (by omega) _).vz (by omega) aH
theorem aGc {p:bN}(h:p.bw){I:Stamp}: (p.ji I).bw:=by
 unfold bN.ji;have aGd:∀(q:bN) t,(q.qg t).bw:=by intro q t;unfold bN.qg;split<;>exact .inr (.inl rfl)
 repeat' split
 all_goals first|exact aGd _ _|exact h|exact .inl rfl|exact .inr (.inl rfl)|exact .inr (.inr rfl)
theorem aiS:∀{l:List Stamp} {p:bN} {n:Nat},p.di n->p.bw->(∀I∈l,I.ok)->n+3*l.length<=1000000->(l.foldl bN.ji p).di (n+3*l.length)/\(l.foldl bN.ji p).bw
 | [],p,n,h,ao,_,_=>⟨h,ao⟩
 |x::z,p,n,h,ao,bp,aH=>by
  simp only[aK8] at aH ⊢;obtain⟨d,G⟩:=aiS (l:=z) (h.ji (by omega) (bp x (by simp))) (aGc ao) (λI ao=>bp I (by simp[ao])) (by omega);exact⟨by rw[show n+3*(z.length+1)=n+3+3*z.length from by omega];exact d,G⟩
def qZ (n:Int):bN:=⟨n,0,0,0,[],[],[]⟩
def ra (l:List Stamp)(n:Int):bN:=l.foldl bN.ji (qZ n)
def bN.bg (p:bN):bN:=if p.state=0 then p else p.eP 1 p.gu
def nQ (l:List Stamp)(n:Int):List dF:=if lb l n=0 then (ra l n).bg.fM else []
def tY (l:List Stamp)(n:Int):List kn:=if lb l n=0 then (ra l n).bg.np else []
theorem aiT {l:List Stamp}{n:Int}(h:lb l n=0):l.length<=1024/\1<=n/\n<=10080/\qM 0 l=true:=by
 unfold lb at h;split at h
 ·omega
 ·split at h
  ·omega
  ·split at h
   ·rename_i au;exact⟨by omega,by omega,by omega,au⟩
   ·omega
theorem aGe {l:List Stamp}{n:Int}(h:lb l n=0)(c:Nat): (ra (l.take c) n).di 3072/\(ra (l.take c) n).bw:=by
 obtain⟨d,G,au,bv⟩:=aiT h;have bp:=Ur bv (by omega);have cK: (l.take c).length<=1024:=by simp;omega
 obtain⟨a,b⟩:=aiS (l:=l.take c) (p:=qZ n) (n:=0) ⟨by omega,by simp[qZ],by simp[qZ],by simp[qZ],by simp[qZ],by simp[qZ],by simp[qZ],by simp[qZ]⟩ (.inl rfl)
  (λI ao=>bp I (aMl ao)) (by omega)
 exact⟨a.vz (by omega) (by omega),b⟩
theorem aB9 (l:List Stamp)(n:Int)(hl:l.length<=9223372036854775806):aO prog 68 [.pure 4 (ai l),.int .i64 n] []
 (λv rs=>v= .bo [.pure 3 (ai (nQ l n)),.pure 2 (ai (tY l n)),.int .i64 (lb l n)]/\rs=[]):=by
 refine hJ func68 acS (by simp[yB,A8]) ?_;simp only[go_sem,yB,A8]
 (refine i ?_;simp only[go_sem])
 refine bM (S7 l n hl) rfl rfl ?_;simp only[go_sem]
 repeat (refine i ?_;simp only[go_sem])
 refine dj ?_ ?_<;>intro dI<;>simp only[bC] at dI<;>simp only[go_sem,yB,A8]
 ·(refine E.iv 4 88 3 rfl (E.eW [4,5,6] ?_);simp only[go_sem])
  (refine E.iv 5 132 2 rfl (E.eW [4,5,6] ?_);simp only[go_sem])
  (refine aL1 [] [0,1] ?_;simp only[go_sem])
  (refine i ?_;simp only[go_sem])
  exact i ⟨by simp[nQ,tY,dI,ai,bs],rfl⟩
 ·obtain⟨jK,_,_,rW⟩:=aiT dI;have bp:=Ur rW (by omega)
  repeat (refine i ?_;simp only[go_sem])
  refine hv (λD r=> ∃c:Nat,c<=l.length/\D=[(8,.bd 0 1 0 0),(19,.pure 4 (ai l)),(20,.int .i64 l.length),(21,.int .i64 c)]/\r=fN (ra (l.take c) n))
   (λD _=>match bs D 21 with| .int _ j=>(l.length-j).toNat|_=>0) ?_ ?_
  ·(refine E.oc (.vQ 0 0 5 88 3 rfl (by simp) (by decide) rfl) ?_;simp only[go_sem,fb])
   (refine E.oc (.vQ 0 0 6 132 2 rfl (by simp) (by decide) rfl) ?_;simp only[go_sem,fb])
   (refine E.oc (.vQ 0 0 4 64 2 rfl (by simp) (by decide) rfl) ?_;simp only[go_sem,fb])
   exact i ⟨0,by omega,rfl,rfl⟩
  ·rintro D r ⟨c,av,rfl,rfl⟩;obtain⟨cU,cn⟩:=aGe dI c;simp only[go_sem,yB,A8]
   repeat (refine i ?_;simp only[go_sem])
   refine dj ?_ ?_<;>intro ct<;>simp only[bC] at ct<;>simp only[go_sem,yB,A8]
   ·have aI:c<l.length:=by omega
    (refine i ?_;simp only[go_sem])
    simp only[go_sem,fN,fU];refine⟨by omega,by omega,?_⟩
    try simp only[aKX]
    rw[cT aI];simp only[go_sem,yB,A8]
    repeat (refine i ?_;simp only[go_sem])
    have N:=Up _ cU (by omega) cn l[c] (bp _ (aLc _));have re: (ra (l.take c) n).ji l[c]=ra (l.take (c+1)) n:=by
     rw[ra,ra,aMP,aKS aI,aMc];rfl
    rw[re] at N;have aP:=dB (c:=c) (by omega);refine om [0,1,2,3] [] (by decide) (by simp only[go_sem]<;>rfl) (by simp only[go_sem]<;>rfl) N ?_;rintro _ _ ⟨rfl,h|⟨h,pP⟩⟩
    ·subst h;refine⟨.inl rfl,?_⟩;simp only[go_sem,fN,fU]
     (refine i ?_;simp only[go_sem])
     rw[aP]
     (refine E.bB [some 0,some 1,some 2,some 3] ?_;simp only[go_sem])
     refine i ⟨⟨c+1,by omega,rfl,rfl⟩,?_⟩;simp only[go_sem];omega
    ·subst h;refine⟨.inl rfl,?_⟩;simp only[go_sem,kG,fU]
     (refine i ?_;simp only[go_sem])
     rw[aP]
     (refine E.oc (.vQ 0 0 4 64 2 rfl (by simp) (by decide) rfl) ?_;simp only[go_sem,fb])
     (refine E.bB [some 0,some 1,some 2,some 5] ?_;simp only[go_sem])
     refine i ⟨⟨c+1,by omega,rfl,by simp[fN,fU,pP,ai]⟩,?_⟩;simp only[go_sem];omega
   ·have:c=l.length:=by omega
    subst this;rw[aLb] at cU ⊢;have sm:=cU.yQ;simp only[go_sem,fN,fU]
    (refine i ?_;simp only[go_sem])
    (refine i ?_;simp only[go_sem])
    refine dj ?_ ?_<;>intro fH<;>simp only[bC] at fH<;>simp only[go_sem,yB,A8]
    ·have N:=xd _ cU 1 (ra l n).gu;refine fy [0,1,2,3] N ?_;rintro _ _ ⟨rfl,rfl⟩;simp only[go_sem,fN,fU]
     (refine i ?_;simp only[go_sem])
     (refine aL1 [] [1,2] ?_;simp only[go_sem])
     (refine i ?_;simp only[go_sem])
     refine i ⟨?_,rfl⟩;simp[bs,nQ,tY,dI,bN.bg,fH]
    ·(refine i ?_;simp only[go_sem])
     (refine aL1 [] [1,2] ?_;simp only[go_sem])
     (refine i ?_;simp only[go_sem])
     refine i ⟨?_,rfl⟩;simp[bs,nQ,tY,dI,bN.bg,fH]
def hR (v:bx)(a b:Int):Bool:=decide (a<=v.R/\v.R<v.ab/\v.ab<=b)
def dd:Int->Int->List bx->Bool
 |_,_,[]=>true
 |e,t,b::z=>hR b e t&&dd b.ab t z
def tL (e:Int)(p:dF):Bool:=hR ⟨p.R,p.ab⟩ e 120968640&&decide (p.ey.length<=1024)&&dd p.R p.ab p.ey
def io:Int->List dF->Bool
 |_,[]=>true
 |e,p::z=>tL e p&&io p.ab z
def lx (l:List dF):Int:=if 1024<l.length then 1 else if io 0 l then 0 else 1
theorem ajc (f t a b:Int):aO prog 225 [.agg [.int .i64 f,.int .i64 t],.int .i64 a,.int .i64 b] [] (λv rs=>v= .bool (hR ⟨f,t⟩ a b)/\rs=[]):=by
 refine cu func225 afj (by simp[II,N8]) ?_;simp only[go_sem,II,N8]
 repeat' ((first|refine gv ?_ ?_|refine gw ?_ ?_|refine cf ?_ ?_|refine dj ?_ ?_)<;>intro aw<;>(have ak:=aw;try simp only[bC] at ak)<;>(first|omega| (simp only[go_sem,aw,II,N8];clear aw)))
 all_goals (refine aKG rfl ⟨aKI F.bool ?_,rfl⟩;rw[hR,aL0];simp only[bC,aLK,aMI];omega)
theorem lQ (l:List dF)(hl:l.length<=9223372036854775806):aO prog 152 [.pure 3 (ai l)] [] (λv rs=>v= .int .i64 (lx l)/\rs=[]):=by
 refine cu func152 aef (by simp[sH,ul]) ?_;simp only[go_sem,sH,ul];refine cf ?_ ?_<;>intro dI<;>simp only[bC] at dI<;>simp only[go_sem,sH,ul]
 ·exact aKG rfl ⟨by rw[lx,Rc (by omega)],rfl⟩
 have pM:lx l=if io 0 l then 0 else 1:=by rw[lx,S (by omega)]
 refine dN (λD r=> ∃(c:Nat) (e:Int),c<=l.length/\io 0 l=io e (l.drop c)/\D=[(3,.int .i64 e),(11,.pure 3 (ai l)),(12,.int .i64 l.length),(13,.int .i64 c)]/\r=[])
  (λD _=>match bs D 13 with| .int _ j=>(l.length-j).toNat|_=>0) ?_ ?_
 ·exact i ⟨0,0,by omega,by simp,rfl,rfl⟩
 ·rintro D r ⟨c,e,av,af,rfl,rfl⟩;simp only[go_sem,sH,ul];refine cf ?_ ?_<;>intro ct<;>simp only[bC] at ct<;>simp only[go_sem,sH,ul]
  ·have aI:c<l.length:=by omega
   refine⟨by omega,by omega,?_⟩
   try simp only[aKX]
   rw[cT aI,H3];rw[oF aI,io] at af;generalize l[c]=p at af ⊢;simp only[go_sem,sH,ul];refine bM (ajc p.R p.ab e 120968640) rfl rfl ?_;simp only[go_sem]
   repeat' ((first|refine gv ?_ ?_|refine gw ?_ ?_|refine cf ?_ ?_|refine dj ?_ ?_)<;>intro aw<;>(have ak:=aw;try simp only[bC] at ak)<;>(first|omega| (simp only[go_sem,aw,sH,ul];clear aw)))
   ·exact aKG rfl ⟨by rw[pM,af,tL,ak];simp,rfl⟩
   ·exact aKG rfl ⟨by rw[pM,af,tL,aLh (p:=p.ey.length<=1024) (by omega)];simp,rfl⟩
   rename_i vP;refine dN (λD r=> ∃(k:Nat) (e:Int),k<=p.ey.length/\dd p.R p.ab p.ey=dd e p.ab (p.ey.drop k)/\D=[(3,.int .i64 e),(5,.bd 0 1 0 0),(11,.pure 3 (ai l)),(12,.int .i64 l.length),(13,.int .i64 c),(32,.pure 2 (ai p.ey)),(33,.int .i64 p.ey.length),(34,.int .i64 k)]/\r=[.ag 88 3 [[.int .i64 p.R,.int .i64 p.ab,.pure 2 (ai p.ey)]]])
    (λD _=>match bs D 34 with| .int _ j=>(p.ey.length-j).toNat|_=>0) ?_ ?_
   ·exact i ⟨0,p.R,by omega,by simp,rfl,rfl⟩
   ·rintro D r ⟨k,e,O,pP,rfl,rfl⟩;simp only[go_sem,sH,ul];refine cf ?_ ?_<;>intro fH<;>simp only[bC] at fH<;>simp only[go_sem,sH,ul]
    ·have Aa:k<p.ey.length:=by omega
     refine⟨by omega,by omega,?_⟩
     try simp only[aKX]
     rw[cT Aa,eY];rw[oF Aa,dd] at pP;generalize p.ey[k]=b at pP ⊢;simp only[go_sem,sH,ul];refine bM (ajc b.R b.ab e p.ab) rfl rfl ?_;simp only[go_sem];have aP:=dB (c:=k) (by omega);refine cf ?_ ?_<;>intro pd<;>simp only[bC] at pd<;>simp only[go_sem,sH,ul,aP]
     ·refine aKG rfl ⟨?_,rfl⟩;rw[pM,af,tL,pP];rw[show hR b e p.ab=false from pd];simp
     ·(refine E.bB [some 0] ?_;simp only[go_sem])
      refine i ⟨⟨k+1,b.ab,by omega,?_,rfl,rfl⟩,?_⟩
      ·rw[pP,show hR b e p.ab=true from pd,aLw]
      ·simp only[go_sem];omega
    ·have yF:k=p.ey.length:=by omega
     rw[yF,aLF,dd] at pP;have aP:=dB (c:=c) (by omega);rw[aP]
     (refine E.bB [] ?_;simp only[go_sem])
     refine i ⟨⟨c+1,p.ab,by omega,?_,rfl,rfl⟩,?_⟩
     ·rw[af,tL,vP,pP,aLf (p:=p.ey.length<=1024) (by omega)];simp
     ·simp only[go_sem];omega
  ·have:c=l.length:=by omega
   subst this;exact aKG rfl ⟨by rw[pM,af];simp[io],rfl⟩
def aMs:List bx->Int
 | []=>0
 |b::z=>(b.ab-b.R)+aMs z
def aMv (p:dF):Int:=if lx [p]=0 then p.ab-p.R-aMs p.ey else 0
theorem aOU:∀{l:List bx} {e t:Int},dd e t l=true->e<=t->0<=aMs l/\aMs l<=t-e
 | [],e,t,_,h=>by simp[aMs];omega
 |b::z,e,t,h,_=>by
  simp only[dd,hR,aKJ,aKN] at h;have:=aOU h.2 (by omega);simp only[aMs];omega
theorem aTT:∀{l:List bx} {k:Nat} (h:k<l.length),aMs (l.drop k)=(l[k].ab-l[k].R)+aMs (l.drop (k+1)):=by
 intro l k h;rw[oF h,aMs]
theorem aPP {p:dF}:lx [p]=0↔tL 0 p=true:=by
 simp[lx,io]
end Go.Proofs.YtpincjkjoeopkaaGreatDoor.Pr
