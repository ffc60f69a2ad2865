/- Time evaluation. -/
import Derived.Test.YtpincjkjoeopkaaGreatDoorK28
set_option linter.unusedSimpArgs false
set_option linter.unusedVariables false
set_option linter.unusedSectionVars false
namespace Go.Proofs.YtpincjkjoeopkaaGreatDoor
open Go Go.Abs
theorem aK.avf {P:Program}{f:FuncId}{args:List z}{d:List R}{br Fm:z→List R→Prop}(h:aK P f args d br)(aR: ∀ v rs,br v rs→ ∃ w,Fm w rs∧ ∀ C x,Rep C v x→Rep C w x):aK P f args d Fm:=by
 intro C du h1 B hG am;refine (h C du h1 B hG am).mono ?_;rintro e w' ⟨aV,x,av,a,b,F,o,cA,q⟩;obtain⟨w,aQ,G⟩:=aR _ _ q;exact⟨aV,w,av,a,b,G _ _ F,o,cA,aQ⟩
open Go.Proofs.Tryz
def zj:List (wU prog):= [⟨3,a3,⟨_,_,func3,axH⟩⟩,⟨4,a4,⟨_,_,func4,axI⟩⟩,⟨5,a5,⟨_,_,func5,axJ⟩⟩,⟨6,LN,⟨_,_,func6,axK⟩⟩,⟨7,sY,⟨_,_,func7,aac⟩⟩,⟨8,LO,⟨_,_,func8,axL⟩⟩,⟨9,a9,⟨_,_,func9,axM⟩⟩,⟨10,tW,⟨_,_,func10,Kb⟩⟩,⟨11,qf,⟨_,_,func11,Zu⟩⟩,⟨12,aaQ,⟨_,_,func12,axN⟩⟩,⟨13,aaR,⟨_,_,func13,axO⟩⟩,⟨14,Ef,⟨_,_,func14,aaI⟩⟩,⟨15,aaS,⟨_,_,func15,axP⟩⟩,⟨16,Kc,⟨_,_,func16,W0⟩⟩,⟨17,Hm,⟨_,_,func17,aaC⟩⟩,⟨18,Dy,⟨_,_,func18,Xr⟩⟩,⟨19,aaT,⟨_,_,func19,axQ⟩⟩,⟨20,Eg,⟨_,_,func20,aaU⟩⟩,⟨21,aaV,⟨_,_,func21,axR⟩⟩,⟨22,a22,⟨_,_,func22,aaH⟩⟩,⟨23,a23,⟨_,_,func23,aaW⟩⟩,⟨24,a24,⟨_,_,func24,Xo⟩⟩,⟨25,a25,⟨_,_,func25,axS⟩⟩,⟨26,a26,⟨_,_,func26,axT⟩⟩,⟨27,a27,⟨_,_,func27,axU⟩⟩,⟨28,a28,⟨_,_,func28,axV⟩⟩,⟨29,aaX,⟨_,_,func29,axW⟩⟩,⟨30,aaY,⟨_,_,func30,axX⟩⟩,⟨31,a31,⟨_,_,func31,aaZ⟩⟩,⟨32,LP,⟨_,_,func32,aba⟩⟩,⟨33,a33,⟨_,_,func33,axY⟩⟩,⟨34,abb,⟨_,_,func34,axZ⟩⟩,⟨35,abc,⟨_,_,func35,aya⟩⟩,⟨36,abd,⟨_,_,func36,ayb⟩⟩,⟨37,abe,⟨_,_,func37,ayc⟩⟩,⟨38,abf,⟨_,_,func38,ayd⟩⟩,⟨39,a39,⟨_,_,func39,aye⟩⟩,⟨40,Ku,⟨_,_,func40,XM⟩⟩,⟨41,zp,⟨_,_,func41,abg⟩⟩,⟨42,oy,⟨_,_,func42,abh⟩⟩,⟨43,qa,⟨_,_,func43,YG⟩⟩,⟨44,Ed,⟨_,_,func44,aaA⟩⟩,⟨45,a45,⟨_,_,func45,XX⟩⟩,⟨46,a46,⟨_,_,func46,Ye⟩⟩,⟨47,abi,⟨_,_,func47,ayf⟩⟩,⟨48,abj,⟨_,_,func48,ayg⟩⟩,⟨49,abk,⟨_,_,func49,ayh⟩⟩,⟨50,a50,⟨_,_,func50,ayi⟩⟩,⟨51,a51,⟨_,_,func51,ayj⟩⟩,⟨52,abl,⟨_,_,func52,ayk⟩⟩,⟨53,a53,⟨_,_,func53,ayl⟩⟩,⟨54,abm,⟨_,_,func54,aym⟩⟩,⟨55,a55,⟨_,_,func55,ayn⟩⟩,⟨56,Ee,⟨_,_,func56,aaG⟩⟩,⟨57,LQ,⟨_,_,func57,abn⟩⟩,⟨58,Ds,⟨_,_,func58,Xb⟩⟩,⟨59,yF,⟨_,_,func59,Ke⟩⟩,⟨60,xv,⟨_,_,func60,abo⟩⟩,⟨61,zq,⟨_,_,func61,abp⟩⟩,⟨62,zr,⟨_,_,func62,abq⟩⟩,⟨63,BI,⟨_,_,func63,abr⟩⟩,⟨64,tX,⟨_,_,func64,Kd⟩⟩,⟨65,abt,⟨_,_,func65,ayo⟩⟩,⟨66,a66,⟨_,_,func66,Xz⟩⟩,⟨67,zs,⟨_,_,func67,abu⟩⟩,⟨68,xw,⟨_,_,func68,abv⟩⟩,⟨69,DT,⟨_,_,func69,YD⟩⟩,⟨70,a70,⟨_,_,func70,Yc⟩⟩,⟨71,lM,⟨_,_,func71,aaP⟩⟩,⟨72,abw,⟨_,_,func72,ayp⟩⟩,⟨73,LI,⟨_,_,func73,aaN⟩⟩,⟨74,K7,⟨_,_,func74,YT⟩⟩,⟨75,abx,⟨_,_,func75,ayq⟩⟩,⟨76,a76,⟨_,_,func76,ayr⟩⟩,⟨77,a77,⟨_,_,func77,ays⟩⟩,⟨78,aby,⟨_,_,func78,ayt⟩⟩,⟨79,abz,⟨_,_,func79,ayu⟩⟩,⟨80,abA,⟨_,_,func80,ayv⟩⟩,⟨81,abB,⟨_,_,func81,ayw⟩⟩,⟨82,abC,⟨_,_,func82,ayx⟩⟩,⟨83,abD,⟨_,_,func83,ayy⟩⟩,⟨84,abE,⟨_,_,func84,ayz⟩⟩,⟨85,abF,⟨_,_,func85,ayA⟩⟩,⟨86,abG,⟨_,_,func86,ayB⟩⟩,⟨87,abH,⟨_,_,func87,ayC⟩⟩,⟨88,abI,⟨_,_,func88,ayD⟩⟩,⟨89,abJ,⟨_,_,func89,ayE⟩⟩,⟨90,abK,⟨_,_,func90,ayF⟩⟩,⟨91,Hq,⟨_,_,func91,abL⟩⟩,⟨92,Eh,⟨_,_,func92,abM⟩⟩,⟨93,LR,⟨_,_,func93,abN⟩⟩,⟨94,BJ,⟨_,_,func94,abO⟩⟩,⟨95,abP,⟨_,_,func95,ayG⟩⟩,⟨96,abQ,⟨_,_,func96,ayH⟩⟩,⟨97,abR,⟨_,_,func97,ayI⟩⟩,⟨98,abS,⟨_,_,func98,ayJ⟩⟩,⟨99,abT,⟨_,_,func99,ayK⟩⟩,⟨100,abU,⟨_,_,func100,ayL⟩⟩,⟨101,abV,⟨_,_,func101,ayM⟩⟩,⟨102,abW,⟨_,_,func102,ayN⟩⟩,⟨103,abX,⟨_,_,func103,ayO⟩⟩,⟨104,abY,⟨_,_,func104,ayP⟩⟩,⟨105,abZ,⟨_,_,func105,ayQ⟩⟩,⟨106,aca,⟨_,_,func106,ayR⟩⟩,⟨107,acb,⟨_,_,func107,ayS⟩⟩,⟨108,acd,⟨_,_,func108,ayT⟩⟩,⟨109,LS,⟨_,_,func109,ace⟩⟩,⟨110,sZ,⟨_,_,func110,acf⟩⟩,⟨111,LU,⟨_,_,func111,acg⟩⟩,⟨112,LV,⟨_,_,func112,ach⟩⟩,⟨113,BK,⟨_,_,func113,aci⟩⟩,⟨114,xx,⟨_,_,func114,acj⟩⟩,⟨115,hY,⟨_,_,func115,RD⟩⟩,⟨116,ack,⟨_,_,func116,ayU⟩⟩,⟨117,Ei,⟨_,_,func117,acl⟩⟩,⟨118,Bi,⟨_,_,func118,X7⟩⟩,⟨119,xb,⟨_,_,func119,XJ⟩⟩,⟨120,LH,⟨_,_,func120,aaM⟩⟩,⟨121,acm,⟨_,_,func121,ayV⟩⟩,⟨122,Lb,⟨_,_,func122,YY⟩⟩,⟨123,Bv,⟨_,_,func123,YX⟩⟩,⟨124,K9,⟨_,_,func124,YW⟩⟩,⟨125,Dw,⟨_,_,func125,Xm⟩⟩,⟨126,acn,⟨_,_,func126,ayW⟩⟩,⟨127,aco,⟨_,_,func127,ayX⟩⟩,⟨129,acp,⟨_,_,func129,ayY⟩⟩,⟨130,acq,⟨_,_,func130,ayZ⟩⟩,⟨131,a131,⟨_,_,func131,aza⟩⟩,⟨132,acr,⟨_,_,func132,azb⟩⟩,⟨133,acs,⟨_,_,func133,azc⟩⟩,⟨134,acu,⟨_,_,func134,azd⟩⟩,⟨135,acv,⟨_,_,func135,aze⟩⟩,⟨136,acw,⟨_,_,func136,azf⟩⟩,⟨137,acx,⟨_,_,func137,azg⟩⟩,⟨138,acy,⟨_,_,func138,azh⟩⟩,⟨139,acz,⟨_,_,func139,azi⟩⟩,⟨140,acA,⟨_,_,func140,azj⟩⟩,⟨141,Dp,⟨_,_,func141,W3⟩⟩,⟨142,vD,⟨_,_,func142,acB⟩⟩,⟨143,DB,⟨_,_,func143,Xu⟩⟩,⟨144,LW,⟨_,_,func144,acC⟩⟩,⟨145,Ej,⟨_,_,func145,acD⟩⟩,⟨146,acE,⟨_,_,func146,azk⟩⟩,⟨147,LX,⟨_,_,func147,acF⟩⟩,⟨148,LY,⟨_,_,func148,acG⟩⟩,⟨149,vE,⟨_,_,func149,acH⟩⟩,⟨150,LZ,⟨_,_,func150,acI⟩⟩,⟨151,L0,⟨_,_,func151,acJ⟩⟩,⟨152,rR,⟨_,_,func152,acK⟩⟩,⟨153,DC,⟨_,_,func153,XB⟩⟩,⟨154,K3,⟨_,_,func154,YP⟩⟩,⟨155,yK,⟨_,_,func155,Xt⟩⟩,⟨156,DN,⟨_,_,func156,Qd⟩⟩,⟨157,acL,⟨_,_,func157,azl⟩⟩,⟨158,acM,⟨_,_,func158,azm⟩⟩,⟨159,K6,⟨_,_,func159,YS⟩⟩,⟨160,acN,⟨_,_,func160,azn⟩⟩,⟨161,acO,⟨_,_,func161,azo⟩⟩,⟨162,acP,⟨_,_,func162,azp⟩⟩,⟨163,acQ,⟨_,_,func163,azq⟩⟩,⟨164,acR,⟨_,_,func164,azr⟩⟩,⟨165,acS,⟨_,_,func165,azs⟩⟩,⟨166,acT,⟨_,_,func166,azt⟩⟩,⟨167,acU,⟨_,_,func167,azu⟩⟩,⟨169,acV,⟨_,_,func169,azv⟩⟩,⟨170,acW,⟨_,_,func170,azw⟩⟩,⟨171,acX,⟨_,_,func171,azx⟩⟩,⟨172,acY,⟨_,_,func172,azy⟩⟩,⟨173,acZ,⟨_,_,func173,azz⟩⟩,⟨174,ada,⟨_,_,func174,azA⟩⟩,⟨175,L1,⟨_,_,func175,adb⟩⟩,⟨176,L2,⟨_,_,func176,ade⟩⟩,⟨177,vF,⟨_,_,func177,adf⟩⟩,⟨178,adg,⟨_,_,func178,azB⟩⟩,⟨179,L3,⟨_,_,func179,adh⟩⟩,⟨180,uo,⟨_,_,func180,adi⟩⟩,⟨181,Hr,⟨_,_,func181,adj⟩⟩,⟨182,a182,⟨_,_,func182,azC⟩⟩,⟨183,a183,⟨_,_,func183,azD⟩⟩,⟨184,adk,⟨_,_,func184,azE⟩⟩,⟨185,adl,⟨_,_,func185,azF⟩⟩,⟨186,adm,⟨_,_,func186,azG⟩⟩,⟨187,adn,⟨_,_,func187,azH⟩⟩,⟨188,ado,⟨_,_,func188,azI⟩⟩,⟨190,BL,⟨_,_,func190,adp⟩⟩,⟨191,Ek,⟨_,_,func191,adq⟩⟩,⟨192,zt,⟨_,_,func192,adr⟩⟩,⟨193,El,⟨_,_,func193,ads⟩⟩,⟨194,Hs,⟨_,_,func194,adt⟩⟩,⟨195,adu,⟨_,_,func195,azJ⟩⟩,⟨196,L4,⟨_,_,func196,adv⟩⟩,⟨197,Em,⟨_,_,func197,adw⟩⟩,⟨198,xy,⟨_,_,func198,adx⟩⟩,⟨199,po,⟨_,_,func199,ady⟩⟩,⟨200,L5,⟨_,_,func200,adz⟩⟩,⟨201,Eb,⟨_,_,func201,RB⟩⟩,⟨202,Ht,⟨_,_,func202,adA⟩⟩,⟨203,pp,⟨_,_,func203,adB⟩⟩,⟨205,adC,⟨_,_,func205,azK⟩⟩,⟨206,adD,⟨_,_,func206,azL⟩⟩,⟨208,K8,⟨_,_,func208,YV⟩⟩,⟨209,Du,⟨_,_,func209,Xf⟩⟩,⟨211,adE,⟨_,_,func211,azM⟩⟩,⟨212,adF,⟨_,_,func212,azN⟩⟩,⟨213,adG,⟨_,_,func213,azO⟩⟩,⟨214,adH,⟨_,_,func214,azP⟩⟩,⟨215,adI,⟨_,_,func215,azQ⟩⟩,⟨216,adJ,⟨_,_,func216,azR⟩⟩,⟨217,adK,⟨_,_,func217,azS⟩⟩,⟨218,a218,⟨_,_,func218,azT⟩⟩,⟨219,adL,⟨_,_,func219,azU⟩⟩,⟨220,Ga,⟨_,_,func220,W2⟩⟩,⟨221,adM,⟨_,_,func221,azV⟩⟩,⟨222,a222,⟨_,_,func222,adN⟩⟩,⟨223,En,⟨_,_,func223,adO⟩⟩,⟨224,Hu,⟨_,_,func224,adP⟩⟩,⟨225,Hv,⟨_,_,func225,adQ⟩⟩,⟨226,Kl,⟨_,_,func226,Xk⟩⟩,⟨227,Hw,⟨_,_,func227,adR⟩⟩,⟨228,a228,⟨_,_,func228,adS⟩⟩,⟨229,a229,⟨_,_,func229,adT⟩⟩,⟨230,xz,⟨_,_,func230,adU⟩⟩,⟨231,qh,⟨_,_,func231,adV⟩⟩,⟨232,Eo,⟨_,_,func232,adW⟩⟩,⟨233,adX,⟨_,_,func233,azW⟩⟩,⟨241,adY,⟨_,_,func241,azX⟩⟩,⟨242,adZ,⟨_,_,func242,azY⟩⟩,⟨243,aea,⟨_,_,func243,azZ⟩⟩,⟨244,aeb,⟨_,_,func244,aAa⟩⟩,⟨245,aec,⟨_,_,func245,aAb⟩⟩,⟨246,aed,⟨_,_,func246,aAc⟩⟩,⟨247,L6,⟨_,_,func247,aee⟩⟩,⟨248,aef,⟨_,_,func248,aAd⟩⟩,⟨249,aeg,⟨_,_,func249,aAe⟩⟩,⟨251,aeh,⟨_,_,func251,aAf⟩⟩,⟨252,Hy,⟨_,_,func252,aei⟩⟩,⟨253,Ep,⟨_,_,func253,aej⟩⟩,⟨254,L8,⟨_,_,func254,aek⟩⟩,⟨255,ael,⟨_,_,func255,aAg⟩⟩,⟨256,aem,⟨_,_,func256,aAh⟩⟩,⟨257,L9,⟨_,_,func257,aen⟩⟩,⟨258,zu,⟨_,_,func258,aeo⟩⟩,⟨259,Kh,⟨_,_,func259,W9⟩⟩,⟨260,zv,⟨_,_,func260,aep⟩⟩,⟨262,aeq,⟨_,_,func262,aAi⟩⟩,⟨263,aer,⟨_,_,func263,aAj⟩⟩,⟨269,aes,⟨_,_,func269,aAk⟩⟩,⟨272,aet,⟨_,_,func272,aAl⟩⟩,⟨273,aeu,⟨_,_,func273,aAm⟩⟩,⟨274,aev,⟨_,_,func274,aAn⟩⟩,⟨275,aew,⟨_,_,func275,aAo⟩⟩,⟨276,aex,⟨_,_,func276,aAp⟩⟩,⟨284,Dv,⟨_,_,func284,Xh⟩⟩,⟨285,vG,⟨_,_,func285,aey⟩⟩,⟨286,Hz,⟨_,_,func286,aez⟩⟩,⟨287,Er,⟨_,_,func287,aeA⟩⟩,⟨288,Es,⟨_,_,func288,aeB⟩⟩,⟨294,aeC,⟨_,_,func294,aAq⟩⟩,⟨295,aeD,⟨_,_,func295,aAr⟩⟩,⟨303,aeE,⟨_,_,func303,aAs⟩⟩,⟨309,aeF,⟨_,_,func309,aAt⟩⟩,⟨312,Ma,⟨_,_,func312,aeG⟩⟩,⟨313,aeH,⟨_,_,func313,aAu⟩⟩,⟨314,aeI,⟨_,_,func314,aAv⟩⟩,⟨322,Dq,⟨_,_,func322,W7⟩⟩,⟨323,Mb,⟨_,_,func323,aeJ⟩⟩,⟨324,HA,⟨_,_,func324,aeK⟩⟩,⟨325,aeL,⟨_,_,func325,aAw⟩⟩,⟨336,aeM,⟨_,_,func336,aAx⟩⟩,⟨337,aeN,⟨_,_,func337,aAy⟩⟩,⟨338,aeO,⟨_,_,func338,aAz⟩⟩,⟨352,Et,⟨_,_,func352,aeP⟩⟩,⟨353,HB,⟨_,_,func353,aeQ⟩⟩,⟨358,aeR,⟨_,_,func358,aAA⟩⟩,⟨359,aeS,⟨_,_,func359,aAB⟩⟩,⟨360,aeT,⟨_,_,func360,aAC⟩⟩,⟨361,aeU,⟨_,_,func361,aAD⟩⟩,⟨366,zw,⟨_,_,func366,aeV⟩⟩,⟨368,kY,⟨_,_,func368,aeW⟩⟩,⟨369,Eu,⟨_,_,func369,aeX⟩⟩,⟨370,Mc,⟨_,_,func370,aeY⟩⟩,⟨371,BM,⟨_,_,func371,aeZ⟩⟩,⟨372,Md,⟨_,_,func372,afa⟩⟩]
theorem awr {d:List R}{a:Nat}:aK prog 116 [.bu a] d
 (fun v rs=>v= .fn 204 [.aW d.length 1 0 0]∧rs=d++ [.aa 224 1 [[.bu a]]]):=by
 refine aK.qw fun nh w=> ?_
 go_enter func116,ntmps116
 go_wp2
 go_ret
 exact⟨rfl,rfl⟩
def Rs (args:List z)(d:List R):Option (z×List R):=
 match args with
 | [.bu a]=>some (.fn 204 [.aW d.length 1 0 0],d++ [.aa 224 1 [[.bu a]]])
 |_=>none
theorem aws (args:List z)(d:List R)(v:z)(rs:List R)(h:Rs args d=some (v,rs)):aK prog 116 args d fun gq gX=>gq=v∧gX=rs:=by
 unfold Rs at h;split at h
 ·simp only[Option.some.injEq,Prod.mk.injEq] at h;obtain⟨rfl,rfl⟩:=h;exact awr
 ·cases h
open Go.RowKit (Below)
theorem awt {d:List R}{a:Nat}:aK prog 82 [.bu a] d
 (fun v rs=>v= .fn 168 [.aW d.length 1 0 0]∧rs=d++ [.aa 169 1 [[.bu a]]]):=by
 refine aK.qw fun nh w=> ?_
 go_enter func82,ntmps82
 go_wp2
 go_ret
 exact⟨rfl,rfl⟩
def D9 (g:FuncId)(aP:TypeId)(args:List z)(d:List R):Option (z×List R):=
 match args with
 | [.bu a]=>some (.fn g [.aW d.length 1 0 0],d++ [.aa aP 1 [[.bu a]]])
 |_=>none
theorem Lu {f g:FuncId}{aP:TypeId}(cs: ∀ (d:List R) (a:Nat),aK prog f [.bu a] d fun v rs=>v= .fn g [.aW d.length 1 0 0]∧rs=d++ [.aa aP 1 [[.bu a]]])(args:List z)(d:List R)(v:z)(rs:List R)(h:D9 g aP args d=some (v,rs)):aK prog f args d fun gq gX=>gq=v∧gX=rs:=by
 unfold D9 at h;split at h
 ·simp only[Option.some.injEq,Prod.mk.injEq] at h;obtain⟨rfl,rfl⟩:=h;exact cs _ _
 ·cases h
def Rt:List (z×z)→Option (List cm)
 | []=>some []
 | [(.agg [.int .i64 o,.str n],_)]=>some [⟨o,n⟩]
 |_=>none
def Ru (args:List z)(d:List R):Option (z×List R):=
 match args with
 | [.fn 207 [.aW b 1 0 0],.fn 122 []]=>
  match d[b]? with
  |some (.aa _ 1 [[.bu a]])=>
   match d[a]? with
   |some (.aY (.map true [.int .i64,.str] ents))=>
    match Rt ents with
    |some M=>if (M.all fun k=>aao k.o&&decide (k.n.size≤1000))&&d.all (iM d.length) then some (.own d.length M.length 0 M.length,d++ [.aa 235 2 (ac M)]) else none
    |none=>none
   |_=>none
  |_=>none
 |_=>none
theorem awu {ents:List (z×z)}{M:List cm}(h:Rt ents=some M):ents.map (·.1)=zb M∧M.Nodup∧M.length≤1:=by
 unfold Rt at h;split at h
 ·cases h;exact⟨rfl,List.nodup_nil,by simp⟩
 ·cases h;exact⟨rfl,by simp,by simp⟩
 ·cases h
theorem awv (args:List z)(d:List R)(v:z)(rs:List R)(h:Ru args d=some (v,rs)):aK prog 120 args d fun gq gX=>gq=v∧gX=rs:=by
 unfold Ru at h;split at h
 ·split at h
  ·rename_i Z;split at h
   ·rename_i aw;split at h
    ·rename_i M kK;split at h
     ·rename_i V;simp only[Bool.and_eq_true,List.all_eq_true,decide_eq_true_eq] at V;simp only[Option.some.injEq,Prod.mk.injEq] at h;obtain⟨rfl,rfl⟩:=h;obtain⟨bI,ca,fc⟩:=awu kK;refine (X0 (fun i bz G=>V.2 bz (List.mem_of_getElem? G)) aw Z bI ca (fun x ad=>⟨(V.1 x ad).1,Nat.le_trans (V.1 x ad).2 (by decide)⟩) (by omega)).mono ?_;rintro v rs ⟨l,hl,_,rfl,rfl⟩;have:l=M:=by
       match M,fc with
       | [],_=>exact List.perm_nil.1 hl
       | [x],_=>exact List.perm_singleton.1 hl
      subst this;exact⟨rfl,rfl⟩
     ·cases h
    ·cases h
   ·cases h
  ·cases h
 ·cases h
theorem auH (w:World)(a:Addr)(l F:Nat): (binOp .eql 60 (.slice (some a) l F) (.slice none 0 0)).run prog w= .ok (.bool false) w:=by
 simp[binOp,Op.equal,Op.maxDepth,T9 (P:=prog) w 9999 60 _ a l F underlying60]
theorem auG (w:World)(l F:Nat): (binOp .eql 60 (.slice none l F) (.slice none 0 0)).run prog w= .ok (.bool true) w:=by
 have h: (Op.equalIn (9999+1) 60 (.slice none l F) (.slice none 0 0)).run prog w= .ok true w:=by
  rw[Op.equalIn];simp only[Sem.run_bind,run_underlying underlying60,Result.andThen_ok,Sem.run_pure];rfl
 simp[binOp,Op.equal,Op.maxDepth,h]
def Rv (args:List z)(d:List R):Option (z×List R):=
 match args,d with
 | [.int .i64 y,.int .i64 m],[]=>if 0≤y∧1≤m∧m≤12 then some (.int .i64 (hH y m),[]) else none
 |_,_=>none
theorem aww (args:List z)(d:List R)(v:z)(rs:List R)(h:Rv args d=some (v,rs)):aK prog 255 args d fun gq gX=>gq=v∧gX=rs:=by
 unfold Rv at h;split at h
 ·split at h
  ·rename_i V;simp only[Option.some.injEq,Prod.mk.injEq] at h;obtain⟨rfl,rfl⟩:=h;exact DF _ _ V.1 V.2.1 V.2.2
  ·cases h
 ·cases h
def Lv:List (tU prog):= [⟨47,Rr,awq⟩,⟨116,Rs,aws⟩,
 ⟨82,D9 168 169,Lu fun _ _=>awt⟩,
 ⟨48,D9 128 116,Lu fun _ _=>ZH⟩,
 ⟨121,D9 207 232,Lu fun _ _=>XZ⟩,
 ⟨120,Ru,awv⟩,⟨255,Rv,aww⟩]
end Go.Proofs.YtpincjkjoeopkaaGreatDoor
