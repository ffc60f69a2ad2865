/- F9Tab, F9Lf2, F9Lf3 joined. -/
import Derived.Test.YtpincjkjoeopkaaGreatDoorFgB
set_option linter.unusedSimpArgs false
set_option linter.unusedVariables false
set_option linter.unusedSectionVars false
section
/- The evaluator's table, and the rules of the examples. -/
namespace Go.Proofs.YtpincjkjoeopkaaGreatDoor
open Go Go.Abs
set_option linter.unusedSimpArgs false

def tab : List (XForm Tryz.prog) := [⟨3, a3, ⟨_, _, Tryz.func3, a3_ok⟩⟩, ⟨4, a4, ⟨_, _, Tryz.func4, a4_ok⟩⟩, ⟨5, a5, ⟨_, _, Tryz.func5, a5_ok⟩⟩, ⟨6, a6, ⟨_, _, Tryz.func6, a6_ok⟩⟩, ⟨7, a7, ⟨_, _, Tryz.func7, a7_ok⟩⟩, ⟨8, a8, ⟨_, _, Tryz.func8, a8_ok⟩⟩, ⟨9, a9, ⟨_, _, Tryz.func9, a9_ok⟩⟩, ⟨10, a10, ⟨_, _, Tryz.func10, a10_ok⟩⟩, ⟨11, a11, ⟨_, _, Tryz.func11, a11_ok⟩⟩, ⟨12, a12, ⟨_, _, Tryz.func12, a12_ok⟩⟩, ⟨13, a13, ⟨_, _, Tryz.func13, a13_ok⟩⟩, ⟨14, a14, ⟨_, _, Tryz.func14, a14_ok⟩⟩, ⟨15, a15, ⟨_, _, Tryz.func15, a15_ok⟩⟩, ⟨16, a16, ⟨_, _, Tryz.func16, a16_ok⟩⟩, ⟨17, a17, ⟨_, _, Tryz.func17, a17_ok⟩⟩, ⟨18, a18, ⟨_, _, Tryz.func18, a18_ok⟩⟩, ⟨19, a19, ⟨_, _, Tryz.func19, a19_ok⟩⟩, ⟨20, a20, ⟨_, _, Tryz.func20, a20_ok⟩⟩, ⟨21, a21, ⟨_, _, Tryz.func21, a21_ok⟩⟩, ⟨22, a22, ⟨_, _, Tryz.func22, a22_ok⟩⟩, ⟨23, a23, ⟨_, _, Tryz.func23, a23_ok⟩⟩, ⟨24, a24, ⟨_, _, Tryz.func24, a24_ok⟩⟩, ⟨25, a25, ⟨_, _, Tryz.func25, a25_ok⟩⟩, ⟨26, a26, ⟨_, _, Tryz.func26, a26_ok⟩⟩, ⟨27, a27, ⟨_, _, Tryz.func27, a27_ok⟩⟩, ⟨28, a28, ⟨_, _, Tryz.func28, a28_ok⟩⟩, ⟨29, a29, ⟨_, _, Tryz.func29, a29_ok⟩⟩, ⟨30, a30, ⟨_, _, Tryz.func30, a30_ok⟩⟩, ⟨31, a31, ⟨_, _, Tryz.func31, a31_ok⟩⟩, ⟨32, a32, ⟨_, _, Tryz.func32, a32_ok⟩⟩, ⟨33, a33, ⟨_, _, Tryz.func33, a33_ok⟩⟩, ⟨34, a34, ⟨_, _, Tryz.func34, a34_ok⟩⟩, ⟨35, a35, ⟨_, _, Tryz.func35, a35_ok⟩⟩, ⟨36, a36, ⟨_, _, Tryz.func36, a36_ok⟩⟩, ⟨37, a37, ⟨_, _, Tryz.func37, a37_ok⟩⟩, ⟨38, a38, ⟨_, _, Tryz.func38, a38_ok⟩⟩, ⟨39, a39, ⟨_, _, Tryz.func39, a39_ok⟩⟩, ⟨40, a40, ⟨_, _, Tryz.func40, a40_ok⟩⟩, ⟨41, a41, ⟨_, _, Tryz.func41, a41_ok⟩⟩, ⟨42, a42, ⟨_, _, Tryz.func42, a42_ok⟩⟩, ⟨43, a43, ⟨_, _, Tryz.func43, a43_ok⟩⟩, ⟨44, a44, ⟨_, _, Tryz.func44, a44_ok⟩⟩, ⟨45, a45, ⟨_, _, Tryz.func45, a45_ok⟩⟩, ⟨46, a46, ⟨_, _, Tryz.func46, a46_ok⟩⟩, ⟨47, a47, ⟨_, _, Tryz.func47, a47_ok⟩⟩, ⟨48, a48, ⟨_, _, Tryz.func48, a48_ok⟩⟩, ⟨49, a49, ⟨_, _, Tryz.func49, a49_ok⟩⟩, ⟨50, a50, ⟨_, _, Tryz.func50, a50_ok⟩⟩, ⟨51, a51, ⟨_, _, Tryz.func51, a51_ok⟩⟩, ⟨52, a52, ⟨_, _, Tryz.func52, a52_ok⟩⟩, ⟨53, a53, ⟨_, _, Tryz.func53, a53_ok⟩⟩, ⟨54, a54, ⟨_, _, Tryz.func54, a54_ok⟩⟩, ⟨55, a55, ⟨_, _, Tryz.func55, a55_ok⟩⟩, ⟨56, a56, ⟨_, _, Tryz.func56, a56_ok⟩⟩, ⟨57, a57, ⟨_, _, Tryz.func57, a57_ok⟩⟩, ⟨58, a58, ⟨_, _, Tryz.func58, a58_ok⟩⟩, ⟨59, a59, ⟨_, _, Tryz.func59, a59_ok⟩⟩, ⟨60, a60, ⟨_, _, Tryz.func60, a60_ok⟩⟩, ⟨61, a61, ⟨_, _, Tryz.func61, a61_ok⟩⟩, ⟨62, a62, ⟨_, _, Tryz.func62, a62_ok⟩⟩, ⟨63, a63, ⟨_, _, Tryz.func63, a63_ok⟩⟩, ⟨64, a64, ⟨_, _, Tryz.func64, a64_ok⟩⟩, ⟨65, a65, ⟨_, _, Tryz.func65, a65_ok⟩⟩, ⟨66, a66, ⟨_, _, Tryz.func66, a66_ok⟩⟩, ⟨67, a67, ⟨_, _, Tryz.func67, a67_ok⟩⟩, ⟨68, a68, ⟨_, _, Tryz.func68, a68_ok⟩⟩, ⟨69, a69, ⟨_, _, Tryz.func69, a69_ok⟩⟩, ⟨70, a70, ⟨_, _, Tryz.func70, a70_ok⟩⟩, ⟨71, a71, ⟨_, _, Tryz.func71, a71_ok⟩⟩, ⟨72, a72, ⟨_, _, Tryz.func72, a72_ok⟩⟩, ⟨73, a73, ⟨_, _, Tryz.func73, a73_ok⟩⟩, ⟨74, a74, ⟨_, _, Tryz.func74, a74_ok⟩⟩, ⟨75, a75, ⟨_, _, Tryz.func75, a75_ok⟩⟩, ⟨76, a76, ⟨_, _, Tryz.func76, a76_ok⟩⟩, ⟨77, a77, ⟨_, _, Tryz.func77, a77_ok⟩⟩, ⟨78, a78, ⟨_, _, Tryz.func78, a78_ok⟩⟩, ⟨79, a79, ⟨_, _, Tryz.func79, a79_ok⟩⟩, ⟨80, a80, ⟨_, _, Tryz.func80, a80_ok⟩⟩, ⟨81, a81, ⟨_, _, Tryz.func81, a81_ok⟩⟩, ⟨82, a82, ⟨_, _, Tryz.func82, a82_ok⟩⟩, ⟨83, a83, ⟨_, _, Tryz.func83, a83_ok⟩⟩, ⟨84, a84, ⟨_, _, Tryz.func84, a84_ok⟩⟩, ⟨85, a85, ⟨_, _, Tryz.func85, a85_ok⟩⟩, ⟨86, a86, ⟨_, _, Tryz.func86, a86_ok⟩⟩, ⟨87, a87, ⟨_, _, Tryz.func87, a87_ok⟩⟩, ⟨88, a88, ⟨_, _, Tryz.func88, a88_ok⟩⟩, ⟨89, a89, ⟨_, _, Tryz.func89, a89_ok⟩⟩, ⟨90, a90, ⟨_, _, Tryz.func90, a90_ok⟩⟩, ⟨91, a91, ⟨_, _, Tryz.func91, a91_ok⟩⟩, ⟨92, a92, ⟨_, _, Tryz.func92, a92_ok⟩⟩, ⟨93, a93, ⟨_, _, Tryz.func93, a93_ok⟩⟩, ⟨94, a94, ⟨_, _, Tryz.func94, a94_ok⟩⟩, ⟨95, a95, ⟨_, _, Tryz.func95, a95_ok⟩⟩, ⟨96, a96, ⟨_, _, Tryz.func96, a96_ok⟩⟩, ⟨97, a97, ⟨_, _, Tryz.func97, a97_ok⟩⟩, ⟨98, a98, ⟨_, _, Tryz.func98, a98_ok⟩⟩, ⟨99, a99, ⟨_, _, Tryz.func99, a99_ok⟩⟩, ⟨100, a100, ⟨_, _, Tryz.func100, a100_ok⟩⟩, ⟨101, a101, ⟨_, _, Tryz.func101, a101_ok⟩⟩, ⟨102, a102, ⟨_, _, Tryz.func102, a102_ok⟩⟩, ⟨103, a103, ⟨_, _, Tryz.func103, a103_ok⟩⟩, ⟨104, a104, ⟨_, _, Tryz.func104, a104_ok⟩⟩, ⟨105, a105, ⟨_, _, Tryz.func105, a105_ok⟩⟩, ⟨106, a106, ⟨_, _, Tryz.func106, a106_ok⟩⟩, ⟨107, a107, ⟨_, _, Tryz.func107, a107_ok⟩⟩, ⟨108, a108, ⟨_, _, Tryz.func108, a108_ok⟩⟩, ⟨109, a109, ⟨_, _, Tryz.func109, a109_ok⟩⟩, ⟨110, a110, ⟨_, _, Tryz.func110, a110_ok⟩⟩, ⟨111, a111, ⟨_, _, Tryz.func111, a111_ok⟩⟩, ⟨112, a112, ⟨_, _, Tryz.func112, a112_ok⟩⟩, ⟨113, a113, ⟨_, _, Tryz.func113, a113_ok⟩⟩, ⟨114, a114, ⟨_, _, Tryz.func114, a114_ok⟩⟩, ⟨115, a115, ⟨_, _, Tryz.func115, a115_ok⟩⟩, ⟨116, a116, ⟨_, _, Tryz.func116, a116_ok⟩⟩, ⟨117, a117, ⟨_, _, Tryz.func117, a117_ok⟩⟩, ⟨118, a118, ⟨_, _, Tryz.func118, a118_ok⟩⟩, ⟨119, a119, ⟨_, _, Tryz.func119, a119_ok⟩⟩, ⟨120, a120, ⟨_, _, Tryz.func120, a120_ok⟩⟩, ⟨121, a121, ⟨_, _, Tryz.func121, a121_ok⟩⟩, ⟨122, a122, ⟨_, _, Tryz.func122, a122_ok⟩⟩, ⟨123, a123, ⟨_, _, Tryz.func123, a123_ok⟩⟩, ⟨124, a124, ⟨_, _, Tryz.func124, a124_ok⟩⟩, ⟨125, a125, ⟨_, _, Tryz.func125, a125_ok⟩⟩, ⟨126, a126, ⟨_, _, Tryz.func126, a126_ok⟩⟩, ⟨127, a127, ⟨_, _, Tryz.func127, a127_ok⟩⟩, ⟨129, a129, ⟨_, _, Tryz.func129, a129_ok⟩⟩, ⟨130, a130, ⟨_, _, Tryz.func130, a130_ok⟩⟩, ⟨131, a131, ⟨_, _, Tryz.func131, a131_ok⟩⟩, ⟨132, a132, ⟨_, _, Tryz.func132, a132_ok⟩⟩, ⟨133, a133, ⟨_, _, Tryz.func133, a133_ok⟩⟩, ⟨134, a134, ⟨_, _, Tryz.func134, a134_ok⟩⟩, ⟨135, a135, ⟨_, _, Tryz.func135, a135_ok⟩⟩, ⟨136, a136, ⟨_, _, Tryz.func136, a136_ok⟩⟩, ⟨137, a137, ⟨_, _, Tryz.func137, a137_ok⟩⟩, ⟨138, a138, ⟨_, _, Tryz.func138, a138_ok⟩⟩, ⟨139, a139, ⟨_, _, Tryz.func139, a139_ok⟩⟩, ⟨140, a140, ⟨_, _, Tryz.func140, a140_ok⟩⟩, ⟨141, a141, ⟨_, _, Tryz.func141, a141_ok⟩⟩, ⟨142, a142, ⟨_, _, Tryz.func142, a142_ok⟩⟩, ⟨143, a143, ⟨_, _, Tryz.func143, a143_ok⟩⟩, ⟨144, a144, ⟨_, _, Tryz.func144, a144_ok⟩⟩, ⟨145, a145, ⟨_, _, Tryz.func145, a145_ok⟩⟩, ⟨146, a146, ⟨_, _, Tryz.func146, a146_ok⟩⟩, ⟨147, a147, ⟨_, _, Tryz.func147, a147_ok⟩⟩, ⟨148, a148, ⟨_, _, Tryz.func148, a148_ok⟩⟩, ⟨149, a149, ⟨_, _, Tryz.func149, a149_ok⟩⟩, ⟨150, a150, ⟨_, _, Tryz.func150, a150_ok⟩⟩, ⟨151, a151, ⟨_, _, Tryz.func151, a151_ok⟩⟩, ⟨152, a152, ⟨_, _, Tryz.func152, a152_ok⟩⟩, ⟨153, a153, ⟨_, _, Tryz.func153, a153_ok⟩⟩, ⟨154, a154, ⟨_, _, Tryz.func154, a154_ok⟩⟩, ⟨155, a155, ⟨_, _, Tryz.func155, a155_ok⟩⟩, ⟨156, a156, ⟨_, _, Tryz.func156, a156_ok⟩⟩, ⟨157, a157, ⟨_, _, Tryz.func157, a157_ok⟩⟩, ⟨158, a158, ⟨_, _, Tryz.func158, a158_ok⟩⟩, ⟨159, a159, ⟨_, _, Tryz.func159, a159_ok⟩⟩, ⟨160, a160, ⟨_, _, Tryz.func160, a160_ok⟩⟩, ⟨161, a161, ⟨_, _, Tryz.func161, a161_ok⟩⟩, ⟨162, a162, ⟨_, _, Tryz.func162, a162_ok⟩⟩, ⟨163, a163, ⟨_, _, Tryz.func163, a163_ok⟩⟩, ⟨164, a164, ⟨_, _, Tryz.func164, a164_ok⟩⟩, ⟨165, a165, ⟨_, _, Tryz.func165, a165_ok⟩⟩, ⟨166, a166, ⟨_, _, Tryz.func166, a166_ok⟩⟩, ⟨167, a167, ⟨_, _, Tryz.func167, a167_ok⟩⟩, ⟨169, a169, ⟨_, _, Tryz.func169, a169_ok⟩⟩, ⟨170, a170, ⟨_, _, Tryz.func170, a170_ok⟩⟩, ⟨171, a171, ⟨_, _, Tryz.func171, a171_ok⟩⟩, ⟨172, a172, ⟨_, _, Tryz.func172, a172_ok⟩⟩, ⟨173, a173, ⟨_, _, Tryz.func173, a173_ok⟩⟩, ⟨174, a174, ⟨_, _, Tryz.func174, a174_ok⟩⟩, ⟨175, a175, ⟨_, _, Tryz.func175, a175_ok⟩⟩, ⟨176, a176, ⟨_, _, Tryz.func176, a176_ok⟩⟩, ⟨177, a177, ⟨_, _, Tryz.func177, a177_ok⟩⟩, ⟨178, a178, ⟨_, _, Tryz.func178, a178_ok⟩⟩, ⟨179, a179, ⟨_, _, Tryz.func179, a179_ok⟩⟩, ⟨180, a180, ⟨_, _, Tryz.func180, a180_ok⟩⟩, ⟨181, a181, ⟨_, _, Tryz.func181, a181_ok⟩⟩, ⟨182, a182, ⟨_, _, Tryz.func182, a182_ok⟩⟩, ⟨183, a183, ⟨_, _, Tryz.func183, a183_ok⟩⟩, ⟨184, a184, ⟨_, _, Tryz.func184, a184_ok⟩⟩, ⟨185, a185, ⟨_, _, Tryz.func185, a185_ok⟩⟩, ⟨186, a186, ⟨_, _, Tryz.func186, a186_ok⟩⟩, ⟨187, a187, ⟨_, _, Tryz.func187, a187_ok⟩⟩, ⟨188, a188, ⟨_, _, Tryz.func188, a188_ok⟩⟩, ⟨190, a190, ⟨_, _, Tryz.func190, a190_ok⟩⟩, ⟨191, a191, ⟨_, _, Tryz.func191, a191_ok⟩⟩, ⟨192, a192, ⟨_, _, Tryz.func192, a192_ok⟩⟩, ⟨193, a193, ⟨_, _, Tryz.func193, a193_ok⟩⟩, ⟨194, a194, ⟨_, _, Tryz.func194, a194_ok⟩⟩, ⟨195, a195, ⟨_, _, Tryz.func195, a195_ok⟩⟩, ⟨196, a196, ⟨_, _, Tryz.func196, a196_ok⟩⟩, ⟨197, a197, ⟨_, _, Tryz.func197, a197_ok⟩⟩, ⟨198, a198, ⟨_, _, Tryz.func198, a198_ok⟩⟩, ⟨199, a199, ⟨_, _, Tryz.func199, a199_ok⟩⟩, ⟨200, a200, ⟨_, _, Tryz.func200, a200_ok⟩⟩, ⟨201, a201, ⟨_, _, Tryz.func201, a201_ok⟩⟩, ⟨202, a202, ⟨_, _, Tryz.func202, a202_ok⟩⟩, ⟨203, a203, ⟨_, _, Tryz.func203, a203_ok⟩⟩, ⟨205, a205, ⟨_, _, Tryz.func205, a205_ok⟩⟩, ⟨206, a206, ⟨_, _, Tryz.func206, a206_ok⟩⟩, ⟨208, a208, ⟨_, _, Tryz.func208, a208_ok⟩⟩, ⟨209, a209, ⟨_, _, Tryz.func209, a209_ok⟩⟩, ⟨211, a211, ⟨_, _, Tryz.func211, a211_ok⟩⟩, ⟨212, a212, ⟨_, _, Tryz.func212, a212_ok⟩⟩, ⟨213, a213, ⟨_, _, Tryz.func213, a213_ok⟩⟩, ⟨214, a214, ⟨_, _, Tryz.func214, a214_ok⟩⟩, ⟨215, a215, ⟨_, _, Tryz.func215, a215_ok⟩⟩, ⟨216, a216, ⟨_, _, Tryz.func216, a216_ok⟩⟩, ⟨217, a217, ⟨_, _, Tryz.func217, a217_ok⟩⟩, ⟨218, a218, ⟨_, _, Tryz.func218, a218_ok⟩⟩, ⟨219, a219, ⟨_, _, Tryz.func219, a219_ok⟩⟩, ⟨220, a220, ⟨_, _, Tryz.func220, a220_ok⟩⟩, ⟨221, a221, ⟨_, _, Tryz.func221, a221_ok⟩⟩, ⟨222, a222, ⟨_, _, Tryz.func222, a222_ok⟩⟩, ⟨223, a223, ⟨_, _, Tryz.func223, a223_ok⟩⟩, ⟨224, a224, ⟨_, _, Tryz.func224, a224_ok⟩⟩, ⟨225, a225, ⟨_, _, Tryz.func225, a225_ok⟩⟩, ⟨226, a226, ⟨_, _, Tryz.func226, a226_ok⟩⟩, ⟨227, a227, ⟨_, _, Tryz.func227, a227_ok⟩⟩, ⟨228, a228, ⟨_, _, Tryz.func228, a228_ok⟩⟩, ⟨229, a229, ⟨_, _, Tryz.func229, a229_ok⟩⟩, ⟨230, a230, ⟨_, _, Tryz.func230, a230_ok⟩⟩, ⟨231, a231, ⟨_, _, Tryz.func231, a231_ok⟩⟩, ⟨232, a232, ⟨_, _, Tryz.func232, a232_ok⟩⟩, ⟨233, a233, ⟨_, _, Tryz.func233, a233_ok⟩⟩, ⟨241, a241, ⟨_, _, Tryz.func241, a241_ok⟩⟩, ⟨242, a242, ⟨_, _, Tryz.func242, a242_ok⟩⟩, ⟨243, a243, ⟨_, _, Tryz.func243, a243_ok⟩⟩, ⟨244, a244, ⟨_, _, Tryz.func244, a244_ok⟩⟩, ⟨245, a245, ⟨_, _, Tryz.func245, a245_ok⟩⟩, ⟨246, a246, ⟨_, _, Tryz.func246, a246_ok⟩⟩, ⟨247, a247, ⟨_, _, Tryz.func247, a247_ok⟩⟩, ⟨248, a248, ⟨_, _, Tryz.func248, a248_ok⟩⟩, ⟨249, a249, ⟨_, _, Tryz.func249, a249_ok⟩⟩, ⟨251, a251, ⟨_, _, Tryz.func251, a251_ok⟩⟩, ⟨252, a252, ⟨_, _, Tryz.func252, a252_ok⟩⟩, ⟨253, a253, ⟨_, _, Tryz.func253, a253_ok⟩⟩, ⟨254, a254, ⟨_, _, Tryz.func254, a254_ok⟩⟩, ⟨255, a255, ⟨_, _, Tryz.func255, a255_ok⟩⟩, ⟨256, a256, ⟨_, _, Tryz.func256, a256_ok⟩⟩, ⟨257, a257, ⟨_, _, Tryz.func257, a257_ok⟩⟩, ⟨258, a258, ⟨_, _, Tryz.func258, a258_ok⟩⟩, ⟨259, a259, ⟨_, _, Tryz.func259, a259_ok⟩⟩, ⟨260, a260, ⟨_, _, Tryz.func260, a260_ok⟩⟩, ⟨262, a262, ⟨_, _, Tryz.func262, a262_ok⟩⟩, ⟨263, a263, ⟨_, _, Tryz.func263, a263_ok⟩⟩, ⟨269, a269, ⟨_, _, Tryz.func269, a269_ok⟩⟩, ⟨272, a272, ⟨_, _, Tryz.func272, a272_ok⟩⟩, ⟨273, a273, ⟨_, _, Tryz.func273, a273_ok⟩⟩, ⟨274, a274, ⟨_, _, Tryz.func274, a274_ok⟩⟩, ⟨275, a275, ⟨_, _, Tryz.func275, a275_ok⟩⟩, ⟨276, a276, ⟨_, _, Tryz.func276, a276_ok⟩⟩, ⟨284, a284, ⟨_, _, Tryz.func284, a284_ok⟩⟩, ⟨285, a285, ⟨_, _, Tryz.func285, a285_ok⟩⟩, ⟨286, a286, ⟨_, _, Tryz.func286, a286_ok⟩⟩, ⟨287, a287, ⟨_, _, Tryz.func287, a287_ok⟩⟩, ⟨288, a288, ⟨_, _, Tryz.func288, a288_ok⟩⟩, ⟨294, a294, ⟨_, _, Tryz.func294, a294_ok⟩⟩, ⟨295, a295, ⟨_, _, Tryz.func295, a295_ok⟩⟩, ⟨303, a303, ⟨_, _, Tryz.func303, a303_ok⟩⟩, ⟨309, a309, ⟨_, _, Tryz.func309, a309_ok⟩⟩, ⟨312, a312, ⟨_, _, Tryz.func312, a312_ok⟩⟩, ⟨313, a313, ⟨_, _, Tryz.func313, a313_ok⟩⟩, ⟨314, a314, ⟨_, _, Tryz.func314, a314_ok⟩⟩, ⟨322, a322, ⟨_, _, Tryz.func322, a322_ok⟩⟩, ⟨323, a323, ⟨_, _, Tryz.func323, a323_ok⟩⟩, ⟨324, a324, ⟨_, _, Tryz.func324, a324_ok⟩⟩, ⟨325, a325, ⟨_, _, Tryz.func325, a325_ok⟩⟩, ⟨336, a336, ⟨_, _, Tryz.func336, a336_ok⟩⟩, ⟨337, a337, ⟨_, _, Tryz.func337, a337_ok⟩⟩, ⟨338, a338, ⟨_, _, Tryz.func338, a338_ok⟩⟩, ⟨352, a352, ⟨_, _, Tryz.func352, a352_ok⟩⟩, ⟨353, a353, ⟨_, _, Tryz.func353, a353_ok⟩⟩, ⟨358, a358, ⟨_, _, Tryz.func358, a358_ok⟩⟩, ⟨359, a359, ⟨_, _, Tryz.func359, a359_ok⟩⟩, ⟨360, a360, ⟨_, _, Tryz.func360, a360_ok⟩⟩, ⟨361, a361, ⟨_, _, Tryz.func361, a361_ok⟩⟩, ⟨366, a366, ⟨_, _, Tryz.func366, a366_ok⟩⟩, ⟨368, a368, ⟨_, _, Tryz.func368, a368_ok⟩⟩, ⟨369, a369, ⟨_, _, Tryz.func369, a369_ok⟩⟩, ⟨370, a370, ⟨_, _, Tryz.func370, a370_ok⟩⟩, ⟨371, a371, ⟨_, _, Tryz.func371, a371_ok⟩⟩, ⟨372, a372, ⟨_, _, Tryz.func372, a372_ok⟩⟩]
def rulesL : List AVal := [.int .i64 0, .nils, .int .i64 900, .int .i64 0, .int .i64 0, .int .i64 0, .int .i64 0, .int .i64 0, .nils, .str ⟨#[110, 111, 114, 109, 97, 108]⟩, .pure 2 [[.str ⟨#[111, 116, 49]⟩, .int .i64 480]], .nils, .nils, .nils]
theorem divR_ok : AFn Tryz.prog 41 [.agg [.str ⟨#[110, 111, 114, 109, 97, 108]⟩, .pure 2 [[.str ⟨#[111, 116, 49]⟩, .int .i64 480]], .nils], .nils] [] (fun v rs => v = .tup [.nils, .int .i64 0] ∧ rs = []) :=
  run_afn (T := tab) (L := []) 60 [(.tup [.nils, .int .i64 0], [])] (by kernel_rfl) (by intro o h; rw [List.mem_singleton] at h; subst h; exact ⟨rfl, rfl⟩)
end Go.Proofs.YtpincjkjoeopkaaGreatDoor
end

section
/- More leaves of the evaluator: maps.Keys. -/
namespace Go.Proofs.YtpincjkjoeopkaaGreatDoor
open Go Go.Abs
set_option linter.unusedSimpArgs false
set_option linter.unusedVariables false

theorem mapsKeysA_ok {rows : List Row} {a : Nat} : AFn Tryz.prog 116 [.mref a] rows
    (fun v rs => v = .fn 204 [.ref rows.length 1 0 0] ∧ rs = rows ++ [.live 224 1 [[.mref a]]]) := by
  refine AFn.keys fun mb w => ?_
  go_enter Tryz.func116, Tryz.ntmps116
  go_wp2
  go_ret
  exact ⟨rfl, rfl⟩
def runKeysA (args : List AVal) (rows : List Row) : Option (AVal × List Row) :=
  match args with
  | [.mref a] => some (.fn 204 [.ref rows.length 1 0 0], rows ++ [.live 224 1 [[.mref a]]])
  | _ => none
theorem runKeysA_ok (args : List AVal) (rows : List Row) (v : AVal) (rs : List Row) (h : runKeysA args rows = some (v, rs)) : AFn Tryz.prog 116 args rows fun v' rs' => v' = v ∧ rs' = rs := by
  unfold runKeysA at h
  split at h
  · simp only [Option.some.injEq, Prod.mk.injEq] at h
    obtain ⟨rfl, rfl⟩ := h
    exact mapsKeysA_ok
  · cases h
def leavesR : List (XLeaf Tryz.prog) := [⟨47, runSorted, runSorted_ok⟩, ⟨116, runKeysA, runKeysA_ok⟩]
theorem mrkR_ok : AFn Tryz.prog 42 [.agg [.int .i64 0, .nils], .nils, .nils, .nils] [] (fun v rs => v = .tup [.nils, .int .i64 0] ∧ rs = []) :=
  run_afn (T := tab) (L := leavesR) 60 [(.tup [.nils, .int .i64 0], [])] (by kernel_rfl) (by intro o h; rw [List.mem_singleton] at h; subst h; exact ⟨rfl, rfl⟩)

end Go.Proofs.YtpincjkjoeopkaaGreatDoor
end

section
/- More leaves of the evaluator: maps.Keys, SortedFunc of at most one key, Clone of nothing. -/
namespace Go.Proofs.YtpincjkjoeopkaaGreatDoor
open Go Go.Abs
open Go.RowKit (Below)
set_option linter.unusedSimpArgs false
set_option linter.unusedVariables false

theorem mapsKeysB_ok {rows : List Row} {a : Nat} : AFn Tryz.prog 82 [.mref a] rows
    (fun v rs => v = .fn 168 [.ref rows.length 1 0 0] ∧ rs = rows ++ [.live 169 1 [[.mref a]]]) := by
  refine AFn.keys fun mb w => ?_
  go_enter Tryz.func82, Tryz.ntmps82
  go_wp2
  go_ret
  exact ⟨rfl, rfl⟩
def runKeys (g : FuncId) (T : TypeId) (args : List AVal) (rows : List Row) : Option (AVal × List Row) :=
  match args with
  | [.mref a] => some (.fn g [.ref rows.length 1 0 0], rows ++ [.live T 1 [[.mref a]]])
  | _ => none
theorem runKeys_ok {f g : FuncId} {T : TypeId} (hK : ∀ (rows : List Row) (a : Nat), AFn Tryz.prog f [.mref a] rows fun v rs => v = .fn g [.ref rows.length 1 0 0] ∧ rs = rows ++ [.live T 1 [[.mref a]]]) (args : List AVal) (rows : List Row) (v : AVal) (rs : List Row) (h : runKeys g T args rows = some (v, rs)) : AFn Tryz.prog f args rows fun v' rs' => v' = v ∧ rs' = rs := by
  unfold runKeys at h
  split at h
  · simp only [Option.some.injEq, Prod.mk.injEq] at h
    obtain ⟨rfl, rfl⟩ := h
    exact hK _ _
  · cases h
/-- the keys of a map of at most one entry -/
def keyA1 : List (AVal × AVal) → Option (List AKey)
  | [] => some []
  | [(.agg [.int .i64 d, .str n], _)] => some [⟨d, n⟩]
  | _ => none
def runSfn (args : List AVal) (rows : List Row) : Option (AVal × List Row) :=
  match args with
  | [.fn 207 [.ref b 1 0 0], .fn 122 []] =>
    match rows[b]? with
    | some (.live _ 1 [[.mref a]]) =>
      match rows[a]? with
      | some (.obj (.map true [.int .i64, .str] ents)) =>
        match keyA1 ents with
        | some ks => if (ks.all fun k => wfI k.d && decide (k.n.size ≤ 1000)) && rows.all (inRow rows.length) then some (.own rows.length ks.length 0 ks.length, rows ++ [.live 235 2 (els ks)]) else none
        | none => none
      | _ => none
    | _ => none
  | _ => none
theorem keyA1_ok {ents : List (AVal × AVal)} {ks : List AKey} (h : keyA1 ents = some ks) : ents.map (·.1) = keysA ks ∧ ks.Nodup ∧ ks.length ≤ 1 := by
  unfold keyA1 at h
  split at h
  · cases h; exact ⟨rfl, List.nodup_nil, by simp⟩
  · cases h; exact ⟨rfl, by simp, by simp⟩
  · cases h
theorem runSfn_ok (args : List AVal) (rows : List Row) (v : AVal) (rs : List Row) (h : runSfn args rows = some (v, rs)) : AFn Tryz.prog 120 args rows fun v' rs' => v' = v ∧ rs' = rs := by
  unfold runSfn at h
  split at h
  · split at h
    · rename_i hb
      split at h
      · rename_i ha
        split at h
        · rename_i ks hks
          split at h
          · rename_i hc
            simp only [Bool.and_eq_true, List.all_eq_true, decide_eq_true_eq] at hc
            simp only [Option.some.injEq, Prod.mk.injEq] at h
            obtain ⟨rfl, rfl⟩ := h
            obtain ⟨k1, k2, k3⟩ := keyA1_ok hks
            refine (sortedK_ok (fun r row hr => hc.2 row (List.mem_of_getElem? hr)) ha hb k1 k2 (fun x hx => ⟨(hc.1 x hx).1, Nat.le_trans (hc.1 x hx).2 (by decide)⟩) (by omega)).mono ?_
            rintro v rs ⟨l, hl, _, rfl, rfl⟩
            have : l = ks := by
              match ks, k3 with
              | [], _ => exact List.perm_nil.1 hl
              | [x], _ => exact List.perm_singleton.1 hl
            subst this
            exact ⟨rfl, rfl⟩
          · cases h
        · cases h
      · cases h
    · cases h
  · cases h
theorem bnil_some (w : World) (a : Addr) (l c : Nat) : (binOp .eql 60 (.slice (some a) l c) (.slice none 0 0)).run Tryz.prog w = .ok (.bool false) w := by
  simp [binOp, Op.equal, Op.maxDepth, run_equalIn_nil (P := Tryz.prog) w 9999 60 _ a l c Tryz.underlying60]
theorem bnil_none (w : World) (l c : Nat) : (binOp .eql 60 (.slice none l c) (.slice none 0 0)).run Tryz.prog w = .ok (.bool true) w := by
  have h : (Op.equalIn (9999 + 1) 60 (.slice none l c) (.slice none 0 0)).run Tryz.prog w = .ok true w := by
    rw [Op.equalIn]
    simp only [Sem.run_bind, run_underlying Tryz.underlying60, Result.andThen_ok, Sem.run_pure]; rfl
  simp [binOp, Op.equal, Op.maxDepth, h]
set_option maxRecDepth 20000 in
theorem cloneN_ok : AFn Tryz.prog 154 [.nils] [] (fun v rs => v = .nils ∧ rs = []) := by
  refine AFn.leaf fun C cargs hr hok hG hrep => ?_
  rw [RepL] at hrep
  obtain ⟨v, rest, rfl, h1, h2⟩ := hrep
  rw [RepL] at h2
  subst h2
  rw [Rep] at h1
  obtain ⟨ao, rfl⟩ := h1
  have hw : (Below C.w.heap.size C.w C.w ∧ C.w.drawn ≤ C.w.drawn) := ⟨Go.RowKit.Below.refl _ _, Nat.le_refl _⟩
  go_enter Tryz.func154, Tryz.ntmps154
  cases ao with
  | none =>
    go_wp2
    rw [bnil_none]
    go_wp2
    go_ret
    exact ⟨_, .nils, rfl, hw, fun C' _ => (by rw [Rep]; exact ⟨none, rfl⟩), rfl, trivial⟩
  | some a =>
    go_wp2
    rw [bnil_some]
    go_wp2
    go_ret
    exact ⟨_, .nils, rfl, ⟨hw.1.alloc (Nat.le_refl _) _, hw.2⟩, fun C' _ => (by rw [Rep]; exact ⟨_, rfl⟩), rfl, trivial⟩
def runClone (args : List AVal) (rows : List Row) : Option (AVal × List Row) :=
  match args, rows with
  | [.nils], [] => some (.nils, [])
  | _, _ => none
theorem runClone_ok (args : List AVal) (rows : List Row) (v : AVal) (rs : List Row) (h : runClone args rows = some (v, rs)) : AFn Tryz.prog 154 args rows fun v' rs' => v' = v ∧ rs' = rs := by
  unfold runClone at h
  split at h
  · simp only [Option.some.injEq, Prod.mk.injEq] at h
    obtain ⟨rfl, rfl⟩ := h
    exact cloneN_ok
  · cases h
def runLen (args : List AVal) (rows : List Row) : Option (AVal × List Row) :=
  match args, rows with
  | [.int .i64 y, .int .i64 m], [] => if 0 ≤ y ∧ 1 ≤ m ∧ m ≤ 12 then some (.int .i64 (lenP y m), []) else none
  | _, _ => none
theorem runLen_ok (args : List AVal) (rows : List Row) (v : AVal) (rs : List Row) (h : runLen args rows = some (v, rs)) : AFn Tryz.prog 255 args rows fun v' rs' => v' = v ∧ rs' = rs := by
  unfold runLen at h
  split at h
  · split at h
    · rename_i hc
      simp only [Option.some.injEq, Prod.mk.injEq] at h
      obtain ⟨rfl, rfl⟩ := h
      exact length_ok _ _ hc.1 hc.2.1 hc.2.2
    · cases h
  · cases h
def leaves : List (XLeaf Tryz.prog) := [⟨47, runSorted, runSorted_ok⟩, ⟨116, runKeysA, runKeysA_ok⟩,
  ⟨82, runKeys 168 169, runKeys_ok fun _ _ => mapsKeysB_ok⟩,
  ⟨48, runKeys 128 116, runKeys_ok fun _ _ => mapsKeysD_ok⟩,
  ⟨121, runKeys 207 232, runKeys_ok fun _ _ => mapsKeys_ok⟩,
  ⟨120, runSfn, runSfn_ok⟩, ⟨255, runLen, runLen_ok⟩]
def leavesC : List (XLeaf Tryz.prog) := ⟨154, runClone, runClone_ok⟩ :: leaves

end Go.Proofs.YtpincjkjoeopkaaGreatDoor
end
