/- The abstract forms of functions, computed. -/
import Derived.Test.YtpincjkjoeopkaaGreatDoorAbsMe
import Derived.Test.YtpincjkjoeopkaaGreatDoorAbsMd
import Derived.Test.YtpincjkjoeopkaaGreatDoorProg
import Derived.KernelRfl
set_option linter.unusedSimpArgs false
set_option linter.unusedVariables false
set_option linter.unusedSectionVars false
set_option maxRecDepth 100000
set_option maxHeartbeats 2000000
namespace Go.Proofs.YtpincjkjoeopkaaGreatDoor
open Go Go.Abs
def s4 : FmX Tryz.prog [] Tryz.f4 := ⟨_, by conv => lhs; reduce; dsimp only [fm_int, Int.ofNat_zero, Int.ofNat_one, Int.reduceNegSucc, Int.cast_ofNat_Int, fm_u8, UInt8.reduceOfNatLT]⟩
def a4 : AFunc := s4.af
theorem a4_ok : compileF Tryz.prog (lk (fmLk Tryz.prog Tryz.f4)) Tryz.f4 = some a4 := by kernel_rfl
def s7 : FmX Tryz.prog [] Tryz.f7 := ⟨_, by conv => lhs; reduce; dsimp only [fm_int, Int.ofNat_zero, Int.ofNat_one, Int.reduceNegSucc, Int.cast_ofNat_Int, fm_u8, UInt8.reduceOfNatLT]⟩
def a7 : AFunc := s7.af
theorem a7_ok : compileF Tryz.prog (lk (fmLk Tryz.prog Tryz.f7)) Tryz.f7 = some a7 := by kernel_rfl
def s10 : FmX Tryz.prog [] Tryz.f10 := ⟨_, by conv => lhs; reduce; dsimp only [fm_int, Int.ofNat_zero, Int.ofNat_one, Int.reduceNegSucc, Int.cast_ofNat_Int, fm_u8, UInt8.reduceOfNatLT]⟩
def a10 : AFunc := s10.af
theorem a10_ok : compileF Tryz.prog (lk (fmLk Tryz.prog Tryz.f10)) Tryz.f10 = some a10 := by kernel_rfl
def s13 : FmX Tryz.prog [] Tryz.f13 := ⟨_, by conv => lhs; reduce; dsimp only [fm_int, Int.ofNat_zero, Int.ofNat_one, Int.reduceNegSucc, Int.cast_ofNat_Int, fm_u8, UInt8.reduceOfNatLT]⟩
def a13 : AFunc := s13.af
theorem a13_ok : compileF Tryz.prog (lk (fmLk Tryz.prog Tryz.f13)) Tryz.f13 = some a13 := by kernel_rfl
def s16 : FmX Tryz.prog [] Tryz.f16 := ⟨_, by conv => lhs; reduce; dsimp only [fm_int, Int.ofNat_zero, Int.ofNat_one, Int.reduceNegSucc, Int.cast_ofNat_Int, fm_u8, UInt8.reduceOfNatLT]⟩
def a16 : AFunc := s16.af
theorem a16_ok : compileF Tryz.prog (lk (fmLk Tryz.prog Tryz.f16)) Tryz.f16 = some a16 := by kernel_rfl
def s19 : FmX Tryz.prog [] Tryz.f19 := ⟨_, by conv => lhs; reduce; dsimp only [fm_int, Int.ofNat_zero, Int.ofNat_one, Int.reduceNegSucc, Int.cast_ofNat_Int, fm_u8, UInt8.reduceOfNatLT]⟩
def a19 : AFunc := s19.af
theorem a19_ok : compileF Tryz.prog (lk (fmLk Tryz.prog Tryz.f19)) Tryz.f19 = some a19 := by kernel_rfl
def s22 : FmX Tryz.prog [] Tryz.f22 := ⟨_, by conv => lhs; reduce; dsimp only [fm_int, Int.ofNat_zero, Int.ofNat_one, Int.reduceNegSucc, Int.cast_ofNat_Int, fm_u8, UInt8.reduceOfNatLT]⟩
def a22 : AFunc := s22.af
theorem a22_ok : compileF Tryz.prog (lk (fmLk Tryz.prog Tryz.f22)) Tryz.f22 = some a22 := by kernel_rfl
def s25 : FmX Tryz.prog [] Tryz.f25 := ⟨_, by conv => lhs; reduce; dsimp only [fm_int, Int.ofNat_zero, Int.ofNat_one, Int.reduceNegSucc, Int.cast_ofNat_Int, fm_u8, UInt8.reduceOfNatLT]⟩
def a25 : AFunc := s25.af
theorem a25_ok : compileF Tryz.prog (lk (fmLk Tryz.prog Tryz.f25)) Tryz.f25 = some a25 := by kernel_rfl
def s28 : FmX Tryz.prog [] Tryz.f28 := ⟨_, by conv => lhs; reduce; dsimp only [fm_int, Int.ofNat_zero, Int.ofNat_one, Int.reduceNegSucc, Int.cast_ofNat_Int, fm_u8, UInt8.reduceOfNatLT]⟩
def a28 : AFunc := s28.af
theorem a28_ok : compileF Tryz.prog (lk (fmLk Tryz.prog Tryz.f28)) Tryz.f28 = some a28 := by kernel_rfl
def s31 : FmX Tryz.prog [] Tryz.f31 := ⟨_, by conv => lhs; reduce; dsimp only [fm_int, Int.ofNat_zero, Int.ofNat_one, Int.reduceNegSucc, Int.cast_ofNat_Int, fm_u8, UInt8.reduceOfNatLT]⟩
def a31 : AFunc := s31.af
theorem a31_ok : compileF Tryz.prog (lk (fmLk Tryz.prog Tryz.f31)) Tryz.f31 = some a31 := by kernel_rfl
def s34 : FmX Tryz.prog [] Tryz.f34 := ⟨_, by conv => lhs; reduce; dsimp only [fm_int, Int.ofNat_zero, Int.ofNat_one, Int.reduceNegSucc, Int.cast_ofNat_Int, fm_u8, UInt8.reduceOfNatLT]⟩
def a34 : AFunc := s34.af
theorem a34_ok : compileF Tryz.prog (lk (fmLk Tryz.prog Tryz.f34)) Tryz.f34 = some a34 := by kernel_rfl
def s37 : FmX Tryz.prog [] Tryz.f37 := ⟨_, by conv => lhs; reduce; dsimp only [fm_int, Int.ofNat_zero, Int.ofNat_one, Int.reduceNegSucc, Int.cast_ofNat_Int, fm_u8, UInt8.reduceOfNatLT]⟩
def a37 : AFunc := s37.af
theorem a37_ok : compileF Tryz.prog (lk (fmLk Tryz.prog Tryz.f37)) Tryz.f37 = some a37 := by kernel_rfl
def s40 : FmX Tryz.prog [] Tryz.f40 := ⟨_, by conv => lhs; reduce; dsimp only [fm_int, Int.ofNat_zero, Int.ofNat_one, Int.reduceNegSucc, Int.cast_ofNat_Int, fm_u8, UInt8.reduceOfNatLT]⟩
def a40 : AFunc := s40.af
theorem a40_ok : compileF Tryz.prog (lk (fmLk Tryz.prog Tryz.f40)) Tryz.f40 = some a40 := by kernel_rfl
def s43 : FmX Tryz.prog [] Tryz.f43 := ⟨_, by conv => lhs; reduce; dsimp only [fm_int, Int.ofNat_zero, Int.ofNat_one, Int.reduceNegSucc, Int.cast_ofNat_Int, fm_u8, UInt8.reduceOfNatLT]⟩
def a43 : AFunc := s43.af
theorem a43_ok : compileF Tryz.prog (lk (fmLk Tryz.prog Tryz.f43)) Tryz.f43 = some a43 := by kernel_rfl
def s46 : FmX Tryz.prog [] Tryz.f46 := ⟨_, by conv => lhs; reduce; dsimp only [fm_int, Int.ofNat_zero, Int.ofNat_one, Int.reduceNegSucc, Int.cast_ofNat_Int, fm_u8, UInt8.reduceOfNatLT]⟩
def a46 : AFunc := s46.af
theorem a46_ok : compileF Tryz.prog (lk (fmLk Tryz.prog Tryz.f46)) Tryz.f46 = some a46 := by kernel_rfl
def s49 : FmX Tryz.prog [] Tryz.f49 := ⟨_, by conv => lhs; reduce; dsimp only [fm_int, Int.ofNat_zero, Int.ofNat_one, Int.reduceNegSucc, Int.cast_ofNat_Int, fm_u8, UInt8.reduceOfNatLT]⟩
def a49 : AFunc := s49.af
theorem a49_ok : compileF Tryz.prog (lk (fmLk Tryz.prog Tryz.f49)) Tryz.f49 = some a49 := by kernel_rfl
def s52 : FmX Tryz.prog [] Tryz.f52 := ⟨_, by conv => lhs; reduce; dsimp only [fm_int, Int.ofNat_zero, Int.ofNat_one, Int.reduceNegSucc, Int.cast_ofNat_Int, fm_u8, UInt8.reduceOfNatLT]⟩
def a52 : AFunc := s52.af
theorem a52_ok : compileF Tryz.prog (lk (fmLk Tryz.prog Tryz.f52)) Tryz.f52 = some a52 := by kernel_rfl
def s55 : FmX Tryz.prog [] Tryz.f55 := ⟨_, by conv => lhs; reduce; dsimp only [fm_int, Int.ofNat_zero, Int.ofNat_one, Int.reduceNegSucc, Int.cast_ofNat_Int, fm_u8, UInt8.reduceOfNatLT]⟩
def a55 : AFunc := s55.af
theorem a55_ok : compileF Tryz.prog (lk (fmLk Tryz.prog Tryz.f55)) Tryz.f55 = some a55 := by kernel_rfl
def s58 : FmX Tryz.prog [] Tryz.f58 := ⟨_, by conv => lhs; reduce; dsimp only [fm_int, Int.ofNat_zero, Int.ofNat_one, Int.reduceNegSucc, Int.cast_ofNat_Int, fm_u8, UInt8.reduceOfNatLT]⟩
def a58 : AFunc := s58.af
theorem a58_ok : compileF Tryz.prog (lk (fmLk Tryz.prog Tryz.f58)) Tryz.f58 = some a58 := by kernel_rfl
def s61 : FmX Tryz.prog [] Tryz.f61 := ⟨_, by conv => lhs; reduce; dsimp only [fm_int, Int.ofNat_zero, Int.ofNat_one, Int.reduceNegSucc, Int.cast_ofNat_Int, fm_u8, UInt8.reduceOfNatLT]⟩
def a61 : AFunc := s61.af
theorem a61_ok : compileF Tryz.prog (lk (fmLk Tryz.prog Tryz.f61)) Tryz.f61 = some a61 := by kernel_rfl
def s64 : FmX Tryz.prog [] Tryz.f64 := ⟨_, by conv => lhs; reduce; dsimp only [fm_int, Int.ofNat_zero, Int.ofNat_one, Int.reduceNegSucc, Int.cast_ofNat_Int, fm_u8, UInt8.reduceOfNatLT]⟩
def a64 : AFunc := s64.af
theorem a64_ok : compileF Tryz.prog (lk (fmLk Tryz.prog Tryz.f64)) Tryz.f64 = some a64 := by kernel_rfl
def s67 : FmX Tryz.prog [] Tryz.f67 := ⟨_, by conv => lhs; reduce; dsimp only [fm_int, Int.ofNat_zero, Int.ofNat_one, Int.reduceNegSucc, Int.cast_ofNat_Int, fm_u8, UInt8.reduceOfNatLT]⟩
def a67 : AFunc := s67.af
theorem a67_ok : compileF Tryz.prog (lk (fmLk Tryz.prog Tryz.f67)) Tryz.f67 = some a67 := by kernel_rfl
def s70 : FmX Tryz.prog [] Tryz.f70 := ⟨_, by conv => lhs; reduce; dsimp only [fm_int, Int.ofNat_zero, Int.ofNat_one, Int.reduceNegSucc, Int.cast_ofNat_Int, fm_u8, UInt8.reduceOfNatLT]⟩
def a70 : AFunc := s70.af
theorem a70_ok : compileF Tryz.prog (lk (fmLk Tryz.prog Tryz.f70)) Tryz.f70 = some a70 := by kernel_rfl
def s73 : FmX Tryz.prog [] Tryz.f73 := ⟨_, by conv => lhs; reduce; dsimp only [fm_int, Int.ofNat_zero, Int.ofNat_one, Int.reduceNegSucc, Int.cast_ofNat_Int, fm_u8, UInt8.reduceOfNatLT]⟩
def a73 : AFunc := s73.af
theorem a73_ok : compileF Tryz.prog (lk (fmLk Tryz.prog Tryz.f73)) Tryz.f73 = some a73 := by kernel_rfl
def s76 : FmX Tryz.prog [] Tryz.f76 := ⟨_, by conv => lhs; reduce; dsimp only [fm_int, Int.ofNat_zero, Int.ofNat_one, Int.reduceNegSucc, Int.cast_ofNat_Int, fm_u8, UInt8.reduceOfNatLT]⟩
def a76 : AFunc := s76.af
theorem a76_ok : compileF Tryz.prog (lk (fmLk Tryz.prog Tryz.f76)) Tryz.f76 = some a76 := by kernel_rfl
def s79 : FmX Tryz.prog [] Tryz.f79 := ⟨_, by conv => lhs; reduce; dsimp only [fm_int, Int.ofNat_zero, Int.ofNat_one, Int.reduceNegSucc, Int.cast_ofNat_Int, fm_u8, UInt8.reduceOfNatLT]⟩
def a79 : AFunc := s79.af
theorem a79_ok : compileF Tryz.prog (lk (fmLk Tryz.prog Tryz.f79)) Tryz.f79 = some a79 := by kernel_rfl
def s82 : FmX Tryz.prog [] Tryz.f82 := ⟨_, by conv => lhs; reduce; dsimp only [fm_int, Int.ofNat_zero, Int.ofNat_one, Int.reduceNegSucc, Int.cast_ofNat_Int, fm_u8, UInt8.reduceOfNatLT]⟩
def a82 : AFunc := s82.af
theorem a82_ok : compileF Tryz.prog (lk (fmLk Tryz.prog Tryz.f82)) Tryz.f82 = some a82 := by kernel_rfl
def s85 : FmX Tryz.prog [] Tryz.f85 := ⟨_, by conv => lhs; reduce; dsimp only [fm_int, Int.ofNat_zero, Int.ofNat_one, Int.reduceNegSucc, Int.cast_ofNat_Int, fm_u8, UInt8.reduceOfNatLT]⟩
def a85 : AFunc := s85.af
theorem a85_ok : compileF Tryz.prog (lk (fmLk Tryz.prog Tryz.f85)) Tryz.f85 = some a85 := by kernel_rfl
def s88 : FmX Tryz.prog [] Tryz.f88 := ⟨_, by conv => lhs; reduce; dsimp only [fm_int, Int.ofNat_zero, Int.ofNat_one, Int.reduceNegSucc, Int.cast_ofNat_Int, fm_u8, UInt8.reduceOfNatLT]⟩
def a88 : AFunc := s88.af
theorem a88_ok : compileF Tryz.prog (lk (fmLk Tryz.prog Tryz.f88)) Tryz.f88 = some a88 := by kernel_rfl
def s91 : FmX Tryz.prog [] Tryz.f91 := ⟨_, by conv => lhs; reduce; dsimp only [fm_int, Int.ofNat_zero, Int.ofNat_one, Int.reduceNegSucc, Int.cast_ofNat_Int, fm_u8, UInt8.reduceOfNatLT]⟩
def a91 : AFunc := s91.af
theorem a91_ok : compileF Tryz.prog (lk (fmLk Tryz.prog Tryz.f91)) Tryz.f91 = some a91 := by kernel_rfl
def s94 : FmX Tryz.prog [] Tryz.f94 := ⟨_, by conv => lhs; reduce; dsimp only [fm_int, Int.ofNat_zero, Int.ofNat_one, Int.reduceNegSucc, Int.cast_ofNat_Int, fm_u8, UInt8.reduceOfNatLT]⟩
def a94 : AFunc := s94.af
theorem a94_ok : compileF Tryz.prog (lk (fmLk Tryz.prog Tryz.f94)) Tryz.f94 = some a94 := by kernel_rfl
def s97 : FmX Tryz.prog [] Tryz.f97 := ⟨_, by conv => lhs; reduce; dsimp only [fm_int, Int.ofNat_zero, Int.ofNat_one, Int.reduceNegSucc, Int.cast_ofNat_Int, fm_u8, UInt8.reduceOfNatLT]⟩
def a97 : AFunc := s97.af
theorem a97_ok : compileF Tryz.prog (lk (fmLk Tryz.prog Tryz.f97)) Tryz.f97 = some a97 := by kernel_rfl
def s100 : FmX Tryz.prog [] Tryz.f100 := ⟨_, by conv => lhs; reduce; dsimp only [fm_int, Int.ofNat_zero, Int.ofNat_one, Int.reduceNegSucc, Int.cast_ofNat_Int, fm_u8, UInt8.reduceOfNatLT]⟩
def a100 : AFunc := s100.af
theorem a100_ok : compileF Tryz.prog (lk (fmLk Tryz.prog Tryz.f100)) Tryz.f100 = some a100 := by kernel_rfl
def s103 : FmX Tryz.prog [] Tryz.f103 := ⟨_, by conv => lhs; reduce; dsimp only [fm_int, Int.ofNat_zero, Int.ofNat_one, Int.reduceNegSucc, Int.cast_ofNat_Int, fm_u8, UInt8.reduceOfNatLT]⟩
def a103 : AFunc := s103.af
theorem a103_ok : compileF Tryz.prog (lk (fmLk Tryz.prog Tryz.f103)) Tryz.f103 = some a103 := by kernel_rfl
def s106 : FmX Tryz.prog [] Tryz.f106 := ⟨_, by conv => lhs; reduce; dsimp only [fm_int, Int.ofNat_zero, Int.ofNat_one, Int.reduceNegSucc, Int.cast_ofNat_Int, fm_u8, UInt8.reduceOfNatLT]⟩
def a106 : AFunc := s106.af
theorem a106_ok : compileF Tryz.prog (lk (fmLk Tryz.prog Tryz.f106)) Tryz.f106 = some a106 := by kernel_rfl
def s109 : FmX Tryz.prog [] Tryz.f109 := ⟨_, by conv => lhs; reduce; dsimp only [fm_int, Int.ofNat_zero, Int.ofNat_one, Int.reduceNegSucc, Int.cast_ofNat_Int, fm_u8, UInt8.reduceOfNatLT]⟩
def a109 : AFunc := s109.af
theorem a109_ok : compileF Tryz.prog (lk (fmLk Tryz.prog Tryz.f109)) Tryz.f109 = some a109 := by kernel_rfl
def s112 : FmX Tryz.prog [] Tryz.f112 := ⟨_, by conv => lhs; reduce; dsimp only [fm_int, Int.ofNat_zero, Int.ofNat_one, Int.reduceNegSucc, Int.cast_ofNat_Int, fm_u8, UInt8.reduceOfNatLT]⟩
def a112 : AFunc := s112.af
theorem a112_ok : compileF Tryz.prog (lk (fmLk Tryz.prog Tryz.f112)) Tryz.f112 = some a112 := by kernel_rfl
def s115 : FmX Tryz.prog [] Tryz.f115 := ⟨_, by conv => lhs; reduce; dsimp only [fm_int, Int.ofNat_zero, Int.ofNat_one, Int.reduceNegSucc, Int.cast_ofNat_Int, fm_u8, UInt8.reduceOfNatLT]⟩
def a115 : AFunc := s115.af
theorem a115_ok : compileF Tryz.prog (lk (fmLk Tryz.prog Tryz.f115)) Tryz.f115 = some a115 := by kernel_rfl
def s118 : FmX Tryz.prog [] Tryz.f118 := ⟨_, by conv => lhs; reduce; dsimp only [fm_int, Int.ofNat_zero, Int.ofNat_one, Int.reduceNegSucc, Int.cast_ofNat_Int, fm_u8, UInt8.reduceOfNatLT]⟩
def a118 : AFunc := s118.af
theorem a118_ok : compileF Tryz.prog (lk (fmLk Tryz.prog Tryz.f118)) Tryz.f118 = some a118 := by kernel_rfl
def s121 : FmX Tryz.prog [] Tryz.f121 := ⟨_, by conv => lhs; reduce; dsimp only [fm_int, Int.ofNat_zero, Int.ofNat_one, Int.reduceNegSucc, Int.cast_ofNat_Int, fm_u8, UInt8.reduceOfNatLT]⟩
def a121 : AFunc := s121.af
theorem a121_ok : compileF Tryz.prog (lk (fmLk Tryz.prog Tryz.f121)) Tryz.f121 = some a121 := by kernel_rfl
def s124 : FmX Tryz.prog [] Tryz.f124 := ⟨_, by conv => lhs; reduce; dsimp only [fm_int, Int.ofNat_zero, Int.ofNat_one, Int.reduceNegSucc, Int.cast_ofNat_Int, fm_u8, UInt8.reduceOfNatLT]⟩
def a124 : AFunc := s124.af
theorem a124_ok : compileF Tryz.prog (lk (fmLk Tryz.prog Tryz.f124)) Tryz.f124 = some a124 := by kernel_rfl
def s127 : FmX Tryz.prog [] Tryz.f127 := ⟨_, by conv => lhs; reduce; dsimp only [fm_int, Int.ofNat_zero, Int.ofNat_one, Int.reduceNegSucc, Int.cast_ofNat_Int, fm_u8, UInt8.reduceOfNatLT]⟩
def a127 : AFunc := s127.af
theorem a127_ok : compileF Tryz.prog (lk (fmLk Tryz.prog Tryz.f127)) Tryz.f127 = some a127 := by kernel_rfl
def s131 : FmX Tryz.prog [] Tryz.f131 := ⟨_, by conv => lhs; reduce; dsimp only [fm_int, Int.ofNat_zero, Int.ofNat_one, Int.reduceNegSucc, Int.cast_ofNat_Int, fm_u8, UInt8.reduceOfNatLT]⟩
def a131 : AFunc := s131.af
theorem a131_ok : compileF Tryz.prog (lk (fmLk Tryz.prog Tryz.f131)) Tryz.f131 = some a131 := by kernel_rfl
def s134 : FmX Tryz.prog [] Tryz.f134 := ⟨_, by conv => lhs; reduce; dsimp only [fm_int, Int.ofNat_zero, Int.ofNat_one, Int.reduceNegSucc, Int.cast_ofNat_Int, fm_u8, UInt8.reduceOfNatLT]⟩
def a134 : AFunc := s134.af
theorem a134_ok : compileF Tryz.prog (lk (fmLk Tryz.prog Tryz.f134)) Tryz.f134 = some a134 := by kernel_rfl
def s137 : FmX Tryz.prog [] Tryz.f137 := ⟨_, by conv => lhs; reduce; dsimp only [fm_int, Int.ofNat_zero, Int.ofNat_one, Int.reduceNegSucc, Int.cast_ofNat_Int, fm_u8, UInt8.reduceOfNatLT]⟩
def a137 : AFunc := s137.af
theorem a137_ok : compileF Tryz.prog (lk (fmLk Tryz.prog Tryz.f137)) Tryz.f137 = some a137 := by kernel_rfl
def s140 : FmX Tryz.prog [] Tryz.f140 := ⟨_, by conv => lhs; reduce; dsimp only [fm_int, Int.ofNat_zero, Int.ofNat_one, Int.reduceNegSucc, Int.cast_ofNat_Int, fm_u8, UInt8.reduceOfNatLT]⟩
def a140 : AFunc := s140.af
theorem a140_ok : compileF Tryz.prog (lk (fmLk Tryz.prog Tryz.f140)) Tryz.f140 = some a140 := by kernel_rfl
def s143 : FmX Tryz.prog [] Tryz.f143 := ⟨_, by conv => lhs; reduce; dsimp only [fm_int, Int.ofNat_zero, Int.ofNat_one, Int.reduceNegSucc, Int.cast_ofNat_Int, fm_u8, UInt8.reduceOfNatLT]⟩
def a143 : AFunc := s143.af
theorem a143_ok : compileF Tryz.prog (lk (fmLk Tryz.prog Tryz.f143)) Tryz.f143 = some a143 := by kernel_rfl
def s146 : FmX Tryz.prog [] Tryz.f146 := ⟨_, by conv => lhs; reduce; dsimp only [fm_int, Int.ofNat_zero, Int.ofNat_one, Int.reduceNegSucc, Int.cast_ofNat_Int, fm_u8, UInt8.reduceOfNatLT]⟩
def a146 : AFunc := s146.af
theorem a146_ok : compileF Tryz.prog (lk (fmLk Tryz.prog Tryz.f146)) Tryz.f146 = some a146 := by kernel_rfl
def s149 : FmX Tryz.prog [] Tryz.f149 := ⟨_, by conv => lhs; reduce; dsimp only [fm_int, Int.ofNat_zero, Int.ofNat_one, Int.reduceNegSucc, Int.cast_ofNat_Int, fm_u8, UInt8.reduceOfNatLT]⟩
def a149 : AFunc := s149.af
theorem a149_ok : compileF Tryz.prog (lk (fmLk Tryz.prog Tryz.f149)) Tryz.f149 = some a149 := by kernel_rfl
def s152 : FmX Tryz.prog [] Tryz.f152 := ⟨_, by conv => lhs; reduce; dsimp only [fm_int, Int.ofNat_zero, Int.ofNat_one, Int.reduceNegSucc, Int.cast_ofNat_Int, fm_u8, UInt8.reduceOfNatLT]⟩
def a152 : AFunc := s152.af
theorem a152_ok : compileF Tryz.prog (lk (fmLk Tryz.prog Tryz.f152)) Tryz.f152 = some a152 := by kernel_rfl
def s155 : FmX Tryz.prog [] Tryz.f155 := ⟨_, by conv => lhs; reduce; dsimp only [fm_int, Int.ofNat_zero, Int.ofNat_one, Int.reduceNegSucc, Int.cast_ofNat_Int, fm_u8, UInt8.reduceOfNatLT]⟩
def a155 : AFunc := s155.af
theorem a155_ok : compileF Tryz.prog (lk (fmLk Tryz.prog Tryz.f155)) Tryz.f155 = some a155 := by kernel_rfl
def s158 : FmX Tryz.prog [] Tryz.f158 := ⟨_, by conv => lhs; reduce; dsimp only [fm_int, Int.ofNat_zero, Int.ofNat_one, Int.reduceNegSucc, Int.cast_ofNat_Int, fm_u8, UInt8.reduceOfNatLT]⟩
def a158 : AFunc := s158.af
theorem a158_ok : compileF Tryz.prog (lk (fmLk Tryz.prog Tryz.f158)) Tryz.f158 = some a158 := by kernel_rfl
def s161 : FmX Tryz.prog [] Tryz.f161 := ⟨_, by conv => lhs; reduce; dsimp only [fm_int, Int.ofNat_zero, Int.ofNat_one, Int.reduceNegSucc, Int.cast_ofNat_Int, fm_u8, UInt8.reduceOfNatLT]⟩
def a161 : AFunc := s161.af
theorem a161_ok : compileF Tryz.prog (lk (fmLk Tryz.prog Tryz.f161)) Tryz.f161 = some a161 := by kernel_rfl
def s164 : FmX Tryz.prog [] Tryz.f164 := ⟨_, by conv => lhs; reduce; dsimp only [fm_int, Int.ofNat_zero, Int.ofNat_one, Int.reduceNegSucc, Int.cast_ofNat_Int, fm_u8, UInt8.reduceOfNatLT]⟩
def a164 : AFunc := s164.af
theorem a164_ok : compileF Tryz.prog (lk (fmLk Tryz.prog Tryz.f164)) Tryz.f164 = some a164 := by kernel_rfl
def s167 : FmX Tryz.prog [] Tryz.f167 := ⟨_, by conv => lhs; reduce; dsimp only [fm_int, Int.ofNat_zero, Int.ofNat_one, Int.reduceNegSucc, Int.cast_ofNat_Int, fm_u8, UInt8.reduceOfNatLT]⟩
def a167 : AFunc := s167.af
theorem a167_ok : compileF Tryz.prog (lk (fmLk Tryz.prog Tryz.f167)) Tryz.f167 = some a167 := by kernel_rfl
def s171 : FmX Tryz.prog [] Tryz.f171 := ⟨_, by conv => lhs; reduce; dsimp only [fm_int, Int.ofNat_zero, Int.ofNat_one, Int.reduceNegSucc, Int.cast_ofNat_Int, fm_u8, UInt8.reduceOfNatLT]⟩
def a171 : AFunc := s171.af
theorem a171_ok : compileF Tryz.prog (lk (fmLk Tryz.prog Tryz.f171)) Tryz.f171 = some a171 := by kernel_rfl
def s174 : FmX Tryz.prog [] Tryz.f174 := ⟨_, by conv => lhs; reduce; dsimp only [fm_int, Int.ofNat_zero, Int.ofNat_one, Int.reduceNegSucc, Int.cast_ofNat_Int, fm_u8, UInt8.reduceOfNatLT]⟩
def a174 : AFunc := s174.af
theorem a174_ok : compileF Tryz.prog (lk (fmLk Tryz.prog Tryz.f174)) Tryz.f174 = some a174 := by kernel_rfl
def s177 : FmX Tryz.prog [] Tryz.f177 := ⟨_, by conv => lhs; reduce; dsimp only [fm_int, Int.ofNat_zero, Int.ofNat_one, Int.reduceNegSucc, Int.cast_ofNat_Int, fm_u8, UInt8.reduceOfNatLT]⟩
def a177 : AFunc := s177.af
theorem a177_ok : compileF Tryz.prog (lk (fmLk Tryz.prog Tryz.f177)) Tryz.f177 = some a177 := by kernel_rfl
def s180 : FmX Tryz.prog [] Tryz.f180 := ⟨_, by conv => lhs; reduce; dsimp only [fm_int, Int.ofNat_zero, Int.ofNat_one, Int.reduceNegSucc, Int.cast_ofNat_Int, fm_u8, UInt8.reduceOfNatLT]⟩
def a180 : AFunc := s180.af
theorem a180_ok : compileF Tryz.prog (lk (fmLk Tryz.prog Tryz.f180)) Tryz.f180 = some a180 := by kernel_rfl
def s183 : FmX Tryz.prog [] Tryz.f183 := ⟨_, by conv => lhs; reduce; dsimp only [fm_int, Int.ofNat_zero, Int.ofNat_one, Int.reduceNegSucc, Int.cast_ofNat_Int, fm_u8, UInt8.reduceOfNatLT]⟩
def a183 : AFunc := s183.af
theorem a183_ok : compileF Tryz.prog (lk (fmLk Tryz.prog Tryz.f183)) Tryz.f183 = some a183 := by kernel_rfl
def s186 : FmX Tryz.prog [] Tryz.f186 := ⟨_, by conv => lhs; reduce; dsimp only [fm_int, Int.ofNat_zero, Int.ofNat_one, Int.reduceNegSucc, Int.cast_ofNat_Int, fm_u8, UInt8.reduceOfNatLT]⟩
def a186 : AFunc := s186.af
theorem a186_ok : compileF Tryz.prog (lk (fmLk Tryz.prog Tryz.f186)) Tryz.f186 = some a186 := by kernel_rfl
def s190 : FmX Tryz.prog [] Tryz.f190 := ⟨_, by conv => lhs; reduce; dsimp only [fm_int, Int.ofNat_zero, Int.ofNat_one, Int.reduceNegSucc, Int.cast_ofNat_Int, fm_u8, UInt8.reduceOfNatLT]⟩
def a190 : AFunc := s190.af
theorem a190_ok : compileF Tryz.prog (lk (fmLk Tryz.prog Tryz.f190)) Tryz.f190 = some a190 := by kernel_rfl
def s193 : FmX Tryz.prog [] Tryz.f193 := ⟨_, by conv => lhs; reduce; dsimp only [fm_int, Int.ofNat_zero, Int.ofNat_one, Int.reduceNegSucc, Int.cast_ofNat_Int, fm_u8, UInt8.reduceOfNatLT]⟩
def a193 : AFunc := s193.af
theorem a193_ok : compileF Tryz.prog (lk (fmLk Tryz.prog Tryz.f193)) Tryz.f193 = some a193 := by kernel_rfl
def s196 : FmX Tryz.prog [] Tryz.f196 := ⟨_, by conv => lhs; reduce; dsimp only [fm_int, Int.ofNat_zero, Int.ofNat_one, Int.reduceNegSucc, Int.cast_ofNat_Int, fm_u8, UInt8.reduceOfNatLT]⟩
def a196 : AFunc := s196.af
theorem a196_ok : compileF Tryz.prog (lk (fmLk Tryz.prog Tryz.f196)) Tryz.f196 = some a196 := by kernel_rfl
def s199 : FmX Tryz.prog [] Tryz.f199 := ⟨_, by conv => lhs; reduce; dsimp only [fm_int, Int.ofNat_zero, Int.ofNat_one, Int.reduceNegSucc, Int.cast_ofNat_Int, fm_u8, UInt8.reduceOfNatLT]⟩
def a199 : AFunc := s199.af
theorem a199_ok : compileF Tryz.prog (lk (fmLk Tryz.prog Tryz.f199)) Tryz.f199 = some a199 := by kernel_rfl
def s202 : FmX Tryz.prog [] Tryz.f202 := ⟨_, by conv => lhs; reduce; dsimp only [fm_int, Int.ofNat_zero, Int.ofNat_one, Int.reduceNegSucc, Int.cast_ofNat_Int, fm_u8, UInt8.reduceOfNatLT]⟩
def a202 : AFunc := s202.af
theorem a202_ok : compileF Tryz.prog (lk (fmLk Tryz.prog Tryz.f202)) Tryz.f202 = some a202 := by kernel_rfl
def s206 : FmX Tryz.prog [] Tryz.f206 := ⟨_, by conv => lhs; reduce; dsimp only [fm_int, Int.ofNat_zero, Int.ofNat_one, Int.reduceNegSucc, Int.cast_ofNat_Int, fm_u8, UInt8.reduceOfNatLT]⟩
def a206 : AFunc := s206.af
theorem a206_ok : compileF Tryz.prog (lk (fmLk Tryz.prog Tryz.f206)) Tryz.f206 = some a206 := by kernel_rfl
def s211 : FmX Tryz.prog [] Tryz.f211 := ⟨_, by conv => lhs; reduce; dsimp only [fm_int, Int.ofNat_zero, Int.ofNat_one, Int.reduceNegSucc, Int.cast_ofNat_Int, fm_u8, UInt8.reduceOfNatLT]⟩
def a211 : AFunc := s211.af
theorem a211_ok : compileF Tryz.prog (lk (fmLk Tryz.prog Tryz.f211)) Tryz.f211 = some a211 := by kernel_rfl
def s214 : FmX Tryz.prog [] Tryz.f214 := ⟨_, by conv => lhs; reduce; dsimp only [fm_int, Int.ofNat_zero, Int.ofNat_one, Int.reduceNegSucc, Int.cast_ofNat_Int, fm_u8, UInt8.reduceOfNatLT]⟩
def a214 : AFunc := s214.af
theorem a214_ok : compileF Tryz.prog (lk (fmLk Tryz.prog Tryz.f214)) Tryz.f214 = some a214 := by kernel_rfl
def s217 : FmX Tryz.prog [] Tryz.f217 := ⟨_, by conv => lhs; reduce; dsimp only [fm_int, Int.ofNat_zero, Int.ofNat_one, Int.reduceNegSucc, Int.cast_ofNat_Int, fm_u8, UInt8.reduceOfNatLT]⟩
def a217 : AFunc := s217.af
theorem a217_ok : compileF Tryz.prog (lk (fmLk Tryz.prog Tryz.f217)) Tryz.f217 = some a217 := by kernel_rfl
def s220 : FmX Tryz.prog [] Tryz.f220 := ⟨_, by conv => lhs; reduce; dsimp only [fm_int, Int.ofNat_zero, Int.ofNat_one, Int.reduceNegSucc, Int.cast_ofNat_Int, fm_u8, UInt8.reduceOfNatLT]⟩
def a220 : AFunc := s220.af
theorem a220_ok : compileF Tryz.prog (lk (fmLk Tryz.prog Tryz.f220)) Tryz.f220 = some a220 := by kernel_rfl
def s223 : FmX Tryz.prog [] Tryz.f223 := ⟨_, by conv => lhs; reduce; dsimp only [fm_int, Int.ofNat_zero, Int.ofNat_one, Int.reduceNegSucc, Int.cast_ofNat_Int, fm_u8, UInt8.reduceOfNatLT]⟩
def a223 : AFunc := s223.af
theorem a223_ok : compileF Tryz.prog (lk (fmLk Tryz.prog Tryz.f223)) Tryz.f223 = some a223 := by kernel_rfl
def s226 : FmX Tryz.prog [] Tryz.f226 := ⟨_, by conv => lhs; reduce; dsimp only [fm_int, Int.ofNat_zero, Int.ofNat_one, Int.reduceNegSucc, Int.cast_ofNat_Int, fm_u8, UInt8.reduceOfNatLT]⟩
def a226 : AFunc := s226.af
theorem a226_ok : compileF Tryz.prog (lk (fmLk Tryz.prog Tryz.f226)) Tryz.f226 = some a226 := by kernel_rfl
def s229 : FmX Tryz.prog [] Tryz.f229 := ⟨_, by conv => lhs; reduce; dsimp only [fm_int, Int.ofNat_zero, Int.ofNat_one, Int.reduceNegSucc, Int.cast_ofNat_Int, fm_u8, UInt8.reduceOfNatLT]⟩
def a229 : AFunc := s229.af
theorem a229_ok : compileF Tryz.prog (lk (fmLk Tryz.prog Tryz.f229)) Tryz.f229 = some a229 := by kernel_rfl
def s232 : FmX Tryz.prog [] Tryz.f232 := ⟨_, by conv => lhs; reduce; dsimp only [fm_int, Int.ofNat_zero, Int.ofNat_one, Int.reduceNegSucc, Int.cast_ofNat_Int, fm_u8, UInt8.reduceOfNatLT]⟩
def a232 : AFunc := s232.af
theorem a232_ok : compileF Tryz.prog (lk (fmLk Tryz.prog Tryz.f232)) Tryz.f232 = some a232 := by kernel_rfl
def s242 : FmX Tryz.prog [] Tryz.f242 := ⟨_, by conv => lhs; reduce; dsimp only [fm_int, Int.ofNat_zero, Int.ofNat_one, Int.reduceNegSucc, Int.cast_ofNat_Int, fm_u8, UInt8.reduceOfNatLT]⟩
def a242 : AFunc := s242.af
theorem a242_ok : compileF Tryz.prog (lk (fmLk Tryz.prog Tryz.f242)) Tryz.f242 = some a242 := by kernel_rfl
def s245 : FmX Tryz.prog [] Tryz.f245 := ⟨_, by conv => lhs; reduce; dsimp only [fm_int, Int.ofNat_zero, Int.ofNat_one, Int.reduceNegSucc, Int.cast_ofNat_Int, fm_u8, UInt8.reduceOfNatLT]⟩
def a245 : AFunc := s245.af
theorem a245_ok : compileF Tryz.prog (lk (fmLk Tryz.prog Tryz.f245)) Tryz.f245 = some a245 := by kernel_rfl
def s248 : FmX Tryz.prog [] Tryz.f248 := ⟨_, by conv => lhs; reduce; dsimp only [fm_int, Int.ofNat_zero, Int.ofNat_one, Int.reduceNegSucc, Int.cast_ofNat_Int, fm_u8, UInt8.reduceOfNatLT]⟩
def a248 : AFunc := s248.af
theorem a248_ok : compileF Tryz.prog (lk (fmLk Tryz.prog Tryz.f248)) Tryz.f248 = some a248 := by kernel_rfl
def s252 : FmX Tryz.prog [] Tryz.f252 := ⟨_, by conv => lhs; reduce; dsimp only [fm_int, Int.ofNat_zero, Int.ofNat_one, Int.reduceNegSucc, Int.cast_ofNat_Int, fm_u8, UInt8.reduceOfNatLT]⟩
def a252 : AFunc := s252.af
theorem a252_ok : compileF Tryz.prog (lk (fmLk Tryz.prog Tryz.f252)) Tryz.f252 = some a252 := by kernel_rfl
def s255 : FmX Tryz.prog [] Tryz.f255 := ⟨_, by conv => lhs; reduce; dsimp only [fm_int, Int.ofNat_zero, Int.ofNat_one, Int.reduceNegSucc, Int.cast_ofNat_Int, fm_u8, UInt8.reduceOfNatLT]⟩
def a255 : AFunc := s255.af
theorem a255_ok : compileF Tryz.prog (lk (fmLk Tryz.prog Tryz.f255)) Tryz.f255 = some a255 := by kernel_rfl
def s258 : FmX Tryz.prog [] Tryz.f258 := ⟨_, by conv => lhs; reduce; dsimp only [fm_int, Int.ofNat_zero, Int.ofNat_one, Int.reduceNegSucc, Int.cast_ofNat_Int, fm_u8, UInt8.reduceOfNatLT]⟩
def a258 : AFunc := s258.af
theorem a258_ok : compileF Tryz.prog (lk (fmLk Tryz.prog Tryz.f258)) Tryz.f258 = some a258 := by kernel_rfl
def s262 : FmX Tryz.prog [] Tryz.f262 := ⟨_, by conv => lhs; reduce; dsimp only [fm_int, Int.ofNat_zero, Int.ofNat_one, Int.reduceNegSucc, Int.cast_ofNat_Int, fm_u8, UInt8.reduceOfNatLT]⟩
def a262 : AFunc := s262.af
theorem a262_ok : compileF Tryz.prog (lk (fmLk Tryz.prog Tryz.f262)) Tryz.f262 = some a262 := by kernel_rfl
def s272 : FmX Tryz.prog [] Tryz.f272 := ⟨_, by conv => lhs; reduce; dsimp only [fm_int, Int.ofNat_zero, Int.ofNat_one, Int.reduceNegSucc, Int.cast_ofNat_Int, fm_u8, UInt8.reduceOfNatLT]⟩
def a272 : AFunc := s272.af
theorem a272_ok : compileF Tryz.prog (lk (fmLk Tryz.prog Tryz.f272)) Tryz.f272 = some a272 := by kernel_rfl
def s275 : FmX Tryz.prog [] Tryz.f275 := ⟨_, by conv => lhs; reduce; dsimp only [fm_int, Int.ofNat_zero, Int.ofNat_one, Int.reduceNegSucc, Int.cast_ofNat_Int, fm_u8, UInt8.reduceOfNatLT]⟩
def a275 : AFunc := s275.af
theorem a275_ok : compileF Tryz.prog (lk (fmLk Tryz.prog Tryz.f275)) Tryz.f275 = some a275 := by kernel_rfl
def s285 : FmX Tryz.prog [] Tryz.f285 := ⟨_, by conv => lhs; reduce; dsimp only [fm_int, Int.ofNat_zero, Int.ofNat_one, Int.reduceNegSucc, Int.cast_ofNat_Int, fm_u8, UInt8.reduceOfNatLT]⟩
def a285 : AFunc := s285.af
theorem a285_ok : compileF Tryz.prog (lk (fmLk Tryz.prog Tryz.f285)) Tryz.f285 = some a285 := by kernel_rfl
def s288 : FmX Tryz.prog [] Tryz.f288 := ⟨_, by conv => lhs; reduce; dsimp only [fm_int, Int.ofNat_zero, Int.ofNat_one, Int.reduceNegSucc, Int.cast_ofNat_Int, fm_u8, UInt8.reduceOfNatLT]⟩
def a288 : AFunc := s288.af
theorem a288_ok : compileF Tryz.prog (lk (fmLk Tryz.prog Tryz.f288)) Tryz.f288 = some a288 := by kernel_rfl
def s303 : FmX Tryz.prog [] Tryz.f303 := ⟨_, by conv => lhs; reduce; dsimp only [fm_int, Int.ofNat_zero, Int.ofNat_one, Int.reduceNegSucc, Int.cast_ofNat_Int, fm_u8, UInt8.reduceOfNatLT]⟩
def a303 : AFunc := s303.af
theorem a303_ok : compileF Tryz.prog (lk (fmLk Tryz.prog Tryz.f303)) Tryz.f303 = some a303 := by kernel_rfl
def s313 : FmX Tryz.prog [] Tryz.f313 := ⟨_, by conv => lhs; reduce; dsimp only [fm_int, Int.ofNat_zero, Int.ofNat_one, Int.reduceNegSucc, Int.cast_ofNat_Int, fm_u8, UInt8.reduceOfNatLT]⟩
def a313 : AFunc := s313.af
theorem a313_ok : compileF Tryz.prog (lk (fmLk Tryz.prog Tryz.f313)) Tryz.f313 = some a313 := by kernel_rfl
def s323 : FmX Tryz.prog [] Tryz.f323 := ⟨_, by conv => lhs; reduce; dsimp only [fm_int, Int.ofNat_zero, Int.ofNat_one, Int.reduceNegSucc, Int.cast_ofNat_Int, fm_u8, UInt8.reduceOfNatLT]⟩
def a323 : AFunc := s323.af
theorem a323_ok : compileF Tryz.prog (lk (fmLk Tryz.prog Tryz.f323)) Tryz.f323 = some a323 := by kernel_rfl
def s336 : FmX Tryz.prog [] Tryz.f336 := ⟨_, by conv => lhs; reduce; dsimp only [fm_int, Int.ofNat_zero, Int.ofNat_one, Int.reduceNegSucc, Int.cast_ofNat_Int, fm_u8, UInt8.reduceOfNatLT]⟩
def a336 : AFunc := s336.af
theorem a336_ok : compileF Tryz.prog (lk (fmLk Tryz.prog Tryz.f336)) Tryz.f336 = some a336 := by kernel_rfl
def s352 : FmX Tryz.prog [] Tryz.f352 := ⟨_, by conv => lhs; reduce; dsimp only [fm_int, Int.ofNat_zero, Int.ofNat_one, Int.reduceNegSucc, Int.cast_ofNat_Int, fm_u8, UInt8.reduceOfNatLT]⟩
def a352 : AFunc := s352.af
theorem a352_ok : compileF Tryz.prog (lk (fmLk Tryz.prog Tryz.f352)) Tryz.f352 = some a352 := by kernel_rfl
def s359 : FmX Tryz.prog [] Tryz.f359 := ⟨_, by conv => lhs; reduce; dsimp only [fm_int, Int.ofNat_zero, Int.ofNat_one, Int.reduceNegSucc, Int.cast_ofNat_Int, fm_u8, UInt8.reduceOfNatLT]⟩
def a359 : AFunc := s359.af
theorem a359_ok : compileF Tryz.prog (lk (fmLk Tryz.prog Tryz.f359)) Tryz.f359 = some a359 := by kernel_rfl
def s366 : FmX Tryz.prog [] Tryz.f366 := ⟨_, by conv => lhs; reduce; dsimp only [fm_int, Int.ofNat_zero, Int.ofNat_one, Int.reduceNegSucc, Int.cast_ofNat_Int, fm_u8, UInt8.reduceOfNatLT]⟩
def a366 : AFunc := s366.af
theorem a366_ok : compileF Tryz.prog (lk (fmLk Tryz.prog Tryz.f366)) Tryz.f366 = some a366 := by kernel_rfl
def s370 : FmX Tryz.prog [] Tryz.f370 := ⟨_, by conv => lhs; reduce; dsimp only [fm_int, Int.ofNat_zero, Int.ofNat_one, Int.reduceNegSucc, Int.cast_ofNat_Int, fm_u8, UInt8.reduceOfNatLT]⟩
def a370 : AFunc := s370.af
theorem a370_ok : compileF Tryz.prog (lk (fmLk Tryz.prog Tryz.f370)) Tryz.f370 = some a370 := by kernel_rfl
end Go.Proofs.YtpincjkjoeopkaaGreatDoor
