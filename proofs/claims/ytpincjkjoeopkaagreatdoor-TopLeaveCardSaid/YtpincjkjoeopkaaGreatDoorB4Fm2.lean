/- The abstract forms of functions, computed. -/
import Derived.Test.YtpincjkjoeopkaaGreatDoorAbsMe
import Derived.Test.YtpincjkjoeopkaaGreatDoorAbsMd
import Derived.Test.YtpincjkjoeopkaaGreatDoorProg
import Derived.KernelRfl
set_option linter.unusedSimpArgs false
set_option linter.unusedVariables false
set_option linter.unusedSectionVars false
set_option maxRecDepth 100000
set_option maxHeartbeats 2000000
namespace Go.Proofs.YtpincjkjoeopkaaGreatDoor
open Go Go.Abs
def s5 : FmX Tryz.prog [] Tryz.f5 := ⟨_, by conv => lhs; reduce; dsimp only [fm_int, Int.ofNat_zero, Int.ofNat_one, Int.reduceNegSucc, Int.cast_ofNat_Int, fm_u8, UInt8.reduceOfNatLT]⟩
def a5 : AFunc := s5.af
theorem a5_ok : compileF Tryz.prog (lk (fmLk Tryz.prog Tryz.f5)) Tryz.f5 = some a5 := by kernel_rfl
def s8 : FmX Tryz.prog [] Tryz.f8 := ⟨_, by conv => lhs; reduce; dsimp only [fm_int, Int.ofNat_zero, Int.ofNat_one, Int.reduceNegSucc, Int.cast_ofNat_Int, fm_u8, UInt8.reduceOfNatLT]⟩
def a8 : AFunc := s8.af
theorem a8_ok : compileF Tryz.prog (lk (fmLk Tryz.prog Tryz.f8)) Tryz.f8 = some a8 := by kernel_rfl
def s11 : FmX Tryz.prog [] Tryz.f11 := ⟨_, by conv => lhs; reduce; dsimp only [fm_int, Int.ofNat_zero, Int.ofNat_one, Int.reduceNegSucc, Int.cast_ofNat_Int, fm_u8, UInt8.reduceOfNatLT]⟩
def a11 : AFunc := s11.af
theorem a11_ok : compileF Tryz.prog (lk (fmLk Tryz.prog Tryz.f11)) Tryz.f11 = some a11 := by kernel_rfl
def s14 : FmX Tryz.prog [] Tryz.f14 := ⟨_, by conv => lhs; reduce; dsimp only [fm_int, Int.ofNat_zero, Int.ofNat_one, Int.reduceNegSucc, Int.cast_ofNat_Int, fm_u8, UInt8.reduceOfNatLT]⟩
def a14 : AFunc := s14.af
theorem a14_ok : compileF Tryz.prog (lk (fmLk Tryz.prog Tryz.f14)) Tryz.f14 = some a14 := by kernel_rfl
def s17 : FmX Tryz.prog [] Tryz.f17 := ⟨_, by conv => lhs; reduce; dsimp only [fm_int, Int.ofNat_zero, Int.ofNat_one, Int.reduceNegSucc, Int.cast_ofNat_Int, fm_u8, UInt8.reduceOfNatLT]⟩
def a17 : AFunc := s17.af
theorem a17_ok : compileF Tryz.prog (lk (fmLk Tryz.prog Tryz.f17)) Tryz.f17 = some a17 := by kernel_rfl
def s20 : FmX Tryz.prog [] Tryz.f20 := ⟨_, by conv => lhs; reduce; dsimp only [fm_int, Int.ofNat_zero, Int.ofNat_one, Int.reduceNegSucc, Int.cast_ofNat_Int, fm_u8, UInt8.reduceOfNatLT]⟩
def a20 : AFunc := s20.af
theorem a20_ok : compileF Tryz.prog (lk (fmLk Tryz.prog Tryz.f20)) Tryz.f20 = some a20 := by kernel_rfl
def s23 : FmX Tryz.prog [] Tryz.f23 := ⟨_, by conv => lhs; reduce; dsimp only [fm_int, Int.ofNat_zero, Int.ofNat_one, Int.reduceNegSucc, Int.cast_ofNat_Int, fm_u8, UInt8.reduceOfNatLT]⟩
def a23 : AFunc := s23.af
theorem a23_ok : compileF Tryz.prog (lk (fmLk Tryz.prog Tryz.f23)) Tryz.f23 = some a23 := by kernel_rfl
def s26 : FmX Tryz.prog [] Tryz.f26 := ⟨_, by conv => lhs; reduce; dsimp only [fm_int, Int.ofNat_zero, Int.ofNat_one, Int.reduceNegSucc, Int.cast_ofNat_Int, fm_u8, UInt8.reduceOfNatLT]⟩
def a26 : AFunc := s26.af
theorem a26_ok : compileF Tryz.prog (lk (fmLk Tryz.prog Tryz.f26)) Tryz.f26 = some a26 := by kernel_rfl
def s29 : FmX Tryz.prog [] Tryz.f29 := ⟨_, by conv => lhs; reduce; dsimp only [fm_int, Int.ofNat_zero, Int.ofNat_one, Int.reduceNegSucc, Int.cast_ofNat_Int, fm_u8, UInt8.reduceOfNatLT]⟩
def a29 : AFunc := s29.af
theorem a29_ok : compileF Tryz.prog (lk (fmLk Tryz.prog Tryz.f29)) Tryz.f29 = some a29 := by kernel_rfl
def s32 : FmX Tryz.prog [] Tryz.f32 := ⟨_, by conv => lhs; reduce; dsimp only [fm_int, Int.ofNat_zero, Int.ofNat_one, Int.reduceNegSucc, Int.cast_ofNat_Int, fm_u8, UInt8.reduceOfNatLT]⟩
def a32 : AFunc := s32.af
theorem a32_ok : compileF Tryz.prog (lk (fmLk Tryz.prog Tryz.f32)) Tryz.f32 = some a32 := by kernel_rfl
def s35 : FmX Tryz.prog [] Tryz.f35 := ⟨_, by conv => lhs; reduce; dsimp only [fm_int, Int.ofNat_zero, Int.ofNat_one, Int.reduceNegSucc, Int.cast_ofNat_Int, fm_u8, UInt8.reduceOfNatLT]⟩
def a35 : AFunc := s35.af
theorem a35_ok : compileF Tryz.prog (lk (fmLk Tryz.prog Tryz.f35)) Tryz.f35 = some a35 := by kernel_rfl
def s38 : FmX Tryz.prog [] Tryz.f38 := ⟨_, by conv => lhs; reduce; dsimp only [fm_int, Int.ofNat_zero, Int.ofNat_one, Int.reduceNegSucc, Int.cast_ofNat_Int, fm_u8, UInt8.reduceOfNatLT]⟩
def a38 : AFunc := s38.af
theorem a38_ok : compileF Tryz.prog (lk (fmLk Tryz.prog Tryz.f38)) Tryz.f38 = some a38 := by kernel_rfl
def s41 : FmX Tryz.prog [] Tryz.f41 := ⟨_, by conv => lhs; reduce; dsimp only [fm_int, Int.ofNat_zero, Int.ofNat_one, Int.reduceNegSucc, Int.cast_ofNat_Int, fm_u8, UInt8.reduceOfNatLT]⟩
def a41 : AFunc := s41.af
theorem a41_ok : compileF Tryz.prog (lk (fmLk Tryz.prog Tryz.f41)) Tryz.f41 = some a41 := by kernel_rfl
def s44 : FmX Tryz.prog [] Tryz.f44 := ⟨_, by conv => lhs; reduce; dsimp only [fm_int, Int.ofNat_zero, Int.ofNat_one, Int.reduceNegSucc, Int.cast_ofNat_Int, fm_u8, UInt8.reduceOfNatLT]⟩
def a44 : AFunc := s44.af
theorem a44_ok : compileF Tryz.prog (lk (fmLk Tryz.prog Tryz.f44)) Tryz.f44 = some a44 := by kernel_rfl
def s47 : FmX Tryz.prog [] Tryz.f47 := ⟨_, by conv => lhs; reduce; dsimp only [fm_int, Int.ofNat_zero, Int.ofNat_one, Int.reduceNegSucc, Int.cast_ofNat_Int, fm_u8, UInt8.reduceOfNatLT]⟩
def a47 : AFunc := s47.af
theorem a47_ok : compileF Tryz.prog (lk (fmLk Tryz.prog Tryz.f47)) Tryz.f47 = some a47 := by kernel_rfl
def s50 : FmX Tryz.prog [] Tryz.f50 := ⟨_, by conv => lhs; reduce; dsimp only [fm_int, Int.ofNat_zero, Int.ofNat_one, Int.reduceNegSucc, Int.cast_ofNat_Int, fm_u8, UInt8.reduceOfNatLT]⟩
def a50 : AFunc := s50.af
theorem a50_ok : compileF Tryz.prog (lk (fmLk Tryz.prog Tryz.f50)) Tryz.f50 = some a50 := by kernel_rfl
def s53 : FmX Tryz.prog [] Tryz.f53 := ⟨_, by conv => lhs; reduce; dsimp only [fm_int, Int.ofNat_zero, Int.ofNat_one, Int.reduceNegSucc, Int.cast_ofNat_Int, fm_u8, UInt8.reduceOfNatLT]⟩
def a53 : AFunc := s53.af
theorem a53_ok : compileF Tryz.prog (lk (fmLk Tryz.prog Tryz.f53)) Tryz.f53 = some a53 := by kernel_rfl
def s56 : FmX Tryz.prog [] Tryz.f56 := ⟨_, by conv => lhs; reduce; dsimp only [fm_int, Int.ofNat_zero, Int.ofNat_one, Int.reduceNegSucc, Int.cast_ofNat_Int, fm_u8, UInt8.reduceOfNatLT]⟩
def a56 : AFunc := s56.af
theorem a56_ok : compileF Tryz.prog (lk (fmLk Tryz.prog Tryz.f56)) Tryz.f56 = some a56 := by kernel_rfl
def s59 : FmX Tryz.prog [] Tryz.f59 := ⟨_, by conv => lhs; reduce; dsimp only [fm_int, Int.ofNat_zero, Int.ofNat_one, Int.reduceNegSucc, Int.cast_ofNat_Int, fm_u8, UInt8.reduceOfNatLT]⟩
def a59 : AFunc := s59.af
theorem a59_ok : compileF Tryz.prog (lk (fmLk Tryz.prog Tryz.f59)) Tryz.f59 = some a59 := by kernel_rfl
def s62 : FmX Tryz.prog [] Tryz.f62 := ⟨_, by conv => lhs; reduce; dsimp only [fm_int, Int.ofNat_zero, Int.ofNat_one, Int.reduceNegSucc, Int.cast_ofNat_Int, fm_u8, UInt8.reduceOfNatLT]⟩
def a62 : AFunc := s62.af
theorem a62_ok : compileF Tryz.prog (lk (fmLk Tryz.prog Tryz.f62)) Tryz.f62 = some a62 := by kernel_rfl
def s65 : FmX Tryz.prog [] Tryz.f65 := ⟨_, by conv => lhs; reduce; dsimp only [fm_int, Int.ofNat_zero, Int.ofNat_one, Int.reduceNegSucc, Int.cast_ofNat_Int, fm_u8, UInt8.reduceOfNatLT]⟩
def a65 : AFunc := s65.af
theorem a65_ok : compileF Tryz.prog (lk (fmLk Tryz.prog Tryz.f65)) Tryz.f65 = some a65 := by kernel_rfl
def s68 : FmX Tryz.prog [] Tryz.f68 := ⟨_, by conv => lhs; reduce; dsimp only [fm_int, Int.ofNat_zero, Int.ofNat_one, Int.reduceNegSucc, Int.cast_ofNat_Int, fm_u8, UInt8.reduceOfNatLT]⟩
def a68 : AFunc := s68.af
theorem a68_ok : compileF Tryz.prog (lk (fmLk Tryz.prog Tryz.f68)) Tryz.f68 = some a68 := by kernel_rfl
def s71 : FmX Tryz.prog [] Tryz.f71 := ⟨_, by conv => lhs; reduce; dsimp only [fm_int, Int.ofNat_zero, Int.ofNat_one, Int.reduceNegSucc, Int.cast_ofNat_Int, fm_u8, UInt8.reduceOfNatLT]⟩
def a71 : AFunc := s71.af
theorem a71_ok : compileF Tryz.prog (lk (fmLk Tryz.prog Tryz.f71)) Tryz.f71 = some a71 := by kernel_rfl
def s74 : FmX Tryz.prog [] Tryz.f74 := ⟨_, by conv => lhs; reduce; dsimp only [fm_int, Int.ofNat_zero, Int.ofNat_one, Int.reduceNegSucc, Int.cast_ofNat_Int, fm_u8, UInt8.reduceOfNatLT]⟩
def a74 : AFunc := s74.af
theorem a74_ok : compileF Tryz.prog (lk (fmLk Tryz.prog Tryz.f74)) Tryz.f74 = some a74 := by kernel_rfl
def s77 : FmX Tryz.prog [] Tryz.f77 := ⟨_, by conv => lhs; reduce; dsimp only [fm_int, Int.ofNat_zero, Int.ofNat_one, Int.reduceNegSucc, Int.cast_ofNat_Int, fm_u8, UInt8.reduceOfNatLT]⟩
def a77 : AFunc := s77.af
theorem a77_ok : compileF Tryz.prog (lk (fmLk Tryz.prog Tryz.f77)) Tryz.f77 = some a77 := by kernel_rfl
def s80 : FmX Tryz.prog [] Tryz.f80 := ⟨_, by conv => lhs; reduce; dsimp only [fm_int, Int.ofNat_zero, Int.ofNat_one, Int.reduceNegSucc, Int.cast_ofNat_Int, fm_u8, UInt8.reduceOfNatLT]⟩
def a80 : AFunc := s80.af
theorem a80_ok : compileF Tryz.prog (lk (fmLk Tryz.prog Tryz.f80)) Tryz.f80 = some a80 := by kernel_rfl
def s83 : FmX Tryz.prog [] Tryz.f83 := ⟨_, by conv => lhs; reduce; dsimp only [fm_int, Int.ofNat_zero, Int.ofNat_one, Int.reduceNegSucc, Int.cast_ofNat_Int, fm_u8, UInt8.reduceOfNatLT]⟩
def a83 : AFunc := s83.af
theorem a83_ok : compileF Tryz.prog (lk (fmLk Tryz.prog Tryz.f83)) Tryz.f83 = some a83 := by kernel_rfl
def s86 : FmX Tryz.prog [] Tryz.f86 := ⟨_, by conv => lhs; reduce; dsimp only [fm_int, Int.ofNat_zero, Int.ofNat_one, Int.reduceNegSucc, Int.cast_ofNat_Int, fm_u8, UInt8.reduceOfNatLT]⟩
def a86 : AFunc := s86.af
theorem a86_ok : compileF Tryz.prog (lk (fmLk Tryz.prog Tryz.f86)) Tryz.f86 = some a86 := by kernel_rfl
def s89 : FmX Tryz.prog [] Tryz.f89 := ⟨_, by conv => lhs; reduce; dsimp only [fm_int, Int.ofNat_zero, Int.ofNat_one, Int.reduceNegSucc, Int.cast_ofNat_Int, fm_u8, UInt8.reduceOfNatLT]⟩
def a89 : AFunc := s89.af
theorem a89_ok : compileF Tryz.prog (lk (fmLk Tryz.prog Tryz.f89)) Tryz.f89 = some a89 := by kernel_rfl
def s92 : FmX Tryz.prog [] Tryz.f92 := ⟨_, by conv => lhs; reduce; dsimp only [fm_int, Int.ofNat_zero, Int.ofNat_one, Int.reduceNegSucc, Int.cast_ofNat_Int, fm_u8, UInt8.reduceOfNatLT]⟩
def a92 : AFunc := s92.af
theorem a92_ok : compileF Tryz.prog (lk (fmLk Tryz.prog Tryz.f92)) Tryz.f92 = some a92 := by kernel_rfl
def s95 : FmX Tryz.prog [] Tryz.f95 := ⟨_, by conv => lhs; reduce; dsimp only [fm_int, Int.ofNat_zero, Int.ofNat_one, Int.reduceNegSucc, Int.cast_ofNat_Int, fm_u8, UInt8.reduceOfNatLT]⟩
def a95 : AFunc := s95.af
theorem a95_ok : compileF Tryz.prog (lk (fmLk Tryz.prog Tryz.f95)) Tryz.f95 = some a95 := by kernel_rfl
def s98 : FmX Tryz.prog [] Tryz.f98 := ⟨_, by conv => lhs; reduce; dsimp only [fm_int, Int.ofNat_zero, Int.ofNat_one, Int.reduceNegSucc, Int.cast_ofNat_Int, fm_u8, UInt8.reduceOfNatLT]⟩
def a98 : AFunc := s98.af
theorem a98_ok : compileF Tryz.prog (lk (fmLk Tryz.prog Tryz.f98)) Tryz.f98 = some a98 := by kernel_rfl
def s101 : FmX Tryz.prog [] Tryz.f101 := ⟨_, by conv => lhs; reduce; dsimp only [fm_int, Int.ofNat_zero, Int.ofNat_one, Int.reduceNegSucc, Int.cast_ofNat_Int, fm_u8, UInt8.reduceOfNatLT]⟩
def a101 : AFunc := s101.af
theorem a101_ok : compileF Tryz.prog (lk (fmLk Tryz.prog Tryz.f101)) Tryz.f101 = some a101 := by kernel_rfl
def s104 : FmX Tryz.prog [] Tryz.f104 := ⟨_, by conv => lhs; reduce; dsimp only [fm_int, Int.ofNat_zero, Int.ofNat_one, Int.reduceNegSucc, Int.cast_ofNat_Int, fm_u8, UInt8.reduceOfNatLT]⟩
def a104 : AFunc := s104.af
theorem a104_ok : compileF Tryz.prog (lk (fmLk Tryz.prog Tryz.f104)) Tryz.f104 = some a104 := by kernel_rfl
def s107 : FmX Tryz.prog [] Tryz.f107 := ⟨_, by conv => lhs; reduce; dsimp only [fm_int, Int.ofNat_zero, Int.ofNat_one, Int.reduceNegSucc, Int.cast_ofNat_Int, fm_u8, UInt8.reduceOfNatLT]⟩
def a107 : AFunc := s107.af
theorem a107_ok : compileF Tryz.prog (lk (fmLk Tryz.prog Tryz.f107)) Tryz.f107 = some a107 := by kernel_rfl
def s110 : FmX Tryz.prog [] Tryz.f110 := ⟨_, by conv => lhs; reduce; dsimp only [fm_int, Int.ofNat_zero, Int.ofNat_one, Int.reduceNegSucc, Int.cast_ofNat_Int, fm_u8, UInt8.reduceOfNatLT]⟩
def a110 : AFunc := s110.af
theorem a110_ok : compileF Tryz.prog (lk (fmLk Tryz.prog Tryz.f110)) Tryz.f110 = some a110 := by kernel_rfl
def s113 : FmX Tryz.prog [] Tryz.f113 := ⟨_, by conv => lhs; reduce; dsimp only [fm_int, Int.ofNat_zero, Int.ofNat_one, Int.reduceNegSucc, Int.cast_ofNat_Int, fm_u8, UInt8.reduceOfNatLT]⟩
def a113 : AFunc := s113.af
theorem a113_ok : compileF Tryz.prog (lk (fmLk Tryz.prog Tryz.f113)) Tryz.f113 = some a113 := by kernel_rfl
def s116 : FmX Tryz.prog [] Tryz.f116 := ⟨_, by conv => lhs; reduce; dsimp only [fm_int, Int.ofNat_zero, Int.ofNat_one, Int.reduceNegSucc, Int.cast_ofNat_Int, fm_u8, UInt8.reduceOfNatLT]⟩
def a116 : AFunc := s116.af
theorem a116_ok : compileF Tryz.prog (lk (fmLk Tryz.prog Tryz.f116)) Tryz.f116 = some a116 := by kernel_rfl
def s119 : FmX Tryz.prog [] Tryz.f119 := ⟨_, by conv => lhs; reduce; dsimp only [fm_int, Int.ofNat_zero, Int.ofNat_one, Int.reduceNegSucc, Int.cast_ofNat_Int, fm_u8, UInt8.reduceOfNatLT]⟩
def a119 : AFunc := s119.af
theorem a119_ok : compileF Tryz.prog (lk (fmLk Tryz.prog Tryz.f119)) Tryz.f119 = some a119 := by kernel_rfl
def s122 : FmX Tryz.prog [] Tryz.f122 := ⟨_, by conv => lhs; reduce; dsimp only [fm_int, Int.ofNat_zero, Int.ofNat_one, Int.reduceNegSucc, Int.cast_ofNat_Int, fm_u8, UInt8.reduceOfNatLT]⟩
def a122 : AFunc := s122.af
theorem a122_ok : compileF Tryz.prog (lk (fmLk Tryz.prog Tryz.f122)) Tryz.f122 = some a122 := by kernel_rfl
def s125 : FmX Tryz.prog [] Tryz.f125 := ⟨_, by conv => lhs; reduce; dsimp only [fm_int, Int.ofNat_zero, Int.ofNat_one, Int.reduceNegSucc, Int.cast_ofNat_Int, fm_u8, UInt8.reduceOfNatLT]⟩
def a125 : AFunc := s125.af
theorem a125_ok : compileF Tryz.prog (lk (fmLk Tryz.prog Tryz.f125)) Tryz.f125 = some a125 := by kernel_rfl
def s129 : FmX Tryz.prog [] Tryz.f129 := ⟨_, by conv => lhs; reduce; dsimp only [fm_int, Int.ofNat_zero, Int.ofNat_one, Int.reduceNegSucc, Int.cast_ofNat_Int, fm_u8, UInt8.reduceOfNatLT]⟩
def a129 : AFunc := s129.af
theorem a129_ok : compileF Tryz.prog (lk (fmLk Tryz.prog Tryz.f129)) Tryz.f129 = some a129 := by kernel_rfl
def s132 : FmX Tryz.prog [] Tryz.f132 := ⟨_, by conv => lhs; reduce; dsimp only [fm_int, Int.ofNat_zero, Int.ofNat_one, Int.reduceNegSucc, Int.cast_ofNat_Int, fm_u8, UInt8.reduceOfNatLT]⟩
def a132 : AFunc := s132.af
theorem a132_ok : compileF Tryz.prog (lk (fmLk Tryz.prog Tryz.f132)) Tryz.f132 = some a132 := by kernel_rfl
def s135 : FmX Tryz.prog [] Tryz.f135 := ⟨_, by conv => lhs; reduce; dsimp only [fm_int, Int.ofNat_zero, Int.ofNat_one, Int.reduceNegSucc, Int.cast_ofNat_Int, fm_u8, UInt8.reduceOfNatLT]⟩
def a135 : AFunc := s135.af
theorem a135_ok : compileF Tryz.prog (lk (fmLk Tryz.prog Tryz.f135)) Tryz.f135 = some a135 := by kernel_rfl
def s138 : FmX Tryz.prog [] Tryz.f138 := ⟨_, by conv => lhs; reduce; dsimp only [fm_int, Int.ofNat_zero, Int.ofNat_one, Int.reduceNegSucc, Int.cast_ofNat_Int, fm_u8, UInt8.reduceOfNatLT]⟩
def a138 : AFunc := s138.af
theorem a138_ok : compileF Tryz.prog (lk (fmLk Tryz.prog Tryz.f138)) Tryz.f138 = some a138 := by kernel_rfl
def s141 : FmX Tryz.prog [] Tryz.f141 := ⟨_, by conv => lhs; reduce; dsimp only [fm_int, Int.ofNat_zero, Int.ofNat_one, Int.reduceNegSucc, Int.cast_ofNat_Int, fm_u8, UInt8.reduceOfNatLT]⟩
def a141 : AFunc := s141.af
theorem a141_ok : compileF Tryz.prog (lk (fmLk Tryz.prog Tryz.f141)) Tryz.f141 = some a141 := by kernel_rfl
def s144 : FmX Tryz.prog [] Tryz.f144 := ⟨_, by conv => lhs; reduce; dsimp only [fm_int, Int.ofNat_zero, Int.ofNat_one, Int.reduceNegSucc, Int.cast_ofNat_Int, fm_u8, UInt8.reduceOfNatLT]⟩
def a144 : AFunc := s144.af
theorem a144_ok : compileF Tryz.prog (lk (fmLk Tryz.prog Tryz.f144)) Tryz.f144 = some a144 := by kernel_rfl
def s147 : FmX Tryz.prog [] Tryz.f147 := ⟨_, by conv => lhs; reduce; dsimp only [fm_int, Int.ofNat_zero, Int.ofNat_one, Int.reduceNegSucc, Int.cast_ofNat_Int, fm_u8, UInt8.reduceOfNatLT]⟩
def a147 : AFunc := s147.af
theorem a147_ok : compileF Tryz.prog (lk (fmLk Tryz.prog Tryz.f147)) Tryz.f147 = some a147 := by kernel_rfl
def s150 : FmX Tryz.prog [] Tryz.f150 := ⟨_, by conv => lhs; reduce; dsimp only [fm_int, Int.ofNat_zero, Int.ofNat_one, Int.reduceNegSucc, Int.cast_ofNat_Int, fm_u8, UInt8.reduceOfNatLT]⟩
def a150 : AFunc := s150.af
theorem a150_ok : compileF Tryz.prog (lk (fmLk Tryz.prog Tryz.f150)) Tryz.f150 = some a150 := by kernel_rfl
def s153 : FmX Tryz.prog [] Tryz.f153 := ⟨_, by conv => lhs; reduce; dsimp only [fm_int, Int.ofNat_zero, Int.ofNat_one, Int.reduceNegSucc, Int.cast_ofNat_Int, fm_u8, UInt8.reduceOfNatLT]⟩
def a153 : AFunc := s153.af
theorem a153_ok : compileF Tryz.prog (lk (fmLk Tryz.prog Tryz.f153)) Tryz.f153 = some a153 := by kernel_rfl
def s156 : FmX Tryz.prog [] Tryz.f156 := ⟨_, by conv => lhs; reduce; dsimp only [fm_int, Int.ofNat_zero, Int.ofNat_one, Int.reduceNegSucc, Int.cast_ofNat_Int, fm_u8, UInt8.reduceOfNatLT]⟩
def a156 : AFunc := s156.af
theorem a156_ok : compileF Tryz.prog (lk (fmLk Tryz.prog Tryz.f156)) Tryz.f156 = some a156 := by kernel_rfl
def s159 : FmX Tryz.prog [] Tryz.f159 := ⟨_, by conv => lhs; reduce; dsimp only [fm_int, Int.ofNat_zero, Int.ofNat_one, Int.reduceNegSucc, Int.cast_ofNat_Int, fm_u8, UInt8.reduceOfNatLT]⟩
def a159 : AFunc := s159.af
theorem a159_ok : compileF Tryz.prog (lk (fmLk Tryz.prog Tryz.f159)) Tryz.f159 = some a159 := by kernel_rfl
def s162 : FmX Tryz.prog [] Tryz.f162 := ⟨_, by conv => lhs; reduce; dsimp only [fm_int, Int.ofNat_zero, Int.ofNat_one, Int.reduceNegSucc, Int.cast_ofNat_Int, fm_u8, UInt8.reduceOfNatLT]⟩
def a162 : AFunc := s162.af
theorem a162_ok : compileF Tryz.prog (lk (fmLk Tryz.prog Tryz.f162)) Tryz.f162 = some a162 := by kernel_rfl
def s165 : FmX Tryz.prog [] Tryz.f165 := ⟨_, by conv => lhs; reduce; dsimp only [fm_int, Int.ofNat_zero, Int.ofNat_one, Int.reduceNegSucc, Int.cast_ofNat_Int, fm_u8, UInt8.reduceOfNatLT]⟩
def a165 : AFunc := s165.af
theorem a165_ok : compileF Tryz.prog (lk (fmLk Tryz.prog Tryz.f165)) Tryz.f165 = some a165 := by kernel_rfl
def s169 : FmX Tryz.prog [] Tryz.f169 := ⟨_, by conv => lhs; reduce; dsimp only [fm_int, Int.ofNat_zero, Int.ofNat_one, Int.reduceNegSucc, Int.cast_ofNat_Int, fm_u8, UInt8.reduceOfNatLT]⟩
def a169 : AFunc := s169.af
theorem a169_ok : compileF Tryz.prog (lk (fmLk Tryz.prog Tryz.f169)) Tryz.f169 = some a169 := by kernel_rfl
def s172 : FmX Tryz.prog [] Tryz.f172 := ⟨_, by conv => lhs; reduce; dsimp only [fm_int, Int.ofNat_zero, Int.ofNat_one, Int.reduceNegSucc, Int.cast_ofNat_Int, fm_u8, UInt8.reduceOfNatLT]⟩
def a172 : AFunc := s172.af
theorem a172_ok : compileF Tryz.prog (lk (fmLk Tryz.prog Tryz.f172)) Tryz.f172 = some a172 := by kernel_rfl
def s175 : FmX Tryz.prog [] Tryz.f175 := ⟨_, by conv => lhs; reduce; dsimp only [fm_int, Int.ofNat_zero, Int.ofNat_one, Int.reduceNegSucc, Int.cast_ofNat_Int, fm_u8, UInt8.reduceOfNatLT]⟩
def a175 : AFunc := s175.af
theorem a175_ok : compileF Tryz.prog (lk (fmLk Tryz.prog Tryz.f175)) Tryz.f175 = some a175 := by kernel_rfl
def s178 : FmX Tryz.prog [] Tryz.f178 := ⟨_, by conv => lhs; reduce; dsimp only [fm_int, Int.ofNat_zero, Int.ofNat_one, Int.reduceNegSucc, Int.cast_ofNat_Int, fm_u8, UInt8.reduceOfNatLT]⟩
def a178 : AFunc := s178.af
theorem a178_ok : compileF Tryz.prog (lk (fmLk Tryz.prog Tryz.f178)) Tryz.f178 = some a178 := by kernel_rfl
def s181 : FmX Tryz.prog [] Tryz.f181 := ⟨_, by conv => lhs; reduce; dsimp only [fm_int, Int.ofNat_zero, Int.ofNat_one, Int.reduceNegSucc, Int.cast_ofNat_Int, fm_u8, UInt8.reduceOfNatLT]⟩
def a181 : AFunc := s181.af
theorem a181_ok : compileF Tryz.prog (lk (fmLk Tryz.prog Tryz.f181)) Tryz.f181 = some a181 := by kernel_rfl
def s184 : FmX Tryz.prog [] Tryz.f184 := ⟨_, by conv => lhs; reduce; dsimp only [fm_int, Int.ofNat_zero, Int.ofNat_one, Int.reduceNegSucc, Int.cast_ofNat_Int, fm_u8, UInt8.reduceOfNatLT]⟩
def a184 : AFunc := s184.af
theorem a184_ok : compileF Tryz.prog (lk (fmLk Tryz.prog Tryz.f184)) Tryz.f184 = some a184 := by kernel_rfl
def s187 : FmX Tryz.prog [] Tryz.f187 := ⟨_, by conv => lhs; reduce; dsimp only [fm_int, Int.ofNat_zero, Int.ofNat_one, Int.reduceNegSucc, Int.cast_ofNat_Int, fm_u8, UInt8.reduceOfNatLT]⟩
def a187 : AFunc := s187.af
theorem a187_ok : compileF Tryz.prog (lk (fmLk Tryz.prog Tryz.f187)) Tryz.f187 = some a187 := by kernel_rfl
def s191 : FmX Tryz.prog [] Tryz.f191 := ⟨_, by conv => lhs; reduce; dsimp only [fm_int, Int.ofNat_zero, Int.ofNat_one, Int.reduceNegSucc, Int.cast_ofNat_Int, fm_u8, UInt8.reduceOfNatLT]⟩
def a191 : AFunc := s191.af
theorem a191_ok : compileF Tryz.prog (lk (fmLk Tryz.prog Tryz.f191)) Tryz.f191 = some a191 := by kernel_rfl
def s194 : FmX Tryz.prog [] Tryz.f194 := ⟨_, by conv => lhs; reduce; dsimp only [fm_int, Int.ofNat_zero, Int.ofNat_one, Int.reduceNegSucc, Int.cast_ofNat_Int, fm_u8, UInt8.reduceOfNatLT]⟩
def a194 : AFunc := s194.af
theorem a194_ok : compileF Tryz.prog (lk (fmLk Tryz.prog Tryz.f194)) Tryz.f194 = some a194 := by kernel_rfl
def s197 : FmX Tryz.prog [] Tryz.f197 := ⟨_, by conv => lhs; reduce; dsimp only [fm_int, Int.ofNat_zero, Int.ofNat_one, Int.reduceNegSucc, Int.cast_ofNat_Int, fm_u8, UInt8.reduceOfNatLT]⟩
def a197 : AFunc := s197.af
theorem a197_ok : compileF Tryz.prog (lk (fmLk Tryz.prog Tryz.f197)) Tryz.f197 = some a197 := by kernel_rfl
def s200 : FmX Tryz.prog [] Tryz.f200 := ⟨_, by conv => lhs; reduce; dsimp only [fm_int, Int.ofNat_zero, Int.ofNat_one, Int.reduceNegSucc, Int.cast_ofNat_Int, fm_u8, UInt8.reduceOfNatLT]⟩
def a200 : AFunc := s200.af
theorem a200_ok : compileF Tryz.prog (lk (fmLk Tryz.prog Tryz.f200)) Tryz.f200 = some a200 := by kernel_rfl
def s203 : FmX Tryz.prog [] Tryz.f203 := ⟨_, by conv => lhs; reduce; dsimp only [fm_int, Int.ofNat_zero, Int.ofNat_one, Int.reduceNegSucc, Int.cast_ofNat_Int, fm_u8, UInt8.reduceOfNatLT]⟩
def a203 : AFunc := s203.af
theorem a203_ok : compileF Tryz.prog (lk (fmLk Tryz.prog Tryz.f203)) Tryz.f203 = some a203 := by kernel_rfl
def s208 : FmX Tryz.prog [] Tryz.f208 := ⟨_, by conv => lhs; reduce; dsimp only [fm_int, Int.ofNat_zero, Int.ofNat_one, Int.reduceNegSucc, Int.cast_ofNat_Int, fm_u8, UInt8.reduceOfNatLT]⟩
def a208 : AFunc := s208.af
theorem a208_ok : compileF Tryz.prog (lk (fmLk Tryz.prog Tryz.f208)) Tryz.f208 = some a208 := by kernel_rfl
def s212 : FmX Tryz.prog [] Tryz.f212 := ⟨_, by conv => lhs; reduce; dsimp only [fm_int, Int.ofNat_zero, Int.ofNat_one, Int.reduceNegSucc, Int.cast_ofNat_Int, fm_u8, UInt8.reduceOfNatLT]⟩
def a212 : AFunc := s212.af
theorem a212_ok : compileF Tryz.prog (lk (fmLk Tryz.prog Tryz.f212)) Tryz.f212 = some a212 := by kernel_rfl
def s215 : FmX Tryz.prog [] Tryz.f215 := ⟨_, by conv => lhs; reduce; dsimp only [fm_int, Int.ofNat_zero, Int.ofNat_one, Int.reduceNegSucc, Int.cast_ofNat_Int, fm_u8, UInt8.reduceOfNatLT]⟩
def a215 : AFunc := s215.af
theorem a215_ok : compileF Tryz.prog (lk (fmLk Tryz.prog Tryz.f215)) Tryz.f215 = some a215 := by kernel_rfl
def s218 : FmX Tryz.prog [] Tryz.f218 := ⟨_, by conv => lhs; reduce; dsimp only [fm_int, Int.ofNat_zero, Int.ofNat_one, Int.reduceNegSucc, Int.cast_ofNat_Int, fm_u8, UInt8.reduceOfNatLT]⟩
def a218 : AFunc := s218.af
theorem a218_ok : compileF Tryz.prog (lk (fmLk Tryz.prog Tryz.f218)) Tryz.f218 = some a218 := by kernel_rfl
def s221 : FmX Tryz.prog [] Tryz.f221 := ⟨_, by conv => lhs; reduce; dsimp only [fm_int, Int.ofNat_zero, Int.ofNat_one, Int.reduceNegSucc, Int.cast_ofNat_Int, fm_u8, UInt8.reduceOfNatLT]⟩
def a221 : AFunc := s221.af
theorem a221_ok : compileF Tryz.prog (lk (fmLk Tryz.prog Tryz.f221)) Tryz.f221 = some a221 := by kernel_rfl
def s224 : FmX Tryz.prog [] Tryz.f224 := ⟨_, by conv => lhs; reduce; dsimp only [fm_int, Int.ofNat_zero, Int.ofNat_one, Int.reduceNegSucc, Int.cast_ofNat_Int, fm_u8, UInt8.reduceOfNatLT]⟩
def a224 : AFunc := s224.af
theorem a224_ok : compileF Tryz.prog (lk (fmLk Tryz.prog Tryz.f224)) Tryz.f224 = some a224 := by kernel_rfl
def s227 : FmX Tryz.prog [] Tryz.f227 := ⟨_, by conv => lhs; reduce; dsimp only [fm_int, Int.ofNat_zero, Int.ofNat_one, Int.reduceNegSucc, Int.cast_ofNat_Int, fm_u8, UInt8.reduceOfNatLT]⟩
def a227 : AFunc := s227.af
theorem a227_ok : compileF Tryz.prog (lk (fmLk Tryz.prog Tryz.f227)) Tryz.f227 = some a227 := by kernel_rfl
def s230 : FmX Tryz.prog [] Tryz.f230 := ⟨_, by conv => lhs; reduce; dsimp only [fm_int, Int.ofNat_zero, Int.ofNat_one, Int.reduceNegSucc, Int.cast_ofNat_Int, fm_u8, UInt8.reduceOfNatLT]⟩
def a230 : AFunc := s230.af
theorem a230_ok : compileF Tryz.prog (lk (fmLk Tryz.prog Tryz.f230)) Tryz.f230 = some a230 := by kernel_rfl
def s233 : FmX Tryz.prog [] Tryz.f233 := ⟨_, by conv => lhs; reduce; dsimp only [fm_int, Int.ofNat_zero, Int.ofNat_one, Int.reduceNegSucc, Int.cast_ofNat_Int, fm_u8, UInt8.reduceOfNatLT]⟩
def a233 : AFunc := s233.af
theorem a233_ok : compileF Tryz.prog (lk (fmLk Tryz.prog Tryz.f233)) Tryz.f233 = some a233 := by kernel_rfl
def s243 : FmX Tryz.prog [] Tryz.f243 := ⟨_, by conv => lhs; reduce; dsimp only [fm_int, Int.ofNat_zero, Int.ofNat_one, Int.reduceNegSucc, Int.cast_ofNat_Int, fm_u8, UInt8.reduceOfNatLT]⟩
def a243 : AFunc := s243.af
theorem a243_ok : compileF Tryz.prog (lk (fmLk Tryz.prog Tryz.f243)) Tryz.f243 = some a243 := by kernel_rfl
def s246 : FmX Tryz.prog [] Tryz.f246 := ⟨_, by conv => lhs; reduce; dsimp only [fm_int, Int.ofNat_zero, Int.ofNat_one, Int.reduceNegSucc, Int.cast_ofNat_Int, fm_u8, UInt8.reduceOfNatLT]⟩
def a246 : AFunc := s246.af
theorem a246_ok : compileF Tryz.prog (lk (fmLk Tryz.prog Tryz.f246)) Tryz.f246 = some a246 := by kernel_rfl
def s249 : FmX Tryz.prog [] Tryz.f249 := ⟨_, by conv => lhs; reduce; dsimp only [fm_int, Int.ofNat_zero, Int.ofNat_one, Int.reduceNegSucc, Int.cast_ofNat_Int, fm_u8, UInt8.reduceOfNatLT]⟩
def a249 : AFunc := s249.af
theorem a249_ok : compileF Tryz.prog (lk (fmLk Tryz.prog Tryz.f249)) Tryz.f249 = some a249 := by kernel_rfl
def s253 : FmX Tryz.prog [] Tryz.f253 := ⟨_, by conv => lhs; reduce; dsimp only [fm_int, Int.ofNat_zero, Int.ofNat_one, Int.reduceNegSucc, Int.cast_ofNat_Int, fm_u8, UInt8.reduceOfNatLT]⟩
def a253 : AFunc := s253.af
theorem a253_ok : compileF Tryz.prog (lk (fmLk Tryz.prog Tryz.f253)) Tryz.f253 = some a253 := by kernel_rfl
def s256 : FmX Tryz.prog [] Tryz.f256 := ⟨_, by conv => lhs; reduce; dsimp only [fm_int, Int.ofNat_zero, Int.ofNat_one, Int.reduceNegSucc, Int.cast_ofNat_Int, fm_u8, UInt8.reduceOfNatLT]⟩
def a256 : AFunc := s256.af
theorem a256_ok : compileF Tryz.prog (lk (fmLk Tryz.prog Tryz.f256)) Tryz.f256 = some a256 := by kernel_rfl
def s259 : FmX Tryz.prog [] Tryz.f259 := ⟨_, by conv => lhs; reduce; dsimp only [fm_int, Int.ofNat_zero, Int.ofNat_one, Int.reduceNegSucc, Int.cast_ofNat_Int, fm_u8, UInt8.reduceOfNatLT]⟩
def a259 : AFunc := s259.af
theorem a259_ok : compileF Tryz.prog (lk (fmLk Tryz.prog Tryz.f259)) Tryz.f259 = some a259 := by kernel_rfl
def s263 : FmX Tryz.prog [] Tryz.f263 := ⟨_, by conv => lhs; reduce; dsimp only [fm_int, Int.ofNat_zero, Int.ofNat_one, Int.reduceNegSucc, Int.cast_ofNat_Int, fm_u8, UInt8.reduceOfNatLT]⟩
def a263 : AFunc := s263.af
theorem a263_ok : compileF Tryz.prog (lk (fmLk Tryz.prog Tryz.f263)) Tryz.f263 = some a263 := by kernel_rfl
def s273 : FmX Tryz.prog [] Tryz.f273 := ⟨_, by conv => lhs; reduce; dsimp only [fm_int, Int.ofNat_zero, Int.ofNat_one, Int.reduceNegSucc, Int.cast_ofNat_Int, fm_u8, UInt8.reduceOfNatLT]⟩
def a273 : AFunc := s273.af
theorem a273_ok : compileF Tryz.prog (lk (fmLk Tryz.prog Tryz.f273)) Tryz.f273 = some a273 := by kernel_rfl
def s276 : FmX Tryz.prog [] Tryz.f276 := ⟨_, by conv => lhs; reduce; dsimp only [fm_int, Int.ofNat_zero, Int.ofNat_one, Int.reduceNegSucc, Int.cast_ofNat_Int, fm_u8, UInt8.reduceOfNatLT]⟩
def a276 : AFunc := s276.af
theorem a276_ok : compileF Tryz.prog (lk (fmLk Tryz.prog Tryz.f276)) Tryz.f276 = some a276 := by kernel_rfl
def s286 : FmX Tryz.prog [] Tryz.f286 := ⟨_, by conv => lhs; reduce; dsimp only [fm_int, Int.ofNat_zero, Int.ofNat_one, Int.reduceNegSucc, Int.cast_ofNat_Int, fm_u8, UInt8.reduceOfNatLT]⟩
def a286 : AFunc := s286.af
theorem a286_ok : compileF Tryz.prog (lk (fmLk Tryz.prog Tryz.f286)) Tryz.f286 = some a286 := by kernel_rfl
def s294 : FmX Tryz.prog [] Tryz.f294 := ⟨_, by conv => lhs; reduce; dsimp only [fm_int, Int.ofNat_zero, Int.ofNat_one, Int.reduceNegSucc, Int.cast_ofNat_Int, fm_u8, UInt8.reduceOfNatLT]⟩
def a294 : AFunc := s294.af
theorem a294_ok : compileF Tryz.prog (lk (fmLk Tryz.prog Tryz.f294)) Tryz.f294 = some a294 := by kernel_rfl
def s309 : FmX Tryz.prog [] Tryz.f309 := ⟨_, by conv => lhs; reduce; dsimp only [fm_int, Int.ofNat_zero, Int.ofNat_one, Int.reduceNegSucc, Int.cast_ofNat_Int, fm_u8, UInt8.reduceOfNatLT]⟩
def a309 : AFunc := s309.af
theorem a309_ok : compileF Tryz.prog (lk (fmLk Tryz.prog Tryz.f309)) Tryz.f309 = some a309 := by kernel_rfl
def s314 : FmX Tryz.prog [] Tryz.f314 := ⟨_, by conv => lhs; reduce; dsimp only [fm_int, Int.ofNat_zero, Int.ofNat_one, Int.reduceNegSucc, Int.cast_ofNat_Int, fm_u8, UInt8.reduceOfNatLT]⟩
def a314 : AFunc := s314.af
theorem a314_ok : compileF Tryz.prog (lk (fmLk Tryz.prog Tryz.f314)) Tryz.f314 = some a314 := by kernel_rfl
def s324 : FmX Tryz.prog [] Tryz.f324 := ⟨_, by conv => lhs; reduce; dsimp only [fm_int, Int.ofNat_zero, Int.ofNat_one, Int.reduceNegSucc, Int.cast_ofNat_Int, fm_u8, UInt8.reduceOfNatLT]⟩
def a324 : AFunc := s324.af
theorem a324_ok : compileF Tryz.prog (lk (fmLk Tryz.prog Tryz.f324)) Tryz.f324 = some a324 := by kernel_rfl
def s337 : FmX Tryz.prog [] Tryz.f337 := ⟨_, by conv => lhs; reduce; dsimp only [fm_int, Int.ofNat_zero, Int.ofNat_one, Int.reduceNegSucc, Int.cast_ofNat_Int, fm_u8, UInt8.reduceOfNatLT]⟩
def a337 : AFunc := s337.af
theorem a337_ok : compileF Tryz.prog (lk (fmLk Tryz.prog Tryz.f337)) Tryz.f337 = some a337 := by kernel_rfl
def s353 : FmX Tryz.prog [] Tryz.f353 := ⟨_, by conv => lhs; reduce; dsimp only [fm_int, Int.ofNat_zero, Int.ofNat_one, Int.reduceNegSucc, Int.cast_ofNat_Int, fm_u8, UInt8.reduceOfNatLT]⟩
def a353 : AFunc := s353.af
theorem a353_ok : compileF Tryz.prog (lk (fmLk Tryz.prog Tryz.f353)) Tryz.f353 = some a353 := by kernel_rfl
def s360 : FmX Tryz.prog [] Tryz.f360 := ⟨_, by conv => lhs; reduce; dsimp only [fm_int, Int.ofNat_zero, Int.ofNat_one, Int.reduceNegSucc, Int.cast_ofNat_Int, fm_u8, UInt8.reduceOfNatLT]⟩
def a360 : AFunc := s360.af
theorem a360_ok : compileF Tryz.prog (lk (fmLk Tryz.prog Tryz.f360)) Tryz.f360 = some a360 := by kernel_rfl
def s368 : FmX Tryz.prog [] Tryz.f368 := ⟨_, by conv => lhs; reduce; dsimp only [fm_int, Int.ofNat_zero, Int.ofNat_one, Int.reduceNegSucc, Int.cast_ofNat_Int, fm_u8, UInt8.reduceOfNatLT]⟩
def a368 : AFunc := s368.af
theorem a368_ok : compileF Tryz.prog (lk (fmLk Tryz.prog Tryz.f368)) Tryz.f368 = some a368 := by kernel_rfl
def s371 : FmX Tryz.prog [] Tryz.f371 := ⟨_, by conv => lhs; reduce; dsimp only [fm_int, Int.ofNat_zero, Int.ofNat_one, Int.reduceNegSucc, Int.cast_ofNat_Int, fm_u8, UInt8.reduceOfNatLT]⟩
def a371 : AFunc := s371.af
theorem a371_ok : compileF Tryz.prog (lk (fmLk Tryz.prog Tryz.f371)) Tryz.f371 = some a371 := by kernel_rfl
end Go.Proofs.YtpincjkjoeopkaaGreatDoor
