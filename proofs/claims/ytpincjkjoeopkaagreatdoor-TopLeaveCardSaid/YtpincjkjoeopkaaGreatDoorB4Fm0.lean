/- The abstract forms of functions, computed. -/
import Derived.Test.YtpincjkjoeopkaaGreatDoorAbsMe
import Derived.Test.YtpincjkjoeopkaaGreatDoorAbsMd
import Derived.Test.YtpincjkjoeopkaaGreatDoorProg
import Derived.KernelRfl
set_option linter.unusedSimpArgs false
set_option linter.unusedVariables false
set_option linter.unusedSectionVars false
set_option maxRecDepth 100000
set_option maxHeartbeats 2000000
namespace Go.Proofs.YtpincjkjoeopkaaGreatDoor
open Go Go.Abs
def s3 : FmX Tryz.prog [] Tryz.f3 := ⟨_, by conv => lhs; reduce; dsimp only [fm_int, Int.ofNat_zero, Int.ofNat_one, Int.reduceNegSucc, Int.cast_ofNat_Int, fm_u8, UInt8.reduceOfNatLT]⟩
def a3 : AFunc := s3.af
theorem a3_ok : compileF Tryz.prog (lk (fmLk Tryz.prog Tryz.f3)) Tryz.f3 = some a3 := by kernel_rfl
def s6 : FmX Tryz.prog [] Tryz.f6 := ⟨_, by conv => lhs; reduce; dsimp only [fm_int, Int.ofNat_zero, Int.ofNat_one, Int.reduceNegSucc, Int.cast_ofNat_Int, fm_u8, UInt8.reduceOfNatLT]⟩
def a6 : AFunc := s6.af
theorem a6_ok : compileF Tryz.prog (lk (fmLk Tryz.prog Tryz.f6)) Tryz.f6 = some a6 := by kernel_rfl
def s9 : FmX Tryz.prog [] Tryz.f9 := ⟨_, by conv => lhs; reduce; dsimp only [fm_int, Int.ofNat_zero, Int.ofNat_one, Int.reduceNegSucc, Int.cast_ofNat_Int, fm_u8, UInt8.reduceOfNatLT]⟩
def a9 : AFunc := s9.af
theorem a9_ok : compileF Tryz.prog (lk (fmLk Tryz.prog Tryz.f9)) Tryz.f9 = some a9 := by kernel_rfl
def s12 : FmX Tryz.prog [] Tryz.f12 := ⟨_, by conv => lhs; reduce; dsimp only [fm_int, Int.ofNat_zero, Int.ofNat_one, Int.reduceNegSucc, Int.cast_ofNat_Int, fm_u8, UInt8.reduceOfNatLT]⟩
def a12 : AFunc := s12.af
theorem a12_ok : compileF Tryz.prog (lk (fmLk Tryz.prog Tryz.f12)) Tryz.f12 = some a12 := by kernel_rfl
def s15 : FmX Tryz.prog [] Tryz.f15 := ⟨_, by conv => lhs; reduce; dsimp only [fm_int, Int.ofNat_zero, Int.ofNat_one, Int.reduceNegSucc, Int.cast_ofNat_Int, fm_u8, UInt8.reduceOfNatLT]⟩
def a15 : AFunc := s15.af
theorem a15_ok : compileF Tryz.prog (lk (fmLk Tryz.prog Tryz.f15)) Tryz.f15 = some a15 := by kernel_rfl
def s18 : FmX Tryz.prog [] Tryz.f18 := ⟨_, by conv => lhs; reduce; dsimp only [fm_int, Int.ofNat_zero, Int.ofNat_one, Int.reduceNegSucc, Int.cast_ofNat_Int, fm_u8, UInt8.reduceOfNatLT]⟩
def a18 : AFunc := s18.af
theorem a18_ok : compileF Tryz.prog (lk (fmLk Tryz.prog Tryz.f18)) Tryz.f18 = some a18 := by kernel_rfl
def s21 : FmX Tryz.prog [] Tryz.f21 := ⟨_, by conv => lhs; reduce; dsimp only [fm_int, Int.ofNat_zero, Int.ofNat_one, Int.reduceNegSucc, Int.cast_ofNat_Int, fm_u8, UInt8.reduceOfNatLT]⟩
def a21 : AFunc := s21.af
theorem a21_ok : compileF Tryz.prog (lk (fmLk Tryz.prog Tryz.f21)) Tryz.f21 = some a21 := by kernel_rfl
def s24 : FmX Tryz.prog [] Tryz.f24 := ⟨_, by conv => lhs; reduce; dsimp only [fm_int, Int.ofNat_zero, Int.ofNat_one, Int.reduceNegSucc, Int.cast_ofNat_Int, fm_u8, UInt8.reduceOfNatLT]⟩
def a24 : AFunc := s24.af
theorem a24_ok : compileF Tryz.prog (lk (fmLk Tryz.prog Tryz.f24)) Tryz.f24 = some a24 := by kernel_rfl
def s27 : FmX Tryz.prog [] Tryz.f27 := ⟨_, by conv => lhs; reduce; dsimp only [fm_int, Int.ofNat_zero, Int.ofNat_one, Int.reduceNegSucc, Int.cast_ofNat_Int, fm_u8, UInt8.reduceOfNatLT]⟩
def a27 : AFunc := s27.af
theorem a27_ok : compileF Tryz.prog (lk (fmLk Tryz.prog Tryz.f27)) Tryz.f27 = some a27 := by kernel_rfl
def s30 : FmX Tryz.prog [] Tryz.f30 := ⟨_, by conv => lhs; reduce; dsimp only [fm_int, Int.ofNat_zero, Int.ofNat_one, Int.reduceNegSucc, Int.cast_ofNat_Int, fm_u8, UInt8.reduceOfNatLT]⟩
def a30 : AFunc := s30.af
theorem a30_ok : compileF Tryz.prog (lk (fmLk Tryz.prog Tryz.f30)) Tryz.f30 = some a30 := by kernel_rfl
def s33 : FmX Tryz.prog [] Tryz.f33 := ⟨_, by conv => lhs; reduce; dsimp only [fm_int, Int.ofNat_zero, Int.ofNat_one, Int.reduceNegSucc, Int.cast_ofNat_Int, fm_u8, UInt8.reduceOfNatLT]⟩
def a33 : AFunc := s33.af
theorem a33_ok : compileF Tryz.prog (lk (fmLk Tryz.prog Tryz.f33)) Tryz.f33 = some a33 := by kernel_rfl
def s36 : FmX Tryz.prog [] Tryz.f36 := ⟨_, by conv => lhs; reduce; dsimp only [fm_int, Int.ofNat_zero, Int.ofNat_one, Int.reduceNegSucc, Int.cast_ofNat_Int, fm_u8, UInt8.reduceOfNatLT]⟩
def a36 : AFunc := s36.af
theorem a36_ok : compileF Tryz.prog (lk (fmLk Tryz.prog Tryz.f36)) Tryz.f36 = some a36 := by kernel_rfl
def s39 : FmX Tryz.prog [] Tryz.f39 := ⟨_, by conv => lhs; reduce; dsimp only [fm_int, Int.ofNat_zero, Int.ofNat_one, Int.reduceNegSucc, Int.cast_ofNat_Int, fm_u8, UInt8.reduceOfNatLT]⟩
def a39 : AFunc := s39.af
theorem a39_ok : compileF Tryz.prog (lk (fmLk Tryz.prog Tryz.f39)) Tryz.f39 = some a39 := by kernel_rfl
def s42 : FmX Tryz.prog [] Tryz.f42 := ⟨_, by conv => lhs; reduce; dsimp only [fm_int, Int.ofNat_zero, Int.ofNat_one, Int.reduceNegSucc, Int.cast_ofNat_Int, fm_u8, UInt8.reduceOfNatLT]⟩
def a42 : AFunc := s42.af
theorem a42_ok : compileF Tryz.prog (lk (fmLk Tryz.prog Tryz.f42)) Tryz.f42 = some a42 := by kernel_rfl
def s45 : FmX Tryz.prog [] Tryz.f45 := ⟨_, by conv => lhs; reduce; dsimp only [fm_int, Int.ofNat_zero, Int.ofNat_one, Int.reduceNegSucc, Int.cast_ofNat_Int, fm_u8, UInt8.reduceOfNatLT]⟩
def a45 : AFunc := s45.af
theorem a45_ok : compileF Tryz.prog (lk (fmLk Tryz.prog Tryz.f45)) Tryz.f45 = some a45 := by kernel_rfl
def s48 : FmX Tryz.prog [] Tryz.f48 := ⟨_, by conv => lhs; reduce; dsimp only [fm_int, Int.ofNat_zero, Int.ofNat_one, Int.reduceNegSucc, Int.cast_ofNat_Int, fm_u8, UInt8.reduceOfNatLT]⟩
def a48 : AFunc := s48.af
theorem a48_ok : compileF Tryz.prog (lk (fmLk Tryz.prog Tryz.f48)) Tryz.f48 = some a48 := by kernel_rfl
def s51 : FmX Tryz.prog [] Tryz.f51 := ⟨_, by conv => lhs; reduce; dsimp only [fm_int, Int.ofNat_zero, Int.ofNat_one, Int.reduceNegSucc, Int.cast_ofNat_Int, fm_u8, UInt8.reduceOfNatLT]⟩
def a51 : AFunc := s51.af
theorem a51_ok : compileF Tryz.prog (lk (fmLk Tryz.prog Tryz.f51)) Tryz.f51 = some a51 := by kernel_rfl
def s54 : FmX Tryz.prog [] Tryz.f54 := ⟨_, by conv => lhs; reduce; dsimp only [fm_int, Int.ofNat_zero, Int.ofNat_one, Int.reduceNegSucc, Int.cast_ofNat_Int, fm_u8, UInt8.reduceOfNatLT]⟩
def a54 : AFunc := s54.af
theorem a54_ok : compileF Tryz.prog (lk (fmLk Tryz.prog Tryz.f54)) Tryz.f54 = some a54 := by kernel_rfl
def s57 : FmX Tryz.prog [] Tryz.f57 := ⟨_, by conv => lhs; reduce; dsimp only [fm_int, Int.ofNat_zero, Int.ofNat_one, Int.reduceNegSucc, Int.cast_ofNat_Int, fm_u8, UInt8.reduceOfNatLT]⟩
def a57 : AFunc := s57.af
theorem a57_ok : compileF Tryz.prog (lk (fmLk Tryz.prog Tryz.f57)) Tryz.f57 = some a57 := by kernel_rfl
def s60 : FmX Tryz.prog [] Tryz.f60 := ⟨_, by conv => lhs; reduce; dsimp only [fm_int, Int.ofNat_zero, Int.ofNat_one, Int.reduceNegSucc, Int.cast_ofNat_Int, fm_u8, UInt8.reduceOfNatLT]⟩
def a60 : AFunc := s60.af
theorem a60_ok : compileF Tryz.prog (lk (fmLk Tryz.prog Tryz.f60)) Tryz.f60 = some a60 := by kernel_rfl
def s63 : FmX Tryz.prog [] Tryz.f63 := ⟨_, by conv => lhs; reduce; dsimp only [fm_int, Int.ofNat_zero, Int.ofNat_one, Int.reduceNegSucc, Int.cast_ofNat_Int, fm_u8, UInt8.reduceOfNatLT]⟩
def a63 : AFunc := s63.af
theorem a63_ok : compileF Tryz.prog (lk (fmLk Tryz.prog Tryz.f63)) Tryz.f63 = some a63 := by kernel_rfl
def s66 : FmX Tryz.prog [] Tryz.f66 := ⟨_, by conv => lhs; reduce; dsimp only [fm_int, Int.ofNat_zero, Int.ofNat_one, Int.reduceNegSucc, Int.cast_ofNat_Int, fm_u8, UInt8.reduceOfNatLT]⟩
def a66 : AFunc := s66.af
theorem a66_ok : compileF Tryz.prog (lk (fmLk Tryz.prog Tryz.f66)) Tryz.f66 = some a66 := by kernel_rfl
def s69 : FmX Tryz.prog [] Tryz.f69 := ⟨_, by conv => lhs; reduce; dsimp only [fm_int, Int.ofNat_zero, Int.ofNat_one, Int.reduceNegSucc, Int.cast_ofNat_Int, fm_u8, UInt8.reduceOfNatLT]⟩
def a69 : AFunc := s69.af
theorem a69_ok : compileF Tryz.prog (lk (fmLk Tryz.prog Tryz.f69)) Tryz.f69 = some a69 := by kernel_rfl
def s72 : FmX Tryz.prog [] Tryz.f72 := ⟨_, by conv => lhs; reduce; dsimp only [fm_int, Int.ofNat_zero, Int.ofNat_one, Int.reduceNegSucc, Int.cast_ofNat_Int, fm_u8, UInt8.reduceOfNatLT]⟩
def a72 : AFunc := s72.af
theorem a72_ok : compileF Tryz.prog (lk (fmLk Tryz.prog Tryz.f72)) Tryz.f72 = some a72 := by kernel_rfl
def s75 : FmX Tryz.prog [] Tryz.f75 := ⟨_, by conv => lhs; reduce; dsimp only [fm_int, Int.ofNat_zero, Int.ofNat_one, Int.reduceNegSucc, Int.cast_ofNat_Int, fm_u8, UInt8.reduceOfNatLT]⟩
def a75 : AFunc := s75.af
theorem a75_ok : compileF Tryz.prog (lk (fmLk Tryz.prog Tryz.f75)) Tryz.f75 = some a75 := by kernel_rfl
def s78 : FmX Tryz.prog [] Tryz.f78 := ⟨_, by conv => lhs; reduce; dsimp only [fm_int, Int.ofNat_zero, Int.ofNat_one, Int.reduceNegSucc, Int.cast_ofNat_Int, fm_u8, UInt8.reduceOfNatLT]⟩
def a78 : AFunc := s78.af
theorem a78_ok : compileF Tryz.prog (lk (fmLk Tryz.prog Tryz.f78)) Tryz.f78 = some a78 := by kernel_rfl
def s81 : FmX Tryz.prog [] Tryz.f81 := ⟨_, by conv => lhs; reduce; dsimp only [fm_int, Int.ofNat_zero, Int.ofNat_one, Int.reduceNegSucc, Int.cast_ofNat_Int, fm_u8, UInt8.reduceOfNatLT]⟩
def a81 : AFunc := s81.af
theorem a81_ok : compileF Tryz.prog (lk (fmLk Tryz.prog Tryz.f81)) Tryz.f81 = some a81 := by kernel_rfl
def s84 : FmX Tryz.prog [] Tryz.f84 := ⟨_, by conv => lhs; reduce; dsimp only [fm_int, Int.ofNat_zero, Int.ofNat_one, Int.reduceNegSucc, Int.cast_ofNat_Int, fm_u8, UInt8.reduceOfNatLT]⟩
def a84 : AFunc := s84.af
theorem a84_ok : compileF Tryz.prog (lk (fmLk Tryz.prog Tryz.f84)) Tryz.f84 = some a84 := by kernel_rfl
def s87 : FmX Tryz.prog [] Tryz.f87 := ⟨_, by conv => lhs; reduce; dsimp only [fm_int, Int.ofNat_zero, Int.ofNat_one, Int.reduceNegSucc, Int.cast_ofNat_Int, fm_u8, UInt8.reduceOfNatLT]⟩
def a87 : AFunc := s87.af
theorem a87_ok : compileF Tryz.prog (lk (fmLk Tryz.prog Tryz.f87)) Tryz.f87 = some a87 := by kernel_rfl
def s90 : FmX Tryz.prog [] Tryz.f90 := ⟨_, by conv => lhs; reduce; dsimp only [fm_int, Int.ofNat_zero, Int.ofNat_one, Int.reduceNegSucc, Int.cast_ofNat_Int, fm_u8, UInt8.reduceOfNatLT]⟩
def a90 : AFunc := s90.af
theorem a90_ok : compileF Tryz.prog (lk (fmLk Tryz.prog Tryz.f90)) Tryz.f90 = some a90 := by kernel_rfl
def s93 : FmX Tryz.prog [] Tryz.f93 := ⟨_, by conv => lhs; reduce; dsimp only [fm_int, Int.ofNat_zero, Int.ofNat_one, Int.reduceNegSucc, Int.cast_ofNat_Int, fm_u8, UInt8.reduceOfNatLT]⟩
def a93 : AFunc := s93.af
theorem a93_ok : compileF Tryz.prog (lk (fmLk Tryz.prog Tryz.f93)) Tryz.f93 = some a93 := by kernel_rfl
def s96 : FmX Tryz.prog [] Tryz.f96 := ⟨_, by conv => lhs; reduce; dsimp only [fm_int, Int.ofNat_zero, Int.ofNat_one, Int.reduceNegSucc, Int.cast_ofNat_Int, fm_u8, UInt8.reduceOfNatLT]⟩
def a96 : AFunc := s96.af
theorem a96_ok : compileF Tryz.prog (lk (fmLk Tryz.prog Tryz.f96)) Tryz.f96 = some a96 := by kernel_rfl
def s99 : FmX Tryz.prog [] Tryz.f99 := ⟨_, by conv => lhs; reduce; dsimp only [fm_int, Int.ofNat_zero, Int.ofNat_one, Int.reduceNegSucc, Int.cast_ofNat_Int, fm_u8, UInt8.reduceOfNatLT]⟩
def a99 : AFunc := s99.af
theorem a99_ok : compileF Tryz.prog (lk (fmLk Tryz.prog Tryz.f99)) Tryz.f99 = some a99 := by kernel_rfl
def s102 : FmX Tryz.prog [] Tryz.f102 := ⟨_, by conv => lhs; reduce; dsimp only [fm_int, Int.ofNat_zero, Int.ofNat_one, Int.reduceNegSucc, Int.cast_ofNat_Int, fm_u8, UInt8.reduceOfNatLT]⟩
def a102 : AFunc := s102.af
theorem a102_ok : compileF Tryz.prog (lk (fmLk Tryz.prog Tryz.f102)) Tryz.f102 = some a102 := by kernel_rfl
def s105 : FmX Tryz.prog [] Tryz.f105 := ⟨_, by conv => lhs; reduce; dsimp only [fm_int, Int.ofNat_zero, Int.ofNat_one, Int.reduceNegSucc, Int.cast_ofNat_Int, fm_u8, UInt8.reduceOfNatLT]⟩
def a105 : AFunc := s105.af
theorem a105_ok : compileF Tryz.prog (lk (fmLk Tryz.prog Tryz.f105)) Tryz.f105 = some a105 := by kernel_rfl
def s108 : FmX Tryz.prog [] Tryz.f108 := ⟨_, by conv => lhs; reduce; dsimp only [fm_int, Int.ofNat_zero, Int.ofNat_one, Int.reduceNegSucc, Int.cast_ofNat_Int, fm_u8, UInt8.reduceOfNatLT]⟩
def a108 : AFunc := s108.af
theorem a108_ok : compileF Tryz.prog (lk (fmLk Tryz.prog Tryz.f108)) Tryz.f108 = some a108 := by kernel_rfl
def s111 : FmX Tryz.prog [] Tryz.f111 := ⟨_, by conv => lhs; reduce; dsimp only [fm_int, Int.ofNat_zero, Int.ofNat_one, Int.reduceNegSucc, Int.cast_ofNat_Int, fm_u8, UInt8.reduceOfNatLT]⟩
def a111 : AFunc := s111.af
theorem a111_ok : compileF Tryz.prog (lk (fmLk Tryz.prog Tryz.f111)) Tryz.f111 = some a111 := by kernel_rfl
def s114 : FmX Tryz.prog [] Tryz.f114 := ⟨_, by conv => lhs; reduce; dsimp only [fm_int, Int.ofNat_zero, Int.ofNat_one, Int.reduceNegSucc, Int.cast_ofNat_Int, fm_u8, UInt8.reduceOfNatLT]⟩
def a114 : AFunc := s114.af
theorem a114_ok : compileF Tryz.prog (lk (fmLk Tryz.prog Tryz.f114)) Tryz.f114 = some a114 := by kernel_rfl
def s117 : FmX Tryz.prog [] Tryz.f117 := ⟨_, by conv => lhs; reduce; dsimp only [fm_int, Int.ofNat_zero, Int.ofNat_one, Int.reduceNegSucc, Int.cast_ofNat_Int, fm_u8, UInt8.reduceOfNatLT]⟩
def a117 : AFunc := s117.af
theorem a117_ok : compileF Tryz.prog (lk (fmLk Tryz.prog Tryz.f117)) Tryz.f117 = some a117 := by kernel_rfl
def s120 : FmX Tryz.prog [] Tryz.f120 := ⟨_, by conv => lhs; reduce; dsimp only [fm_int, Int.ofNat_zero, Int.ofNat_one, Int.reduceNegSucc, Int.cast_ofNat_Int, fm_u8, UInt8.reduceOfNatLT]⟩
def a120 : AFunc := s120.af
theorem a120_ok : compileF Tryz.prog (lk (fmLk Tryz.prog Tryz.f120)) Tryz.f120 = some a120 := by kernel_rfl
def s123 : FmX Tryz.prog [] Tryz.f123 := ⟨_, by conv => lhs; reduce; dsimp only [fm_int, Int.ofNat_zero, Int.ofNat_one, Int.reduceNegSucc, Int.cast_ofNat_Int, fm_u8, UInt8.reduceOfNatLT]⟩
def a123 : AFunc := s123.af
theorem a123_ok : compileF Tryz.prog (lk (fmLk Tryz.prog Tryz.f123)) Tryz.f123 = some a123 := by kernel_rfl
def s126 : FmX Tryz.prog [] Tryz.f126 := ⟨_, by conv => lhs; reduce; dsimp only [fm_int, Int.ofNat_zero, Int.ofNat_one, Int.reduceNegSucc, Int.cast_ofNat_Int, fm_u8, UInt8.reduceOfNatLT]⟩
def a126 : AFunc := s126.af
theorem a126_ok : compileF Tryz.prog (lk (fmLk Tryz.prog Tryz.f126)) Tryz.f126 = some a126 := by kernel_rfl
def s130 : FmX Tryz.prog [] Tryz.f130 := ⟨_, by conv => lhs; reduce; dsimp only [fm_int, Int.ofNat_zero, Int.ofNat_one, Int.reduceNegSucc, Int.cast_ofNat_Int, fm_u8, UInt8.reduceOfNatLT]⟩
def a130 : AFunc := s130.af
theorem a130_ok : compileF Tryz.prog (lk (fmLk Tryz.prog Tryz.f130)) Tryz.f130 = some a130 := by kernel_rfl
def s133 : FmX Tryz.prog [] Tryz.f133 := ⟨_, by conv => lhs; reduce; dsimp only [fm_int, Int.ofNat_zero, Int.ofNat_one, Int.reduceNegSucc, Int.cast_ofNat_Int, fm_u8, UInt8.reduceOfNatLT]⟩
def a133 : AFunc := s133.af
theorem a133_ok : compileF Tryz.prog (lk (fmLk Tryz.prog Tryz.f133)) Tryz.f133 = some a133 := by kernel_rfl
def s136 : FmX Tryz.prog [] Tryz.f136 := ⟨_, by conv => lhs; reduce; dsimp only [fm_int, Int.ofNat_zero, Int.ofNat_one, Int.reduceNegSucc, Int.cast_ofNat_Int, fm_u8, UInt8.reduceOfNatLT]⟩
def a136 : AFunc := s136.af
theorem a136_ok : compileF Tryz.prog (lk (fmLk Tryz.prog Tryz.f136)) Tryz.f136 = some a136 := by kernel_rfl
def s139 : FmX Tryz.prog [] Tryz.f139 := ⟨_, by conv => lhs; reduce; dsimp only [fm_int, Int.ofNat_zero, Int.ofNat_one, Int.reduceNegSucc, Int.cast_ofNat_Int, fm_u8, UInt8.reduceOfNatLT]⟩
def a139 : AFunc := s139.af
theorem a139_ok : compileF Tryz.prog (lk (fmLk Tryz.prog Tryz.f139)) Tryz.f139 = some a139 := by kernel_rfl
def s142 : FmX Tryz.prog [] Tryz.f142 := ⟨_, by conv => lhs; reduce; dsimp only [fm_int, Int.ofNat_zero, Int.ofNat_one, Int.reduceNegSucc, Int.cast_ofNat_Int, fm_u8, UInt8.reduceOfNatLT]⟩
def a142 : AFunc := s142.af
theorem a142_ok : compileF Tryz.prog (lk (fmLk Tryz.prog Tryz.f142)) Tryz.f142 = some a142 := by kernel_rfl
def s145 : FmX Tryz.prog [] Tryz.f145 := ⟨_, by conv => lhs; reduce; dsimp only [fm_int, Int.ofNat_zero, Int.ofNat_one, Int.reduceNegSucc, Int.cast_ofNat_Int, fm_u8, UInt8.reduceOfNatLT]⟩
def a145 : AFunc := s145.af
theorem a145_ok : compileF Tryz.prog (lk (fmLk Tryz.prog Tryz.f145)) Tryz.f145 = some a145 := by kernel_rfl
def s148 : FmX Tryz.prog [] Tryz.f148 := ⟨_, by conv => lhs; reduce; dsimp only [fm_int, Int.ofNat_zero, Int.ofNat_one, Int.reduceNegSucc, Int.cast_ofNat_Int, fm_u8, UInt8.reduceOfNatLT]⟩
def a148 : AFunc := s148.af
theorem a148_ok : compileF Tryz.prog (lk (fmLk Tryz.prog Tryz.f148)) Tryz.f148 = some a148 := by kernel_rfl
def s151 : FmX Tryz.prog [] Tryz.f151 := ⟨_, by conv => lhs; reduce; dsimp only [fm_int, Int.ofNat_zero, Int.ofNat_one, Int.reduceNegSucc, Int.cast_ofNat_Int, fm_u8, UInt8.reduceOfNatLT]⟩
def a151 : AFunc := s151.af
theorem a151_ok : compileF Tryz.prog (lk (fmLk Tryz.prog Tryz.f151)) Tryz.f151 = some a151 := by kernel_rfl
def s154 : FmX Tryz.prog [] Tryz.f154 := ⟨_, by conv => lhs; reduce; dsimp only [fm_int, Int.ofNat_zero, Int.ofNat_one, Int.reduceNegSucc, Int.cast_ofNat_Int, fm_u8, UInt8.reduceOfNatLT]⟩
def a154 : AFunc := s154.af
theorem a154_ok : compileF Tryz.prog (lk (fmLk Tryz.prog Tryz.f154)) Tryz.f154 = some a154 := by kernel_rfl
def s157 : FmX Tryz.prog [] Tryz.f157 := ⟨_, by conv => lhs; reduce; dsimp only [fm_int, Int.ofNat_zero, Int.ofNat_one, Int.reduceNegSucc, Int.cast_ofNat_Int, fm_u8, UInt8.reduceOfNatLT]⟩
def a157 : AFunc := s157.af
theorem a157_ok : compileF Tryz.prog (lk (fmLk Tryz.prog Tryz.f157)) Tryz.f157 = some a157 := by kernel_rfl
def s160 : FmX Tryz.prog [] Tryz.f160 := ⟨_, by conv => lhs; reduce; dsimp only [fm_int, Int.ofNat_zero, Int.ofNat_one, Int.reduceNegSucc, Int.cast_ofNat_Int, fm_u8, UInt8.reduceOfNatLT]⟩
def a160 : AFunc := s160.af
theorem a160_ok : compileF Tryz.prog (lk (fmLk Tryz.prog Tryz.f160)) Tryz.f160 = some a160 := by kernel_rfl
def s163 : FmX Tryz.prog [] Tryz.f163 := ⟨_, by conv => lhs; reduce; dsimp only [fm_int, Int.ofNat_zero, Int.ofNat_one, Int.reduceNegSucc, Int.cast_ofNat_Int, fm_u8, UInt8.reduceOfNatLT]⟩
def a163 : AFunc := s163.af
theorem a163_ok : compileF Tryz.prog (lk (fmLk Tryz.prog Tryz.f163)) Tryz.f163 = some a163 := by kernel_rfl
def s166 : FmX Tryz.prog [] Tryz.f166 := ⟨_, by conv => lhs; reduce; dsimp only [fm_int, Int.ofNat_zero, Int.ofNat_one, Int.reduceNegSucc, Int.cast_ofNat_Int, fm_u8, UInt8.reduceOfNatLT]⟩
def a166 : AFunc := s166.af
theorem a166_ok : compileF Tryz.prog (lk (fmLk Tryz.prog Tryz.f166)) Tryz.f166 = some a166 := by kernel_rfl
def s170 : FmX Tryz.prog [] Tryz.f170 := ⟨_, by conv => lhs; reduce; dsimp only [fm_int, Int.ofNat_zero, Int.ofNat_one, Int.reduceNegSucc, Int.cast_ofNat_Int, fm_u8, UInt8.reduceOfNatLT]⟩
def a170 : AFunc := s170.af
theorem a170_ok : compileF Tryz.prog (lk (fmLk Tryz.prog Tryz.f170)) Tryz.f170 = some a170 := by kernel_rfl
def s173 : FmX Tryz.prog [] Tryz.f173 := ⟨_, by conv => lhs; reduce; dsimp only [fm_int, Int.ofNat_zero, Int.ofNat_one, Int.reduceNegSucc, Int.cast_ofNat_Int, fm_u8, UInt8.reduceOfNatLT]⟩
def a173 : AFunc := s173.af
theorem a173_ok : compileF Tryz.prog (lk (fmLk Tryz.prog Tryz.f173)) Tryz.f173 = some a173 := by kernel_rfl
def s176 : FmX Tryz.prog [] Tryz.f176 := ⟨_, by conv => lhs; reduce; dsimp only [fm_int, Int.ofNat_zero, Int.ofNat_one, Int.reduceNegSucc, Int.cast_ofNat_Int, fm_u8, UInt8.reduceOfNatLT]⟩
def a176 : AFunc := s176.af
theorem a176_ok : compileF Tryz.prog (lk (fmLk Tryz.prog Tryz.f176)) Tryz.f176 = some a176 := by kernel_rfl
def s179 : FmX Tryz.prog [] Tryz.f179 := ⟨_, by conv => lhs; reduce; dsimp only [fm_int, Int.ofNat_zero, Int.ofNat_one, Int.reduceNegSucc, Int.cast_ofNat_Int, fm_u8, UInt8.reduceOfNatLT]⟩
def a179 : AFunc := s179.af
theorem a179_ok : compileF Tryz.prog (lk (fmLk Tryz.prog Tryz.f179)) Tryz.f179 = some a179 := by kernel_rfl
def s182 : FmX Tryz.prog [] Tryz.f182 := ⟨_, by conv => lhs; reduce; dsimp only [fm_int, Int.ofNat_zero, Int.ofNat_one, Int.reduceNegSucc, Int.cast_ofNat_Int, fm_u8, UInt8.reduceOfNatLT]⟩
def a182 : AFunc := s182.af
theorem a182_ok : compileF Tryz.prog (lk (fmLk Tryz.prog Tryz.f182)) Tryz.f182 = some a182 := by kernel_rfl
def s185 : FmX Tryz.prog [] Tryz.f185 := ⟨_, by conv => lhs; reduce; dsimp only [fm_int, Int.ofNat_zero, Int.ofNat_one, Int.reduceNegSucc, Int.cast_ofNat_Int, fm_u8, UInt8.reduceOfNatLT]⟩
def a185 : AFunc := s185.af
theorem a185_ok : compileF Tryz.prog (lk (fmLk Tryz.prog Tryz.f185)) Tryz.f185 = some a185 := by kernel_rfl
def s188 : FmX Tryz.prog [] Tryz.f188 := ⟨_, by conv => lhs; reduce; dsimp only [fm_int, Int.ofNat_zero, Int.ofNat_one, Int.reduceNegSucc, Int.cast_ofNat_Int, fm_u8, UInt8.reduceOfNatLT]⟩
def a188 : AFunc := s188.af
theorem a188_ok : compileF Tryz.prog (lk (fmLk Tryz.prog Tryz.f188)) Tryz.f188 = some a188 := by kernel_rfl
def s192 : FmX Tryz.prog [] Tryz.f192 := ⟨_, by conv => lhs; reduce; dsimp only [fm_int, Int.ofNat_zero, Int.ofNat_one, Int.reduceNegSucc, Int.cast_ofNat_Int, fm_u8, UInt8.reduceOfNatLT]⟩
def a192 : AFunc := s192.af
theorem a192_ok : compileF Tryz.prog (lk (fmLk Tryz.prog Tryz.f192)) Tryz.f192 = some a192 := by kernel_rfl
def s195 : FmX Tryz.prog [] Tryz.f195 := ⟨_, by conv => lhs; reduce; dsimp only [fm_int, Int.ofNat_zero, Int.ofNat_one, Int.reduceNegSucc, Int.cast_ofNat_Int, fm_u8, UInt8.reduceOfNatLT]⟩
def a195 : AFunc := s195.af
theorem a195_ok : compileF Tryz.prog (lk (fmLk Tryz.prog Tryz.f195)) Tryz.f195 = some a195 := by kernel_rfl
def s198 : FmX Tryz.prog [] Tryz.f198 := ⟨_, by conv => lhs; reduce; dsimp only [fm_int, Int.ofNat_zero, Int.ofNat_one, Int.reduceNegSucc, Int.cast_ofNat_Int, fm_u8, UInt8.reduceOfNatLT]⟩
def a198 : AFunc := s198.af
theorem a198_ok : compileF Tryz.prog (lk (fmLk Tryz.prog Tryz.f198)) Tryz.f198 = some a198 := by kernel_rfl
def s201 : FmX Tryz.prog [] Tryz.f201 := ⟨_, by conv => lhs; reduce; dsimp only [fm_int, Int.ofNat_zero, Int.ofNat_one, Int.reduceNegSucc, Int.cast_ofNat_Int, fm_u8, UInt8.reduceOfNatLT]⟩
def a201 : AFunc := s201.af
theorem a201_ok : compileF Tryz.prog (lk (fmLk Tryz.prog Tryz.f201)) Tryz.f201 = some a201 := by kernel_rfl
def s205 : FmX Tryz.prog [] Tryz.f205 := ⟨_, by conv => lhs; reduce; dsimp only [fm_int, Int.ofNat_zero, Int.ofNat_one, Int.reduceNegSucc, Int.cast_ofNat_Int, fm_u8, UInt8.reduceOfNatLT]⟩
def a205 : AFunc := s205.af
theorem a205_ok : compileF Tryz.prog (lk (fmLk Tryz.prog Tryz.f205)) Tryz.f205 = some a205 := by kernel_rfl
def s209 : FmX Tryz.prog [] Tryz.f209 := ⟨_, by conv => lhs; reduce; dsimp only [fm_int, Int.ofNat_zero, Int.ofNat_one, Int.reduceNegSucc, Int.cast_ofNat_Int, fm_u8, UInt8.reduceOfNatLT]⟩
def a209 : AFunc := s209.af
theorem a209_ok : compileF Tryz.prog (lk (fmLk Tryz.prog Tryz.f209)) Tryz.f209 = some a209 := by kernel_rfl
def s213 : FmX Tryz.prog [] Tryz.f213 := ⟨_, by conv => lhs; reduce; dsimp only [fm_int, Int.ofNat_zero, Int.ofNat_one, Int.reduceNegSucc, Int.cast_ofNat_Int, fm_u8, UInt8.reduceOfNatLT]⟩
def a213 : AFunc := s213.af
theorem a213_ok : compileF Tryz.prog (lk (fmLk Tryz.prog Tryz.f213)) Tryz.f213 = some a213 := by kernel_rfl
def s216 : FmX Tryz.prog [] Tryz.f216 := ⟨_, by conv => lhs; reduce; dsimp only [fm_int, Int.ofNat_zero, Int.ofNat_one, Int.reduceNegSucc, Int.cast_ofNat_Int, fm_u8, UInt8.reduceOfNatLT]⟩
def a216 : AFunc := s216.af
theorem a216_ok : compileF Tryz.prog (lk (fmLk Tryz.prog Tryz.f216)) Tryz.f216 = some a216 := by kernel_rfl
def s219 : FmX Tryz.prog [] Tryz.f219 := ⟨_, by conv => lhs; reduce; dsimp only [fm_int, Int.ofNat_zero, Int.ofNat_one, Int.reduceNegSucc, Int.cast_ofNat_Int, fm_u8, UInt8.reduceOfNatLT]⟩
def a219 : AFunc := s219.af
theorem a219_ok : compileF Tryz.prog (lk (fmLk Tryz.prog Tryz.f219)) Tryz.f219 = some a219 := by kernel_rfl
def s222 : FmX Tryz.prog [] Tryz.f222 := ⟨_, by conv => lhs; reduce; dsimp only [fm_int, Int.ofNat_zero, Int.ofNat_one, Int.reduceNegSucc, Int.cast_ofNat_Int, fm_u8, UInt8.reduceOfNatLT]⟩
def a222 : AFunc := s222.af
theorem a222_ok : compileF Tryz.prog (lk (fmLk Tryz.prog Tryz.f222)) Tryz.f222 = some a222 := by kernel_rfl
def s225 : FmX Tryz.prog [] Tryz.f225 := ⟨_, by conv => lhs; reduce; dsimp only [fm_int, Int.ofNat_zero, Int.ofNat_one, Int.reduceNegSucc, Int.cast_ofNat_Int, fm_u8, UInt8.reduceOfNatLT]⟩
def a225 : AFunc := s225.af
theorem a225_ok : compileF Tryz.prog (lk (fmLk Tryz.prog Tryz.f225)) Tryz.f225 = some a225 := by kernel_rfl
def s228 : FmX Tryz.prog [] Tryz.f228 := ⟨_, by conv => lhs; reduce; dsimp only [fm_int, Int.ofNat_zero, Int.ofNat_one, Int.reduceNegSucc, Int.cast_ofNat_Int, fm_u8, UInt8.reduceOfNatLT]⟩
def a228 : AFunc := s228.af
theorem a228_ok : compileF Tryz.prog (lk (fmLk Tryz.prog Tryz.f228)) Tryz.f228 = some a228 := by kernel_rfl
def s231 : FmX Tryz.prog [] Tryz.f231 := ⟨_, by conv => lhs; reduce; dsimp only [fm_int, Int.ofNat_zero, Int.ofNat_one, Int.reduceNegSucc, Int.cast_ofNat_Int, fm_u8, UInt8.reduceOfNatLT]⟩
def a231 : AFunc := s231.af
theorem a231_ok : compileF Tryz.prog (lk (fmLk Tryz.prog Tryz.f231)) Tryz.f231 = some a231 := by kernel_rfl
def s241 : FmX Tryz.prog [] Tryz.f241 := ⟨_, by conv => lhs; reduce; dsimp only [fm_int, Int.ofNat_zero, Int.ofNat_one, Int.reduceNegSucc, Int.cast_ofNat_Int, fm_u8, UInt8.reduceOfNatLT]⟩
def a241 : AFunc := s241.af
theorem a241_ok : compileF Tryz.prog (lk (fmLk Tryz.prog Tryz.f241)) Tryz.f241 = some a241 := by kernel_rfl
def s244 : FmX Tryz.prog [] Tryz.f244 := ⟨_, by conv => lhs; reduce; dsimp only [fm_int, Int.ofNat_zero, Int.ofNat_one, Int.reduceNegSucc, Int.cast_ofNat_Int, fm_u8, UInt8.reduceOfNatLT]⟩
def a244 : AFunc := s244.af
theorem a244_ok : compileF Tryz.prog (lk (fmLk Tryz.prog Tryz.f244)) Tryz.f244 = some a244 := by kernel_rfl
def s247 : FmX Tryz.prog [] Tryz.f247 := ⟨_, by conv => lhs; reduce; dsimp only [fm_int, Int.ofNat_zero, Int.ofNat_one, Int.reduceNegSucc, Int.cast_ofNat_Int, fm_u8, UInt8.reduceOfNatLT]⟩
def a247 : AFunc := s247.af
theorem a247_ok : compileF Tryz.prog (lk (fmLk Tryz.prog Tryz.f247)) Tryz.f247 = some a247 := by kernel_rfl
def s251 : FmX Tryz.prog [] Tryz.f251 := ⟨_, by conv => lhs; reduce; dsimp only [fm_int, Int.ofNat_zero, Int.ofNat_one, Int.reduceNegSucc, Int.cast_ofNat_Int, fm_u8, UInt8.reduceOfNatLT]⟩
def a251 : AFunc := s251.af
theorem a251_ok : compileF Tryz.prog (lk (fmLk Tryz.prog Tryz.f251)) Tryz.f251 = some a251 := by kernel_rfl
def s254 : FmX Tryz.prog [] Tryz.f254 := ⟨_, by conv => lhs; reduce; dsimp only [fm_int, Int.ofNat_zero, Int.ofNat_one, Int.reduceNegSucc, Int.cast_ofNat_Int, fm_u8, UInt8.reduceOfNatLT]⟩
def a254 : AFunc := s254.af
theorem a254_ok : compileF Tryz.prog (lk (fmLk Tryz.prog Tryz.f254)) Tryz.f254 = some a254 := by kernel_rfl
def s257 : FmX Tryz.prog [] Tryz.f257 := ⟨_, by conv => lhs; reduce; dsimp only [fm_int, Int.ofNat_zero, Int.ofNat_one, Int.reduceNegSucc, Int.cast_ofNat_Int, fm_u8, UInt8.reduceOfNatLT]⟩
def a257 : AFunc := s257.af
theorem a257_ok : compileF Tryz.prog (lk (fmLk Tryz.prog Tryz.f257)) Tryz.f257 = some a257 := by kernel_rfl
def s260 : FmX Tryz.prog [] Tryz.f260 := ⟨_, by conv => lhs; reduce; dsimp only [fm_int, Int.ofNat_zero, Int.ofNat_one, Int.reduceNegSucc, Int.cast_ofNat_Int, fm_u8, UInt8.reduceOfNatLT]⟩
def a260 : AFunc := s260.af
theorem a260_ok : compileF Tryz.prog (lk (fmLk Tryz.prog Tryz.f260)) Tryz.f260 = some a260 := by kernel_rfl
def s269 : FmX Tryz.prog [] Tryz.f269 := ⟨_, by conv => lhs; reduce; dsimp only [fm_int, Int.ofNat_zero, Int.ofNat_one, Int.reduceNegSucc, Int.cast_ofNat_Int, fm_u8, UInt8.reduceOfNatLT]⟩
def a269 : AFunc := s269.af
theorem a269_ok : compileF Tryz.prog (lk (fmLk Tryz.prog Tryz.f269)) Tryz.f269 = some a269 := by kernel_rfl
def s274 : FmX Tryz.prog [] Tryz.f274 := ⟨_, by conv => lhs; reduce; dsimp only [fm_int, Int.ofNat_zero, Int.ofNat_one, Int.reduceNegSucc, Int.cast_ofNat_Int, fm_u8, UInt8.reduceOfNatLT]⟩
def a274 : AFunc := s274.af
theorem a274_ok : compileF Tryz.prog (lk (fmLk Tryz.prog Tryz.f274)) Tryz.f274 = some a274 := by kernel_rfl
def s284 : FmX Tryz.prog [] Tryz.f284 := ⟨_, by conv => lhs; reduce; dsimp only [fm_int, Int.ofNat_zero, Int.ofNat_one, Int.reduceNegSucc, Int.cast_ofNat_Int, fm_u8, UInt8.reduceOfNatLT]⟩
def a284 : AFunc := s284.af
theorem a284_ok : compileF Tryz.prog (lk (fmLk Tryz.prog Tryz.f284)) Tryz.f284 = some a284 := by kernel_rfl
def s287 : FmX Tryz.prog [] Tryz.f287 := ⟨_, by conv => lhs; reduce; dsimp only [fm_int, Int.ofNat_zero, Int.ofNat_one, Int.reduceNegSucc, Int.cast_ofNat_Int, fm_u8, UInt8.reduceOfNatLT]⟩
def a287 : AFunc := s287.af
theorem a287_ok : compileF Tryz.prog (lk (fmLk Tryz.prog Tryz.f287)) Tryz.f287 = some a287 := by kernel_rfl
def s295 : FmX Tryz.prog [] Tryz.f295 := ⟨_, by conv => lhs; reduce; dsimp only [fm_int, Int.ofNat_zero, Int.ofNat_one, Int.reduceNegSucc, Int.cast_ofNat_Int, fm_u8, UInt8.reduceOfNatLT]⟩
def a295 : AFunc := s295.af
theorem a295_ok : compileF Tryz.prog (lk (fmLk Tryz.prog Tryz.f295)) Tryz.f295 = some a295 := by kernel_rfl
def s312 : FmX Tryz.prog [] Tryz.f312 := ⟨_, by conv => lhs; reduce; dsimp only [fm_int, Int.ofNat_zero, Int.ofNat_one, Int.reduceNegSucc, Int.cast_ofNat_Int, fm_u8, UInt8.reduceOfNatLT]⟩
def a312 : AFunc := s312.af
theorem a312_ok : compileF Tryz.prog (lk (fmLk Tryz.prog Tryz.f312)) Tryz.f312 = some a312 := by kernel_rfl
def s322 : FmX Tryz.prog [] Tryz.f322 := ⟨_, by conv => lhs; reduce; dsimp only [fm_int, Int.ofNat_zero, Int.ofNat_one, Int.reduceNegSucc, Int.cast_ofNat_Int, fm_u8, UInt8.reduceOfNatLT]⟩
def a322 : AFunc := s322.af
theorem a322_ok : compileF Tryz.prog (lk (fmLk Tryz.prog Tryz.f322)) Tryz.f322 = some a322 := by kernel_rfl
def s325 : FmX Tryz.prog [] Tryz.f325 := ⟨_, by conv => lhs; reduce; dsimp only [fm_int, Int.ofNat_zero, Int.ofNat_one, Int.reduceNegSucc, Int.cast_ofNat_Int, fm_u8, UInt8.reduceOfNatLT]⟩
def a325 : AFunc := s325.af
theorem a325_ok : compileF Tryz.prog (lk (fmLk Tryz.prog Tryz.f325)) Tryz.f325 = some a325 := by kernel_rfl
def s338 : FmX Tryz.prog [] Tryz.f338 := ⟨_, by conv => lhs; reduce; dsimp only [fm_int, Int.ofNat_zero, Int.ofNat_one, Int.reduceNegSucc, Int.cast_ofNat_Int, fm_u8, UInt8.reduceOfNatLT]⟩
def a338 : AFunc := s338.af
theorem a338_ok : compileF Tryz.prog (lk (fmLk Tryz.prog Tryz.f338)) Tryz.f338 = some a338 := by kernel_rfl
def s358 : FmX Tryz.prog [] Tryz.f358 := ⟨_, by conv => lhs; reduce; dsimp only [fm_int, Int.ofNat_zero, Int.ofNat_one, Int.reduceNegSucc, Int.cast_ofNat_Int, fm_u8, UInt8.reduceOfNatLT]⟩
def a358 : AFunc := s358.af
theorem a358_ok : compileF Tryz.prog (lk (fmLk Tryz.prog Tryz.f358)) Tryz.f358 = some a358 := by kernel_rfl
def s361 : FmX Tryz.prog [] Tryz.f361 := ⟨_, by conv => lhs; reduce; dsimp only [fm_int, Int.ofNat_zero, Int.ofNat_one, Int.reduceNegSucc, Int.cast_ofNat_Int, fm_u8, UInt8.reduceOfNatLT]⟩
def a361 : AFunc := s361.af
theorem a361_ok : compileF Tryz.prog (lk (fmLk Tryz.prog Tryz.f361)) Tryz.f361 = some a361 := by kernel_rfl
def s369 : FmX Tryz.prog [] Tryz.f369 := ⟨_, by conv => lhs; reduce; dsimp only [fm_int, Int.ofNat_zero, Int.ofNat_one, Int.reduceNegSucc, Int.cast_ofNat_Int, fm_u8, UInt8.reduceOfNatLT]⟩
def a369 : AFunc := s369.af
theorem a369_ok : compileF Tryz.prog (lk (fmLk Tryz.prog Tryz.f369)) Tryz.f369 = some a369 := by kernel_rfl
def s372 : FmX Tryz.prog [] Tryz.f372 := ⟨_, by conv => lhs; reduce; dsimp only [fm_int, Int.ofNat_zero, Int.ofNat_one, Int.reduceNegSucc, Int.cast_ofNat_Int, fm_u8, UInt8.reduceOfNatLT]⟩
def a372 : AFunc := s372.af
theorem a372_ok : compileF Tryz.prog (lk (fmLk Tryz.prog Tryz.f372)) Tryz.f372 = some a372 := by kernel_rfl
end Go.Proofs.YtpincjkjoeopkaaGreatDoor
