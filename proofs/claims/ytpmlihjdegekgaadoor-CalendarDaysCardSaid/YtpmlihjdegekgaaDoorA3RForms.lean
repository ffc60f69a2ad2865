/- The abstract forms of the functions, printed by a program, and that the given program has these forms. -/
import Derived.Test.YtpmlihjdegekgaaDoorAbsMd
import Derived.Test.YtpmlihjdegekgaaDoorProg
import Derived.KernelRfl
set_option linter.unusedSimpArgs false
set_option linter.unusedVariables false
set_option linter.unusedSectionVars false
namespace Go.Proofs.YtpmlihjdegekgaaDoor
open Go Go.Abs
/- payroll/payrollref3.Day -/
def a23r0 : List IOp := [⟨some 6, .mv, [.c (.int .i64 0)], none⟩,
  ⟨some 7, .mv, [.c (.bool false)], none⟩]
def a23r1 : List IOp := [⟨some 8, .mv, [.t 0], none⟩,
  ⟨some 9, .call 49, [.t 8], none⟩,
  ⟨some 10, .not, [.t 9], none⟩,
  ⟨some 11, .mv, [.t 10], none⟩,
  ⟨some 12, .mv, [.t 1], some (11, false)⟩,
  ⟨some 13, .bin .lss, [.t 12, .c (.int .i64 1)], some (11, false)⟩,
  ⟨some 14, .pick, [.t 11, .c (.bool true), .t 13], none⟩,
  ⟨some 15, .mv, [.t 14], none⟩,
  ⟨some 16, .mv, [.t 1], some (15, false)⟩,
  ⟨some 17, .bin .gtr, [.t 16, .c (.int .i64 12)], some (15, false)⟩,
  ⟨some 18, .pick, [.t 15, .c (.bool true), .t 17], none⟩,
  ⟨some 19, .mv, [.t 18], none⟩,
  ⟨some 20, .mv, [.t 2], some (19, false)⟩,
  ⟨some 21, .bin .lss, [.t 20, .c (.int .i64 1)], some (19, false)⟩,
  ⟨some 22, .pick, [.t 19, .c (.bool true), .t 21], none⟩,
  ⟨some 23, .mv, [.t 22], none⟩,
  ⟨some 24, .mv, [.t 2], some (23, false)⟩,
  ⟨some 25, .mv, [.t 0], some (23, false)⟩,
  ⟨some 26, .mv, [.t 1], some (23, false)⟩,
  ⟨some 27, .call 54, [.t 25, .t 26], some (23, false)⟩,
  ⟨some 28, .bin .gtr, [.t 24, .t 27], some (23, false)⟩,
  ⟨some 29, .pick, [.t 23, .c (.bool true), .t 28], none⟩]
def a23r2 : List IOp := [⟨some 6, .mv, [.c (.int .i64 0)], none⟩,
  ⟨some 7, .mv, [.c (.bool false)], none⟩]
def a23r3 : List IOp := [⟨some 30, .mv, [.t 0], none⟩,
  ⟨some 31, .mv, [.t 1], none⟩,
  ⟨some 32, .mv, [.t 2], none⟩,
  ⟨some 33, .call 55, [.t 30, .t 31, .t 32], none⟩,
  ⟨some 6, .mv, [.t 33], none⟩,
  ⟨some 7, .mv, [.c (.bool true)], none⟩]
def a23 : AFunc := ⟨34, [.tmp 6, .tmp 7], (.seq (.region a23r0 [0, 1, 2]) (.seq (.seq (.region a23r1 [0, 1, 2, 29]) (.cond (.t 29) (.seq (.region a23r2 [6, 7]) .ret) .skip)) (.seq (.region a23r3 [6, 7]) .ret)))⟩
theorem a23_ok : compileF Tryd.prog (lk [(0, ⟨[0, 1, 2], [], []⟩), (1, ⟨[0, 1, 2, 29], [], []⟩), (2, ⟨[6, 7], [], []⟩), (3, ⟨[6, 7], [], []⟩)]) Tryd.f23 = some a23 := by kernel_rfl

/- payroll/payrollref3.Date -/
def a25r0 : List IOp := [⟨some 2, .mv, [.c (.int .i64 0)], none⟩,
  ⟨some 3, .mv, [.c (.int .i64 0)], none⟩,
  ⟨some 4, .mv, [.c (.int .i64 0)], none⟩,
  ⟨some 5, .mv, [.c (.bool false)], none⟩]
def a25r1 : List IOp := [⟨some 9, .mv, [.t 0], none⟩,
  ⟨some 10, .call 59, [.t 9], none⟩,
  ⟨some 11, .not, [.t 10], none⟩]
def a25r2 : List IOp := [⟨some 2, .mv, [.c (.int .i64 0)], none⟩,
  ⟨some 3, .mv, [.c (.int .i64 0)], none⟩,
  ⟨some 4, .mv, [.c (.int .i64 0)], none⟩,
  ⟨some 5, .mv, [.c (.bool false)], none⟩]
def a25r3 : List IOp := [⟨some 12, .mv, [.t 0], none⟩,
  ⟨some 13, .bin .quo, [.t 12, .c (.int .i64 366)], none⟩,
  ⟨some 14, .bin .add, [.c (.int .i64 1970), .t 13], none⟩,
  ⟨some 6, .mv, [.t 14], none⟩]
def a25r4 : List IOp := [⟨some 15, .mv, [.t 6], none⟩,
  ⟨some 16, .bin .add, [.t 15, .c (.int .i64 1)], none⟩,
  ⟨some 17, .call 60, [.t 16], none⟩,
  ⟨some 18, .mv, [.t 0], none⟩,
  ⟨some 19, .bin .leq, [.t 17, .t 18], none⟩]
def a25r5 : List IOp := [⟨some 20, .mv, [.t 6], none⟩,
  ⟨some 21, .bin .add, [.t 20, .c (.int .i64 1)], none⟩,
  ⟨some 6, .mv, [.t 21], none⟩]
def a25r6 : List IOp := [⟨some 22, .mv, [.t 0], none⟩,
  ⟨some 23, .mv, [.t 6], none⟩,
  ⟨some 24, .call 60, [.t 23], none⟩,
  ⟨some 25, .bin .sub, [.t 22, .t 24], none⟩,
  ⟨some 7, .mv, [.t 25], none⟩]
def a25r7 : List IOp := [⟨some 8, .mv, [.c (.int .i64 1)], none⟩]
def a25r8 : List IOp := [⟨some 26, .mv, [.t 7], none⟩,
  ⟨some 27, .mv, [.t 6], none⟩,
  ⟨some 28, .mv, [.t 8], none⟩,
  ⟨some 29, .call 54, [.t 27, .t 28], none⟩,
  ⟨some 30, .bin .geq, [.t 26, .t 29], none⟩]
def a25r9 : List IOp := [⟨some 31, .mv, [.t 7], none⟩,
  ⟨some 32, .mv, [.t 6], none⟩,
  ⟨some 33, .mv, [.t 8], none⟩,
  ⟨some 34, .call 54, [.t 32, .t 33], none⟩,
  ⟨some 35, .bin .sub, [.t 31, .t 34], none⟩,
  ⟨some 7, .mv, [.t 35], none⟩]
def a25r10 : List IOp := [⟨some 36, .mv, [.t 8], none⟩,
  ⟨some 37, .bin .add, [.t 36, .c (.int .i64 1)], none⟩,
  ⟨some 8, .mv, [.t 37], none⟩]
def a25r11 : List IOp := [⟨some 38, .mv, [.t 6], none⟩,
  ⟨some 39, .mv, [.t 8], none⟩,
  ⟨some 40, .mv, [.t 7], none⟩,
  ⟨some 41, .bin .add, [.t 40, .c (.int .i64 1)], none⟩,
  ⟨some 2, .mv, [.t 38], none⟩,
  ⟨some 3, .mv, [.t 39], none⟩,
  ⟨some 4, .mv, [.t 41], none⟩,
  ⟨some 5, .mv, [.c (.bool true)], none⟩]
def a25 : AFunc := ⟨42, [.tmp 2, .tmp 3, .tmp 4, .tmp 5], (.seq (.region a25r0 [0]) (.seq (.seq (.region a25r1 [0, 11]) (.cond (.t 11) (.seq (.region a25r2 [2, 3, 4, 5]) .ret) .skip)) (.seq (.region a25r3 [0, 6]) (.seq (.block 0 (.loop (.seq (.seq (.region a25r4 [0, 6, 19]) (.cond (.t 19) .skip (.exit 0))) (.block 1 (.region a25r5 [0, 6]))))) (.seq (.region a25r6 [6, 7]) (.seq (.region a25r7 [6, 7, 8]) (.seq (.block 2 (.loop (.seq (.seq (.region a25r8 [6, 7, 8, 30]) (.cond (.t 30) .skip (.exit 2))) (.block 3 (.seq (.region a25r9 [6, 7, 8]) (.region a25r10 [6, 7, 8])))))) (.seq (.region a25r11 [2, 3, 4, 5]) .ret))))))))⟩
theorem a25_ok : compileF Tryd.prog (lk [(0, ⟨[0], [], []⟩), (1, ⟨[0, 11], [], []⟩), (2, ⟨[2, 3, 4, 5], [], []⟩), (3, ⟨[0, 6], [], []⟩), (4, ⟨[0, 6, 19], [], []⟩), (5, ⟨[0, 6], [], []⟩), (6, ⟨[6, 7], [], []⟩), (7, ⟨[6, 7, 8], [], []⟩), (8, ⟨[6, 7, 8, 30], [], []⟩), (9, ⟨[6, 7, 8], [], []⟩), (10, ⟨[6, 7, 8], [], []⟩), (11, ⟨[2, 3, 4, 5], [], []⟩)]) Tryd.f25 = some a25 := by kernel_rfl

/- payroll/payrollref3.Week -/
def a27r0 : List IOp := [⟨some 2, .mv, [.c (.int .i64 0)], none⟩,
  ⟨some 3, .mv, [.c (.int .i64 0)], none⟩,
  ⟨some 4, .mv, [.c (.bool false)], none⟩]
def a27r1 : List IOp := [⟨some 10, .mv, [.t 0], none⟩,
  ⟨some 11, .call 59, [.t 10], none⟩,
  ⟨some 12, .not, [.t 11], none⟩]
def a27r2 : List IOp := [⟨some 2, .mv, [.c (.int .i64 0)], none⟩,
  ⟨some 3, .mv, [.c (.int .i64 0)], none⟩,
  ⟨some 4, .mv, [.c (.bool false)], none⟩]
def a27r3 : List IOp := [⟨some 13, .mv, [.t 0], none⟩,
  ⟨some 14, .mv, [.t 0], none⟩,
  ⟨some 15, .call 62, [.t 14], none⟩,
  ⟨some 16, .bin .sub, [.t 13, .t 15], none⟩,
  ⟨some 17, .bin .add, [.t 16, .c (.int .i64 3)], none⟩,
  ⟨some 5, .mv, [.t 17], none⟩]
def a27r4 : List IOp := [⟨some 18, .mv, [.t 5], none⟩,
  ⟨some 19, .bin .gtr, [.t 18, .c (.int .i64 84005)], none⟩]
def a27r5 : List IOp := [⟨some 2, .mv, [.c (.int .i64 2200)], none⟩,
  ⟨some 3, .mv, [.c (.int .i64 1)], none⟩,
  ⟨some 4, .mv, [.c (.bool true)], none⟩]
def a27r6 : List IOp := [⟨some 21, .mv, [.t 5], none⟩,
  ⟨some 22, .call 25, [.t 21], none⟩,
  ⟨some 20, .mv, [.t 22], none⟩,
  ⟨some 23, .extract 0, [.t 20], none⟩,
  ⟨some 24, .extract 1, [.t 20], none⟩,
  ⟨some 25, .extract 2, [.t 20], none⟩,
  ⟨some 26, .extract 3, [.t 20], none⟩,
  ⟨some 6, .mv, [.t 23], none⟩,
  ⟨some 7, .mv, [.t 24], none⟩,
  ⟨some 8, .mv, [.t 25], none⟩,
  ⟨some 9, .mv, [.t 26], none⟩]
def a27r7 : List IOp := [⟨some 27, .mv, [.t 6], none⟩,
  ⟨some 28, .mv, [.t 5], none⟩,
  ⟨some 29, .mv, [.t 6], none⟩,
  ⟨some 30, .call 60, [.t 29], none⟩,
  ⟨some 31, .bin .sub, [.t 28, .t 30], none⟩,
  ⟨some 32, .bin .quo, [.t 31, .c (.int .i64 7)], none⟩,
  ⟨some 33, .bin .add, [.t 32, .c (.int .i64 1)], none⟩,
  ⟨some 2, .mv, [.t 27], none⟩,
  ⟨some 3, .mv, [.t 33], none⟩,
  ⟨some 4, .mv, [.c (.bool true)], none⟩]
def a27 : AFunc := ⟨34, [.tmp 2, .tmp 3, .tmp 4], (.seq (.region a27r0 [0]) (.seq (.seq (.region a27r1 [0, 12]) (.cond (.t 12) (.seq (.region a27r2 [2, 3, 4]) .ret) .skip)) (.seq (.region a27r3 [5]) (.seq (.seq (.region a27r4 [5, 19]) (.cond (.t 19) (.seq (.region a27r5 [2, 3, 4]) .ret) .skip)) (.seq (.region a27r6 [5, 6]) (.seq (.region a27r7 [2, 3, 4]) .ret))))))⟩
theorem a27_ok : compileF Tryd.prog (lk [(0, ⟨[0], [], []⟩), (1, ⟨[0, 12], [], []⟩), (2, ⟨[2, 3, 4], [], []⟩), (3, ⟨[5], [], []⟩), (4, ⟨[5, 19], [], []⟩), (5, ⟨[2, 3, 4], [], []⟩), (6, ⟨[5, 6], [], []⟩), (7, ⟨[2, 3, 4], [], []⟩)]) Tryd.f27 = some a27 := by kernel_rfl

/- payroll/payrollref3.AddMonths -/
def a29r0 : List IOp := [⟨some 4, .mv, [.c (.int .i64 0)], none⟩,
  ⟨some 5, .mv, [.c (.bool false)], none⟩]
def a29r1 : List IOp := [⟨some 13, .mv, [.t 0], none⟩,
  ⟨some 14, .call 59, [.t 13], none⟩,
  ⟨some 15, .not, [.t 14], none⟩,
  ⟨some 16, .mv, [.t 15], none⟩,
  ⟨some 17, .mv, [.t 1], some (16, false)⟩,
  ⟨some 18, .bin .lss, [.t 17, .c (.int .i64 (-2759))], some (16, false)⟩,
  ⟨some 19, .pick, [.t 16, .c (.bool true), .t 18], none⟩,
  ⟨some 20, .mv, [.t 19], none⟩,
  ⟨some 21, .mv, [.t 1], some (20, false)⟩,
  ⟨some 22, .bin .gtr, [.t 21, .c (.int .i64 2759)], some (20, false)⟩,
  ⟨some 23, .pick, [.t 20, .c (.bool true), .t 22], none⟩]
def a29r2 : List IOp := [⟨some 4, .mv, [.c (.int .i64 0)], none⟩,
  ⟨some 5, .mv, [.c (.bool false)], none⟩]
def a29r3 : List IOp := [⟨some 24, .mv, [.t 0], none⟩,
  ⟨some 25, .call 33, [.t 24], none⟩,
  ⟨some 26, .mv, [.t 1], none⟩,
  ⟨some 27, .bin .add, [.t 25, .t 26], none⟩,
  ⟨some 6, .mv, [.t 27], none⟩]
def a29r4 : List IOp := [⟨some 29, .mv, [.t 6], none⟩,
  ⟨some 30, .call 35, [.t 29], none⟩,
  ⟨some 28, .mv, [.t 30], none⟩,
  ⟨some 31, .extract 0, [.t 28], none⟩,
  ⟨some 32, .extract 1, [.t 28], none⟩,
  ⟨some 7, .mv, [.t 31], none⟩,
  ⟨some 8, .mv, [.t 32], none⟩]
def a29r5 : List IOp := [⟨some 33, .mv, [.t 8], none⟩,
  ⟨some 34, .not, [.t 33], none⟩]
def a29r6 : List IOp := [⟨some 4, .mv, [.c (.int .i64 0)], none⟩,
  ⟨some 5, .mv, [.c (.bool false)], none⟩]
def a29r7 : List IOp := [⟨some 36, .mv, [.t 0], none⟩,
  ⟨some 37, .call 25, [.t 36], none⟩,
  ⟨some 35, .mv, [.t 37], none⟩,
  ⟨some 38, .extract 0, [.t 35], none⟩,
  ⟨some 39, .extract 1, [.t 35], none⟩,
  ⟨some 40, .extract 2, [.t 35], none⟩,
  ⟨some 41, .extract 3, [.t 35], none⟩,
  ⟨some 9, .mv, [.t 38], none⟩,
  ⟨some 10, .mv, [.t 39], none⟩,
  ⟨some 11, .mv, [.t 40], none⟩,
  ⟨some 12, .mv, [.t 41], none⟩]
def a29r8 : List IOp := [⟨some 42, .mv, [.t 7], none⟩,
  ⟨some 43, .mv, [.t 11], none⟩,
  ⟨some 44, .mv, [.t 6], none⟩,
  ⟨some 45, .call 37, [.t 44], none⟩,
  ⟨some 46, .minmax false, [.t 43, .t 45], none⟩,
  ⟨some 47, .bin .add, [.t 42, .t 46], none⟩,
  ⟨some 48, .bin .sub, [.t 47, .c (.int .i64 1)], none⟩,
  ⟨some 4, .mv, [.t 48], none⟩,
  ⟨some 5, .mv, [.c (.bool true)], none⟩]
def a29 : AFunc := ⟨49, [.tmp 4, .tmp 5], (.seq (.region a29r0 [0, 1]) (.seq (.seq (.region a29r1 [0, 1, 23]) (.cond (.t 23) (.seq (.region a29r2 [4, 5]) .ret) .skip)) (.seq (.region a29r3 [0, 6]) (.seq (.region a29r4 [0, 6, 7, 8]) (.seq (.seq (.region a29r5 [0, 6, 7, 34]) (.cond (.t 34) (.seq (.region a29r6 [4, 5]) .ret) .skip)) (.seq (.region a29r7 [6, 7, 11]) (.seq (.region a29r8 [4, 5]) .ret)))))))⟩
theorem a29_ok : compileF Tryd.prog (lk [(0, ⟨[0, 1], [], []⟩), (1, ⟨[0, 1, 23], [], []⟩), (2, ⟨[4, 5], [], []⟩), (3, ⟨[0, 6], [], []⟩), (4, ⟨[0, 6, 7, 8], [], []⟩), (5, ⟨[0, 6, 7, 34], [], []⟩), (6, ⟨[4, 5], [], []⟩), (7, ⟨[6, 7, 11], [], []⟩), (8, ⟨[4, 5], [], []⟩)]) Tryd.f29 = some a29 := by kernel_rfl

/- payroll/payrollref3.Weekday -/
def a31r0 : List IOp := [⟨some 2, .mv, [.c (.int .i64 0)], none⟩]
def a31r1 : List IOp := [⟨some 3, .mv, [.t 0], none⟩,
  ⟨some 4, .call 59, [.t 3], none⟩,
  ⟨some 5, .not, [.t 4], none⟩]
def a31r2 : List IOp := [⟨some 2, .mv, [.c (.int .i64 (-1))], none⟩]
def a31r3 : List IOp := [⟨some 6, .mv, [.t 0], none⟩,
  ⟨some 7, .call 62, [.t 6], none⟩,
  ⟨some 2, .mv, [.t 7], none⟩]
def a31 : AFunc := ⟨8, [.tmp 2], (.seq (.region a31r0 [0]) (.seq (.seq (.region a31r1 [0, 5]) (.cond (.t 5) (.seq (.region a31r2 [2]) .ret) .skip)) (.seq (.region a31r3 [2]) .ret)))⟩
theorem a31_ok : compileF Tryd.prog (lk [(0, ⟨[0], [], []⟩), (1, ⟨[0, 5], [], []⟩), (2, ⟨[2], [], []⟩), (3, ⟨[2], [], []⟩)]) Tryd.f31 = some a31 := by kernel_rfl

/- payroll/payrollref3.Month -/
def a33r0 : List IOp := [⟨some 2, .mv, [.c (.int .i64 0)], none⟩]
def a33r1 : List IOp := [⟨some 8, .mv, [.t 0], none⟩,
  ⟨some 9, .call 25, [.t 8], none⟩,
  ⟨some 7, .mv, [.t 9], none⟩,
  ⟨some 10, .extract 0, [.t 7], none⟩,
  ⟨some 11, .extract 1, [.t 7], none⟩,
  ⟨some 12, .extract 2, [.t 7], none⟩,
  ⟨some 13, .extract 3, [.t 7], none⟩,
  ⟨some 3, .mv, [.t 10], none⟩,
  ⟨some 4, .mv, [.t 11], none⟩,
  ⟨some 5, .mv, [.t 12], none⟩,
  ⟨some 6, .mv, [.t 13], none⟩]
def a33r2 : List IOp := [⟨some 14, .mv, [.t 6], none⟩,
  ⟨some 15, .not, [.t 14], none⟩]
def a33r3 : List IOp := [⟨some 2, .mv, [.c (.int .i64 (-1))], none⟩]
def a33r4 : List IOp := [⟨some 16, .mv, [.t 3], none⟩,
  ⟨some 17, .bin .sub, [.t 16, .c (.int .i64 1970)], none⟩,
  ⟨some 18, .bin .mul, [.t 17, .c (.int .i64 12)], none⟩,
  ⟨some 19, .mv, [.t 4], none⟩,
  ⟨some 20, .bin .add, [.t 18, .t 19], none⟩,
  ⟨some 21, .bin .sub, [.t 20, .c (.int .i64 1)], none⟩,
  ⟨some 2, .mv, [.t 21], none⟩]
def a33 : AFunc := ⟨22, [.tmp 2], (.seq (.region a33r0 [0]) (.seq (.region a33r1 [3, 4, 6]) (.seq (.seq (.region a33r2 [3, 4, 15]) (.cond (.t 15) (.seq (.region a33r3 [2]) .ret) .skip)) (.seq (.region a33r4 [2]) .ret))))⟩
theorem a33_ok : compileF Tryd.prog (lk [(0, ⟨[0], [], []⟩), (1, ⟨[3, 4, 6], [], []⟩), (2, ⟨[3, 4, 15], [], []⟩), (3, ⟨[2], [], []⟩), (4, ⟨[2], [], []⟩)]) Tryd.f33 = some a33 := by kernel_rfl

/- payroll/payrollref3.First -/
def a35r0 : List IOp := [⟨some 2, .mv, [.c (.int .i64 0)], none⟩,
  ⟨some 3, .mv, [.c (.bool false)], none⟩]
def a35r1 : List IOp := [⟨some 4, .mv, [.t 0], none⟩,
  ⟨some 5, .bin .lss, [.t 4, .c (.int .i64 0)], none⟩,
  ⟨some 6, .mv, [.t 5], none⟩,
  ⟨some 7, .mv, [.t 0], some (6, false)⟩,
  ⟨some 8, .bin .gtr, [.t 7, .c (.int .i64 2759)], some (6, false)⟩,
  ⟨some 9, .pick, [.t 6, .c (.bool true), .t 8], none⟩]
def a35r2 : List IOp := [⟨some 2, .mv, [.c (.int .i64 0)], none⟩,
  ⟨some 3, .mv, [.c (.bool false)], none⟩]
def a35r3 : List IOp := [⟨some 10, .mv, [.t 0], none⟩,
  ⟨some 11, .bin .quo, [.t 10, .c (.int .i64 12)], none⟩,
  ⟨some 12, .bin .add, [.c (.int .i64 1970), .t 11], none⟩,
  ⟨some 13, .mv, [.t 0], none⟩,
  ⟨some 14, .bin .rem, [.t 13, .c (.int .i64 12)], none⟩,
  ⟨some 15, .bin .add, [.c (.int .i64 1), .t 14], none⟩,
  ⟨some 16, .call 23, [.t 12, .t 15, .c (.int .i64 1)], none⟩,
  ⟨some 17, .extract 0, [.t 16], none⟩,
  ⟨some 18, .extract 1, [.t 16], none⟩,
  ⟨some 2, .mv, [.t 17], none⟩,
  ⟨some 3, .mv, [.t 18], none⟩]
def a35 : AFunc := ⟨19, [.tmp 2, .tmp 3], (.seq (.region a35r0 [0]) (.seq (.seq (.region a35r1 [0, 9]) (.cond (.t 9) (.seq (.region a35r2 [2, 3]) .ret) .skip)) (.seq (.region a35r3 [2, 3]) .ret)))⟩
theorem a35_ok : compileF Tryd.prog (lk [(0, ⟨[0], [], []⟩), (1, ⟨[0, 9], [], []⟩), (2, ⟨[2, 3], [], []⟩), (3, ⟨[2, 3], [], []⟩)]) Tryd.f35 = some a35 := by kernel_rfl

/- payroll/payrollref3.Length -/
def a37r0 : List IOp := [⟨some 2, .mv, [.c (.int .i64 0)], none⟩]
def a37r1 : List IOp := [⟨some 3, .mv, [.t 0], none⟩,
  ⟨some 4, .bin .lss, [.t 3, .c (.int .i64 0)], none⟩,
  ⟨some 5, .mv, [.t 4], none⟩,
  ⟨some 6, .mv, [.t 0], some (5, false)⟩,
  ⟨some 7, .bin .gtr, [.t 6, .c (.int .i64 2759)], some (5, false)⟩,
  ⟨some 8, .pick, [.t 5, .c (.bool true), .t 7], none⟩]
def a37r2 : List IOp := [⟨some 2, .mv, [.c (.int .i64 0)], none⟩]
def a37r3 : List IOp := [⟨some 9, .mv, [.t 0], none⟩,
  ⟨some 10, .bin .quo, [.t 9, .c (.int .i64 12)], none⟩,
  ⟨some 11, .bin .add, [.c (.int .i64 1970), .t 10], none⟩,
  ⟨some 12, .mv, [.t 0], none⟩,
  ⟨some 13, .bin .rem, [.t 12, .c (.int .i64 12)], none⟩,
  ⟨some 14, .bin .add, [.c (.int .i64 1), .t 13], none⟩,
  ⟨some 15, .call 54, [.t 11, .t 14], none⟩,
  ⟨some 2, .mv, [.t 15], none⟩]
def a37 : AFunc := ⟨16, [.tmp 2], (.seq (.region a37r0 [0]) (.seq (.seq (.region a37r1 [0, 8]) (.cond (.t 8) (.seq (.region a37r2 [2]) .ret) .skip)) (.seq (.region a37r3 [2]) .ret)))⟩
theorem a37_ok : compileF Tryd.prog (lk [(0, ⟨[0], [], []⟩), (1, ⟨[0, 8], [], []⟩), (2, ⟨[2], [], []⟩), (3, ⟨[2], [], []⟩)]) Tryd.f37 = some a37 := by kernel_rfl

/- payroll/payrollref3.Easter -/
def a39r0 : List IOp := [⟨some 2, .mv, [.c (.int .i64 0)], none⟩,
  ⟨some 3, .mv, [.c (.bool false)], none⟩]
def a39r1 : List IOp := [⟨some 4, .mv, [.t 0], none⟩,
  ⟨some 5, .call 49, [.t 4], none⟩,
  ⟨some 6, .not, [.t 5], none⟩]
def a39r2 : List IOp := [⟨some 2, .mv, [.c (.int .i64 0)], none⟩,
  ⟨some 3, .mv, [.c (.bool false)], none⟩]
def a39r3 : List IOp := [⟨some 7, .mv, [.t 0], none⟩,
  ⟨some 8, .call 63, [.t 7], none⟩,
  ⟨some 2, .mv, [.t 8], none⟩,
  ⟨some 3, .mv, [.c (.bool true)], none⟩]
def a39 : AFunc := ⟨9, [.tmp 2, .tmp 3], (.seq (.region a39r0 [0]) (.seq (.seq (.region a39r1 [0, 6]) (.cond (.t 6) (.seq (.region a39r2 [2, 3]) .ret) .skip)) (.seq (.region a39r3 [2, 3]) .ret)))⟩
theorem a39_ok : compileF Tryd.prog (lk [(0, ⟨[0], [], []⟩), (1, ⟨[0, 6], [], []⟩), (2, ⟨[2, 3], [], []⟩), (3, ⟨[2, 3], [], []⟩)]) Tryd.f39 = some a39 := by kernel_rfl

/- payroll/payrollref3.InYears -/
def a49r0 : List IOp := [⟨some 2, .mv, [.c (.bool false)], none⟩]
def a49r1 : List IOp := [⟨some 3, .mv, [.t 0], none⟩,
  ⟨some 4, .bin .geq, [.t 3, .c (.int .i64 1970)], none⟩,
  ⟨some 5, .mv, [.t 4], none⟩,
  ⟨some 6, .mv, [.t 0], some (5, true)⟩,
  ⟨some 7, .bin .leq, [.t 6, .c (.int .i64 2199)], some (5, true)⟩,
  ⟨some 8, .pick, [.t 5, .t 7, .c (.bool false)], none⟩,
  ⟨some 2, .mv, [.t 8], none⟩]
def a49 : AFunc := ⟨9, [.tmp 2], (.seq (.region a49r0 [0]) (.seq (.region a49r1 [2]) .ret))⟩
theorem a49_ok : compileF Tryd.prog (lk [(0, ⟨[0], [], []⟩), (1, ⟨[2], [], []⟩)]) Tryd.f49 = some a49 := by kernel_rfl

/- payroll/payrollref3.lengths -/
def a54r0 : List IOp := [⟨some 4, .mv, [.c (.int .i64 0)], none⟩]
def a54r1 : List IOp := [⟨some 5, .mv, [.t 1], none⟩]
def a54r2 : List IOp := [⟨some 7, .bin .eql, [.t 5, .c (.int .i64 4)], none⟩,
  ⟨some 6, .mv, [.t 7], none⟩]
def a54r3 : List IOp := [⟨some 8, .bin .eql, [.t 5, .c (.int .i64 6)], none⟩,
  ⟨some 6, .mv, [.t 8], none⟩]
def a54r4 : List IOp := [⟨some 9, .bin .eql, [.t 5, .c (.int .i64 9)], none⟩,
  ⟨some 6, .mv, [.t 9], none⟩]
def a54r5 : List IOp := [⟨some 10, .bin .eql, [.t 5, .c (.int .i64 11)], none⟩,
  ⟨some 6, .mv, [.t 10], none⟩]
def a54r6 : List IOp := [⟨some 4, .mv, [.c (.int .i64 30)], none⟩]
def a54r7 : List IOp := [⟨some 12, .bin .eql, [.t 5, .c (.int .i64 2)], none⟩,
  ⟨some 11, .mv, [.t 12], none⟩]
def a54r8 : List IOp := [⟨some 13, .mv, [.t 0], none⟩,
  ⟨some 14, .bin .rem, [.t 13, .c (.int .i64 4)], none⟩,
  ⟨some 15, .bin .eql, [.t 14, .c (.int .i64 0)], none⟩,
  ⟨some 16, .mv, [.t 15], none⟩,
  ⟨some 17, .mv, [.t 0], some (16, true)⟩,
  ⟨some 18, .bin .rem, [.t 17, .c (.int .i64 100)], some (16, true)⟩,
  ⟨some 19, .bin .neq, [.t 18, .c (.int .i64 0)], some (16, true)⟩,
  ⟨some 20, .mv, [.t 19], some (16, true)⟩,
  ⟨some 21, .mv, [.t 0], some (20, false)⟩,
  ⟨some 22, .bin .rem, [.t 21, .c (.int .i64 400)], some (20, false)⟩,
  ⟨some 23, .bin .eql, [.t 22, .c (.int .i64 0)], some (20, false)⟩,
  ⟨some 24, .pick, [.t 20, .c (.bool true), .t 23], some (16, true)⟩,
  ⟨some 25, .pick, [.t 16, .t 24, .c (.bool false)], none⟩]
def a54r9 : List IOp := [⟨some 4, .mv, [.c (.int .i64 29)], none⟩]
def a54r10 : List IOp := [⟨some 4, .mv, [.c (.int .i64 28)], none⟩]
def a54r11 : List IOp := [⟨some 4, .mv, [.c (.int .i64 31)], none⟩]
def a54 : AFunc := ⟨26, [.tmp 4], (.seq (.region a54r0 [0, 1]) (.seq (.seq (.region a54r1 [0, 5]) (.block 0 (.seq (.seq (.region a54r2 [0, 5, 6]) (.cond (.t 6) .skip (.seq (.region a54r3 [0, 5, 6]) (.cond (.t 6) .skip (.seq (.region a54r4 [0, 5, 6]) (.cond (.t 6) .skip (.region a54r5 [0, 5, 6]))))))) (.cond (.t 6) (.seq (.region a54r6 [4]) .ret) (.seq (.region a54r7 [0, 11]) (.cond (.t 11) (.seq (.seq (.region a54r8 [25]) (.cond (.t 25) (.seq (.region a54r9 [4]) .ret) .skip)) (.seq (.region a54r10 [4]) .ret)) .skip)))))) (.seq (.region a54r11 [4]) .ret)))⟩
theorem a54_ok : compileF Tryd.prog (lk [(0, ⟨[0, 1], [], []⟩), (1, ⟨[0, 5], [], []⟩), (2, ⟨[0, 5, 6], [], []⟩), (3, ⟨[0, 5, 6], [], []⟩), (4, ⟨[0, 5, 6], [], []⟩), (5, ⟨[0, 5, 6], [], []⟩), (6, ⟨[4], [], []⟩), (7, ⟨[0, 11], [], []⟩), (8, ⟨[25], [], []⟩), (9, ⟨[4], [], []⟩), (10, ⟨[4], [], []⟩), (11, ⟨[4], [], []⟩)]) Tryd.f54 = some a54 := by kernel_rfl

/- payroll/payrollref3.raw -/
def a55r0 : List IOp := [⟨some 6, .mv, [.c (.int .i64 0)], none⟩]
def a55r1 : List IOp := [⟨some 9, .mv, [.t 0], none⟩,
  ⟨some 10, .call 60, [.t 9], none⟩,
  ⟨some 11, .mv, [.t 2], none⟩,
  ⟨some 12, .bin .add, [.t 10, .t 11], none⟩,
  ⟨some 13, .bin .sub, [.t 12, .c (.int .i64 1)], none⟩,
  ⟨some 7, .mv, [.t 13], none⟩]
def a55r2 : List IOp := [⟨some 8, .mv, [.c (.int .i64 1)], none⟩]
def a55r3 : List IOp := [⟨some 14, .mv, [.t 8], none⟩,
  ⟨some 15, .mv, [.t 1], none⟩,
  ⟨some 16, .bin .lss, [.t 14, .t 15], none⟩]
def a55r4 : List IOp := [⟨some 19, .mv, [.t 7], none⟩,
  ⟨some 20, .mv, [.t 0], none⟩,
  ⟨some 21, .mv, [.t 8], none⟩,
  ⟨some 22, .call 54, [.t 20, .t 21], none⟩,
  ⟨some 23, .bin .add, [.t 19, .t 22], none⟩,
  ⟨some 7, .mv, [.t 23], none⟩]
def a55r5 : List IOp := [⟨some 17, .mv, [.t 8], none⟩,
  ⟨some 18, .bin .add, [.t 17, .c (.int .i64 1)], none⟩,
  ⟨some 8, .mv, [.t 18], none⟩]
def a55r6 : List IOp := [⟨some 24, .mv, [.t 7], none⟩,
  ⟨some 6, .mv, [.t 24], none⟩]
def a55 : AFunc := ⟨25, [.tmp 6], (.seq (.region a55r0 [0, 1, 2]) (.seq (.region a55r1 [0, 1, 7]) (.seq (.seq (.region a55r2 [0, 1, 7, 8]) (.block 0 (.loop (.seq (.seq (.region a55r3 [0, 1, 7, 8, 16]) (.cond (.t 16) .skip (.exit 0))) (.seq (.block 1 (.region a55r4 [0, 1, 7, 8])) (.region a55r5 [0, 1, 7, 8])))))) (.seq (.region a55r6 [6]) .ret))))⟩
theorem a55_ok : compileF Tryd.prog (lk [(0, ⟨[0, 1, 2], [], []⟩), (1, ⟨[0, 1, 7], [], []⟩), (2, ⟨[0, 1, 7, 8], [], []⟩), (3, ⟨[0, 1, 7, 8, 16], [], []⟩), (4, ⟨[0, 1, 7, 8], [], []⟩), (5, ⟨[0, 1, 7, 8], [], []⟩), (6, ⟨[6], [], []⟩)]) Tryd.f55 = some a55 := by kernel_rfl

/- payroll/payrollref3.InDays -/
def a59r0 : List IOp := [⟨some 2, .mv, [.c (.bool false)], none⟩]
def a59r1 : List IOp := [⟨some 3, .mv, [.t 0], none⟩,
  ⟨some 4, .bin .geq, [.t 3, .c (.int .i64 0)], none⟩,
  ⟨some 5, .mv, [.t 4], none⟩,
  ⟨some 6, .mv, [.t 0], some (5, true)⟩,
  ⟨some 7, .bin .leq, [.t 6, .c (.int .i64 84005)], some (5, true)⟩,
  ⟨some 8, .pick, [.t 5, .t 7, .c (.bool false)], none⟩,
  ⟨some 2, .mv, [.t 8], none⟩]
def a59 : AFunc := ⟨9, [.tmp 2], (.seq (.region a59r0 [0]) (.seq (.region a59r1 [2]) .ret))⟩
theorem a59_ok : compileF Tryd.prog (lk [(0, ⟨[0], [], []⟩), (1, ⟨[2], [], []⟩)]) Tryd.f59 = some a59 := by kernel_rfl

/- payroll/payrollref3.before -/
def a60r0 : List IOp := [⟨some 2, .mv, [.c (.int .i64 0)], none⟩]
def a60r1 : List IOp := [⟨some 5, .mv, [.t 0], none⟩,
  ⟨some 6, .bin .sub, [.t 5, .c (.int .i64 1970)], none⟩,
  ⟨some 7, .bin .mul, [.t 6, .c (.int .i64 365)], none⟩,
  ⟨some 3, .mv, [.t 7], none⟩]
def a60r2 : List IOp := [⟨some 4, .mv, [.c (.int .i64 1972)], none⟩]
def a60r3 : List IOp := [⟨some 8, .mv, [.t 4], none⟩,
  ⟨some 9, .mv, [.t 0], none⟩,
  ⟨some 10, .bin .lss, [.t 8, .t 9], none⟩]
def a60r4 : List IOp := [⟨some 13, .mv, [.t 4], none⟩,
  ⟨some 14, .call 54, [.t 13, .c (.int .i64 2)], none⟩,
  ⟨some 15, .bin .eql, [.t 14, .c (.int .i64 29)], none⟩]
def a60r5 : List IOp := [⟨some 16, .mv, [.t 3], none⟩,
  ⟨some 17, .bin .add, [.t 16, .c (.int .i64 1)], none⟩,
  ⟨some 3, .mv, [.t 17], none⟩]
def a60r6 : List IOp := [⟨some 11, .mv, [.t 4], none⟩,
  ⟨some 12, .bin .add, [.t 11, .c (.int .i64 4)], none⟩,
  ⟨some 4, .mv, [.t 12], none⟩]
def a60r7 : List IOp := [⟨some 18, .mv, [.t 3], none⟩,
  ⟨some 2, .mv, [.t 18], none⟩]
def a60 : AFunc := ⟨19, [.tmp 2], (.seq (.region a60r0 [0]) (.seq (.region a60r1 [0, 3]) (.seq (.seq (.region a60r2 [0, 3, 4]) (.block 0 (.loop (.seq (.seq (.region a60r3 [0, 3, 4, 10]) (.cond (.t 10) .skip (.exit 0))) (.seq (.block 1 (.seq (.region a60r4 [0, 3, 4, 15]) (.cond (.t 15) (.region a60r5 [0, 3, 4]) .skip))) (.region a60r6 [0, 3, 4])))))) (.seq (.region a60r7 [2]) .ret))))⟩
theorem a60_ok : compileF Tryd.prog (lk [(0, ⟨[0], [], []⟩), (1, ⟨[0, 3], [], []⟩), (2, ⟨[0, 3, 4], [], []⟩), (3, ⟨[0, 3, 4, 10], [], []⟩), (4, ⟨[0, 3, 4], [], []⟩), (5, ⟨[0, 3, 4, 15], [], []⟩), (6, ⟨[0, 3, 4], [], []⟩), (7, ⟨[2], [], []⟩)]) Tryd.f60 = some a60 := by kernel_rfl

/- payroll/payrollref3.Shown -/
def a62r0 : List IOp := [⟨some 2, .mv, [.c (.int .i64 0)], none⟩]
def a62r1 : List IOp := [⟨some 3, .mv, [.t 0], none⟩,
  ⟨some 4, .bin .add, [.t 3, .c (.int .i64 3)], none⟩,
  ⟨some 5, .bin .rem, [.t 4, .c (.int .i64 7)], none⟩,
  ⟨some 6, .bin .add, [.t 5, .c (.int .i64 7)], none⟩,
  ⟨some 7, .bin .rem, [.t 6, .c (.int .i64 7)], none⟩,
  ⟨some 2, .mv, [.t 7], none⟩]
def a62 : AFunc := ⟨8, [.tmp 2], (.seq (.region a62r0 [0]) (.seq (.region a62r1 [2]) .ret))⟩
theorem a62_ok : compileF Tryd.prog (lk [(0, ⟨[0], [], []⟩), (1, ⟨[2], [], []⟩)]) Tryd.f62 = some a62 := by kernel_rfl

/- payroll/payrollref3.easter -/
def a63r0 : List IOp := [⟨some 2, .mv, [.c (.int .i64 0)], none⟩]
def a63r1 : List IOp := [⟨some 9, .mv, [.t 0], none⟩,
  ⟨some 10, .bin .rem, [.t 9, .c (.int .i64 19)], none⟩,
  ⟨some 11, .mv, [.t 0], none⟩,
  ⟨some 12, .bin .quo, [.t 11, .c (.int .i64 100)], none⟩,
  ⟨some 13, .mv, [.t 0], none⟩,
  ⟨some 14, .bin .rem, [.t 13, .c (.int .i64 100)], none⟩,
  ⟨some 3, .mv, [.t 10], none⟩,
  ⟨some 4, .mv, [.t 12], none⟩,
  ⟨some 5, .mv, [.t 14], none⟩]
def a63r2 : List IOp := [⟨some 15, .mv, [.t 3], none⟩,
  ⟨some 16, .bin .mul, [.c (.int .i64 19), .t 15], none⟩,
  ⟨some 17, .mv, [.t 4], none⟩,
  ⟨some 18, .bin .add, [.t 16, .t 17], none⟩,
  ⟨some 19, .mv, [.t 4], none⟩,
  ⟨some 20, .bin .quo, [.t 19, .c (.int .i64 4)], none⟩,
  ⟨some 21, .bin .sub, [.t 18, .t 20], none⟩,
  ⟨some 22, .mv, [.t 4], none⟩,
  ⟨some 23, .mv, [.t 4], none⟩,
  ⟨some 24, .bin .add, [.t 23, .c (.int .i64 8)], none⟩,
  ⟨some 25, .bin .quo, [.t 24, .c (.int .i64 25)], none⟩,
  ⟨some 26, .bin .sub, [.t 22, .t 25], none⟩,
  ⟨some 27, .bin .add, [.t 26, .c (.int .i64 1)], none⟩,
  ⟨some 28, .bin .quo, [.t 27, .c (.int .i64 3)], none⟩,
  ⟨some 29, .bin .sub, [.t 21, .t 28], none⟩,
  ⟨some 30, .bin .add, [.t 29, .c (.int .i64 15)], none⟩,
  ⟨some 31, .bin .rem, [.t 30, .c (.int .i64 30)], none⟩,
  ⟨some 6, .mv, [.t 31], none⟩]
def a63r3 : List IOp := [⟨some 32, .mv, [.t 4], none⟩,
  ⟨some 33, .bin .rem, [.t 32, .c (.int .i64 4)], none⟩,
  ⟨some 34, .bin .mul, [.c (.int .i64 2), .t 33], none⟩,
  ⟨some 35, .bin .add, [.c (.int .i64 32), .t 34], none⟩,
  ⟨some 36, .mv, [.t 5], none⟩,
  ⟨some 37, .bin .quo, [.t 36, .c (.int .i64 4)], none⟩,
  ⟨some 38, .bin .mul, [.c (.int .i64 2), .t 37], none⟩,
  ⟨some 39, .bin .add, [.t 35, .t 38], none⟩,
  ⟨some 40, .mv, [.t 6], none⟩,
  ⟨some 41, .bin .sub, [.t 39, .t 40], none⟩,
  ⟨some 42, .mv, [.t 5], none⟩,
  ⟨some 43, .bin .rem, [.t 42, .c (.int .i64 4)], none⟩,
  ⟨some 44, .bin .sub, [.t 41, .t 43], none⟩,
  ⟨some 45, .bin .rem, [.t 44, .c (.int .i64 7)], none⟩,
  ⟨some 7, .mv, [.t 45], none⟩]
def a63r4 : List IOp := [⟨some 46, .mv, [.t 6], none⟩,
  ⟨some 47, .mv, [.t 7], none⟩,
  ⟨some 48, .bin .add, [.t 46, .t 47], none⟩,
  ⟨some 49, .mv, [.t 3], none⟩,
  ⟨some 50, .mv, [.t 6], none⟩,
  ⟨some 51, .bin .mul, [.c (.int .i64 11), .t 50], none⟩,
  ⟨some 52, .bin .add, [.t 49, .t 51], none⟩,
  ⟨some 53, .mv, [.t 7], none⟩,
  ⟨some 54, .bin .mul, [.c (.int .i64 22), .t 53], none⟩,
  ⟨some 55, .bin .add, [.t 52, .t 54], none⟩,
  ⟨some 56, .bin .quo, [.t 55, .c (.int .i64 451)], none⟩,
  ⟨some 57, .bin .mul, [.c (.int .i64 7), .t 56], none⟩,
  ⟨some 58, .bin .sub, [.t 48, .t 57], none⟩,
  ⟨some 59, .bin .add, [.t 58, .c (.int .i64 114)], none⟩,
  ⟨some 8, .mv, [.t 59], none⟩]
def a63r5 : List IOp := [⟨some 60, .mv, [.t 0], none⟩,
  ⟨some 61, .mv, [.t 8], none⟩,
  ⟨some 62, .bin .quo, [.t 61, .c (.int .i64 31)], none⟩,
  ⟨some 63, .mv, [.t 8], none⟩,
  ⟨some 64, .bin .rem, [.t 63, .c (.int .i64 31)], none⟩,
  ⟨some 65, .bin .add, [.t 64, .c (.int .i64 1)], none⟩,
  ⟨some 66, .call 55, [.t 60, .t 62, .t 65], none⟩,
  ⟨some 2, .mv, [.t 66], none⟩]
def a63 : AFunc := ⟨67, [.tmp 2], (.seq (.region a63r0 [0]) (.seq (.region a63r1 [0, 3, 4, 5]) (.seq (.region a63r2 [0, 3, 4, 5, 6]) (.seq (.region a63r3 [0, 3, 6, 7]) (.seq (.region a63r4 [0, 8]) (.seq (.region a63r5 [2]) .ret))))))⟩
theorem a63_ok : compileF Tryd.prog (lk [(0, ⟨[0], [], []⟩), (1, ⟨[0, 3, 4, 5], [], []⟩), (2, ⟨[0, 3, 4, 5, 6], [], []⟩), (3, ⟨[0, 3, 6, 7], [], []⟩), (4, ⟨[0, 8], [], []⟩), (5, ⟨[2], [], []⟩)]) Tryd.f63 = some a63 := by kernel_rfl

end Go.Proofs.YtpmlihjdegekgaaDoor
