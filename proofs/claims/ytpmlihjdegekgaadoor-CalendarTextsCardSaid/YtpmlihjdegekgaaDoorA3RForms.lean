/- The abstract forms of the functions, printed by a program, and that the given program has these forms. -/
import Derived.Test.YtpmlihjdegekgaaDoorAbsMd
import Derived.Test.YtpmlihjdegekgaaDoorProg
import Derived.KernelRfl
set_option linter.unusedSimpArgs false
set_option linter.unusedVariables false
set_option linter.unusedSectionVars false
namespace Go.Proofs.YtpmlihjdegekgaaDoor
open Go Go.Abs
/- payroll/payrollref3.Holidays -/
def a14r0 : List IOp := [⟨some 4, .mv, [.c (.nils)], none⟩,
  ⟨some 5, .mv, [.c (.int .i64 0)], none⟩]
def a14r1 : List IOp := [⟨some 12, .mv, [.t 0], none⟩,
  ⟨some 13, .call 47, [.t 12], none⟩,
  ⟨some 6, .mv, [.t 13], none⟩]
def a14r2 : List IOp := [⟨some 14, .mv, [.t 6], none⟩,
  ⟨some 15, .bin .neq, [.t 14, .c (.int .i64 0)], none⟩]
def a14r3 : List IOp := [⟨some 16, .mv, [.t 6], none⟩,
  ⟨some 4, .mv, [.c (.nils)], none⟩,
  ⟨some 5, .mv, [.t 16], none⟩]
def a14r4 : List IOp := [⟨some 17, .mv, [.t 1], none⟩,
  ⟨some 18, .call 49, [.t 17], none⟩,
  ⟨some 19, .not, [.t 18], none⟩]
def a14r5 : List IOp := [⟨some 4, .mv, [.c (.nils)], none⟩,
  ⟨some 5, .mv, [.c (.int .i64 2)], none⟩]
def a14r6 : List IOp := [⟨some 7, .mv, [.c (.nils)], none⟩]
def a14r7 : List IOp := [⟨some 8, .mv, [.c (.int .i64 0)], none⟩]
def a14r8 : List IOp := [⟨some 20, .mv, [.t 8], none⟩,
  ⟨some 21, .mv, [.t 0], none⟩,
  ⟨some 22, .len, [.t 21], none⟩,
  ⟨some 23, .bin .lss, [.t 20, .t 22], none⟩]
def a14r9 : List IOp := [⟨some 27, .mv, [.t 0], none⟩,
  ⟨some 28, .mv, [.t 8], none⟩,
  ⟨some 29, .indexAddr 6, [.t 27, .t 28], none⟩,
  ⟨some 30, .loadA 6, [.t 29], none⟩,
  ⟨some 31, .mv, [.t 1], none⟩,
  ⟨some 32, .call 50, [.t 30, .t 31], none⟩,
  ⟨some 26, .mv, [.t 32], none⟩,
  ⟨some 33, .extract 0, [.t 26], none⟩,
  ⟨some 34, .extract 1, [.t 26], none⟩,
  ⟨some 9, .mv, [.t 33], none⟩,
  ⟨some 10, .mv, [.t 34], none⟩]
def a14r10 : List IOp := [⟨some 35, .mv, [.t 10], none⟩,
  ⟨some 36, .not, [.t 35], none⟩]
def a14r11 : List IOp := [⟨some 11, .mv, [.c (.int .i64 0)], none⟩]
def a14r12 : List IOp := [⟨some 37, .mv, [.t 11], none⟩,
  ⟨some 38, .mv, [.t 7], none⟩,
  ⟨some 39, .len, [.t 38], none⟩,
  ⟨some 40, .bin .lss, [.t 37, .t 39], none⟩,
  ⟨some 41, .mv, [.t 40], none⟩,
  ⟨some 42, .mv, [.t 7], some (41, true)⟩,
  ⟨some 43, .mv, [.t 11], some (41, true)⟩,
  ⟨some 44, .indexAddr 1, [.t 42, .t 43], some (41, true)⟩,
  ⟨some 45, .load1, [.t 44], some (41, true)⟩,
  ⟨some 46, .mv, [.t 9], some (41, true)⟩,
  ⟨some 47, .bin .lss, [.t 45, .t 46], some (41, true)⟩,
  ⟨some 48, .pick, [.t 41, .t 47, .c (.bool false)], none⟩]
def a14r13 : List IOp := [⟨some 49, .mv, [.t 11], none⟩,
  ⟨some 50, .bin .add, [.t 49, .c (.int .i64 1)], none⟩,
  ⟨some 11, .mv, [.t 50], none⟩]
def a14r14 : List IOp := [⟨some 51, .mv, [.t 11], none⟩,
  ⟨some 52, .mv, [.t 7], none⟩,
  ⟨some 53, .len, [.t 52], none⟩,
  ⟨some 54, .bin .lss, [.t 51, .t 53], none⟩,
  ⟨some 55, .mv, [.t 54], none⟩,
  ⟨some 56, .mv, [.t 7], some (55, true)⟩,
  ⟨some 57, .mv, [.t 11], some (55, true)⟩,
  ⟨some 58, .indexAddr 1, [.t 56, .t 57], some (55, true)⟩,
  ⟨some 59, .load1, [.t 58], some (55, true)⟩,
  ⟨some 60, .mv, [.t 9], some (55, true)⟩,
  ⟨some 61, .bin .eql, [.t 59, .t 60], some (55, true)⟩,
  ⟨some 62, .pick, [.t 55, .t 61, .c (.bool false)], none⟩]
def a14r15 : List IOp := [⟨some 63, .mv, [.t 7], none⟩,
  ⟨some 64, .bslice 3 1 [.int .i64 0] 1 [0], [.c (.int .i64 0)], none⟩,
  ⟨some 65, .append 3 1 8, [.t 63, .t 64], none⟩,
  ⟨some 7, .mv, [.t 65], none⟩]
def a14r16 : List (Nat × DOp) := [(0, ⟨⟨some 66, .mv, [.t 7], none⟩, none, [1, 2, 4, 5, 6]⟩),
  (1, ⟨⟨some 67, .mv, [.t 11], none⟩, none, [0, 4, 5, 6]⟩),
  (2, ⟨⟨some 68, .bin .add, [.t 67, .c (.int .i64 1)], none⟩, none, [0, 4, 5, 6]⟩),
  (3, ⟨⟨some 69, .slice true false 1, [.t 66, .t 68], none⟩, none, [4, 5, 6]⟩),
  (4, ⟨⟨some 70, .mv, [.t 7], none⟩, none, [0, 1, 2, 3, 5]⟩),
  (5, ⟨⟨some 71, .mv, [.t 11], none⟩, none, [0, 1, 2, 3, 4]⟩),
  (6, ⟨⟨some 72, .slice true false 1, [.t 70, .t 71], none⟩, none, [0, 1, 2, 3]⟩),
  (7, ⟨⟨some 73, .copy 1, [.t 69, .t 72], none⟩, none, []⟩)]
def a14r17 : List IOp := [⟨some 74, .mv, [.t 7], none⟩,
  ⟨some 75, .mv, [.t 11], none⟩,
  ⟨some 76, .mv, [.t 9], none⟩,
  ⟨some 77, .indexAddr 1, [.t 74, .t 75], none⟩,
  ⟨none, .store 1, [.t 77, .t 76], none⟩]
def a14r18 : List IOp := [⟨some 24, .mv, [.t 8], none⟩,
  ⟨some 25, .bin .add, [.t 24, .c (.int .i64 1)], none⟩,
  ⟨some 8, .mv, [.t 25], none⟩]
def a14r19 : List IOp := [⟨some 78, .mv, [.t 7], none⟩,
  ⟨some 4, .mv, [.t 78], none⟩,
  ⟨some 5, .mv, [.c (.int .i64 0)], none⟩]
def a14 : AFunc := ⟨79, [.tmp 4, .tmp 5], (.seq (.region a14r0 [0, 1]) (.seq (.seq (.region a14r1 [0, 1, 6]) (.seq (.region a14r2 [0, 1, 6, 15]) (.cond (.t 15) (.seq (.region a14r3 [4, 5]) .ret) .skip))) (.seq (.seq (.region a14r4 [0, 1, 19]) (.cond (.t 19) (.seq (.region a14r5 [4, 5]) .ret) .skip)) (.seq (.region a14r6 [0, 1, 7]) (.seq (.seq (.region a14r7 [0, 1, 7, 8]) (.block 0 (.loop (.seq (.seq (.region a14r8 [0, 1, 7, 8, 23]) (.cond (.t 23) .skip (.exit 0))) (.seq (.block 1 (.seq (.region a14r9 [0, 1, 7, 8, 9, 10]) (.seq (.seq (.region a14r10 [0, 1, 7, 8, 9, 36]) (.cond (.t 36) (.exit 1) .skip)) (.seq (.region a14r11 [0, 1, 7, 8, 9, 11]) (.seq (.block 2 (.loop (.seq (.seq (.region a14r12 [0, 1, 7, 8, 9, 11, 48]) (.cond (.t 48) .skip (.exit 2))) (.block 3 (.region a14r13 [0, 1, 7, 8, 9, 11]))))) (.seq (.seq (.region a14r14 [0, 1, 7, 8, 9, 11, 62]) (.cond (.t 62) (.exit 1) .skip)) (.seq (.region a14r15 [0, 1, 7, 8, 9, 11]) (.seq (.draw a14r16 [] [0, 1, 7, 8, 9, 11]) (.region a14r17 [0, 1, 7, 8]))))))))) (.region a14r18 [0, 1, 7, 8])))))) (.seq (.region a14r19 [4, 5]) .ret))))))⟩
theorem a14_ok : compileF Tryd.prog (lk [(0, ⟨[0, 1], [], []⟩), (1, ⟨[0, 1, 6], [], []⟩), (2, ⟨[0, 1, 6, 15], [], []⟩), (3, ⟨[4, 5], [], []⟩), (4, ⟨[0, 1, 19], [], []⟩), (5, ⟨[4, 5], [], []⟩), (6, ⟨[0, 1, 7], [], []⟩), (7, ⟨[0, 1, 7, 8], [], []⟩), (8, ⟨[0, 1, 7, 8, 23], [], []⟩), (9, ⟨[0, 1, 7, 8], [], []⟩), (10, ⟨[0, 1, 7, 8, 9, 10], [], []⟩), (11, ⟨[0, 1, 7, 8, 9, 36], [], []⟩), (12, ⟨[0, 1, 7, 8, 9, 11], [], []⟩), (13, ⟨[0, 1, 7, 8, 9, 11, 48], [], []⟩), (14, ⟨[0, 1, 7, 8, 9, 11], [], []⟩), (15, ⟨[0, 1, 7, 8, 9, 11, 62], [], []⟩), (16, ⟨[0, 1, 7, 8, 9, 11], [], []⟩), (17, ⟨[0, 1, 7, 8, 9, 11], [[], [], [1], [0, 2, 1], [], [], [4, 5], [3, 6, 0, 2, 1, 4, 5]], [0, 1, 2, 3, 4, 5, 6, 7]⟩), (18, ⟨[0, 1, 7, 8], [], []⟩), (19, ⟨[4, 5], [], []⟩)]) Tryd.f14 = some a14 := by kernel_rfl

/- payroll/payrolllaw3.same -/
def a16r0 : List IOp := [⟨some 4, .mv, [.c (.bool false)], none⟩]
def a16r1 : List IOp := [⟨some 6, .mv, [.t 0], none⟩,
  ⟨some 7, .len, [.t 6], none⟩,
  ⟨some 8, .mv, [.t 1], none⟩,
  ⟨some 9, .len, [.t 8], none⟩,
  ⟨some 10, .bin .neq, [.t 7, .t 9], none⟩]
def a16r2 : List IOp := [⟨some 4, .mv, [.c (.bool false)], none⟩]
def a16r3 : List IOp := [⟨some 5, .mv, [.c (.int .i64 0)], none⟩]
def a16r4 : List IOp := [⟨some 11, .mv, [.t 5], none⟩,
  ⟨some 12, .mv, [.t 0], none⟩,
  ⟨some 13, .len, [.t 12], none⟩,
  ⟨some 14, .bin .lss, [.t 11, .t 13], none⟩]
def a16r5 : List (Nat × DOp) := [(0, ⟨⟨some 17, .mv, [.t 0], none⟩, none, [1, 4, 5, 6, 7]⟩),
  (1, ⟨⟨some 18, .mv, [.t 5], none⟩, none, [0, 4, 5, 6, 7]⟩),
  (2, ⟨⟨some 19, .indexAddr 1, [.t 17, .t 18], none⟩, none, [4, 5, 6, 7]⟩),
  (3, ⟨⟨some 20, .load1, [.t 19], none⟩, none, [4, 5, 6, 7]⟩),
  (4, ⟨⟨some 21, .mv, [.t 1], none⟩, none, [0, 1, 2, 3, 5]⟩),
  (5, ⟨⟨some 22, .mv, [.t 5], none⟩, none, [0, 1, 2, 3, 4]⟩),
  (6, ⟨⟨some 23, .indexAddr 1, [.t 21, .t 22], none⟩, none, [0, 1, 2, 3]⟩),
  (7, ⟨⟨some 24, .load1, [.t 23], none⟩, none, [0, 1, 2, 3]⟩),
  (8, ⟨⟨some 25, .bin .neq, [.t 20, .t 24], none⟩, none, []⟩)]
def a16r6 : List IOp := [⟨some 4, .mv, [.c (.bool false)], none⟩]
def a16r7 : List IOp := [⟨some 15, .mv, [.t 5], none⟩,
  ⟨some 16, .bin .add, [.t 15, .c (.int .i64 1)], none⟩,
  ⟨some 5, .mv, [.t 16], none⟩]
def a16r8 : List IOp := [⟨some 4, .mv, [.c (.bool true)], none⟩]
def a16 : AFunc := ⟨26, [.tmp 4], (.seq (.region a16r0 [0, 1]) (.seq (.seq (.region a16r1 [0, 1, 10]) (.cond (.t 10) (.seq (.region a16r2 [4]) .ret) .skip)) (.seq (.seq (.region a16r3 [0, 1, 5]) (.block 0 (.loop (.seq (.seq (.region a16r4 [0, 1, 5, 14]) (.cond (.t 14) .skip (.exit 0))) (.seq (.block 1 (.seq (.draw a16r5 [] [0, 1, 5, 25]) (.cond (.t 25) (.seq (.region a16r6 [4]) .ret) .skip))) (.region a16r7 [0, 1, 5])))))) (.seq (.region a16r8 [4]) .ret))))⟩
theorem a16_ok : compileF Tryd.prog (lk [(0, ⟨[0, 1], [], []⟩), (1, ⟨[0, 1, 10], [], []⟩), (2, ⟨[4], [], []⟩), (3, ⟨[0, 1, 5], [], []⟩), (4, ⟨[0, 1, 5, 14], [], []⟩), (5, ⟨[0, 1, 5], [], []⟩), (6, ⟨[0, 1, 5, 25], [[], [], [0, 1], [2, 0, 1], [], [], [4, 5], [6, 4, 5], [3, 7, 2, 0, 1, 6, 4, 5]], [0, 1, 2, 3, 4, 5, 6, 7, 8]⟩), (7, ⟨[4], [], []⟩), (8, ⟨[4], [], []⟩)]) Tryd.f16 = some a16 := by kernel_rfl

/- payroll/payrollref3.Day -/
def a23r0 : List IOp := [⟨some 6, .mv, [.c (.int .i64 0)], none⟩,
  ⟨some 7, .mv, [.c (.bool false)], none⟩]
def a23r1 : List IOp := [⟨some 8, .mv, [.t 0], none⟩,
  ⟨some 9, .call 49, [.t 8], none⟩,
  ⟨some 10, .not, [.t 9], none⟩,
  ⟨some 11, .mv, [.t 10], none⟩,
  ⟨some 12, .mv, [.t 1], some (11, false)⟩,
  ⟨some 13, .bin .lss, [.t 12, .c (.int .i64 1)], some (11, false)⟩,
  ⟨some 14, .pick, [.t 11, .c (.bool true), .t 13], none⟩,
  ⟨some 15, .mv, [.t 14], none⟩,
  ⟨some 16, .mv, [.t 1], some (15, false)⟩,
  ⟨some 17, .bin .gtr, [.t 16, .c (.int .i64 12)], some (15, false)⟩,
  ⟨some 18, .pick, [.t 15, .c (.bool true), .t 17], none⟩,
  ⟨some 19, .mv, [.t 18], none⟩,
  ⟨some 20, .mv, [.t 2], some (19, false)⟩,
  ⟨some 21, .bin .lss, [.t 20, .c (.int .i64 1)], some (19, false)⟩,
  ⟨some 22, .pick, [.t 19, .c (.bool true), .t 21], none⟩,
  ⟨some 23, .mv, [.t 22], none⟩,
  ⟨some 24, .mv, [.t 2], some (23, false)⟩,
  ⟨some 25, .mv, [.t 0], some (23, false)⟩,
  ⟨some 26, .mv, [.t 1], some (23, false)⟩,
  ⟨some 27, .call 54, [.t 25, .t 26], some (23, false)⟩,
  ⟨some 28, .bin .gtr, [.t 24, .t 27], some (23, false)⟩,
  ⟨some 29, .pick, [.t 23, .c (.bool true), .t 28], none⟩]
def a23r2 : List IOp := [⟨some 6, .mv, [.c (.int .i64 0)], none⟩,
  ⟨some 7, .mv, [.c (.bool false)], none⟩]
def a23r3 : List IOp := [⟨some 30, .mv, [.t 0], none⟩,
  ⟨some 31, .mv, [.t 1], none⟩,
  ⟨some 32, .mv, [.t 2], none⟩,
  ⟨some 33, .call 55, [.t 30, .t 31, .t 32], none⟩,
  ⟨some 6, .mv, [.t 33], none⟩,
  ⟨some 7, .mv, [.c (.bool true)], none⟩]
def a23 : AFunc := ⟨34, [.tmp 6, .tmp 7], (.seq (.region a23r0 [0, 1, 2]) (.seq (.seq (.region a23r1 [0, 1, 2, 29]) (.cond (.t 29) (.seq (.region a23r2 [6, 7]) .ret) .skip)) (.seq (.region a23r3 [6, 7]) .ret)))⟩
theorem a23_ok : compileF Tryd.prog (lk [(0, ⟨[0, 1, 2], [], []⟩), (1, ⟨[0, 1, 2, 29], [], []⟩), (2, ⟨[6, 7], [], []⟩), (3, ⟨[6, 7], [], []⟩)]) Tryd.f23 = some a23 := by kernel_rfl

/- payroll/payrollref3.Date -/
def a25r0 : List IOp := [⟨some 2, .mv, [.c (.int .i64 0)], none⟩,
  ⟨some 3, .mv, [.c (.int .i64 0)], none⟩,
  ⟨some 4, .mv, [.c (.int .i64 0)], none⟩,
  ⟨some 5, .mv, [.c (.bool false)], none⟩]
def a25r1 : List IOp := [⟨some 9, .mv, [.t 0], none⟩,
  ⟨some 10, .call 59, [.t 9], none⟩,
  ⟨some 11, .not, [.t 10], none⟩]
def a25r2 : List IOp := [⟨some 2, .mv, [.c (.int .i64 0)], none⟩,
  ⟨some 3, .mv, [.c (.int .i64 0)], none⟩,
  ⟨some 4, .mv, [.c (.int .i64 0)], none⟩,
  ⟨some 5, .mv, [.c (.bool false)], none⟩]
def a25r3 : List IOp := [⟨some 12, .mv, [.t 0], none⟩,
  ⟨some 13, .bin .quo, [.t 12, .c (.int .i64 366)], none⟩,
  ⟨some 14, .bin .add, [.c (.int .i64 1970), .t 13], none⟩,
  ⟨some 6, .mv, [.t 14], none⟩]
def a25r4 : List IOp := [⟨some 15, .mv, [.t 6], none⟩,
  ⟨some 16, .bin .add, [.t 15, .c (.int .i64 1)], none⟩,
  ⟨some 17, .call 60, [.t 16], none⟩,
  ⟨some 18, .mv, [.t 0], none⟩,
  ⟨some 19, .bin .leq, [.t 17, .t 18], none⟩]
def a25r5 : List IOp := [⟨some 20, .mv, [.t 6], none⟩,
  ⟨some 21, .bin .add, [.t 20, .c (.int .i64 1)], none⟩,
  ⟨some 6, .mv, [.t 21], none⟩]
def a25r6 : List IOp := [⟨some 22, .mv, [.t 0], none⟩,
  ⟨some 23, .mv, [.t 6], none⟩,
  ⟨some 24, .call 60, [.t 23], none⟩,
  ⟨some 25, .bin .sub, [.t 22, .t 24], none⟩,
  ⟨some 7, .mv, [.t 25], none⟩]
def a25r7 : List IOp := [⟨some 8, .mv, [.c (.int .i64 1)], none⟩]
def a25r8 : List IOp := [⟨some 26, .mv, [.t 7], none⟩,
  ⟨some 27, .mv, [.t 6], none⟩,
  ⟨some 28, .mv, [.t 8], none⟩,
  ⟨some 29, .call 54, [.t 27, .t 28], none⟩,
  ⟨some 30, .bin .geq, [.t 26, .t 29], none⟩]
def a25r9 : List IOp := [⟨some 31, .mv, [.t 7], none⟩,
  ⟨some 32, .mv, [.t 6], none⟩,
  ⟨some 33, .mv, [.t 8], none⟩,
  ⟨some 34, .call 54, [.t 32, .t 33], none⟩,
  ⟨some 35, .bin .sub, [.t 31, .t 34], none⟩,
  ⟨some 7, .mv, [.t 35], none⟩]
def a25r10 : List IOp := [⟨some 36, .mv, [.t 8], none⟩,
  ⟨some 37, .bin .add, [.t 36, .c (.int .i64 1)], none⟩,
  ⟨some 8, .mv, [.t 37], none⟩]
def a25r11 : List IOp := [⟨some 38, .mv, [.t 6], none⟩,
  ⟨some 39, .mv, [.t 8], none⟩,
  ⟨some 40, .mv, [.t 7], none⟩,
  ⟨some 41, .bin .add, [.t 40, .c (.int .i64 1)], none⟩,
  ⟨some 2, .mv, [.t 38], none⟩,
  ⟨some 3, .mv, [.t 39], none⟩,
  ⟨some 4, .mv, [.t 41], none⟩,
  ⟨some 5, .mv, [.c (.bool true)], none⟩]
def a25 : AFunc := ⟨42, [.tmp 2, .tmp 3, .tmp 4, .tmp 5], (.seq (.region a25r0 [0]) (.seq (.seq (.region a25r1 [0, 11]) (.cond (.t 11) (.seq (.region a25r2 [2, 3, 4, 5]) .ret) .skip)) (.seq (.region a25r3 [0, 6]) (.seq (.block 0 (.loop (.seq (.seq (.region a25r4 [0, 6, 19]) (.cond (.t 19) .skip (.exit 0))) (.block 1 (.region a25r5 [0, 6]))))) (.seq (.region a25r6 [6, 7]) (.seq (.region a25r7 [6, 7, 8]) (.seq (.block 2 (.loop (.seq (.seq (.region a25r8 [6, 7, 8, 30]) (.cond (.t 30) .skip (.exit 2))) (.block 3 (.seq (.region a25r9 [6, 7, 8]) (.region a25r10 [6, 7, 8])))))) (.seq (.region a25r11 [2, 3, 4, 5]) .ret))))))))⟩
theorem a25_ok : compileF Tryd.prog (lk [(0, ⟨[0], [], []⟩), (1, ⟨[0, 11], [], []⟩), (2, ⟨[2, 3, 4, 5], [], []⟩), (3, ⟨[0, 6], [], []⟩), (4, ⟨[0, 6, 19], [], []⟩), (5, ⟨[0, 6], [], []⟩), (6, ⟨[6, 7], [], []⟩), (7, ⟨[6, 7, 8], [], []⟩), (8, ⟨[6, 7, 8, 30], [], []⟩), (9, ⟨[6, 7, 8], [], []⟩), (10, ⟨[6, 7, 8], [], []⟩), (11, ⟨[2, 3, 4, 5], [], []⟩)]) Tryd.f25 = some a25 := by kernel_rfl

/- payroll/payrollref3.Week -/
def a27r0 : List IOp := [⟨some 2, .mv, [.c (.int .i64 0)], none⟩,
  ⟨some 3, .mv, [.c (.int .i64 0)], none⟩,
  ⟨some 4, .mv, [.c (.bool false)], none⟩]
def a27r1 : List IOp := [⟨some 10, .mv, [.t 0], none⟩,
  ⟨some 11, .call 59, [.t 10], none⟩,
  ⟨some 12, .not, [.t 11], none⟩]
def a27r2 : List IOp := [⟨some 2, .mv, [.c (.int .i64 0)], none⟩,
  ⟨some 3, .mv, [.c (.int .i64 0)], none⟩,
  ⟨some 4, .mv, [.c (.bool false)], none⟩]
def a27r3 : List IOp := [⟨some 13, .mv, [.t 0], none⟩,
  ⟨some 14, .mv, [.t 0], none⟩,
  ⟨some 15, .call 62, [.t 14], none⟩,
  ⟨some 16, .bin .sub, [.t 13, .t 15], none⟩,
  ⟨some 17, .bin .add, [.t 16, .c (.int .i64 3)], none⟩,
  ⟨some 5, .mv, [.t 17], none⟩]
def a27r4 : List IOp := [⟨some 18, .mv, [.t 5], none⟩,
  ⟨some 19, .bin .gtr, [.t 18, .c (.int .i64 84005)], none⟩]
def a27r5 : List IOp := [⟨some 2, .mv, [.c (.int .i64 2200)], none⟩,
  ⟨some 3, .mv, [.c (.int .i64 1)], none⟩,
  ⟨some 4, .mv, [.c (.bool true)], none⟩]
def a27r6 : List IOp := [⟨some 21, .mv, [.t 5], none⟩,
  ⟨some 22, .call 25, [.t 21], none⟩,
  ⟨some 20, .mv, [.t 22], none⟩,
  ⟨some 23, .extract 0, [.t 20], none⟩,
  ⟨some 24, .extract 1, [.t 20], none⟩,
  ⟨some 25, .extract 2, [.t 20], none⟩,
  ⟨some 26, .extract 3, [.t 20], none⟩,
  ⟨some 6, .mv, [.t 23], none⟩,
  ⟨some 7, .mv, [.t 24], none⟩,
  ⟨some 8, .mv, [.t 25], none⟩,
  ⟨some 9, .mv, [.t 26], none⟩]
def a27r7 : List IOp := [⟨some 27, .mv, [.t 6], none⟩,
  ⟨some 28, .mv, [.t 5], none⟩,
  ⟨some 29, .mv, [.t 6], none⟩,
  ⟨some 30, .call 60, [.t 29], none⟩,
  ⟨some 31, .bin .sub, [.t 28, .t 30], none⟩,
  ⟨some 32, .bin .quo, [.t 31, .c (.int .i64 7)], none⟩,
  ⟨some 33, .bin .add, [.t 32, .c (.int .i64 1)], none⟩,
  ⟨some 2, .mv, [.t 27], none⟩,
  ⟨some 3, .mv, [.t 33], none⟩,
  ⟨some 4, .mv, [.c (.bool true)], none⟩]
def a27 : AFunc := ⟨34, [.tmp 2, .tmp 3, .tmp 4], (.seq (.region a27r0 [0]) (.seq (.seq (.region a27r1 [0, 12]) (.cond (.t 12) (.seq (.region a27r2 [2, 3, 4]) .ret) .skip)) (.seq (.region a27r3 [5]) (.seq (.seq (.region a27r4 [5, 19]) (.cond (.t 19) (.seq (.region a27r5 [2, 3, 4]) .ret) .skip)) (.seq (.region a27r6 [5, 6]) (.seq (.region a27r7 [2, 3, 4]) .ret))))))⟩
theorem a27_ok : compileF Tryd.prog (lk [(0, ⟨[0], [], []⟩), (1, ⟨[0, 12], [], []⟩), (2, ⟨[2, 3, 4], [], []⟩), (3, ⟨[5], [], []⟩), (4, ⟨[5, 19], [], []⟩), (5, ⟨[2, 3, 4], [], []⟩), (6, ⟨[5, 6], [], []⟩), (7, ⟨[2, 3, 4], [], []⟩)]) Tryd.f27 = some a27 := by kernel_rfl

/- payroll/payrollref3.AddMonths -/
def a29r0 : List IOp := [⟨some 4, .mv, [.c (.int .i64 0)], none⟩,
  ⟨some 5, .mv, [.c (.bool false)], none⟩]
def a29r1 : List IOp := [⟨some 13, .mv, [.t 0], none⟩,
  ⟨some 14, .call 59, [.t 13], none⟩,
  ⟨some 15, .not, [.t 14], none⟩,
  ⟨some 16, .mv, [.t 15], none⟩,
  ⟨some 17, .mv, [.t 1], some (16, false)⟩,
  ⟨some 18, .bin .lss, [.t 17, .c (.int .i64 (-2759))], some (16, false)⟩,
  ⟨some 19, .pick, [.t 16, .c (.bool true), .t 18], none⟩,
  ⟨some 20, .mv, [.t 19], none⟩,
  ⟨some 21, .mv, [.t 1], some (20, false)⟩,
  ⟨some 22, .bin .gtr, [.t 21, .c (.int .i64 2759)], some (20, false)⟩,
  ⟨some 23, .pick, [.t 20, .c (.bool true), .t 22], none⟩]
def a29r2 : List IOp := [⟨some 4, .mv, [.c (.int .i64 0)], none⟩,
  ⟨some 5, .mv, [.c (.bool false)], none⟩]
def a29r3 : List IOp := [⟨some 24, .mv, [.t 0], none⟩,
  ⟨some 25, .call 33, [.t 24], none⟩,
  ⟨some 26, .mv, [.t 1], none⟩,
  ⟨some 27, .bin .add, [.t 25, .t 26], none⟩,
  ⟨some 6, .mv, [.t 27], none⟩]
def a29r4 : List IOp := [⟨some 29, .mv, [.t 6], none⟩,
  ⟨some 30, .call 35, [.t 29], none⟩,
  ⟨some 28, .mv, [.t 30], none⟩,
  ⟨some 31, .extract 0, [.t 28], none⟩,
  ⟨some 32, .extract 1, [.t 28], none⟩,
  ⟨some 7, .mv, [.t 31], none⟩,
  ⟨some 8, .mv, [.t 32], none⟩]
def a29r5 : List IOp := [⟨some 33, .mv, [.t 8], none⟩,
  ⟨some 34, .not, [.t 33], none⟩]
def a29r6 : List IOp := [⟨some 4, .mv, [.c (.int .i64 0)], none⟩,
  ⟨some 5, .mv, [.c (.bool false)], none⟩]
def a29r7 : List IOp := [⟨some 36, .mv, [.t 0], none⟩,
  ⟨some 37, .call 25, [.t 36], none⟩,
  ⟨some 35, .mv, [.t 37], none⟩,
  ⟨some 38, .extract 0, [.t 35], none⟩,
  ⟨some 39, .extract 1, [.t 35], none⟩,
  ⟨some 40, .extract 2, [.t 35], none⟩,
  ⟨some 41, .extract 3, [.t 35], none⟩,
  ⟨some 9, .mv, [.t 38], none⟩,
  ⟨some 10, .mv, [.t 39], none⟩,
  ⟨some 11, .mv, [.t 40], none⟩,
  ⟨some 12, .mv, [.t 41], none⟩]
def a29r8 : List IOp := [⟨some 42, .mv, [.t 7], none⟩,
  ⟨some 43, .mv, [.t 11], none⟩,
  ⟨some 44, .mv, [.t 6], none⟩,
  ⟨some 45, .call 37, [.t 44], none⟩,
  ⟨some 46, .minmax false, [.t 43, .t 45], none⟩,
  ⟨some 47, .bin .add, [.t 42, .t 46], none⟩,
  ⟨some 48, .bin .sub, [.t 47, .c (.int .i64 1)], none⟩,
  ⟨some 4, .mv, [.t 48], none⟩,
  ⟨some 5, .mv, [.c (.bool true)], none⟩]
def a29 : AFunc := ⟨49, [.tmp 4, .tmp 5], (.seq (.region a29r0 [0, 1]) (.seq (.seq (.region a29r1 [0, 1, 23]) (.cond (.t 23) (.seq (.region a29r2 [4, 5]) .ret) .skip)) (.seq (.region a29r3 [0, 6]) (.seq (.region a29r4 [0, 6, 7, 8]) (.seq (.seq (.region a29r5 [0, 6, 7, 34]) (.cond (.t 34) (.seq (.region a29r6 [4, 5]) .ret) .skip)) (.seq (.region a29r7 [6, 7, 11]) (.seq (.region a29r8 [4, 5]) .ret)))))))⟩
theorem a29_ok : compileF Tryd.prog (lk [(0, ⟨[0, 1], [], []⟩), (1, ⟨[0, 1, 23], [], []⟩), (2, ⟨[4, 5], [], []⟩), (3, ⟨[0, 6], [], []⟩), (4, ⟨[0, 6, 7, 8], [], []⟩), (5, ⟨[0, 6, 7, 34], [], []⟩), (6, ⟨[4, 5], [], []⟩), (7, ⟨[6, 7, 11], [], []⟩), (8, ⟨[4, 5], [], []⟩)]) Tryd.f29 = some a29 := by kernel_rfl

/- payroll/payrollref3.Weekday -/
def a31r0 : List IOp := [⟨some 2, .mv, [.c (.int .i64 0)], none⟩]
def a31r1 : List IOp := [⟨some 3, .mv, [.t 0], none⟩,
  ⟨some 4, .call 59, [.t 3], none⟩,
  ⟨some 5, .not, [.t 4], none⟩]
def a31r2 : List IOp := [⟨some 2, .mv, [.c (.int .i64 (-1))], none⟩]
def a31r3 : List IOp := [⟨some 6, .mv, [.t 0], none⟩,
  ⟨some 7, .call 62, [.t 6], none⟩,
  ⟨some 2, .mv, [.t 7], none⟩]
def a31 : AFunc := ⟨8, [.tmp 2], (.seq (.region a31r0 [0]) (.seq (.seq (.region a31r1 [0, 5]) (.cond (.t 5) (.seq (.region a31r2 [2]) .ret) .skip)) (.seq (.region a31r3 [2]) .ret)))⟩
theorem a31_ok : compileF Tryd.prog (lk [(0, ⟨[0], [], []⟩), (1, ⟨[0, 5], [], []⟩), (2, ⟨[2], [], []⟩), (3, ⟨[2], [], []⟩)]) Tryd.f31 = some a31 := by kernel_rfl

/- payroll/payrollref3.Month -/
def a33r0 : List IOp := [⟨some 2, .mv, [.c (.int .i64 0)], none⟩]
def a33r1 : List IOp := [⟨some 8, .mv, [.t 0], none⟩,
  ⟨some 9, .call 25, [.t 8], none⟩,
  ⟨some 7, .mv, [.t 9], none⟩,
  ⟨some 10, .extract 0, [.t 7], none⟩,
  ⟨some 11, .extract 1, [.t 7], none⟩,
  ⟨some 12, .extract 2, [.t 7], none⟩,
  ⟨some 13, .extract 3, [.t 7], none⟩,
  ⟨some 3, .mv, [.t 10], none⟩,
  ⟨some 4, .mv, [.t 11], none⟩,
  ⟨some 5, .mv, [.t 12], none⟩,
  ⟨some 6, .mv, [.t 13], none⟩]
def a33r2 : List IOp := [⟨some 14, .mv, [.t 6], none⟩,
  ⟨some 15, .not, [.t 14], none⟩]
def a33r3 : List IOp := [⟨some 2, .mv, [.c (.int .i64 (-1))], none⟩]
def a33r4 : List IOp := [⟨some 16, .mv, [.t 3], none⟩,
  ⟨some 17, .bin .sub, [.t 16, .c (.int .i64 1970)], none⟩,
  ⟨some 18, .bin .mul, [.t 17, .c (.int .i64 12)], none⟩,
  ⟨some 19, .mv, [.t 4], none⟩,
  ⟨some 20, .bin .add, [.t 18, .t 19], none⟩,
  ⟨some 21, .bin .sub, [.t 20, .c (.int .i64 1)], none⟩,
  ⟨some 2, .mv, [.t 21], none⟩]
def a33 : AFunc := ⟨22, [.tmp 2], (.seq (.region a33r0 [0]) (.seq (.region a33r1 [3, 4, 6]) (.seq (.seq (.region a33r2 [3, 4, 15]) (.cond (.t 15) (.seq (.region a33r3 [2]) .ret) .skip)) (.seq (.region a33r4 [2]) .ret))))⟩
theorem a33_ok : compileF Tryd.prog (lk [(0, ⟨[0], [], []⟩), (1, ⟨[3, 4, 6], [], []⟩), (2, ⟨[3, 4, 15], [], []⟩), (3, ⟨[2], [], []⟩), (4, ⟨[2], [], []⟩)]) Tryd.f33 = some a33 := by kernel_rfl

/- payroll/payrollref3.First -/
def a35r0 : List IOp := [⟨some 2, .mv, [.c (.int .i64 0)], none⟩,
  ⟨some 3, .mv, [.c (.bool false)], none⟩]
def a35r1 : List IOp := [⟨some 4, .mv, [.t 0], none⟩,
  ⟨some 5, .bin .lss, [.t 4, .c (.int .i64 0)], none⟩,
  ⟨some 6, .mv, [.t 5], none⟩,
  ⟨some 7, .mv, [.t 0], some (6, false)⟩,
  ⟨some 8, .bin .gtr, [.t 7, .c (.int .i64 2759)], some (6, false)⟩,
  ⟨some 9, .pick, [.t 6, .c (.bool true), .t 8], none⟩]
def a35r2 : List IOp := [⟨some 2, .mv, [.c (.int .i64 0)], none⟩,
  ⟨some 3, .mv, [.c (.bool false)], none⟩]
def a35r3 : List IOp := [⟨some 10, .mv, [.t 0], none⟩,
  ⟨some 11, .bin .quo, [.t 10, .c (.int .i64 12)], none⟩,
  ⟨some 12, .bin .add, [.c (.int .i64 1970), .t 11], none⟩,
  ⟨some 13, .mv, [.t 0], none⟩,
  ⟨some 14, .bin .rem, [.t 13, .c (.int .i64 12)], none⟩,
  ⟨some 15, .bin .add, [.c (.int .i64 1), .t 14], none⟩,
  ⟨some 16, .call 23, [.t 12, .t 15, .c (.int .i64 1)], none⟩,
  ⟨some 17, .extract 0, [.t 16], none⟩,
  ⟨some 18, .extract 1, [.t 16], none⟩,
  ⟨some 2, .mv, [.t 17], none⟩,
  ⟨some 3, .mv, [.t 18], none⟩]
def a35 : AFunc := ⟨19, [.tmp 2, .tmp 3], (.seq (.region a35r0 [0]) (.seq (.seq (.region a35r1 [0, 9]) (.cond (.t 9) (.seq (.region a35r2 [2, 3]) .ret) .skip)) (.seq (.region a35r3 [2, 3]) .ret)))⟩
theorem a35_ok : compileF Tryd.prog (lk [(0, ⟨[0], [], []⟩), (1, ⟨[0, 9], [], []⟩), (2, ⟨[2, 3], [], []⟩), (3, ⟨[2, 3], [], []⟩)]) Tryd.f35 = some a35 := by kernel_rfl

/- payroll/payrollref3.Length -/
def a37r0 : List IOp := [⟨some 2, .mv, [.c (.int .i64 0)], none⟩]
def a37r1 : List IOp := [⟨some 3, .mv, [.t 0], none⟩,
  ⟨some 4, .bin .lss, [.t 3, .c (.int .i64 0)], none⟩,
  ⟨some 5, .mv, [.t 4], none⟩,
  ⟨some 6, .mv, [.t 0], some (5, false)⟩,
  ⟨some 7, .bin .gtr, [.t 6, .c (.int .i64 2759)], some (5, false)⟩,
  ⟨some 8, .pick, [.t 5, .c (.bool true), .t 7], none⟩]
def a37r2 : List IOp := [⟨some 2, .mv, [.c (.int .i64 0)], none⟩]
def a37r3 : List IOp := [⟨some 9, .mv, [.t 0], none⟩,
  ⟨some 10, .bin .quo, [.t 9, .c (.int .i64 12)], none⟩,
  ⟨some 11, .bin .add, [.c (.int .i64 1970), .t 10], none⟩,
  ⟨some 12, .mv, [.t 0], none⟩,
  ⟨some 13, .bin .rem, [.t 12, .c (.int .i64 12)], none⟩,
  ⟨some 14, .bin .add, [.c (.int .i64 1), .t 13], none⟩,
  ⟨some 15, .call 54, [.t 11, .t 14], none⟩,
  ⟨some 2, .mv, [.t 15], none⟩]
def a37 : AFunc := ⟨16, [.tmp 2], (.seq (.region a37r0 [0]) (.seq (.seq (.region a37r1 [0, 8]) (.cond (.t 8) (.seq (.region a37r2 [2]) .ret) .skip)) (.seq (.region a37r3 [2]) .ret)))⟩
theorem a37_ok : compileF Tryd.prog (lk [(0, ⟨[0], [], []⟩), (1, ⟨[0, 8], [], []⟩), (2, ⟨[2], [], []⟩), (3, ⟨[2], [], []⟩)]) Tryd.f37 = some a37 := by kernel_rfl

/- payroll/payrollref3.Easter -/
def a39r0 : List IOp := [⟨some 2, .mv, [.c (.int .i64 0)], none⟩,
  ⟨some 3, .mv, [.c (.bool false)], none⟩]
def a39r1 : List IOp := [⟨some 4, .mv, [.t 0], none⟩,
  ⟨some 5, .call 49, [.t 4], none⟩,
  ⟨some 6, .not, [.t 5], none⟩]
def a39r2 : List IOp := [⟨some 2, .mv, [.c (.int .i64 0)], none⟩,
  ⟨some 3, .mv, [.c (.bool false)], none⟩]
def a39r3 : List IOp := [⟨some 7, .mv, [.t 0], none⟩,
  ⟨some 8, .call 63, [.t 7], none⟩,
  ⟨some 2, .mv, [.t 8], none⟩,
  ⟨some 3, .mv, [.c (.bool true)], none⟩]
def a39 : AFunc := ⟨9, [.tmp 2, .tmp 3], (.seq (.region a39r0 [0]) (.seq (.seq (.region a39r1 [0, 6]) (.cond (.t 6) (.seq (.region a39r2 [2, 3]) .ret) .skip)) (.seq (.region a39r3 [2, 3]) .ret)))⟩
theorem a39_ok : compileF Tryd.prog (lk [(0, ⟨[0], [], []⟩), (1, ⟨[0, 6], [], []⟩), (2, ⟨[2, 3], [], []⟩), (3, ⟨[2, 3], [], []⟩)]) Tryd.f39 = some a39 := by kernel_rfl

/- payroll/payrollref3.Format -/
def a40r0 : List IOp := [⟨some 2, .mv, [.c (.str ⟨#[]⟩)], none⟩]
def a40r1 : List IOp := [⟨some 8, .mv, [.t 0], none⟩,
  ⟨some 9, .call 25, [.t 8], none⟩,
  ⟨some 7, .mv, [.t 9], none⟩,
  ⟨some 10, .extract 0, [.t 7], none⟩,
  ⟨some 11, .extract 1, [.t 7], none⟩,
  ⟨some 12, .extract 2, [.t 7], none⟩,
  ⟨some 13, .extract 3, [.t 7], none⟩,
  ⟨some 3, .mv, [.t 10], none⟩,
  ⟨some 4, .mv, [.t 11], none⟩,
  ⟨some 5, .mv, [.t 12], none⟩,
  ⟨some 6, .mv, [.t 13], none⟩]
def a40r2 : List IOp := [⟨some 14, .mv, [.t 6], none⟩,
  ⟨some 15, .not, [.t 14], none⟩]
def a40r3 : List IOp := [⟨some 2, .mv, [.c (.str ⟨#[]⟩)], none⟩]
def a40r4 : List IOp := [⟨some 16, .mv, [.t 3], none⟩,
  ⟨some 17, .call 64, [.t 16], none⟩,
  ⟨some 18, .bin .add, [.t 17, .c (.str ⟨#[45]⟩)], none⟩,
  ⟨some 19, .mv, [.t 4], none⟩,
  ⟨some 20, .call 65, [.t 19], none⟩,
  ⟨some 21, .bin .add, [.t 18, .t 20], none⟩,
  ⟨some 22, .bin .add, [.t 21, .c (.str ⟨#[45]⟩)], none⟩,
  ⟨some 23, .mv, [.t 5], none⟩,
  ⟨some 24, .call 65, [.t 23], none⟩,
  ⟨some 25, .bin .add, [.t 22, .t 24], none⟩,
  ⟨some 2, .mv, [.t 25], none⟩]
def a40 : AFunc := ⟨26, [.tmp 2], (.seq (.region a40r0 [0]) (.seq (.region a40r1 [3, 4, 5, 6]) (.seq (.seq (.region a40r2 [3, 4, 5, 15]) (.cond (.t 15) (.seq (.region a40r3 [2]) .ret) .skip)) (.seq (.region a40r4 [2]) .ret))))⟩
theorem a40_ok : compileF Tryd.prog (lk [(0, ⟨[0], [], []⟩), (1, ⟨[3, 4, 5, 6], [], []⟩), (2, ⟨[3, 4, 5, 15], [], []⟩), (3, ⟨[2], [], []⟩), (4, ⟨[2], [], []⟩)]) Tryd.f40 = some a40 := by kernel_rfl

/- payroll/payrollref3.Parse -/
def a42r0 : List IOp := [⟨some 2, .mv, [.c (.int .i64 0)], none⟩,
  ⟨some 3, .mv, [.c (.bool false)], none⟩]
def a42r1 : List IOp := [⟨some 10, .mv, [.t 0], none⟩,
  ⟨some 11, .lenS, [.t 10], none⟩,
  ⟨some 12, .bin .neq, [.t 11, .c (.int .i64 10)], none⟩]
def a42r2 : List IOp := [⟨some 2, .mv, [.c (.int .i64 0)], none⟩,
  ⟨some 3, .mv, [.c (.bool false)], none⟩]
def a42r3 : List IOp := [⟨some 13, .build [.int .i64 0, .int .i64 0, .int .i64 0] [], [], none⟩,
  ⟨some 4, .alloc 64 [.int .i64 0, .int .i64 0, .int .i64 0], [], none⟩,
  ⟨none, .store 3, [.t 4, .t 13], none⟩]
def a42r4 : List (Nat × DOp) := [(0, ⟨⟨some 14, .mv, [.t 0], none⟩, none, [2, 3, 4, 5, 8]⟩),
  (1, ⟨⟨some 15, .sliceS false true, [.t 14, .c (.int .i64 4)], none⟩, none, [2, 3, 4, 5, 8]⟩),
  (2, ⟨⟨some 16, .mv, [.t 0], none⟩, none, [0, 1, 4, 5, 8]⟩),
  (3, ⟨⟨some 17, .sliceS true true, [.t 16, .c (.int .i64 5), .c (.int .i64 7)], none⟩, none, [0, 1, 4, 5, 8]⟩),
  (4, ⟨⟨some 18, .mv, [.t 0], none⟩, none, [0, 1, 2, 3, 8]⟩),
  (5, ⟨⟨some 19, .sliceS true false, [.t 18, .c (.int .i64 8)], none⟩, none, [0, 1, 2, 3, 8]⟩),
  (6, ⟨⟨some 20, .bslice 9 1 [.str ⟨#[]⟩] 3 [0, 1, 2], [.t 15, .t 17, .t 19], none⟩, some 0, [8]⟩),
  (7, ⟨⟨some 21, .len, [.t 20], none⟩, none, [8]⟩),
  (8, ⟨⟨some 22, .mv, [.c (.int .i64 0)], none⟩, none, [0, 1, 2, 3, 4, 5, 6, 7]⟩)]
def a42r5 : List IOp := [⟨some 23, .bin .lss, [.t 22, .t 21], none⟩]
def a42r6 : List IOp := [⟨some 24, .mv, [.t 22], none⟩,
  ⟨some 25, .indexAddr 1, [.t 20, .t 22], none⟩,
  ⟨some 26, .load1, [.t 25], none⟩,
  ⟨some 5, .mv, [.t 24], none⟩,
  ⟨some 6, .mv, [.t 26], none⟩]
def a42r7 : List IOp := [⟨some 7, .mv, [.c (.int .i64 0)], none⟩]
def a42r8 : List IOp := [⟨some 27, .mv, [.t 7], none⟩,
  ⟨some 28, .mv, [.t 6], none⟩,
  ⟨some 29, .lenS, [.t 28], none⟩,
  ⟨some 30, .bin .lss, [.t 27, .t 29], none⟩]
def a42r9 : List IOp := [⟨some 33, .mv, [.t 6], none⟩,
  ⟨some 34, .mv, [.t 7], none⟩,
  ⟨some 35, .index, [.t 33, .t 34], none⟩,
  ⟨some 36, .bin .lss, [.t 35, .c (.int .u8 48)], none⟩,
  ⟨some 37, .mv, [.t 36], none⟩,
  ⟨some 38, .mv, [.t 6], some (37, false)⟩,
  ⟨some 39, .mv, [.t 7], some (37, false)⟩,
  ⟨some 40, .index, [.t 38, .t 39], some (37, false)⟩,
  ⟨some 41, .bin .gtr, [.t 40, .c (.int .u8 57)], some (37, false)⟩,
  ⟨some 42, .pick, [.t 37, .c (.bool true), .t 41], none⟩]
def a42r10 : List IOp := [⟨some 2, .mv, [.c (.int .i64 0)], none⟩,
  ⟨some 3, .mv, [.c (.bool false)], none⟩]
def a42r11 : List (Nat × DOp) := [(0, ⟨⟨some 43, .mv, [.t 5], none⟩, none, [1, 2, 3, 4, 5, 6, 7, 8, 9, 10]⟩),
  (1, ⟨⟨some 44, .mv, [.t 5], none⟩, none, [0, 5, 6, 7, 8, 9]⟩),
  (2, ⟨⟨some 45, .indexArr 3 1, [.t 4, .t 44], none⟩, none, [0, 5, 6, 7, 8, 9]⟩),
  (3, ⟨⟨some 46, .load1, [.t 45], none⟩, none, [0, 5, 6, 7, 8, 9]⟩),
  (4, ⟨⟨some 47, .bin .mul, [.t 46, .c (.int .i64 10)], none⟩, none, [0, 5, 6, 7, 8, 9]⟩),
  (5, ⟨⟨some 48, .mv, [.t 6], none⟩, none, [0, 1, 2, 3, 4, 6]⟩),
  (6, ⟨⟨some 49, .mv, [.t 7], none⟩, none, [0, 1, 2, 3, 4, 5]⟩),
  (7, ⟨⟨some 50, .index, [.t 48, .t 49], none⟩, none, [0, 1, 2, 3, 4]⟩),
  (8, ⟨⟨some 51, .bin .sub, [.t 50, .c (.int .u8 48)], none⟩, none, [0, 1, 2, 3, 4]⟩),
  (9, ⟨⟨some 52, .conv .i64, [.t 51], none⟩, none, [0, 1, 2, 3, 4]⟩),
  (10, ⟨⟨some 53, .bin .add, [.t 47, .t 52], none⟩, none, [0]⟩),
  (11, ⟨⟨some 54, .indexArr 3 1, [.t 4, .t 43], none⟩, none, []⟩),
  (12, ⟨⟨none, .store 1, [.t 54, .t 53], none⟩, none, []⟩)]
def a42r12 : List IOp := [⟨some 31, .mv, [.t 7], none⟩,
  ⟨some 32, .bin .add, [.t 31, .c (.int .i64 1)], none⟩,
  ⟨some 7, .mv, [.t 32], none⟩]
def a42r13 : List IOp := [⟨some 55, .bin .add, [.t 22, .c (.int .i64 1)], none⟩,
  ⟨some 22, .mv, [.t 55], none⟩]
def a42r14 : List IOp := [⟨some 57, .indexArr 3 1, [.t 4, .c (.int .i64 0)], none⟩,
  ⟨some 58, .load1, [.t 57], none⟩,
  ⟨some 59, .indexArr 3 1, [.t 4, .c (.int .i64 1)], none⟩,
  ⟨some 60, .load1, [.t 59], none⟩,
  ⟨some 61, .indexArr 3 1, [.t 4, .c (.int .i64 2)], none⟩,
  ⟨some 62, .load1, [.t 61], none⟩,
  ⟨some 63, .call 23, [.t 58, .t 60, .t 62], none⟩,
  ⟨some 56, .mv, [.t 63], none⟩,
  ⟨some 64, .extract 0, [.t 56], none⟩,
  ⟨some 65, .extract 1, [.t 56], none⟩,
  ⟨some 8, .mv, [.t 64], none⟩,
  ⟨some 9, .mv, [.t 65], none⟩]
def a42r15 : List IOp := [⟨some 66, .mv, [.t 9], none⟩,
  ⟨some 67, .not, [.t 66], none⟩,
  ⟨some 68, .mv, [.t 67], none⟩,
  ⟨some 69, .mv, [.t 0], some (68, false)⟩,
  ⟨some 70, .index, [.t 69, .c (.int .i64 4)], some (68, false)⟩,
  ⟨some 71, .bin .neq, [.t 70, .c (.int .u8 45)], some (68, false)⟩,
  ⟨some 72, .pick, [.t 68, .c (.bool true), .t 71], none⟩,
  ⟨some 73, .mv, [.t 72], none⟩,
  ⟨some 74, .mv, [.t 0], some (73, false)⟩,
  ⟨some 75, .index, [.t 74, .c (.int .i64 7)], some (73, false)⟩,
  ⟨some 76, .bin .neq, [.t 75, .c (.int .u8 45)], some (73, false)⟩,
  ⟨some 77, .pick, [.t 73, .c (.bool true), .t 76], none⟩]
def a42r16 : List IOp := [⟨some 2, .mv, [.c (.int .i64 0)], none⟩,
  ⟨some 3, .mv, [.c (.bool false)], none⟩]
def a42r17 : List IOp := [⟨some 78, .mv, [.t 8], none⟩,
  ⟨some 2, .mv, [.t 78], none⟩,
  ⟨some 3, .mv, [.c (.bool true)], none⟩]
def a42 : AFunc := ⟨79, [.tmp 2, .tmp 3], (.seq (.region a42r0 [0]) (.seq (.seq (.region a42r1 [0, 12]) (.cond (.t 12) (.seq (.region a42r2 [2, 3]) .ret) .skip)) (.seq (.region a42r3 [0, 4]) (.seq (.seq (.draw a42r4 [(9, 1)] [0, 4, 20, 21, 22]) (.block 0 (.loop (.seq (.region a42r5 [0, 4, 20, 21, 22, 23]) (.seq (.cond (.t 23) .skip (.exit 0)) (.seq (.block 1 (.seq (.region a42r6 [0, 4, 5, 6, 20, 21, 22]) (.seq (.region a42r7 [0, 4, 5, 6, 7, 20, 21, 22]) (.block 2 (.loop (.seq (.seq (.region a42r8 [0, 4, 5, 6, 7, 20, 21, 22, 30]) (.cond (.t 30) .skip (.exit 2))) (.seq (.block 3 (.seq (.seq (.region a42r9 [0, 4, 5, 6, 7, 20, 21, 22, 42]) (.cond (.t 42) (.seq (.region a42r10 [2, 3]) .ret) .skip)) (.draw a42r11 [] [0, 4, 5, 6, 7, 20, 21, 22]))) (.region a42r12 [0, 4, 5, 6, 7, 20, 21, 22])))))))) (.region a42r13 [0, 4, 20, 21, 22]))))))) (.seq (.region a42r14 [0, 8, 9]) (.seq (.seq (.region a42r15 [8, 77]) (.cond (.t 77) (.seq (.region a42r16 [2, 3]) .ret) .skip)) (.seq (.region a42r17 [2, 3]) .ret)))))))⟩
theorem a42_ok : compileF Tryd.prog (lk [(0, ⟨[0], [], []⟩), (1, ⟨[0, 12], [], []⟩), (2, ⟨[2, 3], [], []⟩), (3, ⟨[0, 4], [], []⟩), (4, ⟨[0, 4, 20, 21, 22], [[], [0], [], [2], [], [4], [1, 3, 5, 0, 2, 4], [6, 1, 3, 5, 0, 2, 4], []], [0, 1, 2, 3, 4, 5, 6, 7, 8]⟩), (5, ⟨[0, 4, 20, 21, 22, 23], [], []⟩), (6, ⟨[0, 4, 5, 6, 20, 21, 22], [], []⟩), (7, ⟨[0, 4, 5, 6, 7, 20, 21, 22], [], []⟩), (8, ⟨[0, 4, 5, 6, 7, 20, 21, 22, 30], [], []⟩), (9, ⟨[0, 4, 5, 6, 7, 20, 21, 22], [], []⟩), (10, ⟨[0, 4, 5, 6, 7, 20, 21, 22, 42], [], []⟩), (11, ⟨[2, 3], [], []⟩), (12, ⟨[0, 4, 5, 6, 7, 20, 21, 22], [[], [], [1], [2, 1], [3, 2, 1], [], [], [5, 6], [7, 5, 6], [8, 7, 5, 6], [4, 9, 3, 2, 1, 8, 7, 5, 6], [0, 1, 2, 3, 4, 5, 6, 7, 8, 9, 10], [11, 10, 0, 1, 2, 3, 4, 5, 6, 7, 8, 9]], [0, 1, 2, 3, 4, 5, 6, 7, 8, 9, 10, 11, 12]⟩), (13, ⟨[0, 4, 20, 21, 22], [], []⟩), (14, ⟨[0, 8, 9], [], []⟩), (15, ⟨[8, 77], [], []⟩), (16, ⟨[2, 3], [], []⟩), (17, ⟨[2, 3], [], []⟩)]) Tryd.f42 = some a42 := by kernel_rfl

/- payroll/payrollref3.Workdays -/
def a46r0 : List IOp := [⟨some 6, .mv, [.c (.int .i64 0)], none⟩,
  ⟨some 7, .mv, [.c (.int .i64 0)], none⟩]
def a46r1 : List IOp := [⟨some 11, .mv, [.t 0], none⟩,
  ⟨some 12, .call 47, [.t 11], none⟩,
  ⟨some 8, .mv, [.t 12], none⟩]
def a46r2 : List IOp := [⟨some 13, .mv, [.t 8], none⟩,
  ⟨some 14, .bin .neq, [.t 13, .c (.int .i64 0)], none⟩]
def a46r3 : List IOp := [⟨some 15, .mv, [.t 8], none⟩,
  ⟨some 6, .mv, [.c (.int .i64 0)], none⟩,
  ⟨some 7, .mv, [.t 15], none⟩]
def a46r4 : List IOp := [⟨some 16, .mv, [.t 1], none⟩,
  ⟨some 17, .call 59, [.t 16], none⟩,
  ⟨some 18, .not, [.t 17], none⟩,
  ⟨some 19, .mv, [.t 18], none⟩,
  ⟨some 20, .mv, [.t 2], some (19, false)⟩,
  ⟨some 21, .call 59, [.t 20], some (19, false)⟩,
  ⟨some 22, .not, [.t 21], some (19, false)⟩,
  ⟨some 23, .pick, [.t 19, .c (.bool true), .t 22], none⟩]
def a46r5 : List IOp := [⟨some 6, .mv, [.c (.int .i64 0)], none⟩,
  ⟨some 7, .mv, [.c (.int .i64 2)], none⟩]
def a46r6 : List IOp := [⟨some 9, .mv, [.c (.int .i64 0)], none⟩]
def a46r7 : List IOp := [⟨some 24, .mv, [.t 1], none⟩,
  ⟨some 10, .mv, [.t 24], none⟩]
def a46r8 : List IOp := [⟨some 25, .mv, [.t 10], none⟩,
  ⟨some 26, .mv, [.t 2], none⟩,
  ⟨some 27, .bin .leq, [.t 25, .t 26], none⟩]
def a46r9 : List IOp := [⟨some 30, .mv, [.t 0], none⟩,
  ⟨some 31, .mv, [.t 10], none⟩,
  ⟨some 32, .call 70, [.t 30, .t 31], none⟩]
def a46r10 : List IOp := [⟨some 33, .mv, [.t 9], none⟩,
  ⟨some 34, .bin .add, [.t 33, .c (.int .i64 1)], none⟩,
  ⟨some 9, .mv, [.t 34], none⟩]
def a46r11 : List IOp := [⟨some 28, .mv, [.t 10], none⟩,
  ⟨some 29, .bin .add, [.t 28, .c (.int .i64 1)], none⟩,
  ⟨some 10, .mv, [.t 29], none⟩]
def a46r12 : List IOp := [⟨some 35, .mv, [.t 9], none⟩,
  ⟨some 6, .mv, [.t 35], none⟩,
  ⟨some 7, .mv, [.c (.int .i64 0)], none⟩]
def a46 : AFunc := ⟨36, [.tmp 6, .tmp 7], (.seq (.region a46r0 [0, 1, 2]) (.seq (.seq (.region a46r1 [0, 1, 2, 8]) (.seq (.region a46r2 [0, 1, 2, 8, 14]) (.cond (.t 14) (.seq (.region a46r3 [6, 7]) .ret) .skip))) (.seq (.seq (.region a46r4 [0, 1, 2, 23]) (.cond (.t 23) (.seq (.region a46r5 [6, 7]) .ret) .skip)) (.seq (.region a46r6 [0, 1, 2, 9]) (.seq (.seq (.region a46r7 [0, 2, 9, 10]) (.block 0 (.loop (.seq (.seq (.region a46r8 [0, 2, 9, 10, 27]) (.cond (.t 27) .skip (.exit 0))) (.seq (.block 1 (.seq (.region a46r9 [0, 2, 9, 10, 32]) (.cond (.t 32) (.region a46r10 [0, 2, 9, 10]) .skip))) (.region a46r11 [0, 2, 9, 10])))))) (.seq (.region a46r12 [6, 7]) .ret))))))⟩
theorem a46_ok : compileF Tryd.prog (lk [(0, ⟨[0, 1, 2], [], []⟩), (1, ⟨[0, 1, 2, 8], [], []⟩), (2, ⟨[0, 1, 2, 8, 14], [], []⟩), (3, ⟨[6, 7], [], []⟩), (4, ⟨[0, 1, 2, 23], [], []⟩), (5, ⟨[6, 7], [], []⟩), (6, ⟨[0, 1, 2, 9], [], []⟩), (7, ⟨[0, 2, 9, 10], [], []⟩), (8, ⟨[0, 2, 9, 10, 27], [], []⟩), (9, ⟨[0, 2, 9, 10], [], []⟩), (10, ⟨[0, 2, 9, 10, 32], [], []⟩), (11, ⟨[0, 2, 9, 10], [], []⟩), (12, ⟨[6, 7], [], []⟩)]) Tryd.f46 = some a46 := by kernel_rfl

/- payroll/payrollref3.Valid -/
def a47r0 : List IOp := [⟨some 2, .mv, [.c (.int .i64 0)], none⟩]
def a47r1 : List IOp := [⟨some 4, .mv, [.t 0], none⟩,
  ⟨some 5, .len, [.t 4], none⟩,
  ⟨some 6, .bin .gtr, [.t 5, .c (.int .i64 1024)], none⟩]
def a47r2 : List IOp := [⟨some 2, .mv, [.c (.int .i64 3)], none⟩]
def a47r3 : List IOp := [⟨some 3, .mv, [.c (.int .i64 0)], none⟩]
def a47r4 : List IOp := [⟨some 7, .mv, [.t 3], none⟩,
  ⟨some 8, .mv, [.t 0], none⟩,
  ⟨some 9, .len, [.t 8], none⟩,
  ⟨some 10, .bin .lss, [.t 7, .t 9], none⟩]
def a47r5 : List IOp := [⟨some 13, .mv, [.t 0], none⟩,
  ⟨some 14, .mv, [.t 3], none⟩,
  ⟨some 15, .indexAddr 6, [.t 13, .t 14], none⟩,
  ⟨some 16, .loadA 6, [.t 15], none⟩,
  ⟨some 17, .call 71, [.t 16], none⟩,
  ⟨some 18, .not, [.t 17], none⟩]
def a47r6 : List IOp := [⟨some 2, .mv, [.c (.int .i64 1)], none⟩]
def a47r7 : List IOp := [⟨some 11, .mv, [.t 3], none⟩,
  ⟨some 12, .bin .add, [.t 11, .c (.int .i64 1)], none⟩,
  ⟨some 3, .mv, [.t 12], none⟩]
def a47r8 : List IOp := [⟨some 2, .mv, [.c (.int .i64 0)], none⟩]
def a47 : AFunc := ⟨19, [.tmp 2], (.seq (.region a47r0 [0]) (.seq (.seq (.region a47r1 [0, 6]) (.cond (.t 6) (.seq (.region a47r2 [2]) .ret) .skip)) (.seq (.seq (.region a47r3 [0, 3]) (.block 0 (.loop (.seq (.seq (.region a47r4 [0, 3, 10]) (.cond (.t 10) .skip (.exit 0))) (.seq (.block 1 (.seq (.region a47r5 [0, 3, 18]) (.cond (.t 18) (.seq (.region a47r6 [2]) .ret) .skip))) (.region a47r7 [0, 3])))))) (.seq (.region a47r8 [2]) .ret))))⟩
theorem a47_ok : compileF Tryd.prog (lk [(0, ⟨[0], [], []⟩), (1, ⟨[0, 6], [], []⟩), (2, ⟨[2], [], []⟩), (3, ⟨[0, 3], [], []⟩), (4, ⟨[0, 3, 10], [], []⟩), (5, ⟨[0, 3], [], []⟩), (6, ⟨[0, 3, 18], [], []⟩), (7, ⟨[2], [], []⟩), (8, ⟨[2], [], []⟩)]) Tryd.f47 = some a47 := by kernel_rfl

/- payroll/payrollref3.InYears -/
def a49r0 : List IOp := [⟨some 2, .mv, [.c (.bool false)], none⟩]
def a49r1 : List IOp := [⟨some 3, .mv, [.t 0], none⟩,
  ⟨some 4, .bin .geq, [.t 3, .c (.int .i64 1970)], none⟩,
  ⟨some 5, .mv, [.t 4], none⟩,
  ⟨some 6, .mv, [.t 0], some (5, true)⟩,
  ⟨some 7, .bin .leq, [.t 6, .c (.int .i64 2199)], some (5, true)⟩,
  ⟨some 8, .pick, [.t 5, .t 7, .c (.bool false)], none⟩,
  ⟨some 2, .mv, [.t 8], none⟩]
def a49 : AFunc := ⟨9, [.tmp 2], (.seq (.region a49r0 [0]) (.seq (.region a49r1 [2]) .ret))⟩
theorem a49_ok : compileF Tryd.prog (lk [(0, ⟨[0], [], []⟩), (1, ⟨[2], [], []⟩)]) Tryd.f49 = some a49 := by kernel_rfl

/- payroll/payrollref3.named -/
def a50r0 : List IOp := [⟨some 2, .box 25 6, [.t 0], none⟩,
  ⟨some 4, .mv, [.c (.int .i64 0)], none⟩,
  ⟨some 5, .mv, [.c (.bool false)], none⟩]
def a50r1 : List IOp := [⟨some 6, .mv, [.c (.int .i64 0)], none⟩]
def a50r2 : List IOp := [⟨some 10, .fieldAddr 0, [.t 2], none⟩,
  ⟨some 11, .load1, [.t 10], none⟩]
def a50r3 : List IOp := [⟨some 54, .bin .eql, [.t 11, .c (.int .i64 0)], none⟩,
  ⟨some 53, .mv, [.t 54], none⟩]
def a50r4 : List (Nat × DOp) := [(0, ⟨⟨some 55, .fieldAddr 2, [.t 2], none⟩, none, [2, 3, 4, 5]⟩),
  (1, ⟨⟨some 56, .load1, [.t 55], none⟩, none, [2, 3, 4, 5]⟩),
  (2, ⟨⟨some 57, .mv, [.t 1], none⟩, none, [0, 1, 3, 4]⟩),
  (3, ⟨⟨some 58, .fieldAddr 1, [.t 2], none⟩, none, [0, 1, 2]⟩),
  (4, ⟨⟨some 59, .load1, [.t 58], none⟩, none, [0, 1, 2]⟩),
  (5, ⟨⟨some 60, .call 54, [.t 57, .t 59], none⟩, none, [0, 1]⟩),
  (6, ⟨⟨some 61, .bin .gtr, [.t 56, .t 60], none⟩, none, []⟩)]
def a50r5 : List IOp := [⟨some 4, .mv, [.c (.int .i64 0)], none⟩,
  ⟨some 5, .mv, [.c (.bool false)], none⟩]
def a50r6 : List IOp := [⟨some 62, .mv, [.t 1], none⟩,
  ⟨some 63, .fieldAddr 1, [.t 2], none⟩,
  ⟨some 64, .load1, [.t 63], none⟩,
  ⟨some 65, .fieldAddr 2, [.t 2], none⟩,
  ⟨some 66, .load1, [.t 65], none⟩,
  ⟨some 67, .call 55, [.t 62, .t 64, .t 66], none⟩,
  ⟨some 6, .mv, [.t 67], none⟩]
def a50r7 : List IOp := [⟨some 69, .bin .eql, [.t 11, .c (.int .i64 1)], none⟩,
  ⟨some 68, .mv, [.t 69], none⟩]
def a50r8 : List (Nat × DOp) := [(0, ⟨⟨some 70, .mv, [.t 1], none⟩, none, [2, 3]⟩),
  (2, ⟨⟨some 72, .fieldAddr 4, [.t 2], none⟩, none, [0, 1]⟩),
  (3, ⟨⟨some 73, .load1, [.t 72], none⟩, none, [0, 1]⟩),
  (1, ⟨⟨some 71, .call 63, [.t 70], none⟩, none, [2, 3]⟩),
  (4, ⟨⟨some 74, .bin .add, [.t 71, .t 73], none⟩, none, []⟩),
  (5, ⟨⟨some 6, .mv, [.t 74], none⟩, none, []⟩)]
def a50r9 : List IOp := [⟨some 12, .mv, [.t 1], none⟩,
  ⟨some 13, .fieldAddr 1, [.t 2], none⟩,
  ⟨some 14, .load1, [.t 13], none⟩,
  ⟨some 15, .call 55, [.t 12, .t 14, .c (.int .i64 1)], none⟩,
  ⟨some 7, .mv, [.t 15], none⟩]
def a50r10 : List IOp := [⟨some 16, .mv, [.t 1], none⟩,
  ⟨some 17, .fieldAddr 1, [.t 2], none⟩,
  ⟨some 18, .load1, [.t 17], none⟩,
  ⟨some 19, .call 54, [.t 16, .t 18], none⟩,
  ⟨some 8, .mv, [.t 19], none⟩]
def a50r11 : List (Nat × DOp) := [(0, ⟨⟨some 20, .mv, [.t 7], none⟩, none, [1, 2, 3, 4, 5, 6, 7]⟩),
  (1, ⟨⟨some 21, .fieldAddr 3, [.t 2], none⟩, none, [0, 3, 4]⟩),
  (2, ⟨⟨some 22, .load1, [.t 21], none⟩, none, [0, 3, 4]⟩),
  (3, ⟨⟨some 23, .mv, [.t 7], none⟩, none, [0, 1, 2]⟩),
  (4, ⟨⟨some 24, .call 62, [.t 23], none⟩, none, [0, 1, 2]⟩),
  (5, ⟨⟨some 25, .bin .sub, [.t 22, .t 24], none⟩, none, [0]⟩),
  (6, ⟨⟨some 26, .bin .add, [.t 25, .c (.int .i64 7)], none⟩, none, [0]⟩),
  (7, ⟨⟨some 27, .bin .rem, [.t 26, .c (.int .i64 7)], none⟩, none, [0]⟩),
  (8, ⟨⟨some 28, .bin .add, [.t 20, .t 27], none⟩, none, []⟩),
  (9, ⟨⟨some 6, .mv, [.t 28], none⟩, none, []⟩)]
def a50r12 : List IOp := [⟨some 29, .fieldAddr 2, [.t 2], none⟩,
  ⟨some 30, .load1, [.t 29], none⟩,
  ⟨some 9, .mv, [.t 30], none⟩]
def a50r13 : List IOp := [⟨some 31, .mv, [.t 9], none⟩,
  ⟨some 32, .bin .eql, [.t 31, .c (.int .i64 (-1))], none⟩]
def a50r14 : List IOp := [⟨some 9, .mv, [.c (.int .i64 5)], none⟩]
def a50r15 : List IOp := [⟨some 33, .mv, [.t 6], none⟩,
  ⟨some 34, .bin .add, [.t 33, .c (.int .i64 28)], none⟩,
  ⟨some 35, .mv, [.t 7], none⟩,
  ⟨some 36, .mv, [.t 8], none⟩,
  ⟨some 37, .bin .add, [.t 35, .t 36], none⟩,
  ⟨some 38, .bin .geq, [.t 34, .t 37], none⟩]
def a50r16 : List IOp := [⟨some 9, .mv, [.c (.int .i64 4)], none⟩]
def a50r17 : List IOp := [⟨some 39, .mv, [.t 6], none⟩,
  ⟨some 40, .mv, [.t 9], none⟩,
  ⟨some 41, .bin .sub, [.t 40, .c (.int .i64 1)], none⟩,
  ⟨some 42, .bin .mul, [.c (.int .i64 7), .t 41], none⟩,
  ⟨some 43, .bin .add, [.t 39, .t 42], none⟩,
  ⟨some 6, .mv, [.t 43], none⟩]
def a50r18 : List IOp := [⟨some 44, .mv, [.t 6], none⟩,
  ⟨some 45, .mv, [.t 7], none⟩,
  ⟨some 46, .mv, [.t 8], none⟩,
  ⟨some 47, .bin .add, [.t 45, .t 46], none⟩,
  ⟨some 48, .bin .geq, [.t 44, .t 47], none⟩]
def a50r19 : List IOp := [⟨some 4, .mv, [.c (.int .i64 0)], none⟩,
  ⟨some 5, .mv, [.c (.bool false)], none⟩]
def a50r20 : List IOp := [⟨some 49, .mv, [.t 6], none⟩,
  ⟨some 50, .fieldAddr 4, [.t 2], none⟩,
  ⟨some 51, .load1, [.t 50], none⟩,
  ⟨some 52, .bin .add, [.t 49, .t 51], none⟩,
  ⟨some 6, .mv, [.t 52], none⟩]
def a50r21 : List IOp := [⟨some 75, .fieldAddr 5, [.t 2], none⟩,
  ⟨some 76, .load1, [.t 75], none⟩,
  ⟨some 77, .mv, [.t 76], none⟩,
  ⟨some 78, .mv, [.t 6], some (77, true)⟩,
  ⟨some 79, .call 62, [.t 78], some (77, true)⟩,
  ⟨some 80, .bin .geq, [.t 79, .c (.int .i64 5)], some (77, true)⟩,
  ⟨some 81, .pick, [.t 77, .t 80, .c (.bool false)], none⟩]
def a50r22 : List IOp := [⟨some 82, .mv, [.t 6], none⟩,
  ⟨some 83, .mv, [.t 6], none⟩,
  ⟨some 84, .call 62, [.t 83], none⟩,
  ⟨some 85, .bin .sub, [.c (.int .i64 7), .t 84], none⟩,
  ⟨some 86, .bin .add, [.t 82, .t 85], none⟩,
  ⟨some 6, .mv, [.t 86], none⟩]
def a50r23 : List IOp := [⟨some 87, .mv, [.t 6], none⟩,
  ⟨some 88, .mv, [.t 6], none⟩,
  ⟨some 89, .call 59, [.t 88], none⟩,
  ⟨some 4, .mv, [.t 87], none⟩,
  ⟨some 5, .mv, [.t 89], none⟩]
def a50 : AFunc := ⟨90, [.tmp 4, .tmp 5], (.seq (.region a50r0 [1, 2]) (.seq (.region a50r1 [1, 2]) (.seq (.seq (.region a50r2 [1, 2, 11]) (.block 0 (.seq (.region a50r3 [1, 2, 11, 53]) (.cond (.t 53) (.seq (.seq (.draw a50r4 [] [1, 2, 61]) (.cond (.t 61) (.seq (.region a50r5 [4, 5]) .ret) .skip)) (.region a50r6 [2, 6])) (.seq (.region a50r7 [1, 2, 68]) (.cond (.t 68) (.draw a50r8 [] [2, 6]) (.seq (.region a50r9 [1, 2, 7]) (.seq (.region a50r10 [2, 7, 8]) (.seq (.draw a50r11 [] [2, 6, 7, 8]) (.seq (.region a50r12 [2, 6, 7, 8, 9]) (.seq (.seq (.region a50r13 [2, 6, 7, 8, 9, 32]) (.cond (.t 32) (.seq (.region a50r14 [2, 6, 7, 8, 9]) (.seq (.region a50r15 [2, 6, 7, 8, 9, 38]) (.cond (.t 38) (.region a50r16 [2, 6, 7, 8, 9]) .skip))) .skip)) (.seq (.region a50r17 [2, 6, 7, 8]) (.seq (.seq (.region a50r18 [2, 6, 48]) (.cond (.t 48) (.seq (.region a50r19 [4, 5]) .ret) .skip)) (.region a50r20 [2, 6])))))))))))))) (.seq (.seq (.region a50r21 [6, 81]) (.cond (.t 81) (.region a50r22 [6]) .skip)) (.seq (.region a50r23 [4, 5]) .ret)))))⟩
theorem a50_ok : compileF Tryd.prog (lk [(0, ⟨[1, 2], [], []⟩), (1, ⟨[1, 2], [], []⟩), (2, ⟨[1, 2, 11], [], []⟩), (3, ⟨[1, 2, 7], [], []⟩), (4, ⟨[2, 7, 8], [], []⟩), (5, ⟨[2, 6, 7, 8], [[], [], [1], [], [3], [2, 4, 1, 3], [5, 2, 4, 1, 3], [6, 5, 2, 4, 1, 3], [0, 7, 6, 5, 2, 4, 1, 3], [8, 4, 0, 1, 2, 3, 5, 6, 7]], [0, 1, 2, 3, 4, 5, 6, 7, 8, 9]⟩), (6, ⟨[2, 6, 7, 8, 9], [], []⟩), (7, ⟨[2, 6, 7, 8, 9, 32], [], []⟩), (8, ⟨[2, 6, 7, 8, 9], [], []⟩), (9, ⟨[2, 6, 7, 8, 9, 38], [], []⟩), (10, ⟨[2, 6, 7, 8, 9], [], []⟩), (11, ⟨[2, 6, 7, 8], [], []⟩), (12, ⟨[2, 6, 48], [], []⟩), (13, ⟨[4, 5], [], []⟩), (14, ⟨[2, 6], [], []⟩), (15, ⟨[1, 2, 11, 53], [], []⟩), (16, ⟨[1, 2, 61], [[], [0], [], [], [3], [2, 4, 3], [1, 5, 0, 2, 4, 3]], [0, 1, 2, 3, 4, 5, 6]⟩), (17, ⟨[4, 5], [], []⟩), (18, ⟨[2, 6], [], []⟩), (19, ⟨[1, 2, 68], [], []⟩), (20, ⟨[2, 6], [[], [0], [], [2], [1, 3, 0, 2], [4, 1, 0, 2, 3]], [0, 2, 3, 1, 4, 5]⟩), (21, ⟨[6, 81], [], []⟩), (22, ⟨[6], [], []⟩), (23, ⟨[4, 5], [], []⟩)]) Tryd.f50 = some a50 := by kernel_rfl

/- payroll/payrollref3.lengths -/
def a54r0 : List IOp := [⟨some 4, .mv, [.c (.int .i64 0)], none⟩]
def a54r1 : List IOp := [⟨some 5, .mv, [.t 1], none⟩]
def a54r2 : List IOp := [⟨some 7, .bin .eql, [.t 5, .c (.int .i64 4)], none⟩,
  ⟨some 6, .mv, [.t 7], none⟩]
def a54r3 : List IOp := [⟨some 8, .bin .eql, [.t 5, .c (.int .i64 6)], none⟩,
  ⟨some 6, .mv, [.t 8], none⟩]
def a54r4 : List IOp := [⟨some 9, .bin .eql, [.t 5, .c (.int .i64 9)], none⟩,
  ⟨some 6, .mv, [.t 9], none⟩]
def a54r5 : List IOp := [⟨some 10, .bin .eql, [.t 5, .c (.int .i64 11)], none⟩,
  ⟨some 6, .mv, [.t 10], none⟩]
def a54r6 : List IOp := [⟨some 4, .mv, [.c (.int .i64 30)], none⟩]
def a54r7 : List IOp := [⟨some 12, .bin .eql, [.t 5, .c (.int .i64 2)], none⟩,
  ⟨some 11, .mv, [.t 12], none⟩]
def a54r8 : List IOp := [⟨some 13, .mv, [.t 0], none⟩,
  ⟨some 14, .bin .rem, [.t 13, .c (.int .i64 4)], none⟩,
  ⟨some 15, .bin .eql, [.t 14, .c (.int .i64 0)], none⟩,
  ⟨some 16, .mv, [.t 15], none⟩,
  ⟨some 17, .mv, [.t 0], some (16, true)⟩,
  ⟨some 18, .bin .rem, [.t 17, .c (.int .i64 100)], some (16, true)⟩,
  ⟨some 19, .bin .neq, [.t 18, .c (.int .i64 0)], some (16, true)⟩,
  ⟨some 20, .mv, [.t 19], some (16, true)⟩,
  ⟨some 21, .mv, [.t 0], some (20, false)⟩,
  ⟨some 22, .bin .rem, [.t 21, .c (.int .i64 400)], some (20, false)⟩,
  ⟨some 23, .bin .eql, [.t 22, .c (.int .i64 0)], some (20, false)⟩,
  ⟨some 24, .pick, [.t 20, .c (.bool true), .t 23], some (16, true)⟩,
  ⟨some 25, .pick, [.t 16, .t 24, .c (.bool false)], none⟩]
def a54r9 : List IOp := [⟨some 4, .mv, [.c (.int .i64 29)], none⟩]
def a54r10 : List IOp := [⟨some 4, .mv, [.c (.int .i64 28)], none⟩]
def a54r11 : List IOp := [⟨some 4, .mv, [.c (.int .i64 31)], none⟩]
def a54 : AFunc := ⟨26, [.tmp 4], (.seq (.region a54r0 [0, 1]) (.seq (.seq (.region a54r1 [0, 5]) (.block 0 (.seq (.seq (.region a54r2 [0, 5, 6]) (.cond (.t 6) .skip (.seq (.region a54r3 [0, 5, 6]) (.cond (.t 6) .skip (.seq (.region a54r4 [0, 5, 6]) (.cond (.t 6) .skip (.region a54r5 [0, 5, 6]))))))) (.cond (.t 6) (.seq (.region a54r6 [4]) .ret) (.seq (.region a54r7 [0, 11]) (.cond (.t 11) (.seq (.seq (.region a54r8 [25]) (.cond (.t 25) (.seq (.region a54r9 [4]) .ret) .skip)) (.seq (.region a54r10 [4]) .ret)) .skip)))))) (.seq (.region a54r11 [4]) .ret)))⟩
theorem a54_ok : compileF Tryd.prog (lk [(0, ⟨[0, 1], [], []⟩), (1, ⟨[0, 5], [], []⟩), (2, ⟨[0, 5, 6], [], []⟩), (3, ⟨[0, 5, 6], [], []⟩), (4, ⟨[0, 5, 6], [], []⟩), (5, ⟨[0, 5, 6], [], []⟩), (6, ⟨[4], [], []⟩), (7, ⟨[0, 11], [], []⟩), (8, ⟨[25], [], []⟩), (9, ⟨[4], [], []⟩), (10, ⟨[4], [], []⟩), (11, ⟨[4], [], []⟩)]) Tryd.f54 = some a54 := by kernel_rfl

/- payroll/payrollref3.raw -/
def a55r0 : List IOp := [⟨some 6, .mv, [.c (.int .i64 0)], none⟩]
def a55r1 : List IOp := [⟨some 9, .mv, [.t 0], none⟩,
  ⟨some 10, .call 60, [.t 9], none⟩,
  ⟨some 11, .mv, [.t 2], none⟩,
  ⟨some 12, .bin .add, [.t 10, .t 11], none⟩,
  ⟨some 13, .bin .sub, [.t 12, .c (.int .i64 1)], none⟩,
  ⟨some 7, .mv, [.t 13], none⟩]
def a55r2 : List IOp := [⟨some 8, .mv, [.c (.int .i64 1)], none⟩]
def a55r3 : List IOp := [⟨some 14, .mv, [.t 8], none⟩,
  ⟨some 15, .mv, [.t 1], none⟩,
  ⟨some 16, .bin .lss, [.t 14, .t 15], none⟩]
def a55r4 : List IOp := [⟨some 19, .mv, [.t 7], none⟩,
  ⟨some 20, .mv, [.t 0], none⟩,
  ⟨some 21, .mv, [.t 8], none⟩,
  ⟨some 22, .call 54, [.t 20, .t 21], none⟩,
  ⟨some 23, .bin .add, [.t 19, .t 22], none⟩,
  ⟨some 7, .mv, [.t 23], none⟩]
def a55r5 : List IOp := [⟨some 17, .mv, [.t 8], none⟩,
  ⟨some 18, .bin .add, [.t 17, .c (.int .i64 1)], none⟩,
  ⟨some 8, .mv, [.t 18], none⟩]
def a55r6 : List IOp := [⟨some 24, .mv, [.t 7], none⟩,
  ⟨some 6, .mv, [.t 24], none⟩]
def a55 : AFunc := ⟨25, [.tmp 6], (.seq (.region a55r0 [0, 1, 2]) (.seq (.region a55r1 [0, 1, 7]) (.seq (.seq (.region a55r2 [0, 1, 7, 8]) (.block 0 (.loop (.seq (.seq (.region a55r3 [0, 1, 7, 8, 16]) (.cond (.t 16) .skip (.exit 0))) (.seq (.block 1 (.region a55r4 [0, 1, 7, 8])) (.region a55r5 [0, 1, 7, 8])))))) (.seq (.region a55r6 [6]) .ret))))⟩
theorem a55_ok : compileF Tryd.prog (lk [(0, ⟨[0, 1, 2], [], []⟩), (1, ⟨[0, 1, 7], [], []⟩), (2, ⟨[0, 1, 7, 8], [], []⟩), (3, ⟨[0, 1, 7, 8, 16], [], []⟩), (4, ⟨[0, 1, 7, 8], [], []⟩), (5, ⟨[0, 1, 7, 8], [], []⟩), (6, ⟨[6], [], []⟩)]) Tryd.f55 = some a55 := by kernel_rfl

/- payroll/payrollref3.InDays -/
def a59r0 : List IOp := [⟨some 2, .mv, [.c (.bool false)], none⟩]
def a59r1 : List IOp := [⟨some 3, .mv, [.t 0], none⟩,
  ⟨some 4, .bin .geq, [.t 3, .c (.int .i64 0)], none⟩,
  ⟨some 5, .mv, [.t 4], none⟩,
  ⟨some 6, .mv, [.t 0], some (5, true)⟩,
  ⟨some 7, .bin .leq, [.t 6, .c (.int .i64 84005)], some (5, true)⟩,
  ⟨some 8, .pick, [.t 5, .t 7, .c (.bool false)], none⟩,
  ⟨some 2, .mv, [.t 8], none⟩]
def a59 : AFunc := ⟨9, [.tmp 2], (.seq (.region a59r0 [0]) (.seq (.region a59r1 [2]) .ret))⟩
theorem a59_ok : compileF Tryd.prog (lk [(0, ⟨[0], [], []⟩), (1, ⟨[2], [], []⟩)]) Tryd.f59 = some a59 := by kernel_rfl

/- payroll/payrollref3.before -/
def a60r0 : List IOp := [⟨some 2, .mv, [.c (.int .i64 0)], none⟩]
def a60r1 : List IOp := [⟨some 5, .mv, [.t 0], none⟩,
  ⟨some 6, .bin .sub, [.t 5, .c (.int .i64 1970)], none⟩,
  ⟨some 7, .bin .mul, [.t 6, .c (.int .i64 365)], none⟩,
  ⟨some 3, .mv, [.t 7], none⟩]
def a60r2 : List IOp := [⟨some 4, .mv, [.c (.int .i64 1972)], none⟩]
def a60r3 : List IOp := [⟨some 8, .mv, [.t 4], none⟩,
  ⟨some 9, .mv, [.t 0], none⟩,
  ⟨some 10, .bin .lss, [.t 8, .t 9], none⟩]
def a60r4 : List IOp := [⟨some 13, .mv, [.t 4], none⟩,
  ⟨some 14, .call 54, [.t 13, .c (.int .i64 2)], none⟩,
  ⟨some 15, .bin .eql, [.t 14, .c (.int .i64 29)], none⟩]
def a60r5 : List IOp := [⟨some 16, .mv, [.t 3], none⟩,
  ⟨some 17, .bin .add, [.t 16, .c (.int .i64 1)], none⟩,
  ⟨some 3, .mv, [.t 17], none⟩]
def a60r6 : List IOp := [⟨some 11, .mv, [.t 4], none⟩,
  ⟨some 12, .bin .add, [.t 11, .c (.int .i64 4)], none⟩,
  ⟨some 4, .mv, [.t 12], none⟩]
def a60r7 : List IOp := [⟨some 18, .mv, [.t 3], none⟩,
  ⟨some 2, .mv, [.t 18], none⟩]
def a60 : AFunc := ⟨19, [.tmp 2], (.seq (.region a60r0 [0]) (.seq (.region a60r1 [0, 3]) (.seq (.seq (.region a60r2 [0, 3, 4]) (.block 0 (.loop (.seq (.seq (.region a60r3 [0, 3, 4, 10]) (.cond (.t 10) .skip (.exit 0))) (.seq (.block 1 (.seq (.region a60r4 [0, 3, 4, 15]) (.cond (.t 15) (.region a60r5 [0, 3, 4]) .skip))) (.region a60r6 [0, 3, 4])))))) (.seq (.region a60r7 [2]) .ret))))⟩
theorem a60_ok : compileF Tryd.prog (lk [(0, ⟨[0], [], []⟩), (1, ⟨[0, 3], [], []⟩), (2, ⟨[0, 3, 4], [], []⟩), (3, ⟨[0, 3, 4, 10], [], []⟩), (4, ⟨[0, 3, 4], [], []⟩), (5, ⟨[0, 3, 4, 15], [], []⟩), (6, ⟨[0, 3, 4], [], []⟩), (7, ⟨[2], [], []⟩)]) Tryd.f60 = some a60 := by kernel_rfl

/- payroll/payrollref3.Shown -/
def a62r0 : List IOp := [⟨some 2, .mv, [.c (.int .i64 0)], none⟩]
def a62r1 : List IOp := [⟨some 3, .mv, [.t 0], none⟩,
  ⟨some 4, .bin .add, [.t 3, .c (.int .i64 3)], none⟩,
  ⟨some 5, .bin .rem, [.t 4, .c (.int .i64 7)], none⟩,
  ⟨some 6, .bin .add, [.t 5, .c (.int .i64 7)], none⟩,
  ⟨some 7, .bin .rem, [.t 6, .c (.int .i64 7)], none⟩,
  ⟨some 2, .mv, [.t 7], none⟩]
def a62 : AFunc := ⟨8, [.tmp 2], (.seq (.region a62r0 [0]) (.seq (.region a62r1 [2]) .ret))⟩
theorem a62_ok : compileF Tryd.prog (lk [(0, ⟨[0], [], []⟩), (1, ⟨[2], [], []⟩)]) Tryd.f62 = some a62 := by kernel_rfl

/- payroll/payrollref3.easter -/
def a63r0 : List IOp := [⟨some 2, .mv, [.c (.int .i64 0)], none⟩]
def a63r1 : List IOp := [⟨some 9, .mv, [.t 0], none⟩,
  ⟨some 10, .bin .rem, [.t 9, .c (.int .i64 19)], none⟩,
  ⟨some 11, .mv, [.t 0], none⟩,
  ⟨some 12, .bin .quo, [.t 11, .c (.int .i64 100)], none⟩,
  ⟨some 13, .mv, [.t 0], none⟩,
  ⟨some 14, .bin .rem, [.t 13, .c (.int .i64 100)], none⟩,
  ⟨some 3, .mv, [.t 10], none⟩,
  ⟨some 4, .mv, [.t 12], none⟩,
  ⟨some 5, .mv, [.t 14], none⟩]
def a63r2 : List IOp := [⟨some 15, .mv, [.t 3], none⟩,
  ⟨some 16, .bin .mul, [.c (.int .i64 19), .t 15], none⟩,
  ⟨some 17, .mv, [.t 4], none⟩,
  ⟨some 18, .bin .add, [.t 16, .t 17], none⟩,
  ⟨some 19, .mv, [.t 4], none⟩,
  ⟨some 20, .bin .quo, [.t 19, .c (.int .i64 4)], none⟩,
  ⟨some 21, .bin .sub, [.t 18, .t 20], none⟩,
  ⟨some 22, .mv, [.t 4], none⟩,
  ⟨some 23, .mv, [.t 4], none⟩,
  ⟨some 24, .bin .add, [.t 23, .c (.int .i64 8)], none⟩,
  ⟨some 25, .bin .quo, [.t 24, .c (.int .i64 25)], none⟩,
  ⟨some 26, .bin .sub, [.t 22, .t 25], none⟩,
  ⟨some 27, .bin .add, [.t 26, .c (.int .i64 1)], none⟩,
  ⟨some 28, .bin .quo, [.t 27, .c (.int .i64 3)], none⟩,
  ⟨some 29, .bin .sub, [.t 21, .t 28], none⟩,
  ⟨some 30, .bin .add, [.t 29, .c (.int .i64 15)], none⟩,
  ⟨some 31, .bin .rem, [.t 30, .c (.int .i64 30)], none⟩,
  ⟨some 6, .mv, [.t 31], none⟩]
def a63r3 : List IOp := [⟨some 32, .mv, [.t 4], none⟩,
  ⟨some 33, .bin .rem, [.t 32, .c (.int .i64 4)], none⟩,
  ⟨some 34, .bin .mul, [.c (.int .i64 2), .t 33], none⟩,
  ⟨some 35, .bin .add, [.c (.int .i64 32), .t 34], none⟩,
  ⟨some 36, .mv, [.t 5], none⟩,
  ⟨some 37, .bin .quo, [.t 36, .c (.int .i64 4)], none⟩,
  ⟨some 38, .bin .mul, [.c (.int .i64 2), .t 37], none⟩,
  ⟨some 39, .bin .add, [.t 35, .t 38], none⟩,
  ⟨some 40, .mv, [.t 6], none⟩,
  ⟨some 41, .bin .sub, [.t 39, .t 40], none⟩,
  ⟨some 42, .mv, [.t 5], none⟩,
  ⟨some 43, .bin .rem, [.t 42, .c (.int .i64 4)], none⟩,
  ⟨some 44, .bin .sub, [.t 41, .t 43], none⟩,
  ⟨some 45, .bin .rem, [.t 44, .c (.int .i64 7)], none⟩,
  ⟨some 7, .mv, [.t 45], none⟩]
def a63r4 : List IOp := [⟨some 46, .mv, [.t 6], none⟩,
  ⟨some 47, .mv, [.t 7], none⟩,
  ⟨some 48, .bin .add, [.t 46, .t 47], none⟩,
  ⟨some 49, .mv, [.t 3], none⟩,
  ⟨some 50, .mv, [.t 6], none⟩,
  ⟨some 51, .bin .mul, [.c (.int .i64 11), .t 50], none⟩,
  ⟨some 52, .bin .add, [.t 49, .t 51], none⟩,
  ⟨some 53, .mv, [.t 7], none⟩,
  ⟨some 54, .bin .mul, [.c (.int .i64 22), .t 53], none⟩,
  ⟨some 55, .bin .add, [.t 52, .t 54], none⟩,
  ⟨some 56, .bin .quo, [.t 55, .c (.int .i64 451)], none⟩,
  ⟨some 57, .bin .mul, [.c (.int .i64 7), .t 56], none⟩,
  ⟨some 58, .bin .sub, [.t 48, .t 57], none⟩,
  ⟨some 59, .bin .add, [.t 58, .c (.int .i64 114)], none⟩,
  ⟨some 8, .mv, [.t 59], none⟩]
def a63r5 : List IOp := [⟨some 60, .mv, [.t 0], none⟩,
  ⟨some 61, .mv, [.t 8], none⟩,
  ⟨some 62, .bin .quo, [.t 61, .c (.int .i64 31)], none⟩,
  ⟨some 63, .mv, [.t 8], none⟩,
  ⟨some 64, .bin .rem, [.t 63, .c (.int .i64 31)], none⟩,
  ⟨some 65, .bin .add, [.t 64, .c (.int .i64 1)], none⟩,
  ⟨some 66, .call 55, [.t 60, .t 62, .t 65], none⟩,
  ⟨some 2, .mv, [.t 66], none⟩]
def a63 : AFunc := ⟨67, [.tmp 2], (.seq (.region a63r0 [0]) (.seq (.region a63r1 [0, 3, 4, 5]) (.seq (.region a63r2 [0, 3, 4, 5, 6]) (.seq (.region a63r3 [0, 3, 6, 7]) (.seq (.region a63r4 [0, 8]) (.seq (.region a63r5 [2]) .ret))))))⟩
theorem a63_ok : compileF Tryd.prog (lk [(0, ⟨[0], [], []⟩), (1, ⟨[0, 3, 4, 5], [], []⟩), (2, ⟨[0, 3, 4, 5, 6], [], []⟩), (3, ⟨[0, 3, 6, 7], [], []⟩), (4, ⟨[0, 8], [], []⟩), (5, ⟨[2], [], []⟩)]) Tryd.f63 = some a63 := by kernel_rfl

/- payroll/payrollref1.Decimal -/
def a64r0 : List IOp := [⟨some 2, .mv, [.c (.str ⟨#[]⟩)], none⟩]
def a64r1 : List IOp := [⟨some 3, .mv, [.c (.str ⟨#[]⟩)], none⟩]
def a64r2 : List IOp := [⟨some 5, .mv, [.t 0], none⟩,
  ⟨some 6, .call 77, [.t 5], none⟩,
  ⟨some 4, .mv, [.t 6], none⟩]
def a64r3 : List IOp := [⟨some 7, .mv, [.t 4], none⟩,
  ⟨some 8, .bin .gtr, [.t 7, .c (.int .u64 0)], none⟩,
  ⟨some 9, .mv, [.t 8], none⟩,
  ⟨some 10, .mv, [.t 3], some (9, false)⟩,
  ⟨some 11, .bin .eql, [.t 10, .c (.str ⟨#[]⟩)], some (9, false)⟩,
  ⟨some 12, .pick, [.t 9, .c (.bool true), .t 11], none⟩]
def a64r4 : List IOp := [⟨some 15, .mv, [.t 4], none⟩,
  ⟨some 16, .bin .rem, [.t 15, .c (.int .u64 10)], none⟩,
  ⟨some 17, .bin .add, [.c (.int .u64 48), .t 16], none⟩,
  ⟨some 18, .conv .u8, [.t 17], none⟩,
  ⟨some 19, .bslice 5 1 [.int .u8 0] 1 [0], [.t 18], none⟩,
  ⟨some 20, .b2s, [.t 19], none⟩,
  ⟨some 21, .mv, [.t 3], none⟩,
  ⟨some 22, .bin .add, [.t 20, .t 21], none⟩,
  ⟨some 3, .mv, [.t 22], none⟩]
def a64r5 : List IOp := [⟨some 13, .mv, [.t 4], none⟩,
  ⟨some 14, .bin .quo, [.t 13, .c (.int .u64 10)], none⟩,
  ⟨some 4, .mv, [.t 14], none⟩]
def a64r6 : List IOp := [⟨some 23, .mv, [.t 0], none⟩,
  ⟨some 24, .bin .lss, [.t 23, .c (.int .i64 0)], none⟩]
def a64r7 : List IOp := [⟨some 25, .mv, [.t 3], none⟩,
  ⟨some 26, .bin .add, [.c (.str ⟨#[45]⟩), .t 25], none⟩,
  ⟨some 2, .mv, [.t 26], none⟩]
def a64r8 : List IOp := [⟨some 27, .mv, [.t 3], none⟩,
  ⟨some 2, .mv, [.t 27], none⟩]
def a64 : AFunc := ⟨28, [.tmp 2], (.seq (.region a64r0 [0]) (.seq (.region a64r1 [0, 3]) (.seq (.seq (.region a64r2 [0, 3, 4]) (.block 0 (.loop (.seq (.seq (.region a64r3 [0, 3, 4, 12]) (.cond (.t 12) .skip (.exit 0))) (.seq (.block 1 (.region a64r4 [0, 3, 4])) (.region a64r5 [0, 3, 4])))))) (.seq (.seq (.region a64r6 [3, 24]) (.cond (.t 24) (.seq (.region a64r7 [2]) .ret) .skip)) (.seq (.region a64r8 [2]) .ret)))))⟩
theorem a64_ok : compileF Tryd.prog (lk [(0, ⟨[0], [], []⟩), (1, ⟨[0, 3], [], []⟩), (2, ⟨[0, 3, 4], [], []⟩), (3, ⟨[0, 3, 4, 12], [], []⟩), (4, ⟨[0, 3, 4], [], []⟩), (5, ⟨[0, 3, 4], [], []⟩), (6, ⟨[3, 24], [], []⟩), (7, ⟨[2], [], []⟩), (8, ⟨[2], [], []⟩)]) Tryd.f64 = some a64 := by kernel_rfl

/- payroll/payrollref3.two -/
def a65r0 : List IOp := [⟨some 2, .mv, [.c (.str ⟨#[]⟩)], none⟩]
def a65r1 : List IOp := [⟨some 3, .mv, [.t 0], none⟩,
  ⟨some 4, .bin .quo, [.t 3, .c (.int .i64 10)], none⟩,
  ⟨some 5, .bin .add, [.c (.int .i64 48), .t 4], none⟩,
  ⟨some 6, .conv .u8, [.t 5], none⟩,
  ⟨some 7, .mv, [.t 0], none⟩,
  ⟨some 8, .bin .rem, [.t 7, .c (.int .i64 10)], none⟩,
  ⟨some 9, .bin .add, [.c (.int .i64 48), .t 8], none⟩,
  ⟨some 10, .conv .u8, [.t 9], none⟩,
  ⟨some 11, .bslice 5 1 [.int .u8 0] 2 [0, 1], [.t 6, .t 10], none⟩,
  ⟨some 12, .b2s, [.t 11], none⟩,
  ⟨some 2, .mv, [.t 12], none⟩]
def a65 : AFunc := ⟨13, [.tmp 2], (.seq (.region a65r0 [0]) (.seq (.region a65r1 [2]) .ret))⟩
theorem a65_ok : compileF Tryd.prog (lk [(0, ⟨[0], [], []⟩), (1, ⟨[2], [], []⟩)]) Tryd.f65 = some a65 := by kernel_rfl

/- payroll/payrollref3.IsWorkday -/
def a70r0 : List IOp := [⟨some 4, .mv, [.c (.bool false)], none⟩]
def a70r1 : List IOp := [⟨some 5, .mv, [.t 1], none⟩,
  ⟨some 6, .call 62, [.t 5], none⟩,
  ⟨some 7, .bin .lss, [.t 6, .c (.int .i64 5)], none⟩,
  ⟨some 8, .mv, [.t 7], none⟩,
  ⟨some 9, .mv, [.t 0], some (8, true)⟩,
  ⟨some 10, .mv, [.t 1], some (8, true)⟩,
  ⟨some 11, .call 79, [.t 9, .t 10], some (8, true)⟩,
  ⟨some 12, .not, [.t 11], some (8, true)⟩,
  ⟨some 13, .pick, [.t 8, .t 12, .c (.bool false)], none⟩,
  ⟨some 4, .mv, [.t 13], none⟩]
def a70 : AFunc := ⟨14, [.tmp 4], (.seq (.region a70r0 [0, 1]) (.seq (.region a70r1 [4]) .ret))⟩
theorem a70_ok : compileF Tryd.prog (lk [(0, ⟨[0, 1], [], []⟩), (1, ⟨[4], [], []⟩)]) Tryd.f70 = some a70 := by kernel_rfl

/- payroll/payrollref3.ValidRule -/
def a71r0 : List IOp := [⟨some 1, .box 25 6, [.t 0], none⟩,
  ⟨some 2, .mv, [.c (.bool false)], none⟩]
def a71r1 : List IOp := [⟨some 3, .fieldAddr 0, [.t 1], none⟩,
  ⟨some 4, .load1, [.t 3], none⟩]
def a71r2 : List IOp := [⟨some 6, .bin .eql, [.t 4, .c (.int .i64 0)], none⟩,
  ⟨some 5, .mv, [.t 6], none⟩]
def a71r3 : List (Nat × DOp) := [(0, ⟨⟨some 7, .fieldAddr 1, [.t 1], none⟩, none, []⟩),
  (1, ⟨⟨some 8, .load1, [.t 7], none⟩, none, []⟩),
  (2, ⟨⟨some 9, .bin .geq, [.t 8, .c (.int .i64 1)], none⟩, none, []⟩),
  (3, ⟨⟨some 10, .mv, [.t 9], none⟩, none, []⟩),
  (4, ⟨⟨some 11, .fieldAddr 1, [.t 1], some (10, true)⟩, none, []⟩),
  (5, ⟨⟨some 12, .load1, [.t 11], some (10, true)⟩, none, []⟩),
  (6, ⟨⟨some 13, .bin .leq, [.t 12, .c (.int .i64 12)], some (10, true)⟩, none, []⟩),
  (7, ⟨⟨some 14, .pick, [.t 10, .t 13, .c (.bool false)], none⟩, none, []⟩),
  (8, ⟨⟨some 15, .mv, [.t 14], none⟩, none, []⟩),
  (9, ⟨⟨some 16, .fieldAddr 2, [.t 1], some (15, true)⟩, none, []⟩),
  (10, ⟨⟨some 17, .load1, [.t 16], some (15, true)⟩, none, []⟩),
  (11, ⟨⟨some 18, .bin .geq, [.t 17, .c (.int .i64 1)], some (15, true)⟩, none, []⟩),
  (12, ⟨⟨some 19, .pick, [.t 15, .t 18, .c (.bool false)], none⟩, none, []⟩),
  (13, ⟨⟨some 20, .mv, [.t 19], none⟩, none, []⟩),
  (14, ⟨⟨some 21, .fieldAddr 2, [.t 1], some (20, true)⟩, none, [16, 17, 18]⟩),
  (15, ⟨⟨some 22, .load1, [.t 21], some (20, true)⟩, none, [16, 17, 18]⟩),
  (16, ⟨⟨some 23, .fieldAddr 1, [.t 1], some (20, true)⟩, none, [14, 15]⟩),
  (17, ⟨⟨some 24, .load1, [.t 23], some (20, true)⟩, none, [14, 15]⟩),
  (18, ⟨⟨some 25, .call 54, [.c (.int .i64 2000), .t 24], some (20, true)⟩, none, [14, 15]⟩),
  (19, ⟨⟨some 26, .bin .leq, [.t 22, .t 25], some (20, true)⟩, none, []⟩),
  (20, ⟨⟨some 27, .pick, [.t 20, .t 26, .c (.bool false)], none⟩, none, []⟩),
  (21, ⟨⟨some 28, .mv, [.t 27], none⟩, none, []⟩),
  (22, ⟨⟨some 29, .fieldAddr 3, [.t 1], some (28, true)⟩, none, []⟩),
  (23, ⟨⟨some 30, .load1, [.t 29], some (28, true)⟩, none, []⟩),
  (24, ⟨⟨some 31, .bin .eql, [.t 30, .c (.int .i64 0)], some (28, true)⟩, none, []⟩),
  (25, ⟨⟨some 32, .pick, [.t 28, .t 31, .c (.bool false)], none⟩, none, []⟩),
  (26, ⟨⟨some 33, .mv, [.t 32], none⟩, none, []⟩),
  (27, ⟨⟨some 34, .fieldAddr 4, [.t 1], some (33, true)⟩, none, []⟩),
  (28, ⟨⟨some 35, .load1, [.t 34], some (33, true)⟩, none, []⟩),
  (29, ⟨⟨some 36, .bin .eql, [.t 35, .c (.int .i64 0)], some (33, true)⟩, none, []⟩),
  (30, ⟨⟨some 37, .pick, [.t 33, .t 36, .c (.bool false)], none⟩, none, []⟩),
  (31, ⟨⟨some 2, .mv, [.t 37], none⟩, none, []⟩)]
def a71r4 : List IOp := [⟨some 39, .bin .eql, [.t 4, .c (.int .i64 1)], none⟩,
  ⟨some 38, .mv, [.t 39], none⟩]
def a71r5 : List IOp := [⟨some 40, .fieldAddr 4, [.t 1], none⟩,
  ⟨some 41, .load1, [.t 40], none⟩,
  ⟨some 42, .bin .geq, [.t 41, .c (.int .i64 (-100))], none⟩,
  ⟨some 43, .mv, [.t 42], none⟩,
  ⟨some 44, .fieldAddr 4, [.t 1], some (43, true)⟩,
  ⟨some 45, .load1, [.t 44], some (43, true)⟩,
  ⟨some 46, .bin .leq, [.t 45, .c (.int .i64 100)], some (43, true)⟩,
  ⟨some 47, .pick, [.t 43, .t 46, .c (.bool false)], none⟩,
  ⟨some 48, .mv, [.t 47], none⟩,
  ⟨some 49, .fieldAddr 1, [.t 1], some (48, true)⟩,
  ⟨some 50, .load1, [.t 49], some (48, true)⟩,
  ⟨some 51, .bin .eql, [.t 50, .c (.int .i64 0)], some (48, true)⟩,
  ⟨some 52, .pick, [.t 48, .t 51, .c (.bool false)], none⟩,
  ⟨some 53, .mv, [.t 52], none⟩,
  ⟨some 54, .fieldAddr 2, [.t 1], some (53, true)⟩,
  ⟨some 55, .load1, [.t 54], some (53, true)⟩,
  ⟨some 56, .bin .eql, [.t 55, .c (.int .i64 0)], some (53, true)⟩,
  ⟨some 57, .pick, [.t 53, .t 56, .c (.bool false)], none⟩,
  ⟨some 58, .mv, [.t 57], none⟩,
  ⟨some 59, .fieldAddr 3, [.t 1], some (58, true)⟩,
  ⟨some 60, .load1, [.t 59], some (58, true)⟩,
  ⟨some 61, .bin .eql, [.t 60, .c (.int .i64 0)], some (58, true)⟩,
  ⟨some 62, .pick, [.t 58, .t 61, .c (.bool false)], none⟩,
  ⟨some 2, .mv, [.t 62], none⟩]
def a71r6 : List IOp := [⟨some 64, .bin .eql, [.t 4, .c (.int .i64 2)], none⟩,
  ⟨some 63, .mv, [.t 64], none⟩]
def a71r7 : List IOp := [⟨some 65, .fieldAddr 1, [.t 1], none⟩,
  ⟨some 66, .load1, [.t 65], none⟩,
  ⟨some 67, .bin .geq, [.t 66, .c (.int .i64 1)], none⟩,
  ⟨some 68, .mv, [.t 67], none⟩,
  ⟨some 69, .fieldAddr 1, [.t 1], some (68, true)⟩,
  ⟨some 70, .load1, [.t 69], some (68, true)⟩,
  ⟨some 71, .bin .leq, [.t 70, .c (.int .i64 12)], some (68, true)⟩,
  ⟨some 72, .pick, [.t 68, .t 71, .c (.bool false)], none⟩,
  ⟨some 73, .mv, [.t 72], none⟩,
  ⟨some 74, .fieldAddr 2, [.t 1], some (73, true)⟩,
  ⟨some 75, .load1, [.t 74], some (73, true)⟩,
  ⟨some 76, .bin .eql, [.t 75, .c (.int .i64 (-1))], some (73, true)⟩,
  ⟨some 77, .mv, [.t 76], some (73, true)⟩,
  ⟨some 78, .fieldAddr 2, [.t 1], some (77, false)⟩,
  ⟨some 79, .load1, [.t 78], some (77, false)⟩,
  ⟨some 80, .bin .geq, [.t 79, .c (.int .i64 1)], some (77, false)⟩,
  ⟨some 81, .mv, [.t 80], some (77, false)⟩,
  ⟨some 82, .fieldAddr 2, [.t 1], some (81, true)⟩,
  ⟨some 83, .load1, [.t 82], some (81, true)⟩,
  ⟨some 84, .bin .leq, [.t 83, .c (.int .i64 5)], some (81, true)⟩,
  ⟨some 85, .pick, [.t 81, .t 84, .c (.bool false)], some (77, false)⟩,
  ⟨some 86, .pick, [.t 77, .c (.bool true), .t 85], some (73, true)⟩,
  ⟨some 87, .pick, [.t 73, .t 86, .c (.bool false)], none⟩,
  ⟨some 88, .mv, [.t 87], none⟩,
  ⟨some 89, .fieldAddr 3, [.t 1], some (88, true)⟩,
  ⟨some 90, .load1, [.t 89], some (88, true)⟩,
  ⟨some 91, .bin .geq, [.t 90, .c (.int .i64 0)], some (88, true)⟩,
  ⟨some 92, .pick, [.t 88, .t 91, .c (.bool false)], none⟩,
  ⟨some 93, .mv, [.t 92], none⟩,
  ⟨some 94, .fieldAddr 3, [.t 1], some (93, true)⟩,
  ⟨some 95, .load1, [.t 94], some (93, true)⟩,
  ⟨some 96, .bin .leq, [.t 95, .c (.int .i64 6)], some (93, true)⟩,
  ⟨some 97, .pick, [.t 93, .t 96, .c (.bool false)], none⟩,
  ⟨some 98, .mv, [.t 97], none⟩,
  ⟨some 99, .fieldAddr 4, [.t 1], some (98, true)⟩,
  ⟨some 100, .load1, [.t 99], some (98, true)⟩,
  ⟨some 101, .bin .geq, [.t 100, .c (.int .i64 (-7))], some (98, true)⟩,
  ⟨some 102, .pick, [.t 98, .t 101, .c (.bool false)], none⟩,
  ⟨some 103, .mv, [.t 102], none⟩,
  ⟨some 104, .fieldAddr 4, [.t 1], some (103, true)⟩,
  ⟨some 105, .load1, [.t 104], some (103, true)⟩,
  ⟨some 106, .bin .leq, [.t 105, .c (.int .i64 7)], some (103, true)⟩,
  ⟨some 107, .pick, [.t 103, .t 106, .c (.bool false)], none⟩,
  ⟨some 2, .mv, [.t 107], none⟩]
def a71r8 : List IOp := [⟨some 2, .mv, [.c (.bool false)], none⟩]
def a71 : AFunc := ⟨108, [.tmp 2], (.seq (.region a71r0 [1]) (.seq (.seq (.region a71r1 [1, 4]) (.block 0 (.seq (.region a71r2 [1, 4, 5]) (.cond (.t 5) (.seq (.draw a71r3 [] [2]) .ret) (.seq (.region a71r4 [1, 4, 38]) (.cond (.t 38) (.seq (.region a71r5 [2]) .ret) (.seq (.region a71r6 [1, 63]) (.cond (.t 63) (.seq (.region a71r7 [2]) .ret) .skip)))))))) (.seq (.region a71r8 [2]) .ret)))⟩
theorem a71_ok : compileF Tryd.prog (lk [(0, ⟨[1], [], []⟩), (1, ⟨[1, 4], [], []⟩), (2, ⟨[1, 4, 5], [], []⟩), (3, ⟨[2], [[], [0], [1, 0], [2, 1, 0], [3, 2, 1, 0], [4, 3, 2, 1, 0], [5, 3, 4, 2, 1, 0], [3, 6, 2, 1, 0, 5, 4], [7, 3, 6, 2, 1, 0, 5, 4], [8, 7, 3, 6, 2, 1, 0, 5, 4], [9, 8, 7, 3, 6, 2, 1, 0, 5, 4], [10, 8, 9, 7, 3, 6, 2, 1, 0, 5, 4], [8, 11, 7, 3, 6, 2, 1, 0, 5, 4, 10, 9], [12, 8, 11, 7, 3, 6, 2, 1, 0, 5, 4, 10, 9], [13, 12, 8, 11, 7, 3, 6, 2, 1, 0, 5, 4, 10, 9], [14, 13, 12, 8, 11, 7, 3, 6, 2, 1, 0, 5, 4, 10, 9], [13, 12, 8, 11, 7, 3, 6, 2, 1, 0, 5, 4, 10, 9], [16, 13, 12, 8, 11, 7, 3, 6, 2, 1, 0, 5, 4, 10, 9], [17, 13, 16, 12, 8, 11, 7, 3, 6, 2, 1, 0, 5, 4, 10, 9], [15, 18, 13, 14, 12, 8, 11, 7, 3, 6, 2, 1, 0, 5, 4, 10, 9, 17, 16], [13, 19, 12, 8, 11, 7, 3, 6, 2, 1, 0, 5, 4, 10, 9, 15, 18, 14, 17, 16], [20, 18, 13, 19, 12, 8, 11, 7, 3, 6, 2, 1, 0, 5, 4, 10, 9, 15, 14, 17, 16], [21, 20, 18, 13, 19, 12, 8, 11, 7, 3, 6, 2, 1, 0, 5, 4, 10, 9, 15, 14, 17, 16], [22, 21, 20, 18, 13, 19, 12, 8, 11, 7, 3, 6, 2, 1, 0, 5, 4, 10, 9, 15, 14, 17, 16], [23, 21, 22, 20, 18, 13, 19, 12, 8, 11, 7, 3, 6, 2, 1, 0, 5, 4, 10, 9, 15, 14, 17, 16], [21, 24, 20, 18, 13, 19, 12, 8, 11, 7, 3, 6, 2, 1, 0, 5, 4, 10, 9, 15, 14, 17, 16, 23, 22], [25, 21, 24, 20, 18, 13, 19, 12, 8, 11, 7, 3, 6, 2, 1, 0, 5, 4, 10, 9, 15, 14, 17, 16, 23, 22], [26, 25, 21, 24, 20, 18, 13, 19, 12, 8, 11, 7, 3, 6, 2, 1, 0, 5, 4, 10, 9, 15, 14, 17, 16, 23, 22], [27, 26, 25, 21, 24, 20, 18, 13, 19, 12, 8, 11, 7, 3, 6, 2, 1, 0, 5, 4, 10, 9, 15, 14, 17, 16, 23, 22], [28, 26, 27, 25, 21, 24, 20, 18, 13, 19, 12, 8, 11, 7, 3, 6, 2, 1, 0, 5, 4, 10, 9, 15, 14, 17, 16, 23, 22], [26, 29, 25, 21, 24, 20, 18, 13, 19, 12, 8, 11, 7, 3, 6, 2, 1, 0, 5, 4, 10, 9, 15, 14, 17, 16, 23, 22, 28, 27], [30, 26, 0, 1, 2, 3, 4, 5, 6, 7, 8, 9, 10, 11, 12, 13, 14, 15, 16, 17, 18, 19, 20, 21, 22, 23, 24, 25, 27, 28, 29]], [0, 1, 2, 3, 4, 5, 6, 7, 8, 9, 10, 11, 12, 13, 14, 15, 16, 17, 18, 19, 20, 21, 22, 23, 24, 25, 26, 27, 28, 29, 30, 31]⟩), (4, ⟨[1, 4, 38], [], []⟩), (5, ⟨[2], [], []⟩), (6, ⟨[1, 63], [], []⟩), (7, ⟨[2], [], []⟩), (8, ⟨[2], [], []⟩)]) Tryd.f71 = some a71 := by kernel_rfl

/- payroll/payrollref1.size -/
def a77r0 : List IOp := [⟨some 2, .mv, [.c (.int .u64 0)], none⟩]
def a77r1 : List IOp := [⟨some 3, .mv, [.t 0], none⟩,
  ⟨some 4, .bin .lss, [.t 3, .c (.int .i64 0)], none⟩]
def a77r2 : List IOp := [⟨some 5, .mv, [.t 0], none⟩,
  ⟨some 6, .bin .add, [.t 5, .c (.int .i64 1)], none⟩,
  ⟨some 7, .neg, [.t 6], none⟩,
  ⟨some 8, .conv .u64, [.t 7], none⟩,
  ⟨some 9, .bin .add, [.t 8, .c (.int .u64 1)], none⟩,
  ⟨some 2, .mv, [.t 9], none⟩]
def a77r3 : List IOp := [⟨some 10, .mv, [.t 0], none⟩,
  ⟨some 11, .conv .u64, [.t 10], none⟩,
  ⟨some 2, .mv, [.t 11], none⟩]
def a77 : AFunc := ⟨12, [.tmp 2], (.seq (.region a77r0 [0]) (.seq (.seq (.region a77r1 [0, 4]) (.cond (.t 4) (.seq (.region a77r2 [2]) .ret) .skip)) (.seq (.region a77r3 [2]) .ret)))⟩
theorem a77_ok : compileF Tryd.prog (lk [(0, ⟨[0], [], []⟩), (1, ⟨[0, 4], [], []⟩), (2, ⟨[2], [], []⟩), (3, ⟨[2], [], []⟩)]) Tryd.f77 = some a77 := by kernel_rfl

/- payroll/payrollref3.IsHoliday -/
def a79r0 : List IOp := [⟨some 4, .mv, [.c (.bool false)], none⟩]
def a79r1 : List IOp := [⟨some 14, .mv, [.t 1], none⟩,
  ⟨some 15, .call 25, [.t 14], none⟩,
  ⟨some 13, .mv, [.t 15], none⟩,
  ⟨some 16, .extract 0, [.t 13], none⟩,
  ⟨some 17, .extract 1, [.t 13], none⟩,
  ⟨some 18, .extract 2, [.t 13], none⟩,
  ⟨some 19, .extract 3, [.t 13], none⟩,
  ⟨some 5, .mv, [.t 16], none⟩,
  ⟨some 6, .mv, [.t 17], none⟩,
  ⟨some 7, .mv, [.t 18], none⟩,
  ⟨some 8, .mv, [.t 19], none⟩]
def a79r2 : List IOp := [⟨some 9, .mv, [.c (.int .i64 0)], none⟩]
def a79r3 : List IOp := [⟨some 20, .mv, [.t 8], none⟩,
  ⟨some 21, .mv, [.t 20], none⟩,
  ⟨some 22, .mv, [.t 9], some (21, true)⟩,
  ⟨some 23, .mv, [.t 0], some (21, true)⟩,
  ⟨some 24, .len, [.t 23], some (21, true)⟩,
  ⟨some 25, .bin .lss, [.t 22, .t 24], some (21, true)⟩,
  ⟨some 26, .pick, [.t 21, .t 25, .c (.bool false)], none⟩]
def a79r4 : List IOp := [⟨some 29, .mv, [.t 5], none⟩,
  ⟨some 30, .bin .sub, [.t 29, .c (.int .i64 1)], none⟩,
  ⟨some 31, .minmax true, [.t 30, .c (.int .i64 1970)], none⟩,
  ⟨some 10, .mv, [.t 31], none⟩]
def a79r5 : List IOp := [⟨some 32, .mv, [.t 10], none⟩,
  ⟨some 33, .mv, [.t 5], none⟩,
  ⟨some 34, .bin .add, [.t 33, .c (.int .i64 1)], none⟩,
  ⟨some 35, .minmax false, [.t 34, .c (.int .i64 2199)], none⟩,
  ⟨some 36, .bin .leq, [.t 32, .t 35], none⟩]
def a79r6 : List IOp := [⟨some 40, .mv, [.t 0], none⟩,
  ⟨some 41, .mv, [.t 9], none⟩,
  ⟨some 42, .indexAddr 6, [.t 40, .t 41], none⟩,
  ⟨some 43, .loadA 6, [.t 42], none⟩,
  ⟨some 44, .mv, [.t 10], none⟩,
  ⟨some 45, .call 50, [.t 43, .t 44], none⟩,
  ⟨some 39, .mv, [.t 45], none⟩,
  ⟨some 46, .extract 0, [.t 39], none⟩,
  ⟨some 47, .extract 1, [.t 39], none⟩,
  ⟨some 11, .mv, [.t 46], none⟩,
  ⟨some 12, .mv, [.t 47], none⟩]
def a79r7 : List IOp := [⟨some 48, .mv, [.t 12], none⟩,
  ⟨some 49, .mv, [.t 48], none⟩,
  ⟨some 50, .mv, [.t 11], some (49, true)⟩,
  ⟨some 51, .mv, [.t 1], some (49, true)⟩,
  ⟨some 52, .bin .eql, [.t 50, .t 51], some (49, true)⟩,
  ⟨some 53, .pick, [.t 49, .t 52, .c (.bool false)], none⟩]
def a79r8 : List IOp := [⟨some 4, .mv, [.c (.bool true)], none⟩]
def a79r9 : List IOp := [⟨some 37, .mv, [.t 10], none⟩,
  ⟨some 38, .bin .add, [.t 37, .c (.int .i64 1)], none⟩,
  ⟨some 10, .mv, [.t 38], none⟩]
def a79r10 : List IOp := [⟨some 27, .mv, [.t 9], none⟩,
  ⟨some 28, .bin .add, [.t 27, .c (.int .i64 1)], none⟩,
  ⟨some 9, .mv, [.t 28], none⟩]
def a79r11 : List IOp := [⟨some 4, .mv, [.c (.bool false)], none⟩]
def a79 : AFunc := ⟨54, [.tmp 4], (.seq (.region a79r0 [0, 1]) (.seq (.region a79r1 [0, 1, 5, 8]) (.seq (.seq (.region a79r2 [0, 1, 5, 8, 9]) (.block 0 (.loop (.seq (.seq (.region a79r3 [0, 1, 5, 8, 9, 26]) (.cond (.t 26) .skip (.exit 0))) (.seq (.block 1 (.seq (.region a79r4 [0, 1, 5, 8, 9, 10]) (.block 2 (.loop (.seq (.seq (.region a79r5 [0, 1, 5, 8, 9, 10, 36]) (.cond (.t 36) .skip (.exit 2))) (.seq (.block 3 (.seq (.region a79r6 [0, 1, 5, 8, 9, 10, 11, 12]) (.seq (.region a79r7 [0, 1, 5, 8, 9, 10, 53]) (.cond (.t 53) (.seq (.region a79r8 [4]) .ret) .skip)))) (.region a79r9 [0, 1, 5, 8, 9, 10]))))))) (.region a79r10 [0, 1, 5, 8, 9])))))) (.seq (.region a79r11 [4]) .ret))))⟩
theorem a79_ok : compileF Tryd.prog (lk [(0, ⟨[0, 1], [], []⟩), (1, ⟨[0, 1, 5, 8], [], []⟩), (2, ⟨[0, 1, 5, 8, 9], [], []⟩), (3, ⟨[0, 1, 5, 8, 9, 26], [], []⟩), (4, ⟨[0, 1, 5, 8, 9], [], []⟩), (5, ⟨[0, 1, 5, 8, 9, 10], [], []⟩), (6, ⟨[0, 1, 5, 8, 9, 10, 36], [], []⟩), (7, ⟨[0, 1, 5, 8, 9, 10], [], []⟩), (8, ⟨[0, 1, 5, 8, 9, 10, 11, 12], [], []⟩), (9, ⟨[0, 1, 5, 8, 9, 10, 53], [], []⟩), (10, ⟨[4], [], []⟩), (11, ⟨[4], [], []⟩)]) Tryd.f79 = some a79 := by kernel_rfl

end Go.Proofs.YtpmlihjdegekgaaDoor
