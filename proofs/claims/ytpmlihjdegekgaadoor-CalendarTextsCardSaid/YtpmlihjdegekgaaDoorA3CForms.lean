/- The abstract forms of the functions, printed by a program, and that the given program has these forms. -/
import Derived.Test.YtpmlihjdegekgaaDoorAbsMd
import Derived.Test.YtpmlihjdegekgaaDoorProg
import Derived.KernelRfl
set_option linter.unusedSimpArgs false
set_option linter.unusedVariables false
set_option linter.unusedSectionVars false
namespace Go.Proofs.YtpmlihjdegekgaaDoor
open Go Go.Abs
/- payroll/payrolllaw3.CalendarMonths -/
def a5r0 : List IOp := [⟨some 4, .mv, [.c (.bool false)], none⟩]
def a5r1 : List IOp := [⟨some 17, .mv, [.t 0], none⟩,
  ⟨some 18, .mv, [.t 0], none⟩,
  ⟨some 19, .call 12, [.t 18, .c (.int .i64 2762)], none⟩,
  ⟨some 20, .bin .sub, [.t 19, .c (.int .i64 1)], none⟩,
  ⟨some 21, .bslice 3 1 [.int .i64 0] 2 [0, 1], [.t 17, .t 20], none⟩,
  ⟨some 22, .len, [.t 21], none⟩,
  ⟨some 23, .mv, [.c (.int .i64 0)], none⟩]
def a5r2 : List IOp := [⟨some 24, .bin .lss, [.t 23, .t 22], none⟩]
def a5r3 : List IOp := [⟨some 25, .indexAddr 1, [.t 21, .t 23], none⟩,
  ⟨some 26, .load1, [.t 25], none⟩,
  ⟨some 6, .mv, [.t 26], none⟩]
def a5r4 : List IOp := [⟨some 28, .mv, [.t 6], none⟩,
  ⟨some 29, .call 34, [.t 28], none⟩,
  ⟨some 27, .mv, [.t 29], none⟩,
  ⟨some 30, .extract 0, [.t 27], none⟩,
  ⟨some 31, .extract 1, [.t 27], none⟩,
  ⟨some 7, .mv, [.t 30], none⟩,
  ⟨some 8, .mv, [.t 31], none⟩]
def a5r5 : List IOp := [⟨some 33, .mv, [.t 6], none⟩,
  ⟨some 34, .call 35, [.t 33], none⟩,
  ⟨some 32, .mv, [.t 34], none⟩,
  ⟨some 35, .extract 0, [.t 32], none⟩,
  ⟨some 36, .extract 1, [.t 32], none⟩,
  ⟨some 9, .mv, [.t 35], none⟩,
  ⟨some 10, .mv, [.t 36], none⟩]
def a5r6 : List IOp := [⟨some 37, .mv, [.t 7], none⟩,
  ⟨some 38, .mv, [.t 9], none⟩,
  ⟨some 39, .bin .neq, [.t 37, .t 38], none⟩,
  ⟨some 40, .mv, [.t 39], none⟩,
  ⟨some 41, .mv, [.t 8], some (40, false)⟩,
  ⟨some 42, .mv, [.t 10], some (40, false)⟩,
  ⟨some 43, .eqB true, [.t 41, .t 42], some (40, false)⟩,
  ⟨some 44, .pick, [.t 40, .c (.bool true), .t 43], none⟩,
  ⟨some 45, .mv, [.t 44], none⟩,
  ⟨some 46, .mv, [.t 6], some (45, false)⟩,
  ⟨some 47, .call 36, [.t 46], some (45, false)⟩,
  ⟨some 48, .mv, [.t 6], some (45, false)⟩,
  ⟨some 49, .call 37, [.t 48], some (45, false)⟩,
  ⟨some 50, .bin .neq, [.t 47, .t 49], some (45, false)⟩,
  ⟨some 51, .pick, [.t 45, .c (.bool true), .t 50], none⟩]
def a5r7 : List IOp := [⟨some 4, .mv, [.c (.bool false)], none⟩]
def a5r8 : List IOp := [⟨some 52, .bin .add, [.t 23, .c (.int .i64 1)], none⟩,
  ⟨some 23, .mv, [.t 52], none⟩]
def a5r9 : List IOp := [⟨some 53, .mv, [.t 1], none⟩,
  ⟨some 54, .mv, [.t 1], none⟩,
  ⟨some 55, .call 12, [.t 54, .c (.int .i64 232)], none⟩,
  ⟨some 56, .bin .add, [.c (.int .i64 1969), .t 55], none⟩,
  ⟨some 57, .bslice 3 1 [.int .i64 0] 2 [0, 1], [.t 53, .t 56], none⟩,
  ⟨some 58, .len, [.t 57], none⟩,
  ⟨some 59, .mv, [.c (.int .i64 0)], none⟩]
def a5r10 : List IOp := [⟨some 60, .bin .lss, [.t 59, .t 58], none⟩]
def a5r11 : List IOp := [⟨some 61, .indexAddr 1, [.t 57, .t 59], none⟩,
  ⟨some 62, .load1, [.t 61], none⟩,
  ⟨some 12, .mv, [.t 62], none⟩]
def a5r12 : List IOp := [⟨some 64, .mv, [.t 12], none⟩,
  ⟨some 65, .call 38, [.t 64], none⟩,
  ⟨some 63, .mv, [.t 65], none⟩,
  ⟨some 66, .extract 0, [.t 63], none⟩,
  ⟨some 67, .extract 1, [.t 63], none⟩,
  ⟨some 13, .mv, [.t 66], none⟩,
  ⟨some 14, .mv, [.t 67], none⟩]
def a5r13 : List IOp := [⟨some 69, .mv, [.t 12], none⟩,
  ⟨some 70, .call 39, [.t 69], none⟩,
  ⟨some 68, .mv, [.t 70], none⟩,
  ⟨some 71, .extract 0, [.t 68], none⟩,
  ⟨some 72, .extract 1, [.t 68], none⟩,
  ⟨some 15, .mv, [.t 71], none⟩,
  ⟨some 16, .mv, [.t 72], none⟩]
def a5r14 : List IOp := [⟨some 73, .mv, [.t 13], none⟩,
  ⟨some 74, .mv, [.t 15], none⟩,
  ⟨some 75, .bin .neq, [.t 73, .t 74], none⟩,
  ⟨some 76, .mv, [.t 75], none⟩,
  ⟨some 77, .mv, [.t 14], some (76, false)⟩,
  ⟨some 78, .mv, [.t 16], some (76, false)⟩,
  ⟨some 79, .eqB true, [.t 77, .t 78], some (76, false)⟩,
  ⟨some 80, .pick, [.t 76, .c (.bool true), .t 79], none⟩]
def a5r15 : List IOp := [⟨some 4, .mv, [.c (.bool false)], none⟩]
def a5r16 : List IOp := [⟨some 81, .bin .add, [.t 59, .c (.int .i64 1)], none⟩,
  ⟨some 59, .mv, [.t 81], none⟩]
def a5r17 : List IOp := [⟨some 82, .call 17, [], none⟩,
  ⟨some 4, .mv, [.t 82], none⟩]
def a5 : AFunc := ⟨83, [.tmp 4], (.seq (.region a5r0 [0, 1]) (.seq (.seq (.region a5r1 [1, 21, 22, 23]) (.block 0 (.loop (.seq (.region a5r2 [1, 21, 22, 23, 24]) (.seq (.cond (.t 24) .skip (.exit 0)) (.seq (.block 1 (.seq (.region a5r3 [1, 6, 21, 22, 23]) (.seq (.region a5r4 [1, 6, 7, 8, 21, 22, 23]) (.seq (.region a5r5 [1, 6, 7, 8, 9, 10, 21, 22, 23]) (.seq (.region a5r6 [1, 21, 22, 23, 51]) (.cond (.t 51) (.seq (.region a5r7 [4]) .ret) .skip)))))) (.region a5r8 [1, 21, 22, 23]))))))) (.seq (.seq (.region a5r9 [57, 58, 59]) (.block 2 (.loop (.seq (.region a5r10 [57, 58, 59, 60]) (.seq (.cond (.t 60) .skip (.exit 2)) (.seq (.block 3 (.seq (.region a5r11 [12, 57, 58, 59]) (.seq (.region a5r12 [12, 13, 14, 57, 58, 59]) (.seq (.region a5r13 [13, 14, 15, 16, 57, 58, 59]) (.seq (.region a5r14 [57, 58, 59, 80]) (.cond (.t 80) (.seq (.region a5r15 [4]) .ret) .skip)))))) (.region a5r16 [57, 58, 59]))))))) (.seq (.region a5r17 [4]) .ret))))⟩
theorem a5_ok : compileF Tryd.prog (lk [(0, ⟨[0, 1], [], []⟩), (1, ⟨[1, 21, 22, 23], [], []⟩), (2, ⟨[1, 21, 22, 23, 24], [], []⟩), (3, ⟨[1, 6, 21, 22, 23], [], []⟩), (4, ⟨[1, 6, 7, 8, 21, 22, 23], [], []⟩), (5, ⟨[1, 6, 7, 8, 9, 10, 21, 22, 23], [], []⟩), (6, ⟨[1, 21, 22, 23, 51], [], []⟩), (7, ⟨[4], [], []⟩), (8, ⟨[1, 21, 22, 23], [], []⟩), (9, ⟨[57, 58, 59], [], []⟩), (10, ⟨[57, 58, 59, 60], [], []⟩), (11, ⟨[12, 57, 58, 59], [], []⟩), (12, ⟨[12, 13, 14, 57, 58, 59], [], []⟩), (13, ⟨[13, 14, 15, 16, 57, 58, 59], [], []⟩), (14, ⟨[57, 58, 59, 80], [], []⟩), (15, ⟨[4], [], []⟩), (16, ⟨[57, 58, 59], [], []⟩), (17, ⟨[4], [], []⟩)]) Tryd.f5 = some a5 := by kernel_rfl

/- payroll/payrolllaw3.CalendarInverse -/
def a6r0 : List IOp := [⟨some 2, .mv, [.c (.bool false)], none⟩]
def a6r1 : List IOp := [⟨some 15, .mv, [.t 0], none⟩,
  ⟨some 16, .call 12, [.t 15, .c (.int .i64 83999)], none⟩,
  ⟨some 3, .mv, [.t 16], none⟩]
def a6r2 : List IOp := [⟨some 18, .mv, [.t 3], none⟩,
  ⟨some 19, .call 24, [.t 18], none⟩,
  ⟨some 17, .mv, [.t 19], none⟩,
  ⟨some 20, .extract 0, [.t 17], none⟩,
  ⟨some 21, .extract 1, [.t 17], none⟩,
  ⟨some 22, .extract 2, [.t 17], none⟩,
  ⟨some 23, .extract 3, [.t 17], none⟩,
  ⟨some 4, .mv, [.t 20], none⟩,
  ⟨some 5, .mv, [.t 21], none⟩,
  ⟨some 6, .mv, [.t 22], none⟩,
  ⟨some 7, .mv, [.t 23], none⟩]
def a6r3 : List IOp := [⟨some 25, .mv, [.t 4], none⟩,
  ⟨some 26, .mv, [.t 5], none⟩,
  ⟨some 27, .mv, [.t 6], none⟩,
  ⟨some 28, .call 22, [.t 25, .t 26, .t 27], none⟩,
  ⟨some 24, .mv, [.t 28], none⟩,
  ⟨some 29, .extract 0, [.t 24], none⟩,
  ⟨some 30, .extract 1, [.t 24], none⟩,
  ⟨some 8, .mv, [.t 29], none⟩,
  ⟨some 9, .mv, [.t 30], none⟩]
def a6r4 : List IOp := [⟨some 31, .mv, [.t 7], none⟩,
  ⟨some 32, .not, [.t 31], none⟩,
  ⟨some 33, .mv, [.t 32], none⟩,
  ⟨some 34, .mv, [.t 9], some (33, false)⟩,
  ⟨some 35, .not, [.t 34], some (33, false)⟩,
  ⟨some 36, .pick, [.t 33, .c (.bool true), .t 35], none⟩,
  ⟨some 37, .mv, [.t 36], none⟩,
  ⟨some 38, .mv, [.t 8], some (37, false)⟩,
  ⟨some 39, .mv, [.t 3], some (37, false)⟩,
  ⟨some 40, .bin .neq, [.t 38, .t 39], some (37, false)⟩,
  ⟨some 41, .pick, [.t 37, .c (.bool true), .t 40], none⟩,
  ⟨some 42, .mv, [.t 41], none⟩,
  ⟨some 43, .mv, [.t 3], some (42, false)⟩,
  ⟨some 44, .bin .add, [.t 43, .c (.int .i64 7)], some (42, false)⟩,
  ⟨some 45, .call 30, [.t 44], some (42, false)⟩,
  ⟨some 46, .mv, [.t 3], some (42, false)⟩,
  ⟨some 47, .call 30, [.t 46], some (42, false)⟩,
  ⟨some 48, .bin .neq, [.t 45, .t 47], some (42, false)⟩,
  ⟨some 49, .pick, [.t 42, .c (.bool true), .t 48], none⟩,
  ⟨some 50, .mv, [.t 49], none⟩,
  ⟨some 51, .mv, [.t 3], some (50, false)⟩,
  ⟨some 52, .bin .add, [.t 51, .c (.int .i64 1)], some (50, false)⟩,
  ⟨some 53, .call 30, [.t 52], some (50, false)⟩,
  ⟨some 54, .mv, [.t 3], some (50, false)⟩,
  ⟨some 55, .call 30, [.t 54], some (50, false)⟩,
  ⟨some 56, .bin .eql, [.t 53, .t 55], some (50, false)⟩,
  ⟨some 57, .pick, [.t 50, .c (.bool true), .t 56], none⟩]
def a6r5 : List IOp := [⟨some 2, .mv, [.c (.bool false)], none⟩]
def a6r6 : List IOp := [⟨some 58, .mv, [.t 0], none⟩,
  ⟨some 59, .call 12, [.t 58, .c (.int .i64 2759)], none⟩,
  ⟨some 10, .mv, [.t 59], none⟩]
def a6r7 : List IOp := [⟨some 61, .mv, [.t 10], none⟩,
  ⟨some 62, .call 34, [.t 61], none⟩,
  ⟨some 60, .mv, [.t 62], none⟩,
  ⟨some 63, .extract 0, [.t 60], none⟩,
  ⟨some 64, .extract 1, [.t 60], none⟩,
  ⟨some 11, .mv, [.t 63], none⟩,
  ⟨some 12, .mv, [.t 64], none⟩]
def a6r8 : List IOp := [⟨some 66, .mv, [.t 10], none⟩,
  ⟨some 67, .bin .add, [.t 66, .c (.int .i64 1)], none⟩,
  ⟨some 68, .call 34, [.t 67], none⟩,
  ⟨some 65, .mv, [.t 68], none⟩,
  ⟨some 69, .extract 0, [.t 65], none⟩,
  ⟨some 70, .extract 1, [.t 65], none⟩,
  ⟨some 13, .mv, [.t 69], none⟩,
  ⟨some 14, .mv, [.t 70], none⟩]
def a6r9 : List IOp := [⟨some 71, .mv, [.t 12], none⟩,
  ⟨some 72, .mv, [.t 71], none⟩,
  ⟨some 73, .mv, [.t 14], some (72, true)⟩,
  ⟨some 74, .pick, [.t 72, .t 73, .c (.bool false)], none⟩,
  ⟨some 75, .mv, [.t 74], none⟩,
  ⟨some 76, .mv, [.t 11], some (75, true)⟩,
  ⟨some 77, .mv, [.t 10], some (75, true)⟩,
  ⟨some 78, .call 36, [.t 77], some (75, true)⟩,
  ⟨some 79, .bin .add, [.t 76, .t 78], some (75, true)⟩,
  ⟨some 80, .mv, [.t 13], some (75, true)⟩,
  ⟨some 81, .bin .eql, [.t 79, .t 80], some (75, true)⟩,
  ⟨some 82, .pick, [.t 75, .t 81, .c (.bool false)], none⟩,
  ⟨some 83, .mv, [.t 82], none⟩,
  ⟨some 84, .mv, [.t 13], some (83, true)⟩,
  ⟨some 85, .bin .sub, [.t 84, .c (.int .i64 1)], some (83, true)⟩,
  ⟨some 86, .call 32, [.t 85], some (83, true)⟩,
  ⟨some 87, .mv, [.t 10], some (83, true)⟩,
  ⟨some 88, .bin .eql, [.t 86, .t 87], some (83, true)⟩,
  ⟨some 89, .pick, [.t 83, .t 88, .c (.bool false)], none⟩,
  ⟨some 90, .mv, [.t 89], none⟩,
  ⟨some 91, .mv, [.t 13], some (90, true)⟩,
  ⟨some 92, .call 32, [.t 91], some (90, true)⟩,
  ⟨some 93, .mv, [.t 10], some (90, true)⟩,
  ⟨some 94, .bin .add, [.t 93, .c (.int .i64 1)], some (90, true)⟩,
  ⟨some 95, .bin .eql, [.t 92, .t 94], some (90, true)⟩,
  ⟨some 96, .pick, [.t 90, .t 95, .c (.bool false)], none⟩,
  ⟨some 97, .mv, [.t 96], none⟩,
  ⟨some 98, .call 17, [], some (97, true)⟩,
  ⟨some 99, .pick, [.t 97, .t 98, .c (.bool false)], none⟩,
  ⟨some 2, .mv, [.t 99], none⟩]
def a6 : AFunc := ⟨100, [.tmp 2], (.seq (.region a6r0 [0]) (.seq (.region a6r1 [0, 3]) (.seq (.region a6r2 [0, 3, 4, 5, 6, 7]) (.seq (.region a6r3 [0, 3, 7, 8, 9]) (.seq (.seq (.region a6r4 [0, 57]) (.cond (.t 57) (.seq (.region a6r5 [2]) .ret) .skip)) (.seq (.region a6r6 [10]) (.seq (.region a6r7 [10, 11, 12]) (.seq (.region a6r8 [10, 11, 12, 13, 14]) (.seq (.region a6r9 [2]) .ret)))))))))⟩
theorem a6_ok : compileF Tryd.prog (lk [(0, ⟨[0], [], []⟩), (1, ⟨[0, 3], [], []⟩), (2, ⟨[0, 3, 4, 5, 6, 7], [], []⟩), (3, ⟨[0, 3, 7, 8, 9], [], []⟩), (4, ⟨[0, 57], [], []⟩), (5, ⟨[2], [], []⟩), (6, ⟨[10], [], []⟩), (7, ⟨[10, 11, 12], [], []⟩), (8, ⟨[10, 11, 12, 13, 14], [], []⟩), (9, ⟨[2], [], []⟩)]) Tryd.f6 = some a6 := by kernel_rfl

/- payroll/payrolllaw3.CalendarEaster -/
def a7r0 : List IOp := [⟨some 2, .mv, [.c (.bool false)], none⟩]
def a7r1 : List IOp := [⟨some 10, .mv, [.t 0], none⟩,
  ⟨some 11, .call 12, [.t 10, .c (.int .i64 230)], none⟩,
  ⟨some 12, .bin .add, [.c (.int .i64 1970), .t 11], none⟩,
  ⟨some 3, .mv, [.t 12], none⟩]
def a7r2 : List IOp := [⟨some 14, .mv, [.t 3], none⟩,
  ⟨some 15, .call 38, [.t 14], none⟩,
  ⟨some 13, .mv, [.t 15], none⟩,
  ⟨some 16, .extract 0, [.t 13], none⟩,
  ⟨some 17, .extract 1, [.t 13], none⟩,
  ⟨some 4, .mv, [.t 16], none⟩,
  ⟨some 5, .mv, [.t 17], none⟩]
def a7r3 : List IOp := [⟨some 19, .mv, [.t 3], none⟩,
  ⟨some 20, .call 22, [.t 19, .c (.int .i64 3), .c (.int .i64 22)], none⟩,
  ⟨some 18, .mv, [.t 20], none⟩,
  ⟨some 21, .extract 0, [.t 18], none⟩,
  ⟨some 22, .extract 1, [.t 18], none⟩,
  ⟨some 6, .mv, [.t 21], none⟩,
  ⟨some 7, .mv, [.t 22], none⟩]
def a7r4 : List IOp := [⟨some 24, .mv, [.t 3], none⟩,
  ⟨some 25, .call 22, [.t 24, .c (.int .i64 4), .c (.int .i64 25)], none⟩,
  ⟨some 23, .mv, [.t 25], none⟩,
  ⟨some 26, .extract 0, [.t 23], none⟩,
  ⟨some 27, .extract 1, [.t 23], none⟩,
  ⟨some 8, .mv, [.t 26], none⟩,
  ⟨some 9, .mv, [.t 27], none⟩]
def a7r5 : List IOp := [⟨some 28, .mv, [.t 5], none⟩,
  ⟨some 29, .mv, [.t 28], none⟩,
  ⟨some 30, .mv, [.t 4], some (29, true)⟩,
  ⟨some 31, .call 30, [.t 30], some (29, true)⟩,
  ⟨some 32, .bin .eql, [.t 31, .c (.int .i64 6)], some (29, true)⟩,
  ⟨some 33, .pick, [.t 29, .t 32, .c (.bool false)], none⟩,
  ⟨some 34, .mv, [.t 33], none⟩,
  ⟨some 35, .mv, [.t 4], some (34, true)⟩,
  ⟨some 36, .mv, [.t 6], some (34, true)⟩,
  ⟨some 37, .bin .geq, [.t 35, .t 36], some (34, true)⟩,
  ⟨some 38, .pick, [.t 34, .t 37, .c (.bool false)], none⟩,
  ⟨some 39, .mv, [.t 38], none⟩,
  ⟨some 40, .mv, [.t 4], some (39, true)⟩,
  ⟨some 41, .mv, [.t 8], some (39, true)⟩,
  ⟨some 42, .bin .leq, [.t 40, .t 41], some (39, true)⟩,
  ⟨some 43, .pick, [.t 39, .t 42, .c (.bool false)], none⟩,
  ⟨some 44, .mv, [.t 43], none⟩,
  ⟨some 45, .call 17, [], some (44, true)⟩,
  ⟨some 46, .pick, [.t 44, .t 45, .c (.bool false)], none⟩,
  ⟨some 2, .mv, [.t 46], none⟩]
def a7 : AFunc := ⟨47, [.tmp 2], (.seq (.region a7r0 [0]) (.seq (.region a7r1 [3]) (.seq (.region a7r2 [3, 4, 5]) (.seq (.region a7r3 [3, 4, 5, 6]) (.seq (.region a7r4 [4, 5, 6, 8]) (.seq (.region a7r5 [2]) .ret))))))⟩
theorem a7_ok : compileF Tryd.prog (lk [(0, ⟨[0], [], []⟩), (1, ⟨[3], [], []⟩), (2, ⟨[3, 4, 5], [], []⟩), (3, ⟨[3, 4, 5, 6], [], []⟩), (4, ⟨[4, 5, 6, 8], [], []⟩), (5, ⟨[2], [], []⟩)]) Tryd.f7 = some a7 := by kernel_rfl

/- payroll/payrolllaw3.CalendarAddMonths -/
def a8r0 : List IOp := [⟨some 4, .mv, [.c (.bool false)], none⟩]
def a8r1 : List IOp := [⟨some 18, .mv, [.t 0], none⟩,
  ⟨some 19, .call 12, [.t 18, .c (.int .i64 84006)], none⟩,
  ⟨some 5, .mv, [.t 19], none⟩]
def a8r2 : List IOp := [⟨some 20, .mv, [.t 1], none⟩,
  ⟨some 21, .call 12, [.t 20, .c (.int .i64 49)], none⟩,
  ⟨some 22, .bin .sub, [.t 21, .c (.int .i64 24)], none⟩,
  ⟨some 6, .mv, [.t 22], none⟩]
def a8r3 : List IOp := [⟨some 24, .mv, [.t 5], none⟩,
  ⟨some 25, .mv, [.t 6], none⟩,
  ⟨some 26, .call 28, [.t 24, .t 25], none⟩,
  ⟨some 23, .mv, [.t 26], none⟩,
  ⟨some 27, .extract 0, [.t 23], none⟩,
  ⟨some 28, .extract 1, [.t 23], none⟩,
  ⟨some 7, .mv, [.t 27], none⟩,
  ⟨some 8, .mv, [.t 28], none⟩]
def a8r4 : List IOp := [⟨some 29, .mv, [.t 5], none⟩,
  ⟨some 30, .call 32, [.t 29], none⟩,
  ⟨some 31, .mv, [.t 6], none⟩,
  ⟨some 32, .bin .add, [.t 30, .t 31], none⟩,
  ⟨some 9, .mv, [.t 32], none⟩]
def a8r5 : List IOp := [⟨some 33, .mv, [.t 8], none⟩,
  ⟨some 34, .mv, [.t 9], none⟩,
  ⟨some 35, .bin .geq, [.t 34, .c (.int .i64 0)], none⟩,
  ⟨some 36, .mv, [.t 35], none⟩,
  ⟨some 37, .mv, [.t 9], some (36, true)⟩,
  ⟨some 38, .bin .leq, [.t 37, .c (.int .i64 2759)], some (36, true)⟩,
  ⟨some 39, .pick, [.t 36, .t 38, .c (.bool false)], none⟩,
  ⟨some 40, .eqB true, [.t 33, .t 39], none⟩]
def a8r6 : List IOp := [⟨some 4, .mv, [.c (.bool false)], none⟩]
def a8r7 : List IOp := [⟨some 41, .mv, [.t 8], none⟩,
  ⟨some 42, .not, [.t 41], none⟩]
def a8r8 : List IOp := [⟨some 43, .mv, [.t 7], none⟩,
  ⟨some 44, .bin .eql, [.t 43, .c (.int .i64 0)], none⟩,
  ⟨some 45, .mv, [.t 44], none⟩,
  ⟨some 46, .call 17, [], some (45, true)⟩,
  ⟨some 47, .pick, [.t 45, .t 46, .c (.bool false)], none⟩,
  ⟨some 4, .mv, [.t 47], none⟩]
def a8r9 : List IOp := [⟨some 49, .mv, [.t 5], none⟩,
  ⟨some 50, .call 24, [.t 49], none⟩,
  ⟨some 48, .mv, [.t 50], none⟩,
  ⟨some 51, .extract 0, [.t 48], none⟩,
  ⟨some 52, .extract 1, [.t 48], none⟩,
  ⟨some 53, .extract 2, [.t 48], none⟩,
  ⟨some 54, .extract 3, [.t 48], none⟩,
  ⟨some 10, .mv, [.t 51], none⟩,
  ⟨some 11, .mv, [.t 52], none⟩,
  ⟨some 12, .mv, [.t 53], none⟩,
  ⟨some 13, .mv, [.t 54], none⟩]
def a8r10 : List IOp := [⟨some 56, .mv, [.t 7], none⟩,
  ⟨some 57, .call 24, [.t 56], none⟩,
  ⟨some 55, .mv, [.t 57], none⟩,
  ⟨some 58, .extract 0, [.t 55], none⟩,
  ⟨some 59, .extract 1, [.t 55], none⟩,
  ⟨some 60, .extract 2, [.t 55], none⟩,
  ⟨some 61, .extract 3, [.t 55], none⟩,
  ⟨some 14, .mv, [.t 58], none⟩,
  ⟨some 15, .mv, [.t 59], none⟩,
  ⟨some 16, .mv, [.t 60], none⟩,
  ⟨some 17, .mv, [.t 61], none⟩]
def a8r11 : List IOp := [⟨some 62, .mv, [.t 7], none⟩,
  ⟨some 63, .call 32, [.t 62], none⟩,
  ⟨some 64, .mv, [.t 9], none⟩,
  ⟨some 65, .bin .eql, [.t 63, .t 64], none⟩,
  ⟨some 66, .mv, [.t 65], none⟩,
  ⟨some 67, .mv, [.t 12], some (66, true)⟩,
  ⟨some 68, .mv, [.t 16], some (66, true)⟩,
  ⟨some 69, .bin .eql, [.t 67, .t 68], some (66, true)⟩,
  ⟨some 70, .mv, [.t 69], some (66, true)⟩,
  ⟨some 71, .mv, [.t 16], some (70, false)⟩,
  ⟨some 72, .mv, [.t 12], some (70, false)⟩,
  ⟨some 73, .bin .lss, [.t 71, .t 72], some (70, false)⟩,
  ⟨some 74, .mv, [.t 73], some (70, false)⟩,
  ⟨some 75, .mv, [.t 16], some (74, true)⟩,
  ⟨some 76, .mv, [.t 9], some (74, true)⟩,
  ⟨some 77, .call 36, [.t 76], some (74, true)⟩,
  ⟨some 78, .bin .eql, [.t 75, .t 77], some (74, true)⟩,
  ⟨some 79, .pick, [.t 74, .t 78, .c (.bool false)], some (70, false)⟩,
  ⟨some 80, .pick, [.t 70, .c (.bool true), .t 79], some (66, true)⟩,
  ⟨some 81, .pick, [.t 66, .t 80, .c (.bool false)], none⟩,
  ⟨some 82, .mv, [.t 81], none⟩,
  ⟨some 83, .call 17, [], some (82, true)⟩,
  ⟨some 84, .pick, [.t 82, .t 83, .c (.bool false)], none⟩,
  ⟨some 4, .mv, [.t 84], none⟩]
def a8 : AFunc := ⟨85, [.tmp 4], (.seq (.region a8r0 [0, 1]) (.seq (.region a8r1 [1, 5]) (.seq (.region a8r2 [5, 6]) (.seq (.region a8r3 [5, 6, 7, 8]) (.seq (.region a8r4 [5, 7, 8, 9]) (.seq (.seq (.region a8r5 [5, 7, 8, 9, 40]) (.cond (.t 40) (.seq (.region a8r6 [4]) .ret) .skip)) (.seq (.seq (.region a8r7 [5, 7, 9, 42]) (.cond (.t 42) (.seq (.region a8r8 [4]) .ret) .skip)) (.seq (.region a8r9 [7, 9, 12]) (.seq (.region a8r10 [7, 9, 12, 16]) (.seq (.region a8r11 [4]) .ret))))))))))⟩
theorem a8_ok : compileF Tryd.prog (lk [(0, ⟨[0, 1], [], []⟩), (1, ⟨[1, 5], [], []⟩), (2, ⟨[5, 6], [], []⟩), (3, ⟨[5, 6, 7, 8], [], []⟩), (4, ⟨[5, 7, 8, 9], [], []⟩), (5, ⟨[5, 7, 8, 9, 40], [], []⟩), (6, ⟨[4], [], []⟩), (7, ⟨[5, 7, 9, 42], [], []⟩), (8, ⟨[4], [], []⟩), (9, ⟨[7, 9, 12], [], []⟩), (10, ⟨[7, 9, 12, 16], [], []⟩), (11, ⟨[4], [], []⟩)]) Tryd.f8 = some a8 := by kernel_rfl

/- payroll/payrollgen.Mod -/
def a12r0 : List IOp := [⟨some 4, .mv, [.c (.int .i64 0)], none⟩]
def a12r1 : List IOp := [⟨some 6, .mv, [.t 0], none⟩,
  ⟨some 7, .mv, [.t 1], none⟩,
  ⟨some 8, .bin .rem, [.t 6, .t 7], none⟩,
  ⟨some 5, .mv, [.t 8], none⟩]
def a12r2 : List IOp := [⟨some 9, .mv, [.t 5], none⟩,
  ⟨some 10, .bin .lss, [.t 9, .c (.int .i64 0)], none⟩]
def a12r3 : List IOp := [⟨some 11, .mv, [.t 5], none⟩,
  ⟨some 12, .mv, [.t 1], none⟩,
  ⟨some 13, .bin .add, [.t 11, .t 12], none⟩,
  ⟨some 5, .mv, [.t 13], none⟩]
def a12r4 : List IOp := [⟨some 14, .mv, [.t 5], none⟩,
  ⟨some 4, .mv, [.t 14], none⟩]
def a12 : AFunc := ⟨15, [.tmp 4], (.seq (.region a12r0 [0, 1]) (.seq (.region a12r1 [1, 5]) (.seq (.seq (.region a12r2 [1, 5, 10]) (.cond (.t 10) (.region a12r3 [5]) .skip)) (.seq (.region a12r4 [4]) .ret))))⟩
theorem a12_ok : compileF Tryd.prog (lk [(0, ⟨[0, 1], [], []⟩), (1, ⟨[1, 5], [], []⟩), (2, ⟨[1, 5, 10], [], []⟩), (3, ⟨[5], [], []⟩), (4, ⟨[4], [], []⟩)]) Tryd.f12 = some a12 := by kernel_rfl

/- payroll/calendar.Holidays -/
def a13r0 : List IOp := [⟨some 4, .mv, [.c (.nils)], none⟩,
  ⟨some 5, .mv, [.c (.int .i64 0)], none⟩]
def a13r1 : List IOp := [⟨some 7, .mv, [.t 0], none⟩,
  ⟨some 8, .call 15, [.t 7], none⟩,
  ⟨some 6, .mv, [.t 8], none⟩]
def a13r2 : List IOp := [⟨some 9, .mv, [.t 6], none⟩,
  ⟨some 10, .bin .neq, [.t 9, .c (.int .i64 0)], none⟩]
def a13r3 : List IOp := [⟨some 11, .mv, [.t 6], none⟩,
  ⟨some 4, .mv, [.c (.nils)], none⟩,
  ⟨some 5, .mv, [.t 11], none⟩]
def a13r4 : List IOp := [⟨some 12, .mv, [.t 1], none⟩,
  ⟨some 13, .bin .lss, [.t 12, .c (.int .i64 1970)], none⟩,
  ⟨some 14, .mv, [.t 13], none⟩,
  ⟨some 15, .mv, [.t 1], some (14, false)⟩,
  ⟨some 16, .bin .gtr, [.t 15, .c (.int .i64 2199)], some (14, false)⟩,
  ⟨some 17, .pick, [.t 14, .c (.bool true), .t 16], none⟩]
def a13r5 : List IOp := [⟨some 4, .mv, [.c (.nils)], none⟩,
  ⟨some 5, .mv, [.c (.int .i64 2)], none⟩]
def a13r6 : List IOp := [⟨some 18, .mv, [.t 0], none⟩,
  ⟨some 19, .mv, [.t 1], none⟩,
  ⟨some 20, .mv, [.t 1], none⟩,
  ⟨some 21, .call 48, [.t 18, .t 19, .t 20], none⟩,
  ⟨some 4, .mv, [.t 21], none⟩,
  ⟨some 5, .mv, [.c (.int .i64 0)], none⟩]
def a13 : AFunc := ⟨22, [.tmp 4, .tmp 5], (.seq (.region a13r0 [0, 1]) (.seq (.seq (.region a13r1 [0, 1, 6]) (.seq (.region a13r2 [0, 1, 6, 10]) (.cond (.t 10) (.seq (.region a13r3 [4, 5]) .ret) .skip))) (.seq (.seq (.region a13r4 [0, 1, 17]) (.cond (.t 17) (.seq (.region a13r5 [4, 5]) .ret) .skip)) (.seq (.region a13r6 [4, 5]) .ret))))⟩
theorem a13_ok : compileF Tryd.prog (lk [(0, ⟨[0, 1], [], []⟩), (1, ⟨[0, 1, 6], [], []⟩), (2, ⟨[0, 1, 6, 10], [], []⟩), (3, ⟨[4, 5], [], []⟩), (4, ⟨[0, 1, 17], [], []⟩), (5, ⟨[4, 5], [], []⟩), (6, ⟨[4, 5], [], []⟩)]) Tryd.f13 = some a13 := by kernel_rfl

/- payroll/calendar.Valid -/
def a15r0 : List IOp := [⟨some 2, .mv, [.c (.int .i64 0)], none⟩]
def a15r1 : List IOp := [⟨some 5, .mv, [.t 0], none⟩,
  ⟨some 6, .len, [.t 5], none⟩,
  ⟨some 7, .bin .gtr, [.t 6, .c (.int .i64 1024)], none⟩]
def a15r2 : List IOp := [⟨some 2, .mv, [.c (.int .i64 3)], none⟩]
def a15r3 : List IOp := [⟨some 8, .mv, [.t 0], none⟩,
  ⟨some 9, .len, [.t 8], none⟩,
  ⟨some 10, .mv, [.c (.int .i64 0)], none⟩]
def a15r4 : List IOp := [⟨some 11, .bin .lss, [.t 10, .t 9], none⟩]
def a15r5 : List IOp := [⟨some 12, .indexAddr 6, [.t 8, .t 10], none⟩,
  ⟨some 13, .loadA 6, [.t 12], none⟩,
  ⟨some 4, .alloc 25 [.int .i64 0, .int .i64 0, .int .i64 0, .int .i64 0, .int .i64 0, .bool false], [], none⟩,
  ⟨none, .store 6, [.t 4, .t 13], none⟩]
def a15r6 : List IOp := [⟨some 14, .loadA 6, [.t 4], none⟩,
  ⟨some 15, .call 51, [.t 14], none⟩,
  ⟨some 16, .not, [.t 15], none⟩]
def a15r7 : List IOp := [⟨some 2, .mv, [.c (.int .i64 1)], none⟩]
def a15r8 : List IOp := [⟨some 17, .bin .add, [.t 10, .c (.int .i64 1)], none⟩,
  ⟨some 10, .mv, [.t 17], none⟩]
def a15r9 : List IOp := [⟨some 2, .mv, [.c (.int .i64 0)], none⟩]
def a15 : AFunc := ⟨18, [.tmp 2], (.seq (.region a15r0 [0]) (.seq (.seq (.region a15r1 [0, 7]) (.cond (.t 7) (.seq (.region a15r2 [2]) .ret) .skip)) (.seq (.seq (.region a15r3 [8, 9, 10]) (.block 0 (.loop (.seq (.region a15r4 [8, 9, 10, 11]) (.seq (.cond (.t 11) .skip (.exit 0)) (.seq (.block 1 (.seq (.region a15r5 [4, 8, 9, 10]) (.seq (.region a15r6 [8, 9, 10, 16]) (.cond (.t 16) (.seq (.region a15r7 [2]) .ret) .skip)))) (.region a15r8 [8, 9, 10]))))))) (.seq (.region a15r9 [2]) .ret))))⟩
theorem a15_ok : compileF Tryd.prog (lk [(0, ⟨[0], [], []⟩), (1, ⟨[0, 7], [], []⟩), (2, ⟨[2], [], []⟩), (3, ⟨[8, 9, 10], [], []⟩), (4, ⟨[8, 9, 10, 11], [], []⟩), (5, ⟨[4, 8, 9, 10], [], []⟩), (6, ⟨[8, 9, 10, 16], [], []⟩), (7, ⟨[2], [], []⟩), (8, ⟨[8, 9, 10], [], []⟩), (9, ⟨[2], [], []⟩)]) Tryd.f15 = some a15 := by kernel_rfl

/- payroll/payrolllaw3.sane -/
def a17r0 : List IOp := [⟨some 0, .mv, [.c (.bool false)], none⟩]
def a17r1 : List IOp := [⟨some 13, .call 22, [.c (.int .i64 2026), .c (.int .i64 11), .c (.int .i64 16)], none⟩,
  ⟨some 12, .mv, [.t 13], none⟩,
  ⟨some 14, .extract 0, [.t 12], none⟩,
  ⟨some 15, .extract 1, [.t 12], none⟩,
  ⟨some 1, .mv, [.t 14], none⟩,
  ⟨some 2, .mv, [.t 15], none⟩]
def a17r2 : List IOp := [⟨some 17, .call 28, [.c (.int .i64 20849), .c (.int .i64 1)], none⟩,
  ⟨some 16, .mv, [.t 17], none⟩,
  ⟨some 18, .extract 0, [.t 16], none⟩,
  ⟨some 19, .extract 1, [.t 16], none⟩,
  ⟨some 3, .mv, [.t 18], none⟩,
  ⟨some 4, .mv, [.t 19], none⟩]
def a17r3 : List IOp := [⟨some 21, .call 26, [.c (.int .i64 20773)], none⟩,
  ⟨some 20, .mv, [.t 21], none⟩,
  ⟨some 22, .extract 0, [.t 20], none⟩,
  ⟨some 23, .extract 1, [.t 20], none⟩,
  ⟨some 24, .extract 2, [.t 20], none⟩,
  ⟨some 5, .mv, [.t 22], none⟩,
  ⟨some 6, .mv, [.t 23], none⟩,
  ⟨some 7, .mv, [.t 24], none⟩]
def a17r4 : List IOp := [⟨some 26, .call 38, [.c (.int .i64 2026)], none⟩,
  ⟨some 25, .mv, [.t 26], none⟩,
  ⟨some 27, .extract 0, [.t 25], none⟩,
  ⟨some 28, .extract 1, [.t 25], none⟩,
  ⟨some 8, .mv, [.t 27], none⟩,
  ⟨some 9, .mv, [.t 28], none⟩]
def a17r5 : List IOp := [⟨some 30, .build [.int .i64 0, .int .i64 0, .int .i64 0, .int .i64 0, .int .i64 0, .bool false] [(0, 1), (1, 1), (3, 1), (2, 1)], [.c (.int .i64 2), .c (.int .i64 11), .c (.int .i64 3), .c (.int .i64 4)], none⟩,
  ⟨some 31, .bslice 25 6 [.int .i64 0, .int .i64 0, .int .i64 0, .int .i64 0, .int .i64 0, .bool false] 1 [0], [.t 30], none⟩,
  ⟨some 32, .call 13, [.t 31, .c (.int .i64 2026)], none⟩,
  ⟨some 29, .mv, [.t 32], none⟩,
  ⟨some 33, .extract 0, [.t 29], none⟩,
  ⟨some 34, .extract 1, [.t 29], none⟩,
  ⟨some 10, .mv, [.t 33], none⟩,
  ⟨some 11, .mv, [.t 34], none⟩]
def a17r6 : List IOp := [⟨some 35, .mv, [.t 2], none⟩,
  ⟨some 36, .mv, [.t 35], none⟩,
  ⟨some 37, .mv, [.t 1], some (36, true)⟩,
  ⟨some 38, .bin .eql, [.t 37, .c (.int .i64 20773)], some (36, true)⟩,
  ⟨some 39, .pick, [.t 36, .t 38, .c (.bool false)], none⟩,
  ⟨some 40, .mv, [.t 39], none⟩,
  ⟨some 41, .mv, [.t 4], some (40, true)⟩,
  ⟨some 42, .pick, [.t 40, .t 41, .c (.bool false)], none⟩,
  ⟨some 43, .mv, [.t 42], none⟩,
  ⟨some 44, .mv, [.t 3], some (43, true)⟩,
  ⟨some 45, .call 43, [.t 44], some (43, true)⟩,
  ⟨some 46, .bin .eql, [.t 45, .c (.str ⟨#[50, 48, 50, 55, 45, 48, 50, 45, 50, 56]⟩)], some (43, true)⟩,
  ⟨some 47, .pick, [.t 43, .t 46, .c (.bool false)], none⟩,
  ⟨some 48, .mv, [.t 47], none⟩,
  ⟨some 49, .mv, [.t 7], some (48, true)⟩,
  ⟨some 50, .pick, [.t 48, .t 49, .c (.bool false)], none⟩,
  ⟨some 51, .mv, [.t 50], none⟩,
  ⟨some 52, .mv, [.t 5], some (51, true)⟩,
  ⟨some 53, .bin .eql, [.t 52, .c (.int .i64 2026)], some (51, true)⟩,
  ⟨some 54, .pick, [.t 51, .t 53, .c (.bool false)], none⟩,
  ⟨some 55, .mv, [.t 54], none⟩,
  ⟨some 56, .mv, [.t 6], some (55, true)⟩,
  ⟨some 57, .bin .eql, [.t 56, .c (.int .i64 47)], some (55, true)⟩,
  ⟨some 58, .pick, [.t 55, .t 57, .c (.bool false)], none⟩,
  ⟨some 59, .mv, [.t 58], none⟩,
  ⟨some 60, .mv, [.t 9], some (59, true)⟩,
  ⟨some 61, .pick, [.t 59, .t 60, .c (.bool false)], none⟩,
  ⟨some 62, .mv, [.t 61], none⟩,
  ⟨some 63, .mv, [.t 8], some (62, true)⟩,
  ⟨some 64, .call 43, [.t 63], some (62, true)⟩,
  ⟨some 65, .bin .eql, [.t 64, .c (.str ⟨#[50, 48, 50, 54, 45, 48, 52, 45, 48, 53]⟩)], some (62, true)⟩,
  ⟨some 66, .pick, [.t 62, .t 65, .c (.bool false)], none⟩,
  ⟨some 67, .mv, [.t 66], none⟩,
  ⟨some 68, .mv, [.t 11], some (67, true)⟩,
  ⟨some 69, .bin .eql, [.t 68, .c (.int .i64 0)], some (67, true)⟩,
  ⟨some 70, .pick, [.t 67, .t 69, .c (.bool false)], none⟩,
  ⟨some 71, .mv, [.t 70], none⟩,
  ⟨some 72, .mv, [.t 10], some (71, true)⟩,
  ⟨some 73, .len, [.t 72], some (71, true)⟩,
  ⟨some 74, .bin .eql, [.t 73, .c (.int .i64 1)], some (71, true)⟩,
  ⟨some 75, .pick, [.t 71, .t 74, .c (.bool false)], none⟩,
  ⟨some 76, .mv, [.t 75], none⟩,
  ⟨some 77, .mv, [.t 10], some (76, true)⟩,
  ⟨some 78, .indexAddr 1, [.t 77, .c (.int .i64 0)], some (76, true)⟩,
  ⟨some 79, .load1, [.t 78], some (76, true)⟩,
  ⟨some 80, .bin .eql, [.t 79, .c (.int .i64 20783)], some (76, true)⟩,
  ⟨some 81, .pick, [.t 76, .t 80, .c (.bool false)], none⟩,
  ⟨some 82, .mv, [.t 81], none⟩,
  ⟨some 83, .mv, [.t 1], some (82, true)⟩,
  ⟨some 84, .call 30, [.t 83], some (82, true)⟩,
  ⟨some 85, .bin .eql, [.t 84, .c (.int .i64 0)], some (82, true)⟩,
  ⟨some 86, .pick, [.t 82, .t 85, .c (.bool false)], none⟩,
  ⟨some 0, .mv, [.t 86], none⟩]
def a17 : AFunc := ⟨87, [.tmp 0], (.seq (.region a17r0 []) (.seq (.region a17r1 [1, 2]) (.seq (.region a17r2 [1, 2, 3, 4]) (.seq (.region a17r3 [1, 2, 3, 4, 5, 6, 7]) (.seq (.region a17r4 [1, 2, 3, 4, 5, 6, 7, 8, 9]) (.seq (.region a17r5 [1, 2, 3, 4, 5, 6, 7, 8, 9, 10, 11]) (.seq (.region a17r6 [0]) .ret)))))))⟩
theorem a17_ok : compileF Tryd.prog (lk [(0, ⟨[], [], []⟩), (1, ⟨[1, 2], [], []⟩), (2, ⟨[1, 2, 3, 4], [], []⟩), (3, ⟨[1, 2, 3, 4, 5, 6, 7], [], []⟩), (4, ⟨[1, 2, 3, 4, 5, 6, 7, 8, 9], [], []⟩), (5, ⟨[1, 2, 3, 4, 5, 6, 7, 8, 9, 10, 11], [], []⟩), (6, ⟨[0], [], []⟩)]) Tryd.f17 = some a17 := by kernel_rfl

/- payroll/calendar.Day -/
def a22r0 : List IOp := [⟨some 6, .mv, [.c (.int .i64 0)], none⟩,
  ⟨some 7, .mv, [.c (.bool false)], none⟩]
def a22r1 : List IOp := [⟨some 8, .mv, [.t 0], none⟩,
  ⟨some 9, .bin .lss, [.t 8, .c (.int .i64 1970)], none⟩,
  ⟨some 10, .mv, [.t 9], none⟩,
  ⟨some 11, .mv, [.t 0], some (10, false)⟩,
  ⟨some 12, .bin .gtr, [.t 11, .c (.int .i64 2199)], some (10, false)⟩,
  ⟨some 13, .pick, [.t 10, .c (.bool true), .t 12], none⟩,
  ⟨some 14, .mv, [.t 13], none⟩,
  ⟨some 15, .mv, [.t 1], some (14, false)⟩,
  ⟨some 16, .bin .lss, [.t 15, .c (.int .i64 1)], some (14, false)⟩,
  ⟨some 17, .pick, [.t 14, .c (.bool true), .t 16], none⟩,
  ⟨some 18, .mv, [.t 17], none⟩,
  ⟨some 19, .mv, [.t 1], some (18, false)⟩,
  ⟨some 20, .bin .gtr, [.t 19, .c (.int .i64 12)], some (18, false)⟩,
  ⟨some 21, .pick, [.t 18, .c (.bool true), .t 20], none⟩]
def a22r2 : List IOp := [⟨some 6, .mv, [.c (.int .i64 0)], none⟩,
  ⟨some 7, .mv, [.c (.bool false)], none⟩]
def a22r3 : List IOp := [⟨some 22, .mv, [.t 2], none⟩,
  ⟨some 23, .bin .lss, [.t 22, .c (.int .i64 1)], none⟩,
  ⟨some 24, .mv, [.t 23], none⟩,
  ⟨some 25, .mv, [.t 2], some (24, false)⟩,
  ⟨some 26, .mv, [.t 0], some (24, false)⟩,
  ⟨some 27, .mv, [.t 1], some (24, false)⟩,
  ⟨some 28, .call 52, [.t 26, .t 27], some (24, false)⟩,
  ⟨some 29, .bin .gtr, [.t 25, .t 28], some (24, false)⟩,
  ⟨some 30, .pick, [.t 24, .c (.bool true), .t 29], none⟩]
def a22r4 : List IOp := [⟨some 6, .mv, [.c (.int .i64 0)], none⟩,
  ⟨some 7, .mv, [.c (.bool false)], none⟩]
def a22r5 : List IOp := [⟨some 31, .mv, [.t 0], none⟩,
  ⟨some 32, .mv, [.t 1], none⟩,
  ⟨some 33, .mv, [.t 2], none⟩,
  ⟨some 34, .call 53, [.t 31, .t 32, .t 33], none⟩,
  ⟨some 6, .mv, [.t 34], none⟩,
  ⟨some 7, .mv, [.c (.bool true)], none⟩]
def a22 : AFunc := ⟨35, [.tmp 6, .tmp 7], (.seq (.region a22r0 [0, 1, 2]) (.seq (.seq (.region a22r1 [0, 1, 2, 21]) (.cond (.t 21) (.seq (.region a22r2 [6, 7]) .ret) .skip)) (.seq (.seq (.region a22r3 [0, 1, 2, 30]) (.cond (.t 30) (.seq (.region a22r4 [6, 7]) .ret) .skip)) (.seq (.region a22r5 [6, 7]) .ret))))⟩
theorem a22_ok : compileF Tryd.prog (lk [(0, ⟨[0, 1, 2], [], []⟩), (1, ⟨[0, 1, 2, 21], [], []⟩), (2, ⟨[6, 7], [], []⟩), (3, ⟨[0, 1, 2, 30], [], []⟩), (4, ⟨[6, 7], [], []⟩), (5, ⟨[6, 7], [], []⟩)]) Tryd.f22 = some a22 := by kernel_rfl

/- payroll/calendar.Date -/
def a24r0 : List IOp := [⟨some 2, .mv, [.c (.int .i64 0)], none⟩,
  ⟨some 3, .mv, [.c (.int .i64 0)], none⟩,
  ⟨some 4, .mv, [.c (.int .i64 0)], none⟩,
  ⟨some 5, .mv, [.c (.bool false)], none⟩]
def a24r1 : List IOp := [⟨some 9, .mv, [.t 0], none⟩,
  ⟨some 10, .call 56, [.t 9], none⟩,
  ⟨some 11, .not, [.t 10], none⟩]
def a24r2 : List IOp := [⟨some 2, .mv, [.c (.int .i64 0)], none⟩,
  ⟨some 3, .mv, [.c (.int .i64 0)], none⟩,
  ⟨some 4, .mv, [.c (.int .i64 0)], none⟩,
  ⟨some 5, .mv, [.c (.bool false)], none⟩]
def a24r3 : List IOp := [⟨some 12, .mv, [.t 0], none⟩,
  ⟨some 13, .call 57, [.t 12], none⟩,
  ⟨some 6, .mv, [.t 13], none⟩]
def a24r4 : List IOp := [⟨some 14, .mv, [.t 0], none⟩,
  ⟨some 15, .mv, [.t 6], none⟩,
  ⟨some 16, .call 58, [.t 15], none⟩,
  ⟨some 17, .bin .sub, [.t 14, .t 16], none⟩,
  ⟨some 7, .mv, [.t 17], none⟩]
def a24r5 : List IOp := [⟨some 8, .mv, [.c (.int .i64 1)], none⟩]
def a24r6 : List IOp := [⟨some 18, .mv, [.t 7], none⟩,
  ⟨some 19, .mv, [.t 6], none⟩,
  ⟨some 20, .mv, [.t 8], none⟩,
  ⟨some 21, .call 52, [.t 19, .t 20], none⟩,
  ⟨some 22, .bin .geq, [.t 18, .t 21], none⟩]
def a24r7 : List IOp := [⟨some 23, .mv, [.t 7], none⟩,
  ⟨some 24, .mv, [.t 6], none⟩,
  ⟨some 25, .mv, [.t 8], none⟩,
  ⟨some 26, .call 52, [.t 24, .t 25], none⟩,
  ⟨some 27, .bin .sub, [.t 23, .t 26], none⟩,
  ⟨some 7, .mv, [.t 27], none⟩]
def a24r8 : List IOp := [⟨some 28, .mv, [.t 8], none⟩,
  ⟨some 29, .bin .add, [.t 28, .c (.int .i64 1)], none⟩,
  ⟨some 8, .mv, [.t 29], none⟩]
def a24r9 : List IOp := [⟨some 30, .mv, [.t 6], none⟩,
  ⟨some 31, .mv, [.t 8], none⟩,
  ⟨some 32, .mv, [.t 7], none⟩,
  ⟨some 33, .bin .add, [.t 32, .c (.int .i64 1)], none⟩,
  ⟨some 2, .mv, [.t 30], none⟩,
  ⟨some 3, .mv, [.t 31], none⟩,
  ⟨some 4, .mv, [.t 33], none⟩,
  ⟨some 5, .mv, [.c (.bool true)], none⟩]
def a24 : AFunc := ⟨34, [.tmp 2, .tmp 3, .tmp 4, .tmp 5], (.seq (.region a24r0 [0]) (.seq (.seq (.region a24r1 [0, 11]) (.cond (.t 11) (.seq (.region a24r2 [2, 3, 4, 5]) .ret) .skip)) (.seq (.region a24r3 [0, 6]) (.seq (.region a24r4 [6, 7]) (.seq (.region a24r5 [6, 7, 8]) (.seq (.block 0 (.loop (.seq (.seq (.region a24r6 [6, 7, 8, 22]) (.cond (.t 22) .skip (.exit 0))) (.block 1 (.seq (.region a24r7 [6, 7, 8]) (.region a24r8 [6, 7, 8])))))) (.seq (.region a24r9 [2, 3, 4, 5]) .ret)))))))⟩
theorem a24_ok : compileF Tryd.prog (lk [(0, ⟨[0], [], []⟩), (1, ⟨[0, 11], [], []⟩), (2, ⟨[2, 3, 4, 5], [], []⟩), (3, ⟨[0, 6], [], []⟩), (4, ⟨[6, 7], [], []⟩), (5, ⟨[6, 7, 8], [], []⟩), (6, ⟨[6, 7, 8, 22], [], []⟩), (7, ⟨[6, 7, 8], [], []⟩), (8, ⟨[6, 7, 8], [], []⟩), (9, ⟨[2, 3, 4, 5], [], []⟩)]) Tryd.f24 = some a24 := by kernel_rfl

/- payroll/calendar.Week -/
def a26r0 : List IOp := [⟨some 2, .mv, [.c (.int .i64 0)], none⟩,
  ⟨some 3, .mv, [.c (.int .i64 0)], none⟩,
  ⟨some 4, .mv, [.c (.bool false)], none⟩]
def a26r1 : List IOp := [⟨some 7, .mv, [.t 0], none⟩,
  ⟨some 8, .call 56, [.t 7], none⟩,
  ⟨some 9, .not, [.t 8], none⟩]
def a26r2 : List IOp := [⟨some 2, .mv, [.c (.int .i64 0)], none⟩,
  ⟨some 3, .mv, [.c (.int .i64 0)], none⟩,
  ⟨some 4, .mv, [.c (.bool false)], none⟩]
def a26r3 : List IOp := [⟨some 10, .mv, [.t 0], none⟩,
  ⟨some 11, .mv, [.t 0], none⟩,
  ⟨some 12, .call 61, [.t 11], none⟩,
  ⟨some 13, .bin .sub, [.t 10, .t 12], none⟩,
  ⟨some 14, .bin .add, [.t 13, .c (.int .i64 3)], none⟩,
  ⟨some 5, .mv, [.t 14], none⟩]
def a26r4 : List IOp := [⟨some 15, .mv, [.t 5], none⟩,
  ⟨some 16, .call 57, [.t 15], none⟩,
  ⟨some 6, .mv, [.t 16], none⟩]
def a26r5 : List IOp := [⟨some 17, .mv, [.t 6], none⟩,
  ⟨some 18, .mv, [.t 5], none⟩,
  ⟨some 19, .mv, [.t 6], none⟩,
  ⟨some 20, .call 58, [.t 19], none⟩,
  ⟨some 21, .bin .sub, [.t 18, .t 20], none⟩,
  ⟨some 22, .bin .quo, [.t 21, .c (.int .i64 7)], none⟩,
  ⟨some 23, .bin .add, [.t 22, .c (.int .i64 1)], none⟩,
  ⟨some 2, .mv, [.t 17], none⟩,
  ⟨some 3, .mv, [.t 23], none⟩,
  ⟨some 4, .mv, [.c (.bool true)], none⟩]
def a26 : AFunc := ⟨24, [.tmp 2, .tmp 3, .tmp 4], (.seq (.region a26r0 [0]) (.seq (.seq (.region a26r1 [0, 9]) (.cond (.t 9) (.seq (.region a26r2 [2, 3, 4]) .ret) .skip)) (.seq (.region a26r3 [5]) (.seq (.region a26r4 [5, 6]) (.seq (.region a26r5 [2, 3, 4]) .ret)))))⟩
theorem a26_ok : compileF Tryd.prog (lk [(0, ⟨[0], [], []⟩), (1, ⟨[0, 9], [], []⟩), (2, ⟨[2, 3, 4], [], []⟩), (3, ⟨[5], [], []⟩), (4, ⟨[5, 6], [], []⟩), (5, ⟨[2, 3, 4], [], []⟩)]) Tryd.f26 = some a26 := by kernel_rfl

/- payroll/calendar.AddMonths -/
def a28r0 : List IOp := [⟨some 4, .mv, [.c (.int .i64 0)], none⟩,
  ⟨some 5, .mv, [.c (.bool false)], none⟩]
def a28r1 : List IOp := [⟨some 13, .mv, [.t 0], none⟩,
  ⟨some 14, .call 24, [.t 13], none⟩,
  ⟨some 12, .mv, [.t 14], none⟩,
  ⟨some 15, .extract 0, [.t 12], none⟩,
  ⟨some 16, .extract 1, [.t 12], none⟩,
  ⟨some 17, .extract 2, [.t 12], none⟩,
  ⟨some 18, .extract 3, [.t 12], none⟩,
  ⟨some 6, .mv, [.t 15], none⟩,
  ⟨some 7, .mv, [.t 16], none⟩,
  ⟨some 8, .mv, [.t 17], none⟩,
  ⟨some 9, .mv, [.t 18], none⟩]
def a28r2 : List IOp := [⟨some 19, .mv, [.t 9], none⟩,
  ⟨some 20, .not, [.t 19], none⟩,
  ⟨some 21, .mv, [.t 20], none⟩,
  ⟨some 22, .mv, [.t 1], some (21, false)⟩,
  ⟨some 23, .bin .lss, [.t 22, .c (.int .i64 (-2759))], some (21, false)⟩,
  ⟨some 24, .pick, [.t 21, .c (.bool true), .t 23], none⟩,
  ⟨some 25, .mv, [.t 24], none⟩,
  ⟨some 26, .mv, [.t 1], some (25, false)⟩,
  ⟨some 27, .bin .gtr, [.t 26, .c (.int .i64 2759)], some (25, false)⟩,
  ⟨some 28, .pick, [.t 25, .c (.bool true), .t 27], none⟩]
def a28r3 : List IOp := [⟨some 4, .mv, [.c (.int .i64 0)], none⟩,
  ⟨some 5, .mv, [.c (.bool false)], none⟩]
def a28r4 : List IOp := [⟨some 29, .mv, [.t 0], none⟩,
  ⟨some 30, .call 32, [.t 29], none⟩,
  ⟨some 31, .mv, [.t 1], none⟩,
  ⟨some 32, .bin .add, [.t 30, .t 31], none⟩,
  ⟨some 10, .mv, [.t 32], none⟩]
def a28r5 : List IOp := [⟨some 34, .mv, [.t 10], none⟩,
  ⟨some 35, .call 34, [.t 34], none⟩,
  ⟨some 33, .mv, [.t 35], none⟩,
  ⟨some 36, .extract 0, [.t 33], none⟩,
  ⟨some 37, .extract 1, [.t 33], none⟩,
  ⟨some 11, .mv, [.t 36], none⟩,
  ⟨some 9, .mv, [.t 37], none⟩]
def a28r6 : List IOp := [⟨some 38, .mv, [.t 9], none⟩,
  ⟨some 39, .not, [.t 38], none⟩]
def a28r7 : List IOp := [⟨some 4, .mv, [.c (.int .i64 0)], none⟩,
  ⟨some 5, .mv, [.c (.bool false)], none⟩]
def a28r8 : List IOp := [⟨some 40, .mv, [.t 11], none⟩,
  ⟨some 41, .mv, [.t 8], none⟩,
  ⟨some 42, .mv, [.t 10], none⟩,
  ⟨some 43, .call 36, [.t 42], none⟩,
  ⟨some 44, .minmax false, [.t 41, .t 43], none⟩,
  ⟨some 45, .bin .add, [.t 40, .t 44], none⟩,
  ⟨some 46, .bin .sub, [.t 45, .c (.int .i64 1)], none⟩,
  ⟨some 4, .mv, [.t 46], none⟩,
  ⟨some 5, .mv, [.c (.bool true)], none⟩]
def a28 : AFunc := ⟨47, [.tmp 4, .tmp 5], (.seq (.region a28r0 [0, 1]) (.seq (.region a28r1 [0, 1, 8, 9]) (.seq (.seq (.region a28r2 [0, 1, 8, 28]) (.cond (.t 28) (.seq (.region a28r3 [4, 5]) .ret) .skip)) (.seq (.region a28r4 [8, 10]) (.seq (.region a28r5 [8, 9, 10, 11]) (.seq (.seq (.region a28r6 [8, 10, 11, 39]) (.cond (.t 39) (.seq (.region a28r7 [4, 5]) .ret) .skip)) (.seq (.region a28r8 [4, 5]) .ret)))))))⟩
theorem a28_ok : compileF Tryd.prog (lk [(0, ⟨[0, 1], [], []⟩), (1, ⟨[0, 1, 8, 9], [], []⟩), (2, ⟨[0, 1, 8, 28], [], []⟩), (3, ⟨[4, 5], [], []⟩), (4, ⟨[8, 10], [], []⟩), (5, ⟨[8, 9, 10, 11], [], []⟩), (6, ⟨[8, 10, 11, 39], [], []⟩), (7, ⟨[4, 5], [], []⟩), (8, ⟨[4, 5], [], []⟩)]) Tryd.f28 = some a28 := by kernel_rfl

/- payroll/calendar.Weekday -/
def a30r0 : List IOp := [⟨some 2, .mv, [.c (.int .i64 0)], none⟩]
def a30r1 : List IOp := [⟨some 3, .mv, [.t 0], none⟩,
  ⟨some 4, .call 56, [.t 3], none⟩,
  ⟨some 5, .not, [.t 4], none⟩]
def a30r2 : List IOp := [⟨some 2, .mv, [.c (.int .i64 (-1))], none⟩]
def a30r3 : List IOp := [⟨some 6, .mv, [.t 0], none⟩,
  ⟨some 7, .call 61, [.t 6], none⟩,
  ⟨some 2, .mv, [.t 7], none⟩]
def a30 : AFunc := ⟨8, [.tmp 2], (.seq (.region a30r0 [0]) (.seq (.seq (.region a30r1 [0, 5]) (.cond (.t 5) (.seq (.region a30r2 [2]) .ret) .skip)) (.seq (.region a30r3 [2]) .ret)))⟩
theorem a30_ok : compileF Tryd.prog (lk [(0, ⟨[0], [], []⟩), (1, ⟨[0, 5], [], []⟩), (2, ⟨[2], [], []⟩), (3, ⟨[2], [], []⟩)]) Tryd.f30 = some a30 := by kernel_rfl

/- payroll/calendar.Month -/
def a32r0 : List IOp := [⟨some 2, .mv, [.c (.int .i64 0)], none⟩]
def a32r1 : List IOp := [⟨some 8, .mv, [.t 0], none⟩,
  ⟨some 9, .call 24, [.t 8], none⟩,
  ⟨some 7, .mv, [.t 9], none⟩,
  ⟨some 10, .extract 0, [.t 7], none⟩,
  ⟨some 11, .extract 1, [.t 7], none⟩,
  ⟨some 12, .extract 2, [.t 7], none⟩,
  ⟨some 13, .extract 3, [.t 7], none⟩,
  ⟨some 3, .mv, [.t 10], none⟩,
  ⟨some 4, .mv, [.t 11], none⟩,
  ⟨some 5, .mv, [.t 12], none⟩,
  ⟨some 6, .mv, [.t 13], none⟩]
def a32r2 : List IOp := [⟨some 14, .mv, [.t 6], none⟩,
  ⟨some 15, .not, [.t 14], none⟩]
def a32r3 : List IOp := [⟨some 2, .mv, [.c (.int .i64 (-1))], none⟩]
def a32r4 : List IOp := [⟨some 16, .mv, [.t 3], none⟩,
  ⟨some 17, .bin .sub, [.t 16, .c (.int .i64 1970)], none⟩,
  ⟨some 18, .bin .mul, [.t 17, .c (.int .i64 12)], none⟩,
  ⟨some 19, .mv, [.t 4], none⟩,
  ⟨some 20, .bin .add, [.t 18, .t 19], none⟩,
  ⟨some 21, .bin .sub, [.t 20, .c (.int .i64 1)], none⟩,
  ⟨some 2, .mv, [.t 21], none⟩]
def a32 : AFunc := ⟨22, [.tmp 2], (.seq (.region a32r0 [0]) (.seq (.region a32r1 [3, 4, 6]) (.seq (.seq (.region a32r2 [3, 4, 15]) (.cond (.t 15) (.seq (.region a32r3 [2]) .ret) .skip)) (.seq (.region a32r4 [2]) .ret))))⟩
theorem a32_ok : compileF Tryd.prog (lk [(0, ⟨[0], [], []⟩), (1, ⟨[3, 4, 6], [], []⟩), (2, ⟨[3, 4, 15], [], []⟩), (3, ⟨[2], [], []⟩), (4, ⟨[2], [], []⟩)]) Tryd.f32 = some a32 := by kernel_rfl

/- payroll/calendar.First -/
def a34r0 : List IOp := [⟨some 2, .mv, [.c (.int .i64 0)], none⟩,
  ⟨some 3, .mv, [.c (.bool false)], none⟩]
def a34r1 : List IOp := [⟨some 4, .mv, [.t 0], none⟩,
  ⟨some 5, .bin .lss, [.t 4, .c (.int .i64 0)], none⟩,
  ⟨some 6, .mv, [.t 5], none⟩,
  ⟨some 7, .mv, [.t 0], some (6, false)⟩,
  ⟨some 8, .bin .gtr, [.t 7, .c (.int .i64 2759)], some (6, false)⟩,
  ⟨some 9, .pick, [.t 6, .c (.bool true), .t 8], none⟩]
def a34r2 : List IOp := [⟨some 2, .mv, [.c (.int .i64 0)], none⟩,
  ⟨some 3, .mv, [.c (.bool false)], none⟩]
def a34r3 : List IOp := [⟨some 10, .mv, [.t 0], none⟩,
  ⟨some 11, .bin .quo, [.t 10, .c (.int .i64 12)], none⟩,
  ⟨some 12, .bin .add, [.c (.int .i64 1970), .t 11], none⟩,
  ⟨some 13, .mv, [.t 0], none⟩,
  ⟨some 14, .bin .rem, [.t 13, .c (.int .i64 12)], none⟩,
  ⟨some 15, .bin .add, [.t 14, .c (.int .i64 1)], none⟩,
  ⟨some 16, .call 53, [.t 12, .t 15, .c (.int .i64 1)], none⟩,
  ⟨some 2, .mv, [.t 16], none⟩,
  ⟨some 3, .mv, [.c (.bool true)], none⟩]
def a34 : AFunc := ⟨17, [.tmp 2, .tmp 3], (.seq (.region a34r0 [0]) (.seq (.seq (.region a34r1 [0, 9]) (.cond (.t 9) (.seq (.region a34r2 [2, 3]) .ret) .skip)) (.seq (.region a34r3 [2, 3]) .ret)))⟩
theorem a34_ok : compileF Tryd.prog (lk [(0, ⟨[0], [], []⟩), (1, ⟨[0, 9], [], []⟩), (2, ⟨[2, 3], [], []⟩), (3, ⟨[2, 3], [], []⟩)]) Tryd.f34 = some a34 := by kernel_rfl

/- payroll/calendar.Length -/
def a36r0 : List IOp := [⟨some 2, .mv, [.c (.int .i64 0)], none⟩]
def a36r1 : List IOp := [⟨some 3, .mv, [.t 0], none⟩,
  ⟨some 4, .bin .lss, [.t 3, .c (.int .i64 0)], none⟩,
  ⟨some 5, .mv, [.t 4], none⟩,
  ⟨some 6, .mv, [.t 0], some (5, false)⟩,
  ⟨some 7, .bin .gtr, [.t 6, .c (.int .i64 2759)], some (5, false)⟩,
  ⟨some 8, .pick, [.t 5, .c (.bool true), .t 7], none⟩]
def a36r2 : List IOp := [⟨some 2, .mv, [.c (.int .i64 0)], none⟩]
def a36r3 : List IOp := [⟨some 9, .mv, [.t 0], none⟩,
  ⟨some 10, .bin .quo, [.t 9, .c (.int .i64 12)], none⟩,
  ⟨some 11, .bin .add, [.c (.int .i64 1970), .t 10], none⟩,
  ⟨some 12, .mv, [.t 0], none⟩,
  ⟨some 13, .bin .rem, [.t 12, .c (.int .i64 12)], none⟩,
  ⟨some 14, .bin .add, [.t 13, .c (.int .i64 1)], none⟩,
  ⟨some 15, .call 52, [.t 11, .t 14], none⟩,
  ⟨some 2, .mv, [.t 15], none⟩]
def a36 : AFunc := ⟨16, [.tmp 2], (.seq (.region a36r0 [0]) (.seq (.seq (.region a36r1 [0, 8]) (.cond (.t 8) (.seq (.region a36r2 [2]) .ret) .skip)) (.seq (.region a36r3 [2]) .ret)))⟩
theorem a36_ok : compileF Tryd.prog (lk [(0, ⟨[0], [], []⟩), (1, ⟨[0, 8], [], []⟩), (2, ⟨[2], [], []⟩), (3, ⟨[2], [], []⟩)]) Tryd.f36 = some a36 := by kernel_rfl

/- payroll/calendar.Easter -/
def a38r0 : List IOp := [⟨some 2, .mv, [.c (.int .i64 0)], none⟩,
  ⟨some 3, .mv, [.c (.bool false)], none⟩]
def a38r1 : List IOp := [⟨some 12, .mv, [.t 0], none⟩,
  ⟨some 13, .bin .lss, [.t 12, .c (.int .i64 1970)], none⟩,
  ⟨some 14, .mv, [.t 13], none⟩,
  ⟨some 15, .mv, [.t 0], some (14, false)⟩,
  ⟨some 16, .bin .gtr, [.t 15, .c (.int .i64 2199)], some (14, false)⟩,
  ⟨some 17, .pick, [.t 14, .c (.bool true), .t 16], none⟩]
def a38r2 : List IOp := [⟨some 2, .mv, [.c (.int .i64 0)], none⟩,
  ⟨some 3, .mv, [.c (.bool false)], none⟩]
def a38r3 : List IOp := [⟨some 18, .mv, [.t 0], none⟩,
  ⟨some 19, .bin .rem, [.t 18, .c (.int .i64 19)], none⟩,
  ⟨some 20, .mv, [.t 0], none⟩,
  ⟨some 21, .bin .quo, [.t 20, .c (.int .i64 100)], none⟩,
  ⟨some 22, .mv, [.t 0], none⟩,
  ⟨some 23, .bin .rem, [.t 22, .c (.int .i64 100)], none⟩,
  ⟨some 4, .mv, [.t 19], none⟩,
  ⟨some 5, .mv, [.t 21], none⟩,
  ⟨some 6, .mv, [.t 23], none⟩]
def a38r4 : List IOp := [⟨some 24, .mv, [.t 5], none⟩,
  ⟨some 25, .mv, [.t 5], none⟩,
  ⟨some 26, .bin .add, [.t 25, .c (.int .i64 8)], none⟩,
  ⟨some 27, .bin .quo, [.t 26, .c (.int .i64 25)], none⟩,
  ⟨some 28, .bin .sub, [.t 24, .t 27], none⟩,
  ⟨some 29, .bin .add, [.t 28, .c (.int .i64 1)], none⟩,
  ⟨some 30, .bin .quo, [.t 29, .c (.int .i64 3)], none⟩,
  ⟨some 7, .mv, [.t 30], none⟩]
def a38r5 : List IOp := [⟨some 31, .mv, [.t 4], none⟩,
  ⟨some 32, .bin .mul, [.c (.int .i64 19), .t 31], none⟩,
  ⟨some 33, .mv, [.t 5], none⟩,
  ⟨some 34, .bin .add, [.t 32, .t 33], none⟩,
  ⟨some 35, .mv, [.t 5], none⟩,
  ⟨some 36, .bin .quo, [.t 35, .c (.int .i64 4)], none⟩,
  ⟨some 37, .bin .sub, [.t 34, .t 36], none⟩,
  ⟨some 38, .mv, [.t 7], none⟩,
  ⟨some 39, .bin .sub, [.t 37, .t 38], none⟩,
  ⟨some 40, .bin .add, [.t 39, .c (.int .i64 15)], none⟩,
  ⟨some 41, .bin .rem, [.t 40, .c (.int .i64 30)], none⟩,
  ⟨some 8, .mv, [.t 41], none⟩]
def a38r6 : List IOp := [⟨some 42, .mv, [.t 5], none⟩,
  ⟨some 43, .bin .rem, [.t 42, .c (.int .i64 4)], none⟩,
  ⟨some 44, .bin .mul, [.c (.int .i64 2), .t 43], none⟩,
  ⟨some 45, .bin .add, [.c (.int .i64 32), .t 44], none⟩,
  ⟨some 46, .mv, [.t 6], none⟩,
  ⟨some 47, .bin .quo, [.t 46, .c (.int .i64 4)], none⟩,
  ⟨some 48, .bin .mul, [.c (.int .i64 2), .t 47], none⟩,
  ⟨some 49, .bin .add, [.t 45, .t 48], none⟩,
  ⟨some 50, .mv, [.t 8], none⟩,
  ⟨some 51, .bin .sub, [.t 49, .t 50], none⟩,
  ⟨some 52, .mv, [.t 6], none⟩,
  ⟨some 53, .bin .rem, [.t 52, .c (.int .i64 4)], none⟩,
  ⟨some 54, .bin .sub, [.t 51, .t 53], none⟩,
  ⟨some 55, .bin .rem, [.t 54, .c (.int .i64 7)], none⟩,
  ⟨some 9, .mv, [.t 55], none⟩]
def a38r7 : List IOp := [⟨some 56, .mv, [.t 4], none⟩,
  ⟨some 57, .mv, [.t 8], none⟩,
  ⟨some 58, .bin .mul, [.c (.int .i64 11), .t 57], none⟩,
  ⟨some 59, .bin .add, [.t 56, .t 58], none⟩,
  ⟨some 60, .mv, [.t 9], none⟩,
  ⟨some 61, .bin .mul, [.c (.int .i64 22), .t 60], none⟩,
  ⟨some 62, .bin .add, [.t 59, .t 61], none⟩,
  ⟨some 63, .bin .quo, [.t 62, .c (.int .i64 451)], none⟩,
  ⟨some 10, .mv, [.t 63], none⟩]
def a38r8 : List IOp := [⟨some 64, .mv, [.t 8], none⟩,
  ⟨some 65, .mv, [.t 9], none⟩,
  ⟨some 66, .bin .add, [.t 64, .t 65], none⟩,
  ⟨some 67, .mv, [.t 10], none⟩,
  ⟨some 68, .bin .mul, [.c (.int .i64 7), .t 67], none⟩,
  ⟨some 69, .bin .sub, [.t 66, .t 68], none⟩,
  ⟨some 70, .bin .add, [.t 69, .c (.int .i64 114)], none⟩,
  ⟨some 11, .mv, [.t 70], none⟩]
def a38r9 : List IOp := [⟨some 71, .mv, [.t 0], none⟩,
  ⟨some 72, .mv, [.t 11], none⟩,
  ⟨some 73, .bin .quo, [.t 72, .c (.int .i64 31)], none⟩,
  ⟨some 74, .mv, [.t 11], none⟩,
  ⟨some 75, .bin .rem, [.t 74, .c (.int .i64 31)], none⟩,
  ⟨some 76, .bin .add, [.t 75, .c (.int .i64 1)], none⟩,
  ⟨some 77, .call 22, [.t 71, .t 73, .t 76], none⟩,
  ⟨some 78, .extract 0, [.t 77], none⟩,
  ⟨some 79, .extract 1, [.t 77], none⟩,
  ⟨some 2, .mv, [.t 78], none⟩,
  ⟨some 3, .mv, [.t 79], none⟩]
def a38 : AFunc := ⟨80, [.tmp 2, .tmp 3], (.seq (.region a38r0 [0]) (.seq (.seq (.region a38r1 [0, 17]) (.cond (.t 17) (.seq (.region a38r2 [2, 3]) .ret) .skip)) (.seq (.region a38r3 [0, 4, 5, 6]) (.seq (.region a38r4 [0, 4, 5, 6, 7]) (.seq (.region a38r5 [0, 4, 5, 6, 8]) (.seq (.region a38r6 [0, 4, 8, 9]) (.seq (.region a38r7 [0, 8, 9, 10]) (.seq (.region a38r8 [0, 11]) (.seq (.region a38r9 [2, 3]) .ret)))))))))⟩
theorem a38_ok : compileF Tryd.prog (lk [(0, ⟨[0], [], []⟩), (1, ⟨[0, 17], [], []⟩), (2, ⟨[2, 3], [], []⟩), (3, ⟨[0, 4, 5, 6], [], []⟩), (4, ⟨[0, 4, 5, 6, 7], [], []⟩), (5, ⟨[0, 4, 5, 6, 8], [], []⟩), (6, ⟨[0, 4, 8, 9], [], []⟩), (7, ⟨[0, 8, 9, 10], [], []⟩), (8, ⟨[0, 11], [], []⟩), (9, ⟨[2, 3], [], []⟩)]) Tryd.f38 = some a38 := by kernel_rfl

/- payroll/calendar.Format -/
def a43r0 : List IOp := [⟨some 2, .mv, [.c (.str ⟨#[]⟩)], none⟩]
def a43r1 : List IOp := [⟨some 8, .mv, [.t 0], none⟩,
  ⟨some 9, .call 24, [.t 8], none⟩,
  ⟨some 7, .mv, [.t 9], none⟩,
  ⟨some 10, .extract 0, [.t 7], none⟩,
  ⟨some 11, .extract 1, [.t 7], none⟩,
  ⟨some 12, .extract 2, [.t 7], none⟩,
  ⟨some 13, .extract 3, [.t 7], none⟩,
  ⟨some 3, .mv, [.t 10], none⟩,
  ⟨some 4, .mv, [.t 11], none⟩,
  ⟨some 5, .mv, [.t 12], none⟩,
  ⟨some 6, .mv, [.t 13], none⟩]
def a43r2 : List IOp := [⟨some 14, .mv, [.t 6], none⟩,
  ⟨some 15, .not, [.t 14], none⟩]
def a43r3 : List IOp := [⟨some 2, .mv, [.c (.str ⟨#[]⟩)], none⟩]
def a43r4 : List IOp := [⟨some 16, .mv, [.t 3], none⟩,
  ⟨some 17, .call 67, [.t 16], none⟩,
  ⟨some 18, .bin .add, [.t 17, .c (.str ⟨#[45]⟩)], none⟩,
  ⟨some 19, .mv, [.t 4], none⟩,
  ⟨some 20, .call 68, [.t 19], none⟩,
  ⟨some 21, .bin .add, [.t 18, .t 20], none⟩,
  ⟨some 22, .bin .add, [.t 21, .c (.str ⟨#[45]⟩)], none⟩,
  ⟨some 23, .mv, [.t 5], none⟩,
  ⟨some 24, .call 68, [.t 23], none⟩,
  ⟨some 25, .bin .add, [.t 22, .t 24], none⟩,
  ⟨some 2, .mv, [.t 25], none⟩]
def a43 : AFunc := ⟨26, [.tmp 2], (.seq (.region a43r0 [0]) (.seq (.region a43r1 [3, 4, 5, 6]) (.seq (.seq (.region a43r2 [3, 4, 5, 15]) (.cond (.t 15) (.seq (.region a43r3 [2]) .ret) .skip)) (.seq (.region a43r4 [2]) .ret))))⟩
theorem a43_ok : compileF Tryd.prog (lk [(0, ⟨[0], [], []⟩), (1, ⟨[3, 4, 5, 6], [], []⟩), (2, ⟨[3, 4, 5, 15], [], []⟩), (3, ⟨[2], [], []⟩), (4, ⟨[2], [], []⟩)]) Tryd.f43 = some a43 := by kernel_rfl

/- payroll/calendar.collect -/
def a48r0 : List IOp := [⟨some 6, .mv, [.c (.nils)], none⟩]
def a48r1 : List IOp := [⟨some 7, .mv, [.c (.nils)], none⟩]
def a48r2 : List IOp := [⟨some 13, .mv, [.t 1], none⟩,
  ⟨some 8, .mv, [.t 13], none⟩]
def a48r3 : List IOp := [⟨some 14, .mv, [.t 8], none⟩,
  ⟨some 15, .mv, [.t 2], none⟩,
  ⟨some 16, .bin .leq, [.t 14, .t 15], none⟩]
def a48r4 : List IOp := [⟨some 19, .mv, [.t 0], none⟩,
  ⟨some 20, .len, [.t 19], none⟩,
  ⟨some 21, .mv, [.c (.int .i64 0)], none⟩]
def a48r5 : List IOp := [⟨some 22, .bin .lss, [.t 21, .t 20], none⟩]
def a48r6 : List IOp := [⟨some 23, .indexAddr 6, [.t 19, .t 21], none⟩,
  ⟨some 24, .loadA 6, [.t 23], none⟩,
  ⟨some 10, .alloc 25 [.int .i64 0, .int .i64 0, .int .i64 0, .int .i64 0, .int .i64 0, .bool false], [], none⟩,
  ⟨none, .store 6, [.t 10, .t 24], none⟩]
def a48r7 : List IOp := [⟨some 26, .loadA 6, [.t 10], none⟩,
  ⟨some 27, .mv, [.t 8], none⟩,
  ⟨some 28, .call 72, [.t 26, .t 27], none⟩,
  ⟨some 25, .mv, [.t 28], none⟩,
  ⟨some 29, .extract 0, [.t 25], none⟩,
  ⟨some 30, .extract 1, [.t 25], none⟩,
  ⟨some 11, .mv, [.t 29], none⟩,
  ⟨some 12, .mv, [.t 30], none⟩]
def a48r8 : List IOp := [⟨some 31, .mv, [.t 12], none⟩]
def a48r9 : List IOp := [⟨some 32, .mv, [.t 7], none⟩,
  ⟨some 33, .mv, [.t 11], none⟩,
  ⟨some 34, .bslice 3 1 [.int .i64 0] 1 [0], [.t 33], none⟩,
  ⟨some 35, .append 3 1 8, [.t 32, .t 34], none⟩,
  ⟨some 7, .mv, [.t 35], none⟩]
def a48r10 : List IOp := [⟨some 36, .bin .add, [.t 21, .c (.int .i64 1)], none⟩,
  ⟨some 21, .mv, [.t 36], none⟩]
def a48r11 : List IOp := [⟨some 17, .mv, [.t 8], none⟩,
  ⟨some 18, .bin .add, [.t 17, .c (.int .i64 1)], none⟩,
  ⟨some 8, .mv, [.t 18], none⟩]
def a48r12 : List IOp := [⟨some 37, .mv, [.t 7], none⟩,
  ⟨some 38, .call 73, [.t 37], none⟩]
def a48r13 : List IOp := [⟨some 39, .mv, [.t 7], none⟩,
  ⟨some 40, .call 74, [.t 39], none⟩,
  ⟨some 6, .mv, [.t 40], none⟩]
def a48 : AFunc := ⟨41, [.tmp 6], (.seq (.region a48r0 [0, 1, 2]) (.seq (.region a48r1 [0, 1, 2, 7]) (.seq (.seq (.region a48r2 [0, 2, 7, 8]) (.block 0 (.loop (.seq (.seq (.region a48r3 [0, 2, 7, 8, 16]) (.cond (.t 16) .skip (.exit 0))) (.seq (.block 1 (.seq (.region a48r4 [0, 2, 7, 8, 19, 20, 21]) (.block 2 (.loop (.seq (.region a48r5 [0, 2, 7, 8, 19, 20, 21, 22]) (.seq (.cond (.t 22) .skip (.exit 2)) (.seq (.block 3 (.seq (.region a48r6 [0, 2, 7, 8, 10, 19, 20, 21]) (.seq (.region a48r7 [0, 2, 7, 8, 11, 12, 19, 20, 21]) (.seq (.region a48r8 [0, 2, 7, 8, 11, 19, 20, 21, 31]) (.cond (.t 31) (.region a48r9 [0, 2, 7, 8, 19, 20, 21]) .skip))))) (.region a48r10 [0, 2, 7, 8, 19, 20, 21])))))))) (.region a48r11 [0, 2, 7, 8])))))) (.seq (.region a48r12 [7]) (.seq (.region a48r13 [6]) .ret)))))⟩
theorem a48_ok : compileF Tryd.prog (lk [(0, ⟨[0, 1, 2], [], []⟩), (1, ⟨[0, 1, 2, 7], [], []⟩), (2, ⟨[0, 2, 7, 8], [], []⟩), (3, ⟨[0, 2, 7, 8, 16], [], []⟩), (4, ⟨[0, 2, 7, 8], [], []⟩), (5, ⟨[0, 2, 7, 8, 19, 20, 21], [], []⟩), (6, ⟨[0, 2, 7, 8, 19, 20, 21, 22], [], []⟩), (7, ⟨[0, 2, 7, 8, 10, 19, 20, 21], [], []⟩), (8, ⟨[0, 2, 7, 8, 11, 12, 19, 20, 21], [], []⟩), (9, ⟨[0, 2, 7, 8, 11, 19, 20, 21, 31], [], []⟩), (10, ⟨[0, 2, 7, 8, 19, 20, 21], [], []⟩), (11, ⟨[0, 2, 7, 8, 19, 20, 21], [], []⟩), (12, ⟨[7], [], []⟩), (13, ⟨[6], [], []⟩)]) Tryd.f48 = some a48 := by kernel_rfl

/- payroll/calendar.number -/
def a53r0 : List IOp := [⟨some 6, .mv, [.c (.int .i64 0)], none⟩]
def a53r1 : List IOp := [⟨some 9, .mv, [.t 0], none⟩,
  ⟨some 10, .call 58, [.t 9], none⟩,
  ⟨some 7, .mv, [.t 10], none⟩]
def a53r2 : List IOp := [⟨some 8, .mv, [.c (.int .i64 1)], none⟩]
def a53r3 : List IOp := [⟨some 11, .mv, [.t 8], none⟩,
  ⟨some 12, .mv, [.t 1], none⟩,
  ⟨some 13, .bin .lss, [.t 11, .t 12], none⟩]
def a53r4 : List IOp := [⟨some 16, .mv, [.t 7], none⟩,
  ⟨some 17, .mv, [.t 0], none⟩,
  ⟨some 18, .mv, [.t 8], none⟩,
  ⟨some 19, .call 52, [.t 17, .t 18], none⟩,
  ⟨some 20, .bin .add, [.t 16, .t 19], none⟩,
  ⟨some 7, .mv, [.t 20], none⟩]
def a53r5 : List IOp := [⟨some 14, .mv, [.t 8], none⟩,
  ⟨some 15, .bin .add, [.t 14, .c (.int .i64 1)], none⟩,
  ⟨some 8, .mv, [.t 15], none⟩]
def a53r6 : List IOp := [⟨some 21, .mv, [.t 7], none⟩,
  ⟨some 22, .mv, [.t 2], none⟩,
  ⟨some 23, .bin .add, [.t 21, .t 22], none⟩,
  ⟨some 24, .bin .sub, [.t 23, .c (.int .i64 1)], none⟩,
  ⟨some 6, .mv, [.t 24], none⟩]
def a53 : AFunc := ⟨25, [.tmp 6], (.seq (.region a53r0 [0, 1, 2]) (.seq (.region a53r1 [0, 1, 2, 7]) (.seq (.seq (.region a53r2 [0, 1, 2, 7, 8]) (.block 0 (.loop (.seq (.seq (.region a53r3 [0, 1, 2, 7, 8, 13]) (.cond (.t 13) .skip (.exit 0))) (.seq (.block 1 (.region a53r4 [0, 1, 2, 7, 8])) (.region a53r5 [0, 1, 2, 7, 8])))))) (.seq (.region a53r6 [6]) .ret))))⟩
theorem a53_ok : compileF Tryd.prog (lk [(0, ⟨[0, 1, 2], [], []⟩), (1, ⟨[0, 1, 2, 7], [], []⟩), (2, ⟨[0, 1, 2, 7, 8], [], []⟩), (3, ⟨[0, 1, 2, 7, 8, 13], [], []⟩), (4, ⟨[0, 1, 2, 7, 8], [], []⟩), (5, ⟨[0, 1, 2, 7, 8], [], []⟩), (6, ⟨[6], [], []⟩)]) Tryd.f53 = some a53 := by kernel_rfl

/- payroll/calendar.valid -/
def a56r0 : List IOp := [⟨some 2, .mv, [.c (.bool false)], none⟩]
def a56r1 : List IOp := [⟨some 3, .mv, [.t 0], none⟩,
  ⟨some 4, .bin .geq, [.t 3, .c (.int .i64 0)], none⟩,
  ⟨some 5, .mv, [.t 4], none⟩,
  ⟨some 6, .mv, [.t 0], some (5, true)⟩,
  ⟨some 7, .bin .leq, [.t 6, .c (.int .i64 84005)], some (5, true)⟩,
  ⟨some 8, .pick, [.t 5, .t 7, .c (.bool false)], none⟩,
  ⟨some 2, .mv, [.t 8], none⟩]
def a56 : AFunc := ⟨9, [.tmp 2], (.seq (.region a56r0 [0]) (.seq (.region a56r1 [2]) .ret))⟩
theorem a56_ok : compileF Tryd.prog (lk [(0, ⟨[0], [], []⟩), (1, ⟨[2], [], []⟩)]) Tryd.f56 = some a56 := by kernel_rfl

/- payroll/calendar.yearOf -/
def a57r0 : List IOp := [⟨some 2, .mv, [.c (.int .i64 0)], none⟩]
def a57r1 : List IOp := [⟨some 4, .mv, [.t 0], none⟩,
  ⟨some 5, .bin .quo, [.t 4, .c (.int .i64 366)], none⟩,
  ⟨some 6, .bin .add, [.c (.int .i64 1970), .t 5], none⟩,
  ⟨some 3, .mv, [.t 6], none⟩]
def a57r2 : List IOp := [⟨some 7, .mv, [.t 3], none⟩,
  ⟨some 8, .bin .add, [.t 7, .c (.int .i64 1)], none⟩,
  ⟨some 9, .call 58, [.t 8], none⟩,
  ⟨some 10, .mv, [.t 0], none⟩,
  ⟨some 11, .bin .leq, [.t 9, .t 10], none⟩]
def a57r3 : List IOp := [⟨some 12, .mv, [.t 3], none⟩,
  ⟨some 13, .bin .add, [.t 12, .c (.int .i64 1)], none⟩,
  ⟨some 3, .mv, [.t 13], none⟩]
def a57r4 : List IOp := [⟨some 14, .mv, [.t 3], none⟩,
  ⟨some 2, .mv, [.t 14], none⟩]
def a57 : AFunc := ⟨15, [.tmp 2], (.seq (.region a57r0 [0]) (.seq (.region a57r1 [0, 3]) (.seq (.block 0 (.loop (.seq (.seq (.region a57r2 [0, 3, 11]) (.cond (.t 11) .skip (.exit 0))) (.block 1 (.region a57r3 [0, 3]))))) (.seq (.region a57r4 [2]) .ret))))⟩
theorem a57_ok : compileF Tryd.prog (lk [(0, ⟨[0], [], []⟩), (1, ⟨[0, 3], [], []⟩), (2, ⟨[0, 3, 11], [], []⟩), (3, ⟨[0, 3], [], []⟩), (4, ⟨[2], [], []⟩)]) Tryd.f57 = some a57 := by kernel_rfl

/- payroll/calendar.begin -/
def a58r0 : List IOp := [⟨some 2, .mv, [.c (.int .i64 0)], none⟩]
def a58r1 : List IOp := [⟨some 3, .mv, [.t 0], none⟩,
  ⟨some 4, .bin .sub, [.t 3, .c (.int .i64 1970)], none⟩,
  ⟨some 5, .bin .mul, [.c (.int .i64 365), .t 4], none⟩,
  ⟨some 6, .mv, [.t 0], none⟩,
  ⟨some 7, .bin .sub, [.t 6, .c (.int .i64 1)], none⟩,
  ⟨some 8, .call 76, [.t 7], none⟩,
  ⟨some 9, .bin .add, [.t 5, .t 8], none⟩,
  ⟨some 10, .call 76, [.c (.int .i64 1969)], none⟩,
  ⟨some 11, .bin .sub, [.t 9, .t 10], none⟩,
  ⟨some 2, .mv, [.t 11], none⟩]
def a58 : AFunc := ⟨12, [.tmp 2], (.seq (.region a58r0 [0]) (.seq (.region a58r1 [2]) .ret))⟩
theorem a58_ok : compileF Tryd.prog (lk [(0, ⟨[0], [], []⟩), (1, ⟨[2], [], []⟩)]) Tryd.f58 = some a58 := by kernel_rfl

/- payroll/calendar.weekday -/
def a61r0 : List IOp := [⟨some 2, .mv, [.c (.int .i64 0)], none⟩]
def a61r1 : List IOp := [⟨some 3, .mv, [.t 0], none⟩,
  ⟨some 4, .bin .add, [.t 3, .c (.int .i64 3)], none⟩,
  ⟨some 5, .bin .rem, [.t 4, .c (.int .i64 7)], none⟩,
  ⟨some 6, .bin .add, [.t 5, .c (.int .i64 7)], none⟩,
  ⟨some 7, .bin .rem, [.t 6, .c (.int .i64 7)], none⟩,
  ⟨some 2, .mv, [.t 7], none⟩]
def a61 : AFunc := ⟨8, [.tmp 2], (.seq (.region a61r0 [0]) (.seq (.region a61r1 [2]) .ret))⟩
theorem a61_ok : compileF Tryd.prog (lk [(0, ⟨[0], [], []⟩), (1, ⟨[2], [], []⟩)]) Tryd.f61 = some a61 := by kernel_rfl

/- payroll/calendar.two -/
def a68r0 : List IOp := [⟨some 2, .mv, [.c (.str ⟨#[]⟩)], none⟩]
def a68r1 : List IOp := [⟨some 4, .mv, [.t 0], none⟩,
  ⟨some 5, .call 67, [.t 4], none⟩,
  ⟨some 3, .mv, [.t 5], none⟩]
def a68r2 : List IOp := [⟨some 6, .mv, [.t 0], none⟩,
  ⟨some 7, .bin .lss, [.t 6, .c (.int .i64 10)], none⟩]
def a68r3 : List IOp := [⟨some 8, .mv, [.t 3], none⟩,
  ⟨some 9, .bin .add, [.c (.str ⟨#[48]⟩), .t 8], none⟩,
  ⟨some 3, .mv, [.t 9], none⟩]
def a68r4 : List IOp := [⟨some 10, .mv, [.t 3], none⟩,
  ⟨some 2, .mv, [.t 10], none⟩]
def a68 : AFunc := ⟨11, [.tmp 2], (.seq (.region a68r0 [0]) (.seq (.region a68r1 [0, 3]) (.seq (.seq (.region a68r2 [3, 7]) (.cond (.t 7) (.region a68r3 [3]) .skip)) (.seq (.region a68r4 [2]) .ret))))⟩
theorem a68_ok : compileF Tryd.prog (lk [(0, ⟨[0], [], []⟩), (1, ⟨[0, 3], [], []⟩), (2, ⟨[3, 7], [], []⟩), (3, ⟨[3], [], []⟩), (4, ⟨[2], [], []⟩)]) Tryd.f68 = some a68 := by kernel_rfl

/- payroll/calendar.named -/
def a72r0 : List IOp := [⟨some 2, .box 25 6, [.t 0], none⟩,
  ⟨some 4, .mv, [.c (.int .i64 0)], none⟩,
  ⟨some 5, .mv, [.c (.bool false)], none⟩]
def a72r1 : List IOp := [⟨some 6, .mv, [.c (.int .i64 0)], none⟩]
def a72r2 : List IOp := [⟨some 7, .mv, [.c (.bool false)], none⟩]
def a72r3 : List IOp := [⟨some 9, .fieldAddr 0, [.t 2], none⟩,
  ⟨some 10, .load1, [.t 9], none⟩]
def a72r4 : List IOp := [⟨some 12, .bin .eql, [.t 10, .c (.int .i64 0)], none⟩,
  ⟨some 11, .mv, [.t 12], none⟩]
def a72r5 : List IOp := [⟨some 14, .mv, [.t 1], none⟩,
  ⟨some 15, .fieldAddr 1, [.t 2], none⟩,
  ⟨some 16, .load1, [.t 15], none⟩,
  ⟨some 17, .fieldAddr 2, [.t 2], none⟩,
  ⟨some 18, .load1, [.t 17], none⟩,
  ⟨some 19, .call 22, [.t 14, .t 16, .t 18], none⟩,
  ⟨some 13, .mv, [.t 19], none⟩,
  ⟨some 20, .extract 0, [.t 13], none⟩,
  ⟨some 21, .extract 1, [.t 13], none⟩,
  ⟨some 6, .mv, [.t 20], none⟩,
  ⟨some 7, .mv, [.t 21], none⟩]
def a72r6 : List IOp := [⟨some 23, .bin .eql, [.t 10, .c (.int .i64 1)], none⟩,
  ⟨some 22, .mv, [.t 23], none⟩]
def a72r7 : List IOp := [⟨some 25, .mv, [.t 1], none⟩,
  ⟨some 26, .call 38, [.t 25], none⟩,
  ⟨some 24, .mv, [.t 26], none⟩,
  ⟨some 27, .extract 0, [.t 24], none⟩,
  ⟨some 28, .extract 1, [.t 24], none⟩,
  ⟨some 6, .mv, [.t 27], none⟩,
  ⟨some 7, .mv, [.t 28], none⟩]
def a72r8 : List IOp := [⟨some 30, .bin .eql, [.t 10, .c (.int .i64 2)], none⟩,
  ⟨some 29, .mv, [.t 30], none⟩]
def a72r9 : List IOp := [⟨some 32, .mv, [.t 1], none⟩,
  ⟨some 33, .fieldAddr 1, [.t 2], none⟩,
  ⟨some 34, .load1, [.t 33], none⟩,
  ⟨some 35, .fieldAddr 3, [.t 2], none⟩,
  ⟨some 36, .load1, [.t 35], none⟩,
  ⟨some 37, .fieldAddr 2, [.t 2], none⟩,
  ⟨some 38, .load1, [.t 37], none⟩,
  ⟨some 39, .call 80, [.t 32, .t 34, .t 36, .t 38], none⟩,
  ⟨some 31, .mv, [.t 39], none⟩,
  ⟨some 40, .extract 0, [.t 31], none⟩,
  ⟨some 41, .extract 1, [.t 31], none⟩,
  ⟨some 6, .mv, [.t 40], none⟩,
  ⟨some 7, .mv, [.t 41], none⟩]
def a72r10 : List IOp := [⟨some 42, .mv, [.t 7], none⟩,
  ⟨some 43, .not, [.t 42], none⟩]
def a72r11 : List IOp := [⟨some 4, .mv, [.c (.int .i64 0)], none⟩,
  ⟨some 5, .mv, [.c (.bool false)], none⟩]
def a72r12 : List IOp := [⟨some 44, .mv, [.t 6], none⟩,
  ⟨some 45, .fieldAddr 4, [.t 2], none⟩,
  ⟨some 46, .load1, [.t 45], none⟩,
  ⟨some 47, .bin .add, [.t 44, .t 46], none⟩,
  ⟨some 6, .mv, [.t 47], none⟩]
def a72r13 : List IOp := [⟨some 48, .mv, [.t 6], none⟩,
  ⟨some 49, .call 61, [.t 48], none⟩,
  ⟨some 8, .mv, [.t 49], none⟩]
def a72r14 : List IOp := [⟨some 50, .fieldAddr 5, [.t 2], none⟩,
  ⟨some 51, .load1, [.t 50], none⟩,
  ⟨some 52, .mv, [.t 51], none⟩,
  ⟨some 53, .mv, [.t 8], some (52, true)⟩,
  ⟨some 54, .bin .geq, [.t 53, .c (.int .i64 5)], some (52, true)⟩,
  ⟨some 55, .pick, [.t 52, .t 54, .c (.bool false)], none⟩]
def a72r15 : List IOp := [⟨some 56, .mv, [.t 6], none⟩,
  ⟨some 57, .mv, [.t 8], none⟩,
  ⟨some 58, .bin .sub, [.c (.int .i64 7), .t 57], none⟩,
  ⟨some 59, .bin .add, [.t 56, .t 58], none⟩,
  ⟨some 6, .mv, [.t 59], none⟩]
def a72r16 : List IOp := [⟨some 60, .mv, [.t 6], none⟩,
  ⟨some 61, .call 56, [.t 60], none⟩,
  ⟨some 62, .not, [.t 61], none⟩]
def a72r17 : List IOp := [⟨some 4, .mv, [.c (.int .i64 0)], none⟩,
  ⟨some 5, .mv, [.c (.bool false)], none⟩]
def a72r18 : List IOp := [⟨some 63, .mv, [.t 6], none⟩,
  ⟨some 4, .mv, [.t 63], none⟩,
  ⟨some 5, .mv, [.c (.bool true)], none⟩]
def a72 : AFunc := ⟨64, [.tmp 4, .tmp 5], (.seq (.region a72r0 [1, 2]) (.seq (.region a72r1 [1, 2, 6]) (.seq (.region a72r2 [1, 2, 6, 7]) (.seq (.seq (.region a72r3 [1, 2, 6, 7, 10]) (.block 0 (.seq (.region a72r4 [1, 2, 6, 7, 10, 11]) (.cond (.t 11) (.region a72r5 [2, 6, 7]) (.seq (.region a72r6 [1, 2, 6, 7, 10, 22]) (.cond (.t 22) (.region a72r7 [2, 6, 7]) (.seq (.region a72r8 [1, 2, 6, 7, 29]) (.cond (.t 29) (.region a72r9 [2, 6, 7]) .skip)))))))) (.seq (.seq (.region a72r10 [2, 6, 43]) (.cond (.t 43) (.seq (.region a72r11 [4, 5]) .ret) .skip)) (.seq (.region a72r12 [2, 6]) (.seq (.seq (.region a72r13 [2, 6, 8]) (.seq (.region a72r14 [6, 8, 55]) (.cond (.t 55) (.region a72r15 [6]) .skip))) (.seq (.seq (.region a72r16 [6, 62]) (.cond (.t 62) (.seq (.region a72r17 [4, 5]) .ret) .skip)) (.seq (.region a72r18 [4, 5]) .ret)))))))))⟩
theorem a72_ok : compileF Tryd.prog (lk [(0, ⟨[1, 2], [], []⟩), (1, ⟨[1, 2, 6], [], []⟩), (2, ⟨[1, 2, 6, 7], [], []⟩), (3, ⟨[1, 2, 6, 7, 10], [], []⟩), (4, ⟨[1, 2, 6, 7, 10, 11], [], []⟩), (5, ⟨[2, 6, 7], [], []⟩), (6, ⟨[1, 2, 6, 7, 10, 22], [], []⟩), (7, ⟨[2, 6, 7], [], []⟩), (8, ⟨[1, 2, 6, 7, 29], [], []⟩), (9, ⟨[2, 6, 7], [], []⟩), (10, ⟨[2, 6, 43], [], []⟩), (11, ⟨[4, 5], [], []⟩), (12, ⟨[2, 6], [], []⟩), (13, ⟨[2, 6, 8], [], []⟩), (14, ⟨[6, 8, 55], [], []⟩), (15, ⟨[6], [], []⟩), (16, ⟨[6, 62], [], []⟩), (17, ⟨[4, 5], [], []⟩), (18, ⟨[4, 5], [], []⟩)]) Tryd.f72 = some a72 := by kernel_rfl

/- slices.Sort[[]int,int] -/
def a73r0 : List IOp := [⟨some 3, .mv, [.t 0], none⟩,
  ⟨some 4, .len, [.t 3], none⟩,
  ⟨some 2, .mv, [.t 4], none⟩]
def a73r1 : List IOp := [⟨some 5, .mv, [.t 0], none⟩,
  ⟨some 6, .mv, [.t 2], none⟩,
  ⟨some 7, .mv, [.t 2], none⟩,
  ⟨some 8, .conv .u64, [.t 7], none⟩,
  ⟨some 9, .call 82, [.t 8], none⟩,
  ⟨some 10, .call 81, [.t 5, .c (.int .i64 0), .t 6, .t 9], none⟩]
def a73 : AFunc := ⟨11, [], (.seq (.region a73r0 [0, 2]) (.region a73r1 []))⟩
theorem a73_ok : compileF Tryd.prog (lk [(0, ⟨[0, 2], [], []⟩), (1, ⟨[], [], []⟩)]) Tryd.f73 = some a73 := by kernel_rfl

/- payroll/calendar.leap -/
def a75r0 : List IOp := [⟨some 2, .mv, [.c (.bool false)], none⟩]
def a75r1 : List IOp := [⟨some 3, .mv, [.t 0], none⟩,
  ⟨some 4, .bin .rem, [.t 3, .c (.int .i64 4)], none⟩,
  ⟨some 5, .bin .eql, [.t 4, .c (.int .i64 0)], none⟩,
  ⟨some 6, .mv, [.t 5], none⟩,
  ⟨some 7, .mv, [.t 0], some (6, true)⟩,
  ⟨some 8, .bin .rem, [.t 7, .c (.int .i64 100)], some (6, true)⟩,
  ⟨some 9, .bin .neq, [.t 8, .c (.int .i64 0)], some (6, true)⟩,
  ⟨some 10, .mv, [.t 9], some (6, true)⟩,
  ⟨some 11, .mv, [.t 0], some (10, false)⟩,
  ⟨some 12, .bin .rem, [.t 11, .c (.int .i64 400)], some (10, false)⟩,
  ⟨some 13, .bin .eql, [.t 12, .c (.int .i64 0)], some (10, false)⟩,
  ⟨some 14, .pick, [.t 10, .c (.bool true), .t 13], some (6, true)⟩,
  ⟨some 15, .pick, [.t 6, .t 14, .c (.bool false)], none⟩,
  ⟨some 2, .mv, [.t 15], none⟩]
def a75 : AFunc := ⟨16, [.tmp 2], (.seq (.region a75r0 [0]) (.seq (.region a75r1 [2]) .ret))⟩
theorem a75_ok : compileF Tryd.prog (lk [(0, ⟨[0], [], []⟩), (1, ⟨[2], [], []⟩)]) Tryd.f75 = some a75 := by kernel_rfl

/- payroll/calendar.leaps -/
def a76r0 : List IOp := [⟨some 2, .mv, [.c (.int .i64 0)], none⟩]
def a76r1 : List IOp := [⟨some 3, .mv, [.t 0], none⟩,
  ⟨some 4, .bin .quo, [.t 3, .c (.int .i64 4)], none⟩,
  ⟨some 5, .mv, [.t 0], none⟩,
  ⟨some 6, .bin .quo, [.t 5, .c (.int .i64 100)], none⟩,
  ⟨some 7, .bin .sub, [.t 4, .t 6], none⟩,
  ⟨some 8, .mv, [.t 0], none⟩,
  ⟨some 9, .bin .quo, [.t 8, .c (.int .i64 400)], none⟩,
  ⟨some 10, .bin .add, [.t 7, .t 9], none⟩,
  ⟨some 2, .mv, [.t 10], none⟩]
def a76 : AFunc := ⟨11, [.tmp 2], (.seq (.region a76r0 [0]) (.seq (.region a76r1 [2]) .ret))⟩
theorem a76_ok : compileF Tryd.prog (lk [(0, ⟨[0], [], []⟩), (1, ⟨[2], [], []⟩)]) Tryd.f76 = some a76 := by kernel_rfl

/- payroll/calendar.nth -/
def a80r0 : List IOp := [⟨some 8, .mv, [.c (.int .i64 0)], none⟩,
  ⟨some 9, .mv, [.c (.bool false)], none⟩]
def a80r1 : List IOp := [⟨some 13, .mv, [.t 0], none⟩,
  ⟨some 14, .mv, [.t 1], none⟩,
  ⟨some 15, .call 53, [.t 13, .t 14, .c (.int .i64 1)], none⟩,
  ⟨some 10, .mv, [.t 15], none⟩]
def a80r2 : List IOp := [⟨some 16, .mv, [.t 0], none⟩,
  ⟨some 17, .mv, [.t 1], none⟩,
  ⟨some 18, .call 52, [.t 16, .t 17], none⟩,
  ⟨some 11, .mv, [.t 18], none⟩]
def a80r3 : List IOp := [⟨some 19, .mv, [.t 2], none⟩,
  ⟨some 20, .mv, [.t 10], none⟩,
  ⟨some 21, .call 61, [.t 20], none⟩,
  ⟨some 22, .bin .sub, [.t 19, .t 21], none⟩,
  ⟨some 23, .bin .add, [.t 22, .c (.int .i64 7)], none⟩,
  ⟨some 24, .bin .rem, [.t 23, .c (.int .i64 7)], none⟩,
  ⟨some 12, .mv, [.t 24], none⟩]
def a80r4 : List IOp := [⟨some 25, .mv, [.t 3], none⟩,
  ⟨some 26, .bin .eql, [.t 25, .c (.int .i64 (-1))], none⟩]
def a80r5 : List IOp := [⟨some 27, .mv, [.t 12], none⟩,
  ⟨some 28, .mv, [.t 11], none⟩,
  ⟨some 29, .bin .sub, [.t 28, .c (.int .i64 1)], none⟩,
  ⟨some 30, .mv, [.t 12], none⟩,
  ⟨some 31, .bin .sub, [.t 29, .t 30], none⟩,
  ⟨some 32, .bin .quo, [.t 31, .c (.int .i64 7)], none⟩,
  ⟨some 33, .bin .mul, [.t 32, .c (.int .i64 7)], none⟩,
  ⟨some 34, .bin .add, [.t 27, .t 33], none⟩,
  ⟨some 12, .mv, [.t 34], none⟩]
def a80r6 : List IOp := [⟨some 35, .mv, [.t 12], none⟩,
  ⟨some 36, .mv, [.t 3], none⟩,
  ⟨some 37, .bin .sub, [.t 36, .c (.int .i64 1)], none⟩,
  ⟨some 38, .bin .mul, [.c (.int .i64 7), .t 37], none⟩,
  ⟨some 39, .bin .add, [.t 35, .t 38], none⟩,
  ⟨some 12, .mv, [.t 39], none⟩]
def a80r7 : List IOp := [⟨some 40, .mv, [.t 12], none⟩,
  ⟨some 41, .mv, [.t 11], none⟩,
  ⟨some 42, .bin .geq, [.t 40, .t 41], none⟩]
def a80r8 : List IOp := [⟨some 8, .mv, [.c (.int .i64 0)], none⟩,
  ⟨some 9, .mv, [.c (.bool false)], none⟩]
def a80r9 : List IOp := [⟨some 43, .mv, [.t 10], none⟩,
  ⟨some 44, .mv, [.t 12], none⟩,
  ⟨some 45, .bin .add, [.t 43, .t 44], none⟩,
  ⟨some 8, .mv, [.t 45], none⟩,
  ⟨some 9, .mv, [.c (.bool true)], none⟩]
def a80 : AFunc := ⟨46, [.tmp 8, .tmp 9], (.seq (.region a80r0 [0, 1, 2, 3]) (.seq (.region a80r1 [0, 1, 2, 3, 10]) (.seq (.region a80r2 [2, 3, 10, 11]) (.seq (.region a80r3 [3, 10, 11, 12]) (.seq (.seq (.region a80r4 [3, 10, 11, 12, 26]) (.cond (.t 26) (.region a80r5 [10, 11, 12]) (.region a80r6 [10, 11, 12]))) (.seq (.seq (.region a80r7 [10, 12, 42]) (.cond (.t 42) (.seq (.region a80r8 [8, 9]) .ret) .skip)) (.seq (.region a80r9 [8, 9]) .ret)))))))⟩
theorem a80_ok : compileF Tryd.prog (lk [(0, ⟨[0, 1, 2, 3], [], []⟩), (1, ⟨[0, 1, 2, 3, 10], [], []⟩), (2, ⟨[2, 3, 10, 11], [], []⟩), (3, ⟨[3, 10, 11, 12], [], []⟩), (4, ⟨[3, 10, 11, 12, 26], [], []⟩), (5, ⟨[10, 11, 12], [], []⟩), (6, ⟨[10, 11, 12], [], []⟩), (7, ⟨[10, 12, 42], [], []⟩), (8, ⟨[8, 9], [], []⟩), (9, ⟨[8, 9], [], []⟩)]) Tryd.f80 = some a80 := by kernel_rfl

/- slices.pdqsortOrdered[int] -/
def a81r0 : List IOp := [⟨some 8, .mv, [.c (.bool true)], none⟩]
def a81r1 : List IOp := [⟨some 9, .mv, [.c (.bool true)], none⟩]
def a81r2 : List IOp := [⟨some 19, .mv, [.t 2], none⟩,
  ⟨some 20, .mv, [.t 1], none⟩,
  ⟨some 21, .bin .sub, [.t 19, .t 20], none⟩,
  ⟨some 10, .mv, [.t 21], none⟩]
def a81r3 : List IOp := [⟨some 22, .mv, [.t 10], none⟩,
  ⟨some 23, .bin .leq, [.t 22, .c (.int .i64 12)], none⟩]
def a81r4 : List IOp := [⟨some 24, .mv, [.t 0], none⟩,
  ⟨some 25, .mv, [.t 1], none⟩,
  ⟨some 26, .mv, [.t 2], none⟩,
  ⟨some 27, .call 84, [.t 24, .t 25, .t 26], none⟩]
def a81r5 : List IOp := [⟨some 28, .mv, [.t 3], none⟩,
  ⟨some 29, .bin .eql, [.t 28, .c (.int .i64 0)], none⟩]
def a81r6 : List IOp := [⟨some 30, .mv, [.t 0], none⟩,
  ⟨some 31, .mv, [.t 1], none⟩,
  ⟨some 32, .mv, [.t 2], none⟩,
  ⟨some 33, .call 85, [.t 30, .t 31, .t 32], none⟩]
def a81r7 : List IOp := [⟨some 34, .mv, [.t 8], none⟩,
  ⟨some 35, .not, [.t 34], none⟩]
def a81r8 : List IOp := [⟨some 36, .mv, [.t 0], none⟩,
  ⟨some 37, .mv, [.t 1], none⟩,
  ⟨some 38, .mv, [.t 2], none⟩,
  ⟨some 39, .call 86, [.t 36, .t 37, .t 38], none⟩]
def a81r9 : List IOp := [⟨some 40, .mv, [.t 3], none⟩,
  ⟨some 41, .bin .sub, [.t 40, .c (.int .i64 1)], none⟩,
  ⟨some 3, .mv, [.t 41], none⟩]
def a81r10 : List IOp := [⟨some 43, .mv, [.t 0], none⟩,
  ⟨some 44, .mv, [.t 1], none⟩,
  ⟨some 45, .mv, [.t 2], none⟩,
  ⟨some 46, .call 87, [.t 43, .t 44, .t 45], none⟩,
  ⟨some 42, .mv, [.t 46], none⟩,
  ⟨some 47, .extract 0, [.t 42], none⟩,
  ⟨some 48, .extract 1, [.t 42], none⟩,
  ⟨some 11, .mv, [.t 47], none⟩,
  ⟨some 12, .mv, [.t 48], none⟩]
def a81r11 : List IOp := [⟨some 49, .mv, [.t 12], none⟩,
  ⟨some 50, .bin .eql, [.t 49, .c (.int .i64 2)], none⟩]
def a81r12 : List IOp := [⟨some 51, .mv, [.t 0], none⟩,
  ⟨some 52, .mv, [.t 1], none⟩,
  ⟨some 53, .mv, [.t 2], none⟩,
  ⟨some 54, .call 88, [.t 51, .t 52, .t 53], none⟩]
def a81r13 : List IOp := [⟨some 55, .mv, [.t 2], none⟩,
  ⟨some 56, .bin .sub, [.t 55, .c (.int .i64 1)], none⟩,
  ⟨some 57, .mv, [.t 11], none⟩,
  ⟨some 58, .mv, [.t 1], none⟩,
  ⟨some 59, .bin .sub, [.t 57, .t 58], none⟩,
  ⟨some 60, .bin .sub, [.t 56, .t 59], none⟩,
  ⟨some 11, .mv, [.t 60], none⟩]
def a81r14 : List IOp := [⟨some 12, .mv, [.c (.int .i64 1)], none⟩]
def a81r15 : List IOp := [⟨some 61, .mv, [.t 8], none⟩,
  ⟨some 62, .mv, [.t 61], none⟩,
  ⟨some 63, .mv, [.t 9], some (62, true)⟩,
  ⟨some 64, .pick, [.t 62, .t 63, .c (.bool false)], none⟩,
  ⟨some 65, .mv, [.t 64], none⟩,
  ⟨some 66, .mv, [.t 12], some (65, true)⟩,
  ⟨some 67, .bin .eql, [.t 66, .c (.int .i64 1)], some (65, true)⟩,
  ⟨some 68, .pick, [.t 65, .t 67, .c (.bool false)], none⟩]
def a81r16 : List IOp := [⟨some 69, .mv, [.t 0], none⟩,
  ⟨some 70, .mv, [.t 1], none⟩,
  ⟨some 71, .mv, [.t 2], none⟩,
  ⟨some 72, .call 89, [.t 69, .t 70, .t 71], none⟩]
def a81r17 : List (Nat × DOp) := [(0, ⟨⟨some 73, .mv, [.t 1], none⟩, none, []⟩),
  (1, ⟨⟨some 74, .bin .gtr, [.t 73, .c (.int .i64 0)], none⟩, none, []⟩),
  (2, ⟨⟨some 75, .mv, [.t 74], none⟩, none, []⟩),
  (3, ⟨⟨some 76, .mv, [.t 0], some (75, true)⟩, none, [4, 5, 8, 9, 10, 11]⟩),
  (4, ⟨⟨some 77, .mv, [.t 1], some (75, true)⟩, none, [3, 8, 9, 10, 11]⟩),
  (5, ⟨⟨some 78, .bin .sub, [.t 77, .c (.int .i64 1)], some (75, true)⟩, none, [3, 8, 9, 10, 11]⟩),
  (6, ⟨⟨some 79, .indexAddr 1, [.t 76, .t 78], some (75, true)⟩, none, [8, 9, 10, 11]⟩),
  (7, ⟨⟨some 80, .load1, [.t 79], some (75, true)⟩, none, [8, 9, 10, 11]⟩),
  (8, ⟨⟨some 81, .mv, [.t 0], some (75, true)⟩, none, [3, 4, 5, 6, 7, 9]⟩),
  (9, ⟨⟨some 82, .mv, [.t 11], some (75, true)⟩, none, [3, 4, 5, 6, 7, 8]⟩),
  (10, ⟨⟨some 83, .indexAddr 1, [.t 81, .t 82], some (75, true)⟩, none, [3, 4, 5, 6, 7]⟩),
  (11, ⟨⟨some 84, .load1, [.t 83], some (75, true)⟩, none, [3, 4, 5, 6, 7]⟩),
  (12, ⟨⟨some 85, .call 90, [.t 80, .t 84], some (75, true)⟩, none, []⟩),
  (13, ⟨⟨some 86, .not, [.t 85], some (75, true)⟩, none, []⟩),
  (14, ⟨⟨some 87, .pick, [.t 75, .t 86, .c (.bool false)], none⟩, none, []⟩)]
def a81r18 : List IOp := [⟨some 88, .mv, [.t 0], none⟩,
  ⟨some 89, .mv, [.t 1], none⟩,
  ⟨some 90, .mv, [.t 2], none⟩,
  ⟨some 91, .mv, [.t 11], none⟩,
  ⟨some 92, .call 91, [.t 88, .t 89, .t 90, .t 91], none⟩,
  ⟨some 13, .mv, [.t 92], none⟩]
def a81r19 : List IOp := [⟨some 93, .mv, [.t 13], none⟩,
  ⟨some 1, .mv, [.t 93], none⟩]
def a81r20 : List IOp := [⟨some 95, .mv, [.t 0], none⟩,
  ⟨some 96, .mv, [.t 1], none⟩,
  ⟨some 97, .mv, [.t 2], none⟩,
  ⟨some 98, .mv, [.t 11], none⟩,
  ⟨some 99, .call 92, [.t 95, .t 96, .t 97, .t 98], none⟩,
  ⟨some 94, .mv, [.t 99], none⟩,
  ⟨some 100, .extract 0, [.t 94], none⟩,
  ⟨some 101, .extract 1, [.t 94], none⟩,
  ⟨some 14, .mv, [.t 100], none⟩,
  ⟨some 15, .mv, [.t 101], none⟩]
def a81r21 : List IOp := [⟨some 102, .mv, [.t 15], none⟩,
  ⟨some 9, .mv, [.t 102], none⟩]
def a81r22 : List IOp := [⟨some 103, .mv, [.t 14], none⟩,
  ⟨some 104, .mv, [.t 1], none⟩,
  ⟨some 105, .bin .sub, [.t 103, .t 104], none⟩,
  ⟨some 106, .mv, [.t 2], none⟩,
  ⟨some 107, .mv, [.t 14], none⟩,
  ⟨some 108, .bin .sub, [.t 106, .t 107], none⟩,
  ⟨some 16, .mv, [.t 105], none⟩,
  ⟨some 17, .mv, [.t 108], none⟩]
def a81r23 : List IOp := [⟨some 109, .mv, [.t 10], none⟩,
  ⟨some 110, .bin .quo, [.t 109, .c (.int .i64 8)], none⟩,
  ⟨some 18, .mv, [.t 110], none⟩]
def a81r24 : List IOp := [⟨some 111, .mv, [.t 16], none⟩,
  ⟨some 112, .mv, [.t 17], none⟩,
  ⟨some 113, .bin .lss, [.t 111, .t 112], none⟩]
def a81r25 : List IOp := [⟨some 114, .mv, [.t 16], none⟩,
  ⟨some 115, .mv, [.t 18], none⟩,
  ⟨some 116, .bin .geq, [.t 114, .t 115], none⟩,
  ⟨some 8, .mv, [.t 116], none⟩]
def a81r26 : List IOp := [⟨some 117, .mv, [.t 0], none⟩,
  ⟨some 118, .mv, [.t 1], none⟩,
  ⟨some 119, .mv, [.t 14], none⟩,
  ⟨some 120, .mv, [.t 3], none⟩,
  ⟨some 121, .call 81, [.t 117, .t 118, .t 119, .t 120], none⟩]
def a81r27 : List IOp := [⟨some 122, .mv, [.t 14], none⟩,
  ⟨some 123, .bin .add, [.t 122, .c (.int .i64 1)], none⟩,
  ⟨some 1, .mv, [.t 123], none⟩]
def a81r28 : List IOp := [⟨some 124, .mv, [.t 17], none⟩,
  ⟨some 125, .mv, [.t 18], none⟩,
  ⟨some 126, .bin .geq, [.t 124, .t 125], none⟩,
  ⟨some 8, .mv, [.t 126], none⟩]
def a81r29 : List IOp := [⟨some 127, .mv, [.t 0], none⟩,
  ⟨some 128, .mv, [.t 14], none⟩,
  ⟨some 129, .bin .add, [.t 128, .c (.int .i64 1)], none⟩,
  ⟨some 130, .mv, [.t 2], none⟩,
  ⟨some 131, .mv, [.t 3], none⟩,
  ⟨some 132, .call 81, [.t 127, .t 129, .t 130, .t 131], none⟩]
def a81r30 : List IOp := [⟨some 133, .mv, [.t 14], none⟩,
  ⟨some 2, .mv, [.t 133], none⟩]
def a81 : AFunc := ⟨134, [], (.seq (.region a81r0 [0, 1, 2, 3, 8]) (.seq (.region a81r1 [0, 1, 2, 3, 8, 9]) (.block 0 (.loop (.block 1 (.seq (.region a81r2 [0, 1, 2, 3, 8, 9, 10]) (.seq (.seq (.region a81r3 [0, 1, 2, 3, 8, 9, 10, 23]) (.cond (.t 23) (.seq (.region a81r4 []) .ret) .skip)) (.seq (.seq (.region a81r5 [0, 1, 2, 3, 8, 9, 10, 29]) (.cond (.t 29) (.seq (.region a81r6 []) .ret) .skip)) (.seq (.seq (.region a81r7 [0, 1, 2, 3, 8, 9, 10, 35]) (.cond (.t 35) (.seq (.region a81r8 [0, 1, 2, 3, 8, 9, 10]) (.region a81r9 [0, 1, 2, 3, 8, 9, 10])) .skip)) (.seq (.region a81r10 [0, 1, 2, 3, 8, 9, 10, 11, 12]) (.seq (.seq (.region a81r11 [0, 1, 2, 3, 8, 9, 10, 11, 12, 50]) (.cond (.t 50) (.seq (.region a81r12 [0, 1, 2, 3, 8, 9, 10, 11]) (.seq (.region a81r13 [0, 1, 2, 3, 8, 9, 10, 11]) (.region a81r14 [0, 1, 2, 3, 8, 9, 10, 11, 12]))) .skip)) (.seq (.seq (.region a81r15 [0, 1, 2, 3, 8, 9, 10, 11, 68]) (.cond (.t 68) (.seq (.region a81r16 [0, 1, 2, 3, 8, 9, 10, 11, 72]) (.cond (.t 72) .ret .skip)) .skip)) (.seq (.seq (.draw a81r17 [] [0, 1, 2, 3, 8, 9, 10, 11, 87]) (.cond (.t 87) (.seq (.region a81r18 [0, 2, 3, 8, 9, 13]) (.seq (.region a81r19 [0, 1, 2, 3, 8, 9]) (.exit 1))) .skip)) (.seq (.region a81r20 [0, 1, 2, 3, 10, 14, 15]) (.seq (.region a81r21 [0, 1, 2, 3, 9, 10, 14]) (.seq (.region a81r22 [0, 1, 2, 3, 9, 10, 14, 16, 17]) (.seq (.region a81r23 [0, 1, 2, 3, 9, 14, 16, 17, 18]) (.seq (.region a81r24 [0, 1, 2, 3, 9, 14, 16, 17, 18, 113]) (.cond (.t 113) (.seq (.region a81r25 [0, 1, 2, 3, 8, 9, 14]) (.seq (.region a81r26 [0, 2, 3, 8, 9, 14]) (.region a81r27 [0, 1, 2, 3, 8, 9]))) (.seq (.region a81r28 [0, 1, 2, 3, 8, 9, 14]) (.seq (.region a81r29 [0, 1, 3, 8, 9, 14]) (.region a81r30 [0, 1, 2, 3, 8, 9]))))))))))))))))))))))⟩
theorem a81_ok : compileF Tryd.prog (lk [(0, ⟨[0, 1, 2, 3, 8], [], []⟩), (1, ⟨[0, 1, 2, 3, 8, 9], [], []⟩), (2, ⟨[0, 1, 2, 3, 8, 9, 10], [], []⟩), (3, ⟨[0, 1, 2, 3, 8, 9, 10, 23], [], []⟩), (4, ⟨[], [], []⟩), (5, ⟨[0, 1, 2, 3, 8, 9, 10, 29], [], []⟩), (6, ⟨[], [], []⟩), (7, ⟨[0, 1, 2, 3, 8, 9, 10, 35], [], []⟩), (8, ⟨[0, 1, 2, 3, 8, 9, 10], [], []⟩), (9, ⟨[0, 1, 2, 3, 8, 9, 10], [], []⟩), (10, ⟨[0, 1, 2, 3, 8, 9, 10, 11, 12], [], []⟩), (11, ⟨[0, 1, 2, 3, 8, 9, 10, 11, 12, 50], [], []⟩), (12, ⟨[0, 1, 2, 3, 8, 9, 10, 11], [], []⟩), (13, ⟨[0, 1, 2, 3, 8, 9, 10, 11], [], []⟩), (14, ⟨[0, 1, 2, 3, 8, 9, 10, 11, 12], [], []⟩), (15, ⟨[0, 1, 2, 3, 8, 9, 10, 11, 68], [], []⟩), (16, ⟨[0, 1, 2, 3, 8, 9, 10, 11, 72], [], []⟩), (17, ⟨[0, 1, 2, 3, 8, 9, 10, 11, 87], [[], [0], [1, 0], [2, 1, 0], [2, 1, 0], [4, 2, 1, 0], [3, 5, 2, 1, 0, 4], [6, 2, 3, 5, 1, 0, 4], [2, 1, 0], [2, 1, 0], [8, 9, 2, 1, 0], [10, 2, 8, 9, 1, 0], [7, 11, 2, 6, 3, 5, 1, 0, 4, 10, 8, 9], [12, 2, 7, 11, 6, 3, 5, 1, 0, 4, 10, 8, 9], [2, 13, 1, 0, 12, 7, 11, 6, 3, 5, 4, 10, 8, 9]], [0, 1, 2, 3, 4, 5, 6, 7, 8, 9, 10, 11, 12, 13, 14]⟩), (18, ⟨[0, 2, 3, 8, 9, 13], [], []⟩), (19, ⟨[0, 1, 2, 3, 8, 9], [], []⟩), (20, ⟨[0, 1, 2, 3, 10, 14, 15], [], []⟩), (21, ⟨[0, 1, 2, 3, 9, 10, 14], [], []⟩), (22, ⟨[0, 1, 2, 3, 9, 10, 14, 16, 17], [], []⟩), (23, ⟨[0, 1, 2, 3, 9, 14, 16, 17, 18], [], []⟩), (24, ⟨[0, 1, 2, 3, 9, 14, 16, 17, 18, 113], [], []⟩), (25, ⟨[0, 1, 2, 3, 8, 9, 14], [], []⟩), (26, ⟨[0, 2, 3, 8, 9, 14], [], []⟩), (27, ⟨[0, 1, 2, 3, 8, 9], [], []⟩), (28, ⟨[0, 1, 2, 3, 8, 9, 14], [], []⟩), (29, ⟨[0, 1, 3, 8, 9, 14], [], []⟩), (30, ⟨[0, 1, 2, 3, 8, 9], [], []⟩)]) Tryd.f81 = some a81 := by kernel_rfl

/- math/bits.Len -/
def a82r0 : List IOp := [⟨some 2, .mv, [.c (.int .i64 0)], none⟩]
def a82r1 : List IOp := [⟨some 3, .mv, [.t 0], none⟩,
  ⟨some 4, .conv .u32, [.t 3], none⟩,
  ⟨some 5, .call 93, [.t 4], none⟩,
  ⟨some 2, .mv, [.t 5], none⟩]
def a82r2 : List IOp := [⟨some 6, .mv, [.t 0], none⟩,
  ⟨some 7, .call 94, [.t 6], none⟩,
  ⟨some 2, .mv, [.t 7], none⟩]
def a82 : AFunc := ⟨8, [.tmp 2], (.seq (.region a82r0 [0]) (.seq (.cond (.c (.bool false)) (.seq (.region a82r1 [2]) .ret) .skip) (.seq (.region a82r2 [2]) .ret)))⟩
theorem a82_ok : compileF Tryd.prog (lk [(0, ⟨[0], [], []⟩), (1, ⟨[2], [], []⟩), (2, ⟨[2], [], []⟩)]) Tryd.f82 = some a82 := by kernel_rfl

/- slices.insertionSortOrdered[int] -/
def a84r0 : List IOp := [⟨some 8, .mv, [.t 1], none⟩,
  ⟨some 9, .bin .add, [.t 8, .c (.int .i64 1)], none⟩,
  ⟨some 6, .mv, [.t 9], none⟩]
def a84r1 : List IOp := [⟨some 10, .mv, [.t 6], none⟩,
  ⟨some 11, .mv, [.t 2], none⟩,
  ⟨some 12, .bin .lss, [.t 10, .t 11], none⟩]
def a84r2 : List IOp := [⟨some 15, .mv, [.t 6], none⟩,
  ⟨some 7, .mv, [.t 15], none⟩]
def a84r3 : List (Nat × DOp) := [(0, ⟨⟨some 16, .mv, [.t 7], none⟩, none, [1]⟩),
  (1, ⟨⟨some 17, .mv, [.t 1], none⟩, none, [0]⟩),
  (2, ⟨⟨some 18, .bin .gtr, [.t 16, .t 17], none⟩, none, []⟩),
  (3, ⟨⟨some 19, .mv, [.t 18], none⟩, none, []⟩),
  (4, ⟨⟨some 20, .mv, [.t 0], some (19, true)⟩, none, [5, 8, 9, 10, 11, 12]⟩),
  (5, ⟨⟨some 21, .mv, [.t 7], some (19, true)⟩, none, [4, 8, 9, 10, 11, 12]⟩),
  (6, ⟨⟨some 22, .indexAddr 1, [.t 20, .t 21], some (19, true)⟩, none, [8, 9, 10, 11, 12]⟩),
  (7, ⟨⟨some 23, .load1, [.t 22], some (19, true)⟩, none, [8, 9, 10, 11, 12]⟩),
  (8, ⟨⟨some 24, .mv, [.t 0], some (19, true)⟩, none, [4, 5, 6, 7, 9, 10]⟩),
  (9, ⟨⟨some 25, .mv, [.t 7], some (19, true)⟩, none, [4, 5, 6, 7, 8]⟩),
  (10, ⟨⟨some 26, .bin .sub, [.t 25, .c (.int .i64 1)], some (19, true)⟩, none, [4, 5, 6, 7, 8]⟩),
  (11, ⟨⟨some 27, .indexAddr 1, [.t 24, .t 26], some (19, true)⟩, none, [4, 5, 6, 7]⟩),
  (12, ⟨⟨some 28, .load1, [.t 27], some (19, true)⟩, none, [4, 5, 6, 7]⟩),
  (13, ⟨⟨some 29, .call 90, [.t 23, .t 28], some (19, true)⟩, none, []⟩),
  (14, ⟨⟨some 30, .pick, [.t 19, .t 29, .c (.bool false)], none⟩, none, []⟩)]
def a84r4 : List (Nat × DOp) := [(0, ⟨⟨some 33, .mv, [.t 0], none⟩, none, [1, 2, 3, 4, 5, 6, 7, 8, 9, 10, 11, 12, 13]⟩),
  (1, ⟨⟨some 34, .mv, [.t 7], none⟩, none, [0, 2, 3, 4, 5, 6, 7, 8, 9, 10, 11, 12, 13]⟩),
  (2, ⟨⟨some 35, .mv, [.t 0], none⟩, none, [0, 1, 3, 4, 5, 6, 7, 8, 9, 10, 11, 12, 13, 14, 15]⟩),
  (3, ⟨⟨some 36, .mv, [.t 7], none⟩, none, [0, 1, 2, 5, 6, 7, 8, 9, 10, 11, 12, 13, 14, 15]⟩),
  (4, ⟨⟨some 37, .bin .sub, [.t 36, .c (.int .i64 1)], none⟩, none, [0, 1, 2, 5, 6, 7, 8, 9, 10, 11, 12, 13, 14, 15]⟩),
  (5, ⟨⟨some 38, .mv, [.t 0], none⟩, none, [0, 1, 2, 3, 4, 6, 7, 10, 11, 12, 13]⟩),
  (6, ⟨⟨some 39, .mv, [.t 7], none⟩, none, [0, 1, 2, 3, 4, 5, 10, 11, 12, 13]⟩),
  (7, ⟨⟨some 40, .bin .sub, [.t 39, .c (.int .i64 1)], none⟩, none, [0, 1, 2, 3, 4, 5, 10, 11, 12, 13]⟩),
  (8, ⟨⟨some 41, .indexAddr 1, [.t 38, .t 40], none⟩, none, [0, 1, 2, 3, 4, 10, 11, 12, 13]⟩),
  (9, ⟨⟨some 42, .load1, [.t 41], none⟩, none, [0, 1, 2, 3, 4, 10, 11, 12, 13]⟩),
  (10, ⟨⟨some 43, .mv, [.t 0], none⟩, none, [0, 1, 2, 3, 4, 5, 6, 7, 8, 9, 11]⟩),
  (11, ⟨⟨some 44, .mv, [.t 7], none⟩, none, [0, 1, 2, 3, 4, 5, 6, 7, 8, 9, 10]⟩),
  (12, ⟨⟨some 45, .indexAddr 1, [.t 43, .t 44], none⟩, none, [0, 1, 2, 3, 4, 5, 6, 7, 8, 9]⟩),
  (13, ⟨⟨some 46, .load1, [.t 45], none⟩, none, [0, 1, 2, 3, 4, 5, 6, 7, 8, 9]⟩),
  (14, ⟨⟨some 47, .indexAddr 1, [.t 33, .t 34], none⟩, none, [2, 3, 4]⟩),
  (15, ⟨⟨none, .store 1, [.t 47, .t 42], none⟩, none, [2, 3, 4]⟩),
  (16, ⟨⟨some 48, .indexAddr 1, [.t 35, .t 37], none⟩, none, []⟩),
  (17, ⟨⟨none, .store 1, [.t 48, .t 46], none⟩, none, []⟩)]
def a84r5 : List IOp := [⟨some 31, .mv, [.t 7], none⟩,
  ⟨some 32, .bin .sub, [.t 31, .c (.int .i64 1)], none⟩,
  ⟨some 7, .mv, [.t 32], none⟩]
def a84r6 : List IOp := [⟨some 13, .mv, [.t 6], none⟩,
  ⟨some 14, .bin .add, [.t 13, .c (.int .i64 1)], none⟩,
  ⟨some 6, .mv, [.t 14], none⟩]
def a84 : AFunc := ⟨49, [], (.seq (.region a84r0 [0, 1, 2, 6]) (.block 0 (.loop (.seq (.seq (.region a84r1 [0, 1, 2, 6, 12]) (.cond (.t 12) .skip (.exit 0))) (.seq (.block 1 (.seq (.region a84r2 [0, 1, 2, 6, 7]) (.block 2 (.loop (.seq (.seq (.draw a84r3 [] [0, 1, 2, 6, 7, 30]) (.cond (.t 30) .skip (.exit 2))) (.seq (.block 3 (.draw a84r4 [] [0, 1, 2, 6, 7])) (.region a84r5 [0, 1, 2, 6, 7]))))))) (.region a84r6 [0, 1, 2, 6]))))))⟩
theorem a84_ok : compileF Tryd.prog (lk [(0, ⟨[0, 1, 2, 6], [], []⟩), (1, ⟨[0, 1, 2, 6, 12], [], []⟩), (2, ⟨[0, 1, 2, 6], [], []⟩), (3, ⟨[0, 1, 2, 6, 7], [], []⟩), (4, ⟨[0, 1, 2, 6, 7, 30], [[], [], [0, 1], [2, 0, 1], [3, 2, 0, 1], [3, 2, 0, 1], [4, 5, 3, 2, 0, 1], [6, 3, 4, 5, 2, 0, 1], [3, 2, 0, 1], [3, 2, 0, 1], [9, 3, 2, 0, 1], [8, 10, 3, 2, 0, 1, 9], [11, 3, 8, 10, 2, 0, 1, 9], [7, 12, 3, 6, 4, 5, 2, 0, 1, 11, 8, 10, 9], [3, 13, 2, 0, 1, 7, 12, 6, 4, 5, 11, 8, 10, 9]], [0, 1, 2, 3, 4, 5, 6, 7, 8, 9, 10, 11, 12, 13, 14]⟩), (5, ⟨[0, 1, 2, 6, 7], [], []⟩), (6, ⟨[0, 1, 2, 6, 7], [[], [], [], [], [3], [], [], [6], [5, 7, 6], [8, 5, 7, 6], [], [], [10, 11], [12, 10, 11], [0, 1, 5, 6, 7, 8, 9, 13, 12, 10, 11], [14, 9, 0, 1, 5, 6, 7, 8, 13, 12, 10, 11], [2, 4, 0, 1, 3, 5, 6, 7, 8, 9, 10, 11, 12, 13, 14, 15], [16, 13, 15, 0, 1, 2, 3, 4, 5, 6, 7, 8, 9, 10, 11, 12, 14]], [0, 1, 2, 3, 4, 5, 6, 7, 8, 9, 10, 11, 12, 13, 14, 15, 16, 17]⟩)]) Tryd.f84 = some a84 := by kernel_rfl

/- math/bits.Len64 -/
def a94r0 : List IOp := [⟨some 2, .mv, [.c (.int .i64 0)], none⟩]
def a94r1 : List IOp := [⟨some 3, .mv, [.t 0], none⟩,
  ⟨some 4, .bin .geq, [.t 3, .c (.int .u64 4294967296)], none⟩]
def a94r2 : List IOp := [⟨some 5, .mv, [.t 0], none⟩,
  ⟨some 6, .bin .shr, [.t 5, .c (.int .u64 32)], none⟩,
  ⟨some 0, .mv, [.t 6], none⟩]
def a94r3 : List IOp := [⟨some 2, .mv, [.c (.int .i64 32)], none⟩]
def a94r4 : List IOp := [⟨some 7, .mv, [.t 0], none⟩,
  ⟨some 8, .bin .geq, [.t 7, .c (.int .u64 65536)], none⟩]
def a94r5 : List IOp := [⟨some 9, .mv, [.t 0], none⟩,
  ⟨some 10, .bin .shr, [.t 9, .c (.int .u64 16)], none⟩,
  ⟨some 0, .mv, [.t 10], none⟩]
def a94r6 : List IOp := [⟨some 11, .mv, [.t 2], none⟩,
  ⟨some 12, .bin .add, [.t 11, .c (.int .i64 16)], none⟩,
  ⟨some 2, .mv, [.t 12], none⟩]
def a94r7 : List IOp := [⟨some 13, .mv, [.t 0], none⟩,
  ⟨some 14, .bin .geq, [.t 13, .c (.int .u64 256)], none⟩]
def a94r8 : List IOp := [⟨some 15, .mv, [.t 0], none⟩,
  ⟨some 16, .bin .shr, [.t 15, .c (.int .u64 8)], none⟩,
  ⟨some 0, .mv, [.t 16], none⟩]
def a94r9 : List IOp := [⟨some 17, .mv, [.t 2], none⟩,
  ⟨some 18, .bin .add, [.t 17, .c (.int .i64 8)], none⟩,
  ⟨some 2, .mv, [.t 18], none⟩]
def a94r10 : List IOp := [⟨some 19, .mv, [.t 2], none⟩,
  ⟨some 20, .mv, [.t 0], none⟩,
  ⟨some 21, .conv .u8, [.t 20], none⟩,
  ⟨some 22, .index, [.c (.str ⟨#[0, 1, 2, 2, 3, 3, 3, 3, 4, 4, 4, 4, 4, 4, 4, 4, 5, 5, 5, 5, 5, 5, 5, 5, 5, 5, 5, 5, 5, 5, 5, 5, 6, 6, 6, 6, 6, 6, 6, 6, 6, 6, 6, 6, 6, 6, 6, 6, 6, 6, 6, 6, 6, 6, 6, 6, 6, 6, 6, 6, 6, 6, 6, 6, 7, 7, 7, 7, 7, 7, 7, 7, 7, 7, 7, 7, 7, 7, 7, 7, 7, 7, 7, 7, 7, 7, 7, 7, 7, 7, 7, 7, 7, 7, 7, 7, 7, 7, 7, 7, 7, 7, 7, 7, 7, 7, 7, 7, 7, 7, 7, 7, 7, 7, 7, 7, 7, 7, 7, 7, 7, 7, 7, 7, 7, 7, 7, 7, 8, 8, 8, 8, 8, 8, 8, 8, 8, 8, 8, 8, 8, 8, 8, 8, 8, 8, 8, 8, 8, 8, 8, 8, 8, 8, 8, 8, 8, 8, 8, 8, 8, 8, 8, 8, 8, 8, 8, 8, 8, 8, 8, 8, 8, 8, 8, 8, 8, 8, 8, 8, 8, 8, 8, 8, 8, 8, 8, 8, 8, 8, 8, 8, 8, 8, 8, 8, 8, 8, 8, 8, 8, 8, 8, 8, 8, 8, 8, 8, 8, 8, 8, 8, 8, 8, 8, 8, 8, 8, 8, 8, 8, 8, 8, 8, 8, 8, 8, 8, 8, 8, 8, 8, 8, 8, 8, 8, 8, 8, 8, 8, 8, 8, 8, 8, 8, 8, 8, 8, 8, 8, 8, 8, 8, 8, 8, 8]⟩), .t 21], none⟩,
  ⟨some 23, .conv .i64, [.t 22], none⟩,
  ⟨some 24, .bin .add, [.t 19, .t 23], none⟩,
  ⟨some 2, .mv, [.t 24], none⟩]
def a94 : AFunc := ⟨25, [.tmp 2], (.seq (.region a94r0 [0, 2]) (.seq (.seq (.region a94r1 [0, 2, 4]) (.cond (.t 4) (.seq (.region a94r2 [0]) (.region a94r3 [0, 2])) .skip)) (.seq (.seq (.region a94r4 [0, 2, 8]) (.cond (.t 8) (.seq (.region a94r5 [0, 2]) (.region a94r6 [0, 2])) .skip)) (.seq (.seq (.region a94r7 [0, 2, 14]) (.cond (.t 14) (.seq (.region a94r8 [0, 2]) (.region a94r9 [0, 2])) .skip)) (.seq (.region a94r10 [2]) .ret)))))⟩
theorem a94_ok : compileF Tryd.prog (lk [(0, ⟨[0, 2], [], []⟩), (1, ⟨[0, 2, 4], [], []⟩), (2, ⟨[0], [], []⟩), (3, ⟨[0, 2], [], []⟩), (4, ⟨[0, 2, 8], [], []⟩), (5, ⟨[0, 2], [], []⟩), (6, ⟨[0, 2], [], []⟩), (7, ⟨[0, 2, 14], [], []⟩), (8, ⟨[0, 2], [], []⟩), (9, ⟨[0, 2], [], []⟩), (10, ⟨[2], [], []⟩)]) Tryd.f94 = some a94 := by kernel_rfl

end Go.Proofs.YtpmlihjdegekgaaDoor
