/- The abstract forms of the functions, printed by a program, and that the given program has these forms. -/
import Derived.Test.YtlanehcihoiglaaDoorAbsMd
import Derived.Test.YtlanehcihoiglaaDoorProg
import Derived.KernelRfl
set_option linter.unusedSimpArgs false
set_option linter.unusedVariables false
set_option linter.unusedSectionVars false
namespace Go.Proofs.YtlanehcihoiglaaDoor
open Go Go.Abs
/- payroll/payrolllaw5.PeriodSpans -/
def a3r0 : List IOp := [⟨some 5, .box 24 2, [.t 1], none⟩,
  ⟨some 8, .mv, [.c (.bool false)], none⟩]
def a3r1 : List IOp := [⟨some 15, .mv, [.t 0], none⟩,
  ⟨some 16, .call 6, [.t 15], none⟩,
  ⟨some 9, .mv, [.t 16], none⟩]
def a3r2 : List IOp := [⟨some 10, .mv, [.c (.int .i64 0)], none⟩]
def a3r3 : List IOp := [⟨some 17, .mv, [.t 10], none⟩,
  ⟨some 18, .bin .lss, [.t 17, .c (.int .i64 4)], none⟩]
def a3r4 : List IOp := [⟨some 21, .mv, [.t 9], none⟩,
  ⟨some 22, .call 7, [.t 21, .c (.bool true)], none⟩,
  ⟨some 11, .alloc 24 [.int .i64 0, .int .i64 0], [], none⟩,
  ⟨none, .store 2, [.t 11, .t 22], none⟩]
def a3r5 : List IOp := [⟨some 23, .mv, [.t 9], none⟩,
  ⟨some 24, .call 8, [.t 23], none⟩,
  ⟨some 12, .mv, [.t 24], none⟩]
def a3r6 : List IOp := [⟨some 26, .loadA 2, [.t 11], none⟩,
  ⟨some 27, .mv, [.t 12], none⟩,
  ⟨some 28, .call 9, [.t 26, .t 27], none⟩,
  ⟨some 25, .mv, [.t 28], none⟩,
  ⟨some 29, .extract 0, [.t 25], none⟩,
  ⟨some 30, .extract 1, [.t 25], none⟩,
  ⟨some 13, .mv, [.t 29], none⟩,
  ⟨some 14, .mv, [.t 30], none⟩]
def a3r7 : List (Nat × DOp) := [(0, ⟨⟨some 31, .loadA 2, [.t 11], none⟩, none, [1, 2, 3, 4, 5, 6, 7, 8, 9, 10]⟩),
  (1, ⟨⟨some 32, .mv, [.t 12], none⟩, none, [0, 2, 3, 4, 5, 6, 7, 8, 9, 10]⟩),
  (2, ⟨⟨some 33, .mv, [.t 9], none⟩, none, [0, 1, 3, 4, 5, 6, 7, 8, 9]⟩),
  (3, ⟨⟨some 34, .mv, [.t 13], none⟩, none, [0, 1, 2, 4, 5, 6, 7, 8]⟩),
  (4, ⟨⟨some 35, .loadA 2, [.t 11], none⟩, none, [0, 1, 2, 3, 7]⟩),
  (7, ⟨⟨some 38, .loadA 2, [.t 11], none⟩, none, [0, 1, 2, 3, 4, 5, 6]⟩),
  (5, ⟨⟨some 36, .call 12, [.t 35], none⟩, none, [0, 1, 2, 3, 7]⟩),
  (6, ⟨⟨some 37, .bin .sub, [.t 36, .c (.int .i64 1)], none⟩, none, [0, 1, 2, 3, 7, 8]⟩),
  (8, ⟨⟨some 39, .call 12, [.t 38], none⟩, none, [0, 1, 2, 3, 6]⟩),
  (9, ⟨⟨some 40, .bslice 3 1 [.int .i64 0] 5 [0, 1, 2, 3, 4], [.t 34, .c (.int .i64 0), .t 37, .t 39, .c (.int .i64 (-1))], none⟩, some 0, [0, 1, 2]⟩),
  (10, ⟨⟨some 41, .call 11, [.t 33, .t 40], none⟩, none, [0, 1]⟩),
  (11, ⟨⟨some 42, .call 10, [.t 31, .t 32, .t 41], none⟩, none, []⟩),
  (12, ⟨⟨some 43, .not, [.t 42], none⟩, none, []⟩)]
def a3r8 : List IOp := [⟨some 8, .mv, [.c (.bool false)], none⟩]
def a3r9 : List IOp := [⟨some 19, .mv, [.t 10], none⟩,
  ⟨some 20, .bin .add, [.t 19, .c (.int .i64 1)], none⟩,
  ⟨some 10, .mv, [.t 20], none⟩]
def a3r10 : List IOp := [⟨some 44, .loadA 2, [.t 5], none⟩,
  ⟨some 45, .mv, [.t 2], none⟩,
  ⟨some 46, .mv, [.t 3], none⟩,
  ⟨some 47, .call 10, [.t 44, .t 45, .t 46], none⟩,
  ⟨some 48, .mv, [.t 47], none⟩,
  ⟨some 49, .mv, [.t 3], some (48, true)⟩,
  ⟨some 50, .call 13, [.t 49, .c (.int .i64 4)], some (48, true)⟩,
  ⟨some 51, .build [.int .i64 0, .int .i64 0] [(0, 1)], [.t 50], some (48, true)⟩,
  ⟨some 52, .mv, [.t 2], some (48, true)⟩,
  ⟨some 53, .mv, [.t 3], some (48, true)⟩,
  ⟨some 54, .call 10, [.t 51, .t 52, .t 53], some (48, true)⟩,
  ⟨some 55, .pick, [.t 48, .t 54, .c (.bool false)], none⟩,
  ⟨some 56, .mv, [.t 55], none⟩,
  ⟨some 57, .call 14, [], some (56, true)⟩,
  ⟨some 58, .pick, [.t 56, .t 57, .c (.bool false)], none⟩,
  ⟨some 8, .mv, [.t 58], none⟩]
def a3 : AFunc := ⟨59, [.tmp 8], (.seq (.region a3r0 [0, 2, 3, 5]) (.seq (.region a3r1 [2, 3, 5, 9]) (.seq (.seq (.region a3r2 [2, 3, 5, 9, 10]) (.block 0 (.loop (.seq (.seq (.region a3r3 [2, 3, 5, 9, 10, 18]) (.cond (.t 18) .skip (.exit 0))) (.seq (.block 1 (.seq (.region a3r4 [2, 3, 5, 9, 10, 11]) (.seq (.region a3r5 [2, 3, 5, 9, 10, 11, 12]) (.seq (.region a3r6 [2, 3, 5, 9, 10, 11, 12, 13]) (.seq (.draw a3r7 [(3, 1)] [2, 3, 5, 9, 10, 43]) (.cond (.t 43) (.seq (.region a3r8 [8]) .ret) .skip)))))) (.region a3r9 [2, 3, 5, 9, 10])))))) (.seq (.region a3r10 [8]) .ret))))⟩
theorem a3_ok : compileF Tryd.prog (lk [(0, ⟨[0, 2, 3, 5], [], []⟩), (1, ⟨[2, 3, 5, 9], [], []⟩), (2, ⟨[2, 3, 5, 9, 10], [], []⟩), (3, ⟨[2, 3, 5, 9, 10, 18], [], []⟩), (4, ⟨[2, 3, 5, 9, 10], [], []⟩), (5, ⟨[2, 3, 5, 9, 10, 11], [], []⟩), (6, ⟨[2, 3, 5, 9, 10, 11, 12], [], []⟩), (7, ⟨[2, 3, 5, 9, 10, 11, 12, 13], [], []⟩), (8, ⟨[2, 3, 5, 9, 10, 43], [[], [], [], [], [], [4], [5, 4], [], [7, 5, 4], [3, 6, 8, 5, 4, 7], [2, 9, 8, 3, 6, 5, 4, 7], [0, 1, 10, 2, 9, 8, 3, 6, 5, 4, 7], [11, 0, 1, 10, 2, 9, 8, 3, 6, 5, 4, 7]], [0, 1, 2, 3, 4, 7, 5, 6, 8, 9, 10, 11, 12]⟩), (9, ⟨[8], [], []⟩), (10, ⟨[8], [], []⟩)]) Tryd.f3 = some a3 := by kernel_rfl

/- payroll/payrolllaw5.PeriodPartition -/
def a4r0 : List IOp := [⟨some 4, .mv, [.c (.bool false)], none⟩]
def a4r1 : List IOp := [⟨some 16, .mv, [.t 0], none⟩,
  ⟨some 17, .call 6, [.t 16], none⟩,
  ⟨some 5, .mv, [.t 17], none⟩]
def a4r2 : List IOp := [⟨some 18, .mv, [.t 5], none⟩,
  ⟨some 19, .call 7, [.t 18, .c (.bool false)], none⟩,
  ⟨some 6, .alloc 24 [.int .i64 0, .int .i64 0], [], none⟩,
  ⟨none, .store 2, [.t 6, .t 19], none⟩]
def a4r3 : List IOp := [⟨some 20, .mv, [.t 1], none⟩,
  ⟨some 21, .call 13, [.t 20, .c (.int .i64 84006)], none⟩,
  ⟨some 7, .mv, [.t 21], none⟩]
def a4r4 : List IOp := [⟨some 22, .mv, [.t 5], none⟩,
  ⟨some 23, .call 15, [.t 22, .c (.int .i64 2)], none⟩,
  ⟨some 24, .bin .eql, [.t 23, .c (.int .i64 0)], none⟩]
def a4r5 : List IOp := [⟨some 25, .mv, [.t 5], none⟩,
  ⟨some 26, .call 8, [.t 25], none⟩,
  ⟨some 7, .mv, [.t 26], none⟩]
def a4r6 : List IOp := [⟨some 28, .loadA 2, [.t 6], none⟩,
  ⟨some 29, .mv, [.t 7], none⟩,
  ⟨some 30, .call 16, [.t 28, .t 29], none⟩,
  ⟨some 27, .mv, [.t 30], none⟩,
  ⟨some 31, .extract 0, [.t 27], none⟩,
  ⟨some 32, .extract 1, [.t 27], none⟩,
  ⟨some 8, .mv, [.t 31], none⟩,
  ⟨some 9, .mv, [.t 32], none⟩]
def a4r7 : List IOp := [⟨some 34, .loadA 2, [.t 6], none⟩,
  ⟨some 35, .mv, [.t 8], none⟩,
  ⟨some 36, .call 17, [.t 34, .t 35], none⟩,
  ⟨some 33, .mv, [.t 36], none⟩,
  ⟨some 37, .extract 0, [.t 33], none⟩,
  ⟨some 38, .extract 1, [.t 33], none⟩,
  ⟨some 10, .alloc 40 [.int .i64 0, .int .i64 0], [], none⟩,
  ⟨none, .store 2, [.t 10, .t 37], none⟩,
  ⟨some 11, .mv, [.t 38], none⟩]
def a4r8 : List IOp := [⟨some 39, .mv, [.t 9], none⟩,
  ⟨some 40, .bin .neq, [.t 39, .c (.int .i64 0)], none⟩,
  ⟨some 41, .mv, [.t 40], none⟩,
  ⟨some 42, .mv, [.t 11], some (41, false)⟩,
  ⟨some 43, .bin .neq, [.t 42, .c (.int .i64 0)], some (41, false)⟩,
  ⟨some 44, .pick, [.t 41, .c (.bool true), .t 43], none⟩,
  ⟨some 45, .mv, [.t 44], none⟩,
  ⟨some 46, .mv, [.t 7], some (45, false)⟩,
  ⟨some 47, .fieldAddr 0, [.t 10], some (45, false)⟩,
  ⟨some 48, .load1, [.t 47], some (45, false)⟩,
  ⟨some 49, .bin .lss, [.t 46, .t 48], some (45, false)⟩,
  ⟨some 50, .pick, [.t 45, .c (.bool true), .t 49], none⟩,
  ⟨some 51, .mv, [.t 50], none⟩,
  ⟨some 52, .mv, [.t 7], some (51, false)⟩,
  ⟨some 53, .fieldAddr 1, [.t 10], some (51, false)⟩,
  ⟨some 54, .load1, [.t 53], some (51, false)⟩,
  ⟨some 55, .bin .gtr, [.t 52, .t 54], some (51, false)⟩,
  ⟨some 56, .pick, [.t 51, .c (.bool true), .t 55], none⟩,
  ⟨some 57, .mv, [.t 56], none⟩,
  ⟨some 58, .mv, [.t 8], some (57, false)⟩,
  ⟨some 59, .bin .lss, [.t 58, .c (.int .i64 0)], some (57, false)⟩,
  ⟨some 60, .pick, [.t 57, .c (.bool true), .t 59], none⟩,
  ⟨some 61, .mv, [.t 60], none⟩,
  ⟨some 62, .mv, [.t 8], some (61, false)⟩,
  ⟨some 63, .loadA 2, [.t 6], some (61, false)⟩,
  ⟨some 64, .call 18, [.t 63], some (61, false)⟩,
  ⟨some 65, .bin .geq, [.t 62, .t 64], some (61, false)⟩,
  ⟨some 66, .pick, [.t 61, .c (.bool true), .t 65], none⟩]
def a4r9 : List IOp := [⟨some 4, .mv, [.c (.bool false)], none⟩]
def a4r10 : List IOp := [⟨some 68, .loadA 2, [.t 6], none⟩,
  ⟨some 69, .mv, [.t 8], none⟩,
  ⟨some 70, .bin .add, [.t 69, .c (.int .i64 1)], none⟩,
  ⟨some 71, .call 17, [.t 68, .t 70], none⟩,
  ⟨some 67, .mv, [.t 71], none⟩,
  ⟨some 72, .extract 0, [.t 67], none⟩,
  ⟨some 73, .extract 1, [.t 67], none⟩,
  ⟨some 12, .alloc 40 [.int .i64 0, .int .i64 0], [], none⟩,
  ⟨none, .store 2, [.t 12, .t 72], none⟩,
  ⟨some 13, .mv, [.t 73], none⟩]
def a4r11 : List IOp := [⟨some 74, .mv, [.t 8], none⟩,
  ⟨some 75, .bin .add, [.t 74, .c (.int .i64 1)], none⟩,
  ⟨some 76, .loadA 2, [.t 6], none⟩,
  ⟨some 77, .call 18, [.t 76], none⟩,
  ⟨some 78, .bin .eql, [.t 75, .t 77], none⟩]
def a4r12 : List IOp := [⟨some 79, .fieldAddr 1, [.t 10], none⟩,
  ⟨some 80, .load1, [.t 79], none⟩,
  ⟨some 81, .bin .eql, [.t 80, .c (.int .i64 84005)], none⟩,
  ⟨some 82, .mv, [.t 81], none⟩,
  ⟨some 83, .mv, [.t 13], some (82, true)⟩,
  ⟨some 84, .bin .eql, [.t 83, .c (.int .i64 2)], some (82, true)⟩,
  ⟨some 85, .pick, [.t 82, .t 84, .c (.bool false)], none⟩,
  ⟨some 86, .mv, [.t 85], none⟩,
  ⟨some 87, .call 14, [], some (86, true)⟩,
  ⟨some 88, .pick, [.t 86, .t 87, .c (.bool false)], none⟩,
  ⟨some 4, .mv, [.t 88], none⟩]
def a4r13 : List IOp := [⟨some 90, .loadA 2, [.t 6], none⟩,
  ⟨some 91, .call 16, [.t 90, .c (.int .i64 0)], none⟩,
  ⟨some 89, .mv, [.t 91], none⟩,
  ⟨some 92, .extract 0, [.t 89], none⟩,
  ⟨some 93, .extract 1, [.t 89], none⟩,
  ⟨some 14, .mv, [.t 92], none⟩,
  ⟨some 15, .mv, [.t 93], none⟩]
def a4r14 : List IOp := [⟨some 94, .mv, [.t 13], none⟩,
  ⟨some 95, .bin .eql, [.t 94, .c (.int .i64 0)], none⟩,
  ⟨some 96, .mv, [.t 95], none⟩,
  ⟨some 97, .fieldAddr 0, [.t 12], some (96, true)⟩,
  ⟨some 98, .load1, [.t 97], some (96, true)⟩,
  ⟨some 99, .fieldAddr 1, [.t 10], some (96, true)⟩,
  ⟨some 100, .load1, [.t 99], some (96, true)⟩,
  ⟨some 101, .bin .add, [.t 100, .c (.int .i64 1)], some (96, true)⟩,
  ⟨some 102, .bin .eql, [.t 98, .t 101], some (96, true)⟩,
  ⟨some 103, .pick, [.t 96, .t 102, .c (.bool false)], none⟩,
  ⟨some 104, .mv, [.t 103], none⟩,
  ⟨some 105, .mv, [.t 15], some (104, true)⟩,
  ⟨some 106, .bin .eql, [.t 105, .c (.int .i64 0)], some (104, true)⟩,
  ⟨some 107, .pick, [.t 104, .t 106, .c (.bool false)], none⟩,
  ⟨some 108, .mv, [.t 107], none⟩,
  ⟨some 109, .mv, [.t 14], some (108, true)⟩,
  ⟨some 110, .bin .eql, [.t 109, .c (.int .i64 0)], some (108, true)⟩,
  ⟨some 111, .pick, [.t 108, .t 110, .c (.bool false)], none⟩,
  ⟨some 112, .mv, [.t 111], none⟩,
  ⟨some 113, .call 14, [], some (112, true)⟩,
  ⟨some 114, .pick, [.t 112, .t 113, .c (.bool false)], none⟩,
  ⟨some 4, .mv, [.t 114], none⟩]
def a4 : AFunc := ⟨115, [.tmp 4], (.seq (.region a4r0 [0, 1]) (.seq (.region a4r1 [1, 5]) (.seq (.region a4r2 [1, 5, 6]) (.seq (.region a4r3 [5, 6, 7]) (.seq (.seq (.region a4r4 [5, 6, 7, 24]) (.cond (.t 24) (.region a4r5 [6, 7]) .skip)) (.seq (.region a4r6 [6, 7, 8, 9]) (.seq (.region a4r7 [6, 7, 8, 9, 10, 11]) (.seq (.seq (.region a4r8 [6, 8, 10, 66]) (.cond (.t 66) (.seq (.region a4r9 [4]) .ret) .skip)) (.seq (.region a4r10 [6, 8, 10, 12, 13]) (.seq (.seq (.region a4r11 [6, 10, 12, 13, 78]) (.cond (.t 78) (.seq (.region a4r12 [4]) .ret) .skip)) (.seq (.region a4r13 [10, 12, 13, 14, 15]) (.seq (.region a4r14 [4]) .ret))))))))))))⟩
theorem a4_ok : compileF Tryd.prog (lk [(0, ⟨[0, 1], [], []⟩), (1, ⟨[1, 5], [], []⟩), (2, ⟨[1, 5, 6], [], []⟩), (3, ⟨[5, 6, 7], [], []⟩), (4, ⟨[5, 6, 7, 24], [], []⟩), (5, ⟨[6, 7], [], []⟩), (6, ⟨[6, 7, 8, 9], [], []⟩), (7, ⟨[6, 7, 8, 9, 10, 11], [], []⟩), (8, ⟨[6, 8, 10, 66], [], []⟩), (9, ⟨[4], [], []⟩), (10, ⟨[6, 8, 10, 12, 13], [], []⟩), (11, ⟨[6, 10, 12, 13, 78], [], []⟩), (12, ⟨[4], [], []⟩), (13, ⟨[10, 12, 13, 14, 15], [], []⟩), (14, ⟨[4], [], []⟩)]) Tryd.f4 = some a4 := by kernel_rfl

/- payroll/payrolllaw5.PeriodAddsUp -/
def a5r0 : List IOp := [⟨some 4, .mv, [.c (.bool false)], none⟩]
def a5r1 : List IOp := [⟨some 24, .mv, [.t 0], none⟩,
  ⟨some 25, .call 6, [.t 24], none⟩,
  ⟨some 5, .mv, [.t 25], none⟩]
def a5r2 : List IOp := [⟨some 26, .mv, [.t 5], none⟩,
  ⟨some 27, .call 7, [.t 26, .c (.bool false)], none⟩,
  ⟨some 6, .alloc 24 [.int .i64 0, .int .i64 0], [], none⟩,
  ⟨none, .store 2, [.t 6, .t 27], none⟩]
def a5r3 : List (Nat × DOp) := [(0, ⟨⟨some 29, .loadA 2, [.t 6], none⟩, none, [1, 2]⟩),
  (1, ⟨⟨some 30, .mv, [.t 5], none⟩, none, [0]⟩),
  (2, ⟨⟨some 31, .call 8, [.t 30], none⟩, none, [0]⟩),
  (3, ⟨⟨some 32, .call 9, [.t 29, .t 31], none⟩, none, []⟩),
  (4, ⟨⟨some 28, .mv, [.t 32], none⟩, none, []⟩),
  (5, ⟨⟨some 33, .extract 0, [.t 28], none⟩, none, [6]⟩),
  (6, ⟨⟨some 34, .extract 1, [.t 28], none⟩, none, [5, 7]⟩),
  (7, ⟨⟨some 7, .mv, [.t 33], none⟩, none, [6]⟩),
  (8, ⟨⟨some 8, .mv, [.t 34], none⟩, none, []⟩)]
def a5r4 : List IOp := [⟨some 36, .loadA 2, [.t 6], none⟩,
  ⟨some 37, .mv, [.t 7], none⟩,
  ⟨some 38, .call 19, [.t 36, .t 37], none⟩,
  ⟨some 35, .mv, [.t 38], none⟩,
  ⟨some 39, .extract 0, [.t 35], none⟩,
  ⟨some 40, .extract 1, [.t 35], none⟩,
  ⟨some 9, .alloc 40 [.int .i64 0, .int .i64 0], [], none⟩,
  ⟨none, .store 2, [.t 9, .t 39], none⟩,
  ⟨some 10, .mv, [.t 40], none⟩]
def a5r5 : List IOp := [⟨some 41, .mv, [.t 5], none⟩,
  ⟨some 42, .call 15, [.t 41, .c (.int .i64 3)], none⟩,
  ⟨some 11, .mv, [.t 42], none⟩]
def a5r6 : List IOp := [⟨some 43, .fieldAddr 0, [.t 6], none⟩,
  ⟨some 44, .load1, [.t 43], none⟩,
  ⟨some 45, .bin .neq, [.t 44, .c (.int .i64 0)], none⟩]
def a5r7 : List IOp := [⟨some 46, .mv, [.t 5], none⟩,
  ⟨some 47, .call 15, [.t 46, .c (.int .i64 2)], none⟩,
  ⟨some 11, .mv, [.t 47], none⟩]
def a5r8 : List IOp := [⟨some 48, .mv, [.t 5], none⟩,
  ⟨some 49, .call 20, [.t 48, .c (.bool false)], none⟩,
  ⟨some 12, .mv, [.t 49], none⟩]
def a5r9 : List IOp := [⟨some 50, .fieldAddr 1, [.t 9], none⟩,
  ⟨some 51, .load1, [.t 50], none⟩,
  ⟨some 52, .fieldAddr 0, [.t 9], none⟩,
  ⟨some 53, .load1, [.t 52], none⟩,
  ⟨some 54, .bin .eql, [.t 51, .t 53], none⟩]
def a5r10 : List IOp := [⟨some 55, .call 14, [], none⟩,
  ⟨some 4, .mv, [.t 55], none⟩]
def a5r11 : List (Nat × DOp) := [(0, ⟨⟨some 56, .fieldAddr 0, [.t 9], none⟩, none, [3, 4, 5, 6, 7, 8, 9]⟩),
  (1, ⟨⟨some 57, .load1, [.t 56], none⟩, none, [3, 4, 5, 6, 7, 8, 9]⟩),
  (2, ⟨⟨some 58, .bin .add, [.t 57, .c (.int .i64 1)], none⟩, none, [3, 4, 5, 6, 7, 8, 9]⟩),
  (3, ⟨⟨some 59, .mv, [.t 5], none⟩, none, [0, 1, 2, 4, 5, 6, 7, 8]⟩),
  (4, ⟨⟨some 60, .fieldAddr 1, [.t 9], none⟩, none, [0, 1, 2, 3, 6, 7]⟩),
  (5, ⟨⟨some 61, .load1, [.t 60], none⟩, none, [0, 1, 2, 3, 6, 7]⟩),
  (6, ⟨⟨some 62, .fieldAddr 0, [.t 9], none⟩, none, [0, 1, 2, 3, 4, 5]⟩),
  (7, ⟨⟨some 63, .load1, [.t 62], none⟩, none, [0, 1, 2, 3, 4, 5]⟩),
  (8, ⟨⟨some 64, .bin .sub, [.t 61, .t 63], none⟩, none, [0, 1, 2, 3]⟩),
  (9, ⟨⟨some 65, .call 15, [.t 59, .t 64], none⟩, none, [0, 1, 2]⟩),
  (10, ⟨⟨some 66, .bin .add, [.t 58, .t 65], none⟩, none, []⟩),
  (11, ⟨⟨some 13, .mv, [.t 66], none⟩, none, []⟩)]
def a5r12 : List IOp := [⟨some 68, .loadA 2, [.t 6], none⟩,
  ⟨some 69, .mv, [.t 7], none⟩,
  ⟨some 70, .mv, [.t 11], none⟩,
  ⟨some 71, .mv, [.t 12], none⟩,
  ⟨some 72, .call 21, [.t 68, .t 69, .c (.nils), .t 70, .t 71], none⟩,
  ⟨some 67, .mv, [.t 72], none⟩,
  ⟨some 73, .extract 0, [.t 67], none⟩,
  ⟨some 74, .extract 1, [.t 67], none⟩,
  ⟨some 14, .mv, [.t 73], none⟩,
  ⟨some 15, .mv, [.t 74], none⟩]
def a5r13 : List IOp := [⟨some 76, .loadA 2, [.t 6], none⟩,
  ⟨some 77, .mv, [.t 7], none⟩,
  ⟨some 78, .mv, [.t 13], none⟩,
  ⟨some 79, .bslice 3 1 [.int .i64 0] 1 [0], [.t 78], none⟩,
  ⟨some 80, .mv, [.t 11], none⟩,
  ⟨some 81, .mv, [.t 12], none⟩,
  ⟨some 82, .call 21, [.t 76, .t 77, .t 79, .t 80, .t 81], none⟩,
  ⟨some 75, .mv, [.t 82], none⟩,
  ⟨some 83, .extract 0, [.t 75], none⟩,
  ⟨some 84, .extract 1, [.t 75], none⟩,
  ⟨some 16, .mv, [.t 83], none⟩,
  ⟨some 17, .mv, [.t 84], none⟩]
def a5r14 : List (Nat × DOp) := [(0, ⟨⟨some 85, .mv, [.t 15], none⟩, none, []⟩),
  (1, ⟨⟨some 86, .bin .neq, [.t 85, .c (.int .i64 0)], none⟩, none, []⟩),
  (2, ⟨⟨some 87, .mv, [.t 86], none⟩, none, []⟩),
  (3, ⟨⟨some 88, .mv, [.t 17], some (87, false)⟩, none, []⟩),
  (4, ⟨⟨some 89, .bin .neq, [.t 88, .c (.int .i64 0)], some (87, false)⟩, none, []⟩),
  (5, ⟨⟨some 90, .pick, [.t 87, .c (.bool true), .t 89], none⟩, none, []⟩),
  (6, ⟨⟨some 91, .mv, [.t 90], none⟩, none, []⟩),
  (7, ⟨⟨some 92, .mv, [.t 14], some (91, false)⟩, none, []⟩),
  (8, ⟨⟨some 93, .len, [.t 92], some (91, false)⟩, none, []⟩),
  (9, ⟨⟨some 94, .bin .neq, [.t 93, .c (.int .i64 1)], some (91, false)⟩, none, []⟩),
  (10, ⟨⟨some 95, .pick, [.t 91, .c (.bool true), .t 94], none⟩, none, []⟩),
  (11, ⟨⟨some 96, .mv, [.t 95], none⟩, none, []⟩),
  (12, ⟨⟨some 97, .mv, [.t 16], some (96, false)⟩, none, []⟩),
  (13, ⟨⟨some 98, .len, [.t 97], some (96, false)⟩, none, []⟩),
  (14, ⟨⟨some 99, .bin .neq, [.t 98, .c (.int .i64 2)], some (96, false)⟩, none, []⟩),
  (15, ⟨⟨some 100, .pick, [.t 96, .c (.bool true), .t 99], none⟩, none, []⟩),
  (16, ⟨⟨some 101, .mv, [.t 100], none⟩, none, []⟩),
  (17, ⟨⟨some 102, .mv, [.t 16], some (101, false)⟩, none, [20, 21, 22, 24, 25, 26]⟩),
  (18, ⟨⟨some 103, .indexAddr 1, [.t 102, .c (.int .i64 0)], some (101, false)⟩, none, [20, 21, 22, 24, 25, 26]⟩),
  (19, ⟨⟨some 104, .load1, [.t 103], some (101, false)⟩, none, [20, 21, 22, 24, 25, 26]⟩),
  (20, ⟨⟨some 105, .mv, [.t 16], some (101, false)⟩, none, [17, 18, 19, 24, 25, 26]⟩),
  (21, ⟨⟨some 106, .indexAddr 1, [.t 105, .c (.int .i64 1)], some (101, false)⟩, none, [17, 18, 19, 24, 25, 26]⟩),
  (22, ⟨⟨some 107, .load1, [.t 106], some (101, false)⟩, none, [17, 18, 19, 24, 25, 26]⟩),
  (23, ⟨⟨some 108, .bin .add, [.t 104, .t 107], some (101, false)⟩, none, [24, 25, 26]⟩),
  (24, ⟨⟨some 109, .mv, [.t 14], some (101, false)⟩, none, [17, 18, 19, 20, 21, 22, 23]⟩),
  (25, ⟨⟨some 110, .indexAddr 1, [.t 109, .c (.int .i64 0)], some (101, false)⟩, none, [17, 18, 19, 20, 21, 22, 23]⟩),
  (26, ⟨⟨some 111, .load1, [.t 110], some (101, false)⟩, none, [17, 18, 19, 20, 21, 22, 23]⟩),
  (27, ⟨⟨some 112, .bin .neq, [.t 108, .t 111], some (101, false)⟩, none, []⟩),
  (28, ⟨⟨some 113, .pick, [.t 101, .c (.bool true), .t 112], none⟩, none, []⟩)]
def a5r15 : List IOp := [⟨some 4, .mv, [.c (.bool false)], none⟩]
def a5r16 : List IOp := [⟨some 114, .mv, [.t 11], none⟩,
  ⟨some 115, .bin .eql, [.t 114, .c (.int .i64 2)], none⟩,
  ⟨some 116, .mv, [.t 115], none⟩,
  ⟨some 117, .mv, [.t 14], some (116, true)⟩,
  ⟨some 118, .indexAddr 1, [.t 117, .c (.int .i64 0)], some (116, true)⟩,
  ⟨some 119, .load1, [.t 118], some (116, true)⟩,
  ⟨some 120, .bin .neq, [.t 119, .c (.int .i64 30)], some (116, true)⟩,
  ⟨some 121, .pick, [.t 116, .t 120, .c (.bool false)], none⟩]
def a5r17 : List IOp := [⟨some 4, .mv, [.c (.bool false)], none⟩]
def a5r18 : List IOp := [⟨some 123, .loadA 2, [.t 6], none⟩,
  ⟨some 124, .mv, [.t 7], none⟩,
  ⟨some 125, .mv, [.t 13], none⟩,
  ⟨some 126, .bslice 3 1 [.int .i64 0] 1 [0], [.t 125], none⟩,
  ⟨some 127, .mv, [.t 11], none⟩,
  ⟨some 128, .mv, [.t 12], none⟩,
  ⟨some 129, .call 22, [.t 123, .t 124, .t 126, .t 127, .t 128], none⟩,
  ⟨some 122, .mv, [.t 129], none⟩,
  ⟨some 130, .extract 0, [.t 122], none⟩,
  ⟨some 131, .extract 1, [.t 122], none⟩,
  ⟨some 18, .mv, [.t 130], none⟩,
  ⟨some 19, .mv, [.t 131], none⟩]
def a5r19 : List (Nat × DOp) := [(0, ⟨⟨some 133, .mv, [.t 1], none⟩, none, [2, 3, 4, 5, 6, 7]⟩),
  (2, ⟨⟨some 135, .loadA 2, [.t 6], none⟩, none, [0, 1, 3, 4, 5, 6, 7]⟩),
  (3, ⟨⟨some 136, .mv, [.t 7], none⟩, none, [0, 1, 2, 4, 5, 6, 7]⟩),
  (4, ⟨⟨some 137, .mv, [.t 13], none⟩, none, [0, 1, 2, 3, 6, 7]⟩),
  (5, ⟨⟨some 138, .bslice 3 1 [.int .i64 0] 1 [0], [.t 137], none⟩, some 0, [0, 1, 2, 3, 6, 7]⟩),
  (6, ⟨⟨some 139, .mv, [.t 11], none⟩, none, [0, 1, 2, 3, 4, 5, 7]⟩),
  (7, ⟨⟨some 140, .mv, [.t 12], none⟩, none, [0, 1, 2, 3, 4, 5, 6]⟩),
  (1, ⟨⟨some 134, .call 13, [.t 133, .c (.int .i64 100000)], none⟩, none, [2, 3, 4, 5, 6, 7]⟩),
  (8, ⟨⟨some 141, .call 23, [.t 134, .t 135, .t 136, .t 138, .t 139, .t 140], none⟩, none, []⟩),
  (9, ⟨⟨some 132, .mv, [.t 141], none⟩, none, []⟩),
  (10, ⟨⟨some 142, .extract 0, [.t 132], none⟩, none, [11]⟩),
  (11, ⟨⟨some 143, .extract 1, [.t 132], none⟩, none, [10, 12]⟩),
  (12, ⟨⟨some 20, .mv, [.t 142], none⟩, none, [11]⟩),
  (13, ⟨⟨some 21, .mv, [.t 143], none⟩, none, []⟩)]
def a5r20 : List IOp := [⟨some 144, .mv, [.t 14], none⟩,
  ⟨some 145, .indexAddr 1, [.t 144, .c (.int .i64 0)], none⟩,
  ⟨some 146, .load1, [.t 145], none⟩,
  ⟨some 147, .bin .eql, [.t 146, .c (.int .i64 0)], none⟩]
def a5r21 : List IOp := [⟨some 148, .mv, [.t 19], none⟩,
  ⟨some 149, .bin .eql, [.t 148, .c (.int .i64 5)], none⟩,
  ⟨some 150, .mv, [.t 149], none⟩,
  ⟨some 151, .mv, [.t 21], some (150, true)⟩,
  ⟨some 152, .bin .eql, [.t 151, .c (.int .i64 5)], some (150, true)⟩,
  ⟨some 153, .pick, [.t 150, .t 152, .c (.bool false)], none⟩,
  ⟨some 154, .mv, [.t 153], none⟩,
  ⟨some 155, .call 14, [], some (154, true)⟩,
  ⟨some 156, .pick, [.t 154, .t 155, .c (.bool false)], none⟩,
  ⟨some 4, .mv, [.t 156], none⟩]
def a5r22 : List IOp := [⟨some 157, .mv, [.t 19], none⟩,
  ⟨some 158, .bin .neq, [.t 157, .c (.int .i64 0)], none⟩,
  ⟨some 159, .mv, [.t 158], none⟩,
  ⟨some 160, .mv, [.t 21], some (159, false)⟩,
  ⟨some 161, .bin .neq, [.t 160, .c (.int .i64 0)], some (159, false)⟩,
  ⟨some 162, .pick, [.t 159, .c (.bool true), .t 161], none⟩,
  ⟨some 163, .mv, [.t 162], none⟩,
  ⟨some 164, .mv, [.t 18], some (163, false)⟩,
  ⟨some 165, .len, [.t 164], some (163, false)⟩,
  ⟨some 166, .bin .neq, [.t 165, .c (.int .i64 2)], some (163, false)⟩,
  ⟨some 167, .pick, [.t 163, .c (.bool true), .t 166], none⟩,
  ⟨some 168, .mv, [.t 167], none⟩,
  ⟨some 169, .mv, [.t 20], some (168, false)⟩,
  ⟨some 170, .len, [.t 169], some (168, false)⟩,
  ⟨some 171, .bin .neq, [.t 170, .c (.int .i64 2)], some (168, false)⟩,
  ⟨some 172, .pick, [.t 168, .c (.bool true), .t 171], none⟩]
def a5r23 : List IOp := [⟨some 4, .mv, [.c (.bool false)], none⟩]
def a5r24 : List (Nat × DOp) := [(0, ⟨⟨some 174, .mv, [.t 18], none⟩, none, [3, 4, 5, 10]⟩),
  (1, ⟨⟨some 175, .indexAddr 2, [.t 174, .c (.int .i64 0)], none⟩, none, [3, 4, 5, 10]⟩),
  (2, ⟨⟨some 176, .loadA 2, [.t 175], none⟩, none, [3, 4, 5, 10]⟩),
  (3, ⟨⟨some 177, .mv, [.t 18], none⟩, none, [0, 1, 2, 10]⟩),
  (4, ⟨⟨some 178, .indexAddr 2, [.t 177, .c (.int .i64 1)], none⟩, none, [0, 1, 2, 10]⟩),
  (5, ⟨⟨some 179, .loadA 2, [.t 178], none⟩, none, [0, 1, 2, 10]⟩),
  (10, ⟨⟨some 22, .alloc 53 [.int .i64 0, .int .i64 0], [], none⟩, some 0, [0, 1, 2, 3, 4, 5, 6, 7, 8, 9]⟩),
  (6, ⟨⟨some 180, .call 24, [.t 176, .t 179], none⟩, none, [10]⟩),
  (7, ⟨⟨some 173, .mv, [.t 180], none⟩, none, [10]⟩),
  (8, ⟨⟨some 181, .extract 0, [.t 173], none⟩, none, [9, 10]⟩),
  (9, ⟨⟨some 182, .extract 1, [.t 173], none⟩, none, [8, 10, 11]⟩),
  (11, ⟨⟨none, .store 2, [.t 22, .t 181], none⟩, none, [9]⟩),
  (12, ⟨⟨some 23, .mv, [.t 182], none⟩, none, []⟩)]
def a5r25 : List (Nat × DOp) := [(0, ⟨⟨some 183, .mv, [.t 23], none⟩, none, []⟩),
  (1, ⟨⟨some 184, .bin .eql, [.t 183, .c (.int .i64 0)], none⟩, none, []⟩),
  (2, ⟨⟨some 185, .mv, [.t 184], none⟩, none, []⟩),
  (3, ⟨⟨some 186, .loadA 2, [.t 22], some (185, true)⟩, none, [4]⟩),
  (4, ⟨⟨some 187, .build [.int .i64 0, .int .i64 0] [(0, 1), (1, 1)], [.c (.int .i64 1), .c (.int .i64 1)], some (185, true)⟩, none, [3]⟩),
  (5, ⟨⟨some 188, .eqA false [.int .i64, .int .i64], [.t 186, .t 187], some (185, true)⟩, none, []⟩),
  (6, ⟨⟨some 189, .pick, [.t 185, .t 188, .c (.bool false)], none⟩, none, []⟩),
  (7, ⟨⟨some 190, .mv, [.t 189], none⟩, none, []⟩),
  (8, ⟨⟨some 191, .mv, [.t 20], some (190, true)⟩, none, [11, 12, 13, 15, 16]⟩),
  (9, ⟨⟨some 192, .indexAddr 1, [.t 191, .c (.int .i64 0)], some (190, true)⟩, none, [11, 12, 13, 15, 16]⟩),
  (10, ⟨⟨some 193, .load1, [.t 192], some (190, true)⟩, none, [11, 12, 13, 15, 16]⟩),
  (11, ⟨⟨some 194, .mv, [.t 20], some (190, true)⟩, none, [8, 9, 10, 15, 16]⟩),
  (12, ⟨⟨some 195, .indexAddr 1, [.t 194, .c (.int .i64 1)], some (190, true)⟩, none, [8, 9, 10, 15, 16]⟩),
  (13, ⟨⟨some 196, .load1, [.t 195], some (190, true)⟩, none, [8, 9, 10, 15, 16]⟩),
  (14, ⟨⟨some 197, .bin .add, [.t 193, .t 196], some (190, true)⟩, none, [15, 16]⟩),
  (15, ⟨⟨some 198, .mv, [.t 1], some (190, true)⟩, none, [8, 9, 10, 11, 12, 13, 14]⟩),
  (16, ⟨⟨some 199, .call 13, [.t 198, .c (.int .i64 100000)], some (190, true)⟩, none, [8, 9, 10, 11, 12, 13, 14]⟩),
  (17, ⟨⟨some 200, .bin .eql, [.t 197, .t 199], some (190, true)⟩, none, []⟩),
  (18, ⟨⟨some 201, .pick, [.t 190, .t 200, .c (.bool false)], none⟩, none, []⟩),
  (19, ⟨⟨some 202, .mv, [.t 201], none⟩, none, []⟩),
  (20, ⟨⟨some 203, .call 14, [], some (202, true)⟩, none, []⟩),
  (21, ⟨⟨some 204, .pick, [.t 202, .t 203, .c (.bool false)], none⟩, none, []⟩),
  (22, ⟨⟨some 4, .mv, [.t 204], none⟩, none, []⟩)]
def a5 : AFunc := ⟨205, [.tmp 4], (.seq (.region a5r0 [0, 1]) (.seq (.region a5r1 [1, 5]) (.seq (.region a5r2 [1, 5, 6]) (.seq (.draw a5r3 [] [1, 5, 6, 7]) (.seq (.region a5r4 [1, 5, 6, 7, 9]) (.seq (.region a5r5 [1, 5, 6, 7, 9, 11]) (.seq (.seq (.region a5r6 [1, 5, 6, 7, 9, 11, 45]) (.cond (.t 45) (.region a5r7 [1, 5, 6, 7, 9, 11]) .skip)) (.seq (.region a5r8 [1, 5, 6, 7, 9, 11, 12]) (.seq (.seq (.region a5r9 [1, 5, 6, 7, 9, 11, 12, 54]) (.cond (.t 54) (.seq (.region a5r10 [4]) .ret) .skip)) (.seq (.draw a5r11 [] [1, 6, 7, 11, 12, 13]) (.seq (.region a5r12 [1, 6, 7, 11, 12, 13, 14, 15]) (.seq (.region a5r13 [1, 6, 7, 11, 12, 13, 14, 15, 16, 17]) (.seq (.seq (.draw a5r14 [] [1, 6, 7, 11, 12, 13, 14, 113]) (.cond (.t 113) (.seq (.region a5r15 [4]) .ret) .skip)) (.seq (.seq (.region a5r16 [1, 6, 7, 11, 12, 13, 14, 121]) (.cond (.t 121) (.seq (.region a5r17 [4]) .ret) .skip)) (.seq (.region a5r18 [1, 6, 7, 11, 12, 13, 14, 18, 19]) (.seq (.draw a5r19 [(3, 1)] [1, 14, 18, 19, 20, 21]) (.seq (.seq (.region a5r20 [1, 18, 19, 20, 21, 147]) (.cond (.t 147) (.seq (.region a5r21 [4]) .ret) .skip)) (.seq (.seq (.region a5r22 [1, 18, 20, 172]) (.cond (.t 172) (.seq (.region a5r23 [4]) .ret) .skip)) (.seq (.draw a5r24 [(53, 2)] [1, 20, 22, 23]) (.seq (.draw a5r25 [] [4]) .ret))))))))))))))))))))⟩
theorem a5_ok : compileF Tryd.prog (lk [(0, ⟨[0, 1], [], []⟩), (1, ⟨[1, 5], [], []⟩), (2, ⟨[1, 5, 6], [], []⟩), (3, ⟨[1, 5, 6, 7], [[], [], [1], [0, 2, 1], [3, 0, 2, 1], [4, 3, 0, 2, 1], [4, 3, 0, 2, 1], [5, 3, 0, 1, 2, 4], [6, 7, 0, 1, 2, 3, 4, 5]], [0, 1, 2, 3, 4, 5, 6, 7, 8]⟩), (4, ⟨[1, 5, 6, 7, 9], [], []⟩), (5, ⟨[1, 5, 6, 7, 9, 11], [], []⟩), (6, ⟨[1, 5, 6, 7, 9, 11, 45], [], []⟩), (7, ⟨[1, 5, 6, 7, 9, 11], [], []⟩), (8, ⟨[1, 5, 6, 7, 9, 11, 12], [], []⟩), (9, ⟨[1, 5, 6, 7, 9, 11, 12, 54], [], []⟩), (10, ⟨[4], [], []⟩), (11, ⟨[1, 6, 7, 11, 12, 13], [[], [0], [1, 0], [], [], [4], [], [6], [5, 7, 4, 6], [3, 8, 5, 7, 4, 6], [2, 9, 1, 0, 3, 8, 5, 7, 4, 6], [10, 9, 0, 1, 2, 3, 4, 5, 6, 7, 8]], [0, 1, 2, 3, 4, 5, 6, 7, 8, 9, 10, 11]⟩), (12, ⟨[1, 6, 7, 11, 12, 13, 14, 15], [], []⟩), (13, ⟨[1, 6, 7, 11, 12, 13, 14, 15, 16, 17], [], []⟩), (14, ⟨[1, 6, 7, 11, 12, 13, 14, 113], [[], [0], [1, 0], [2, 1, 0], [3, 2, 1, 0], [2, 4, 1, 0, 3], [5, 2, 4, 1, 0, 3], [6, 5, 2, 4, 1, 0, 3], [7, 6, 5, 2, 4, 1, 0, 3], [8, 6, 7, 5, 2, 4, 1, 0, 3], [6, 9, 5, 2, 4, 1, 0, 3, 8, 7], [10, 6, 9, 5, 2, 4, 1, 0, 3, 8, 7], [11, 10, 6, 9, 5, 2, 4, 1, 0, 3, 8, 7], [12, 11, 10, 6, 9, 5, 2, 4, 1, 0, 3, 8, 7], [13, 11, 12, 10, 6, 9, 5, 2, 4, 1, 0, 3, 8, 7], [11, 14, 10, 6, 9, 5, 2, 4, 1, 0, 3, 8, 7, 13, 12], [15, 11, 14, 10, 6, 9, 5, 2, 4, 1, 0, 3, 8, 7, 13, 12], [16, 15, 11, 14, 10, 6, 9, 5, 2, 4, 1, 0, 3, 8, 7, 13, 12], [17, 16, 15, 11, 14, 10, 6, 9, 5, 2, 4, 1, 0, 3, 8, 7, 13, 12], [18, 16, 17, 15, 11, 14, 10, 6, 9, 5, 2, 4, 1, 0, 3, 8, 7, 13, 12], [16, 15, 11, 14, 10, 6, 9, 5, 2, 4, 1, 0, 3, 8, 7, 13, 12], [20, 16, 15, 11, 14, 10, 6, 9, 5, 2, 4, 1, 0, 3, 8, 7, 13, 12], [21, 16, 20, 15, 11, 14, 10, 6, 9, 5, 2, 4, 1, 0, 3, 8, 7, 13, 12], [19, 22, 16, 18, 17, 15, 11, 14, 10, 6, 9, 5, 2, 4, 1, 0, 3, 8, 7, 13, 12, 21, 20], [16, 15, 11, 14, 10, 6, 9, 5, 2, 4, 1, 0, 3, 8, 7, 13, 12], [24, 16, 15, 11, 14, 10, 6, 9, 5, 2, 4, 1, 0, 3, 8, 7, 13, 12], [25, 16, 24, 15, 11, 14, 10, 6, 9, 5, 2, 4, 1, 0, 3, 8, 7, 13, 12], [23, 26, 16, 19, 22, 18, 17, 15, 11, 14, 10, 6, 9, 5, 2, 4, 1, 0, 3, 8, 7, 13, 12, 21, 20, 25, 24], [16, 27, 15, 11, 14, 10, 6, 9, 5, 2, 4, 1, 0, 3, 8, 7, 13, 12, 23, 26, 19, 22, 18, 17, 21, 20, 25, 24]], [0, 1, 2, 3, 4, 5, 6, 7, 8, 9, 10, 11, 12, 13, 14, 15, 16, 17, 18, 19, 20, 21, 22, 23, 24, 25, 26, 27, 28]⟩), (15, ⟨[4], [], []⟩), (16, ⟨[1, 6, 7, 11, 12, 13, 14, 121], [], []⟩), (17, ⟨[4], [], []⟩), (18, ⟨[1, 6, 7, 11, 12, 13, 14, 18, 19], [], []⟩), (19, ⟨[1, 14, 18, 19, 20, 21], [[], [0], [], [], [], [4], [], [], [1, 2, 3, 5, 6, 7, 0, 4], [8, 1, 2, 3, 5, 6, 7, 0, 4], [9, 8, 1, 2, 3, 5, 6, 7, 0, 4], [9, 8, 1, 2, 3, 5, 6, 7, 0, 4], [10, 8, 0, 1, 2, 3, 4, 5, 6, 7, 9], [11, 12, 0, 1, 2, 3, 4, 5, 6, 7, 8, 9, 10]], [0, 2, 3, 4, 5, 6, 7, 1, 8, 9, 10, 11, 12, 13]⟩), (20, ⟨[1, 18, 19, 20, 21, 147], [], []⟩), (21, ⟨[4], [], []⟩), (22, ⟨[1, 18, 20, 172], [], []⟩), (23, ⟨[4], [], []⟩), (24, ⟨[1, 20, 22, 23], [[], [0], [1, 0], [], [3], [4, 3], [2, 5, 1, 0, 4, 3], [6, 2, 5, 1, 0, 4, 3], [7, 6, 2, 5, 1, 0, 4, 3], [7, 6, 2, 5, 1, 0, 4, 3], [], [10, 8, 6, 0, 1, 2, 3, 4, 5, 7], [9, 11, 0, 1, 2, 3, 4, 5, 6, 7, 8, 10]], [0, 1, 2, 3, 4, 5, 10, 6, 7, 8, 9, 11, 12]⟩), (25, ⟨[4], [[], [0], [1, 0], [2, 1, 0], [2, 1, 0], [3, 4, 2, 1, 0], [2, 5, 1, 0, 3, 4], [6, 2, 5, 1, 0, 3, 4], [7, 6, 2, 5, 1, 0, 3, 4], [8, 7, 6, 2, 5, 1, 0, 3, 4], [9, 7, 8, 6, 2, 5, 1, 0, 3, 4], [7, 6, 2, 5, 1, 0, 3, 4], [11, 7, 6, 2, 5, 1, 0, 3, 4], [12, 7, 11, 6, 2, 5, 1, 0, 3, 4], [10, 13, 7, 9, 8, 6, 2, 5, 1, 0, 3, 4, 12, 11], [7, 6, 2, 5, 1, 0, 3, 4], [15, 7, 6, 2, 5, 1, 0, 3, 4], [14, 16, 7, 10, 13, 9, 8, 6, 2, 5, 1, 0, 3, 4, 12, 11, 15], [7, 17, 6, 2, 5, 1, 0, 3, 4, 14, 16, 10, 13, 9, 8, 12, 11, 15], [18, 16, 7, 17, 6, 2, 5, 1, 0, 3, 4, 14, 10, 13, 9, 8, 12, 11, 15], [19, 18, 16, 7, 17, 6, 2, 5, 1, 0, 3, 4, 14, 10, 13, 9, 8, 12, 11, 15], [19, 20, 18, 16, 7, 17, 6, 2, 5, 1, 0, 3, 4, 14, 10, 13, 9, 8, 12, 11, 15], [21, 20, 0, 1, 2, 3, 4, 5, 6, 7, 8, 9, 10, 11, 12, 13, 14, 15, 16, 17, 18, 19]], [0, 1, 2, 3, 4, 5, 6, 7, 8, 9, 10, 11, 12, 13, 14, 15, 16, 17, 18, 19, 20, 21, 22]⟩)]) Tryd.f5 = some a5 := by kernel_rfl

/- payroll/payrollgen.New -/
def a6r0 : List IOp := [⟨some 2, .mv, [.c (.nilp)], none⟩]
def a6r1 : List IOp := [⟨some 3, .mv, [.t 0], none⟩,
  ⟨some 4, .build [.nils, .int .i64 0] [(0, 1)], [.t 3], none⟩,
  ⟨some 5, .box 57 2, [.t 4], none⟩,
  ⟨some 2, .mv, [.t 5], none⟩]
def a6 : AFunc := ⟨6, [.tmp 2], (.seq (.region a6r0 [0]) (.seq (.region a6r1 [2]) .ret))⟩
theorem a6_ok : compileF Tryd.prog (lk [(0, ⟨[0], [], []⟩), (1, ⟨[2], [], []⟩)]) Tryd.f6 = some a6 := by kernel_rfl

/- (*payroll/payrollgen.Tape).Calendar -/
def a7r0 : List IOp := [⟨some 4, .alloc 24 [.int .i64 0, .int .i64 0], [], none⟩]
def a7r1 : List IOp := [⟨some 6, .mv, [.t 0], none⟩,
  ⟨some 7, .call 15, [.t 6, .c (.int .i64 4)], none⟩,
  ⟨some 8, .build [.int .i64 0, .int .i64 0] [(0, 1)], [.t 7], none⟩,
  ⟨some 5, .alloc 24 [.int .i64 0, .int .i64 0], [], none⟩,
  ⟨none, .store 2, [.t 5, .t 8], none⟩]
def a7r2 : List IOp := [⟨some 9, .fieldAddr 0, [.t 5], none⟩,
  ⟨some 10, .load1, [.t 9], none⟩]
def a7r3 : List IOp := [⟨some 12, .bin .eql, [.t 10, .c (.int .i64 2)], none⟩,
  ⟨some 11, .mv, [.t 12], none⟩]
def a7r4 : List IOp := [⟨some 13, .mv, [.t 0], none⟩,
  ⟨some 14, .call 15, [.t 13, .c (.int .i64 14)], none⟩,
  ⟨some 15, .fieldAddr 1, [.t 5], none⟩,
  ⟨none, .store 1, [.t 15, .t 14], none⟩]
def a7r5 : List IOp := [⟨some 17, .bin .eql, [.t 10, .c (.int .i64 3)], none⟩,
  ⟨some 16, .mv, [.t 17], none⟩]
def a7r6 : List IOp := [⟨some 18, .mv, [.t 0], none⟩,
  ⟨some 19, .call 15, [.t 18, .c (.int .i64 7)], none⟩,
  ⟨some 20, .fieldAddr 1, [.t 5], none⟩,
  ⟨none, .store 1, [.t 20, .t 19], none⟩]
def a7r7 : List IOp := [⟨some 21, .mv, [.t 1], none⟩,
  ⟨some 22, .mv, [.t 21], none⟩,
  ⟨some 23, .mv, [.t 0], some (22, true)⟩,
  ⟨some 24, .call 15, [.t 23, .c (.int .i64 8)], some (22, true)⟩,
  ⟨some 25, .bin .eql, [.t 24, .c (.int .i64 7)], some (22, true)⟩,
  ⟨some 26, .pick, [.t 22, .t 25, .c (.bool false)], none⟩]
def a7r8 : List IOp := [⟨some 27, .mv, [.t 0], none⟩,
  ⟨some 28, .call 15, [.t 27, .c (.int .i64 6)], none⟩,
  ⟨some 29, .bin .sub, [.t 28, .c (.int .i64 1)], none⟩,
  ⟨some 30, .mv, [.t 0], none⟩,
  ⟨some 31, .bslice 3 1 [.int .i64 0] 4 [0, 1, 2, 3], [.c (.int .i64 14), .c (.int .i64 7), .c (.int .i64 (-1)), .c (.int .i64 1)], none⟩,
  ⟨some 32, .call 11, [.t 30, .t 31], none⟩,
  ⟨some 33, .fieldAddr 0, [.t 5], none⟩,
  ⟨none, .store 1, [.t 33, .t 29], none⟩,
  ⟨some 34, .fieldAddr 1, [.t 5], none⟩,
  ⟨none, .store 1, [.t 34, .t 32], none⟩]
def a7r9 : List IOp := [⟨some 35, .loadA 2, [.t 5], none⟩,
  ⟨none, .store 2, [.t 4, .t 35], none⟩]
def a7 : AFunc := ⟨36, [.cellA 4 2], (.seq (.region a7r0 [0, 1, 4]) (.seq (.region a7r1 [0, 1, 4, 5]) (.seq (.seq (.region a7r2 [0, 1, 4, 5, 10]) (.block 0 (.seq (.region a7r3 [0, 1, 4, 5, 10, 11]) (.cond (.t 11) (.region a7r4 [0, 1, 4, 5]) (.seq (.region a7r5 [0, 1, 4, 5, 16]) (.cond (.t 16) (.region a7r6 [0, 1, 4, 5]) .skip)))))) (.seq (.seq (.region a7r7 [0, 4, 5, 26]) (.cond (.t 26) (.region a7r8 [4, 5]) .skip)) (.seq (.region a7r9 [4]) .ret)))))⟩
theorem a7_ok : compileF Tryd.prog (lk [(0, ⟨[0, 1, 4], [], []⟩), (1, ⟨[0, 1, 4, 5], [], []⟩), (2, ⟨[0, 1, 4, 5, 10], [], []⟩), (3, ⟨[0, 1, 4, 5, 10, 11], [], []⟩), (4, ⟨[0, 1, 4, 5], [], []⟩), (5, ⟨[0, 1, 4, 5, 16], [], []⟩), (6, ⟨[0, 1, 4, 5], [], []⟩), (7, ⟨[0, 4, 5, 26], [], []⟩), (8, ⟨[4, 5], [], []⟩), (9, ⟨[4], [], []⟩)]) Tryd.f7 = some a7 := by kernel_rfl

/- (*payroll/payrollgen.Tape).Day -/
def a8r0 : List IOp := [⟨some 2, .mv, [.c (.int .i64 0)], none⟩]
def a8r1 : List IOp := [⟨some 3, .mv, [.t 0], none⟩,
  ⟨some 4, .mv, [.t 0], none⟩,
  ⟨some 5, .call 15, [.t 4, .c (.int .i64 40)], none⟩,
  ⟨some 6, .bin .add, [.c (.int .i64 20454), .t 5], none⟩,
  ⟨some 7, .mv, [.t 0], none⟩,
  ⟨some 8, .call 15, [.t 7, .c (.int .i64 730)], none⟩,
  ⟨some 9, .bin .add, [.c (.int .i64 20454), .t 8], none⟩,
  ⟨some 10, .mv, [.t 0], none⟩,
  ⟨some 11, .call 15, [.t 10, .c (.int .i64 3)], none⟩,
  ⟨some 12, .bin .add, [.c (.int .i64 20485), .t 11], none⟩,
  ⟨some 13, .bin .sub, [.t 12, .c (.int .i64 1)], none⟩,
  ⟨some 14, .mv, [.t 0], none⟩,
  ⟨some 15, .call 15, [.t 14, .c (.int .i64 84006)], none⟩,
  ⟨some 16, .bslice 3 1 [.int .i64 0] 6 [0, 1, 2, 3, 4, 5], [.t 6, .t 9, .t 13, .t 15, .c (.int .i64 0), .c (.int .i64 84005)], none⟩,
  ⟨some 17, .call 11, [.t 3, .t 16], none⟩,
  ⟨some 2, .mv, [.t 17], none⟩]
def a8 : AFunc := ⟨18, [.tmp 2], (.seq (.region a8r0 [0]) (.seq (.region a8r1 [2]) .ret))⟩
theorem a8_ok : compileF Tryd.prog (lk [(0, ⟨[0], [], []⟩), (1, ⟨[2], [], []⟩)]) Tryd.f8 = some a8 := by kernel_rfl

/- payroll/payrollref5.Of -/
def a9r0 : List IOp := [⟨some 2, .box 24 2, [.t 0], none⟩,
  ⟨some 4, .mv, [.c (.int .i64 0)], none⟩,
  ⟨some 5, .mv, [.c (.int .i64 0)], none⟩]
def a9r1 : List IOp := [⟨some 7, .loadA 2, [.t 2], none⟩,
  ⟨some 8, .call 25, [.t 7], none⟩,
  ⟨some 6, .mv, [.t 8], none⟩]
def a9r2 : List IOp := [⟨some 9, .mv, [.t 6], none⟩,
  ⟨some 10, .bin .neq, [.t 9, .c (.int .i64 0)], none⟩]
def a9r3 : List IOp := [⟨some 11, .mv, [.t 6], none⟩,
  ⟨some 4, .mv, [.c (.int .i64 0)], none⟩,
  ⟨some 5, .mv, [.t 11], none⟩]
def a9r4 : List IOp := [⟨some 12, .mv, [.t 1], none⟩,
  ⟨some 13, .call 26, [.t 12], none⟩,
  ⟨some 14, .not, [.t 13], none⟩]
def a9r5 : List IOp := [⟨some 4, .mv, [.c (.int .i64 0)], none⟩,
  ⟨some 5, .mv, [.c (.int .i64 2)], none⟩]
def a9r6 : List IOp := [⟨some 15, .loadA 2, [.t 2], none⟩,
  ⟨some 16, .mv, [.t 1], none⟩,
  ⟨some 17, .call 27, [.t 15, .t 16], none⟩,
  ⟨some 4, .mv, [.t 17], none⟩,
  ⟨some 5, .mv, [.c (.int .i64 0)], none⟩]
def a9 : AFunc := ⟨18, [.tmp 4, .tmp 5], (.seq (.region a9r0 [1, 2]) (.seq (.seq (.region a9r1 [1, 2, 6]) (.seq (.region a9r2 [1, 2, 6, 10]) (.cond (.t 10) (.seq (.region a9r3 [4, 5]) .ret) .skip))) (.seq (.seq (.region a9r4 [1, 2, 14]) (.cond (.t 14) (.seq (.region a9r5 [4, 5]) .ret) .skip)) (.seq (.region a9r6 [4, 5]) .ret))))⟩
theorem a9_ok : compileF Tryd.prog (lk [(0, ⟨[1, 2], [], []⟩), (1, ⟨[1, 2, 6], [], []⟩), (2, ⟨[1, 2, 6, 10], [], []⟩), (3, ⟨[4, 5], [], []⟩), (4, ⟨[1, 2, 14], [], []⟩), (5, ⟨[4, 5], [], []⟩), (6, ⟨[4, 5], [], []⟩)]) Tryd.f9 = some a9 := by kernel_rfl

/- payroll/payrolllaw5.spans -/
def a10r0 : List IOp := [⟨some 3, .box 24 2, [.t 0], none⟩,
  ⟨some 6, .mv, [.c (.bool false)], none⟩]
def a10r1 : List IOp := [⟨some 16, .loadA 2, [.t 3], none⟩,
  ⟨some 17, .mv, [.t 1], none⟩,
  ⟨some 18, .call 16, [.t 16, .t 17], none⟩,
  ⟨some 15, .mv, [.t 18], none⟩,
  ⟨some 19, .extract 0, [.t 15], none⟩,
  ⟨some 20, .extract 1, [.t 15], none⟩,
  ⟨some 7, .mv, [.t 19], none⟩,
  ⟨some 8, .mv, [.t 20], none⟩]
def a10r2 : List IOp := [⟨some 22, .loadA 2, [.t 3], none⟩,
  ⟨some 23, .mv, [.t 1], none⟩,
  ⟨some 24, .call 9, [.t 22, .t 23], none⟩,
  ⟨some 21, .mv, [.t 24], none⟩,
  ⟨some 25, .extract 0, [.t 21], none⟩,
  ⟨some 26, .extract 1, [.t 21], none⟩,
  ⟨some 9, .mv, [.t 25], none⟩,
  ⟨some 10, .mv, [.t 26], none⟩]
def a10r3 : List IOp := [⟨some 28, .loadA 2, [.t 3], none⟩,
  ⟨some 29, .mv, [.t 2], none⟩,
  ⟨some 30, .call 17, [.t 28, .t 29], none⟩,
  ⟨some 27, .mv, [.t 30], none⟩,
  ⟨some 31, .extract 0, [.t 27], none⟩,
  ⟨some 32, .extract 1, [.t 27], none⟩,
  ⟨some 11, .alloc 40 [.int .i64 0, .int .i64 0], [], none⟩,
  ⟨none, .store 2, [.t 11, .t 31], none⟩,
  ⟨some 12, .mv, [.t 32], none⟩]
def a10r4 : List IOp := [⟨some 34, .loadA 2, [.t 3], none⟩,
  ⟨some 35, .mv, [.t 2], none⟩,
  ⟨some 36, .call 19, [.t 34, .t 35], none⟩,
  ⟨some 33, .mv, [.t 36], none⟩,
  ⟨some 37, .extract 0, [.t 33], none⟩,
  ⟨some 38, .extract 1, [.t 33], none⟩,
  ⟨some 13, .alloc 40 [.int .i64 0, .int .i64 0], [], none⟩,
  ⟨none, .store 2, [.t 13, .t 37], none⟩,
  ⟨some 14, .mv, [.t 38], none⟩]
def a10r5 : List (Nat × DOp) := [(0, ⟨⟨some 39, .mv, [.t 7], none⟩, none, [1]⟩),
  (1, ⟨⟨some 40, .mv, [.t 9], none⟩, none, [0]⟩),
  (2, ⟨⟨some 41, .bin .eql, [.t 39, .t 40], none⟩, none, []⟩),
  (3, ⟨⟨some 42, .mv, [.t 41], none⟩, none, []⟩),
  (4, ⟨⟨some 43, .mv, [.t 8], some (42, true)⟩, none, [5]⟩),
  (5, ⟨⟨some 44, .mv, [.t 10], some (42, true)⟩, none, [4]⟩),
  (6, ⟨⟨some 45, .bin .eql, [.t 43, .t 44], some (42, true)⟩, none, []⟩),
  (7, ⟨⟨some 46, .pick, [.t 42, .t 45, .c (.bool false)], none⟩, none, []⟩),
  (8, ⟨⟨some 47, .mv, [.t 46], none⟩, none, []⟩),
  (9, ⟨⟨some 48, .loadA 2, [.t 11], some (47, true)⟩, none, [10]⟩),
  (10, ⟨⟨some 49, .loadA 2, [.t 13], some (47, true)⟩, none, [9]⟩),
  (11, ⟨⟨some 50, .eqA false [.int .i64, .int .i64], [.t 48, .t 49], some (47, true)⟩, none, []⟩),
  (12, ⟨⟨some 51, .pick, [.t 47, .t 50, .c (.bool false)], none⟩, none, []⟩),
  (13, ⟨⟨some 52, .mv, [.t 51], none⟩, none, []⟩),
  (14, ⟨⟨some 53, .mv, [.t 12], some (52, true)⟩, none, [15]⟩),
  (15, ⟨⟨some 54, .mv, [.t 14], some (52, true)⟩, none, [14]⟩),
  (16, ⟨⟨some 55, .bin .eql, [.t 53, .t 54], some (52, true)⟩, none, []⟩),
  (17, ⟨⟨some 56, .pick, [.t 52, .t 55, .c (.bool false)], none⟩, none, []⟩),
  (18, ⟨⟨some 57, .mv, [.t 56], none⟩, none, []⟩),
  (19, ⟨⟨some 58, .loadA 2, [.t 3], some (57, true)⟩, none, [21]⟩),
  (21, ⟨⟨some 60, .loadA 2, [.t 3], some (57, true)⟩, none, [19, 20]⟩),
  (20, ⟨⟨some 59, .call 28, [.t 58], some (57, true)⟩, none, [21]⟩),
  (22, ⟨⟨some 61, .call 25, [.t 60], some (57, true)⟩, none, []⟩),
  (23, ⟨⟨some 62, .bin .eql, [.t 59, .t 61], some (57, true)⟩, none, []⟩),
  (24, ⟨⟨some 63, .pick, [.t 57, .t 62, .c (.bool false)], none⟩, none, []⟩),
  (25, ⟨⟨some 64, .mv, [.t 63], none⟩, none, []⟩),
  (26, ⟨⟨some 65, .loadA 2, [.t 3], some (64, true)⟩, none, [28]⟩),
  (28, ⟨⟨some 67, .loadA 2, [.t 3], some (64, true)⟩, none, [26, 27]⟩),
  (27, ⟨⟨some 66, .call 18, [.t 65], some (64, true)⟩, none, [28]⟩),
  (29, ⟨⟨some 68, .call 12, [.t 67], some (64, true)⟩, none, []⟩),
  (30, ⟨⟨some 69, .bin .eql, [.t 66, .t 68], some (64, true)⟩, none, []⟩),
  (31, ⟨⟨some 70, .pick, [.t 64, .t 69, .c (.bool false)], none⟩, none, []⟩),
  (32, ⟨⟨some 6, .mv, [.t 70], none⟩, none, []⟩)]
def a10 : AFunc := ⟨71, [.tmp 6], (.seq (.region a10r0 [1, 2, 3]) (.seq (.region a10r1 [1, 2, 3, 7, 8]) (.seq (.region a10r2 [2, 3, 7, 8, 9, 10]) (.seq (.region a10r3 [2, 3, 7, 8, 9, 10, 11, 12]) (.seq (.region a10r4 [3, 7, 8, 9, 10, 11, 12, 13, 14]) (.seq (.draw a10r5 [] [6]) .ret))))))⟩
theorem a10_ok : compileF Tryd.prog (lk [(0, ⟨[1, 2, 3], [], []⟩), (1, ⟨[1, 2, 3, 7, 8], [], []⟩), (2, ⟨[2, 3, 7, 8, 9, 10], [], []⟩), (3, ⟨[2, 3, 7, 8, 9, 10, 11, 12], [], []⟩), (4, ⟨[3, 7, 8, 9, 10, 11, 12, 13, 14], [], []⟩), (5, ⟨[6], [[], [], [0, 1], [2, 0, 1], [3, 2, 0, 1], [3, 2, 0, 1], [4, 5, 3, 2, 0, 1], [3, 6, 2, 0, 1, 4, 5], [7, 3, 6, 2, 0, 1, 4, 5], [8, 7, 3, 6, 2, 0, 1, 4, 5], [8, 7, 3, 6, 2, 0, 1, 4, 5], [9, 10, 8, 7, 3, 6, 2, 0, 1, 4, 5], [8, 11, 7, 3, 6, 2, 0, 1, 4, 5, 9, 10], [12, 8, 11, 7, 3, 6, 2, 0, 1, 4, 5, 9, 10], [13, 12, 8, 11, 7, 3, 6, 2, 0, 1, 4, 5, 9, 10], [13, 12, 8, 11, 7, 3, 6, 2, 0, 1, 4, 5, 9, 10], [14, 15, 13, 12, 8, 11, 7, 3, 6, 2, 0, 1, 4, 5, 9, 10], [13, 16, 12, 8, 11, 7, 3, 6, 2, 0, 1, 4, 5, 9, 10, 14, 15], [17, 13, 16, 12, 8, 11, 7, 3, 6, 2, 0, 1, 4, 5, 9, 10, 14, 15], [18, 17, 13, 16, 12, 8, 11, 7, 3, 6, 2, 0, 1, 4, 5, 9, 10, 14, 15], [19, 18, 17, 13, 16, 12, 8, 11, 7, 3, 6, 2, 0, 1, 4, 5, 9, 10, 14, 15], [18, 17, 13, 16, 12, 8, 11, 7, 3, 6, 2, 0, 1, 4, 5, 9, 10, 14, 15], [21, 20, 18, 17, 13, 16, 12, 8, 11, 7, 3, 6, 2, 0, 1, 4, 5, 9, 10, 14, 15, 19], [20, 22, 18, 19, 17, 13, 16, 12, 8, 11, 7, 3, 6, 2, 0, 1, 4, 5, 9, 10, 14, 15, 21], [18, 23, 17, 13, 16, 12, 8, 11, 7, 3, 6, 2, 0, 1, 4, 5, 9, 10, 14, 15, 20, 22, 19, 21], [24, 22, 18, 23, 17, 13, 16, 12, 8, 11, 7, 3, 6, 2, 0, 1, 4, 5, 9, 10, 14, 15, 20, 19, 21], [25, 24, 22, 18, 23, 17, 13, 16, 12, 8, 11, 7, 3, 6, 2, 0, 1, 4, 5, 9, 10, 14, 15, 20, 19, 21], [26, 25, 24, 22, 18, 23, 17, 13, 16, 12, 8, 11, 7, 3, 6, 2, 0, 1, 4, 5, 9, 10, 14, 15, 20, 19, 21], [25, 24, 22, 18, 23, 17, 13, 16, 12, 8, 11, 7, 3, 6, 2, 0, 1, 4, 5, 9, 10, 14, 15, 20, 19, 21], [28, 27, 25, 24, 22, 18, 23, 17, 13, 16, 12, 8, 11, 7, 3, 6, 2, 0, 1, 4, 5, 9, 10, 14, 15, 20, 19, 21, 26], [27, 29, 25, 26, 24, 22, 18, 23, 17, 13, 16, 12, 8, 11, 7, 3, 6, 2, 0, 1, 4, 5, 9, 10, 14, 15, 20, 19, 21, 28], [25, 30, 24, 22, 18, 23, 17, 13, 16, 12, 8, 11, 7, 3, 6, 2, 0, 1, 4, 5, 9, 10, 14, 15, 20, 19, 21, 27, 29, 26, 28], [31, 29, 0, 1, 2, 3, 4, 5, 6, 7, 8, 9, 10, 11, 12, 13, 14, 15, 16, 17, 18, 19, 20, 21, 22, 23, 24, 25, 26, 27, 28, 30]], [0, 1, 2, 3, 4, 5, 6, 7, 8, 9, 10, 11, 12, 13, 14, 15, 16, 17, 18, 19, 21, 20, 22, 23, 24, 25, 26, 28, 27, 29, 30, 31, 32]⟩)]) Tryd.f10 = some a10 := by kernel_rfl

/- (*payroll/payrollgen.Tape).Pick -/
def a11r0 : List IOp := [⟨some 4, .mv, [.c (.int .i64 0)], none⟩]
def a11r1 : List IOp := [⟨some 5, .mv, [.t 1], none⟩,
  ⟨some 6, .mv, [.t 0], none⟩,
  ⟨some 7, .mv, [.t 1], none⟩,
  ⟨some 8, .len, [.t 7], none⟩,
  ⟨some 9, .call 15, [.t 6, .t 8], none⟩,
  ⟨some 10, .indexAddr 1, [.t 5, .t 9], none⟩,
  ⟨some 11, .load1, [.t 10], none⟩,
  ⟨some 4, .mv, [.t 11], none⟩]
def a11 : AFunc := ⟨12, [.tmp 4], (.seq (.region a11r0 [0, 1]) (.seq (.region a11r1 [4]) .ret))⟩
theorem a11_ok : compileF Tryd.prog (lk [(0, ⟨[0, 1], [], []⟩), (1, ⟨[4], [], []⟩)]) Tryd.f11 = some a11 := by kernel_rfl

/- payroll/payrollref5.Count -/
def a12r0 : List IOp := [⟨some 1, .box 24 2, [.t 0], none⟩,
  ⟨some 2, .mv, [.c (.int .i64 0)], none⟩]
def a12r1 : List IOp := [⟨some 3, .loadA 2, [.t 1], none⟩,
  ⟨some 4, .call 25, [.t 3], none⟩,
  ⟨some 5, .bin .neq, [.t 4, .c (.int .i64 0)], none⟩]
def a12r2 : List IOp := [⟨some 2, .mv, [.c (.int .i64 0)], none⟩]
def a12r3 : List IOp := [⟨some 6, .loadA 2, [.t 1], none⟩,
  ⟨some 7, .call 27, [.t 6, .c (.int .i64 84005)], none⟩,
  ⟨some 8, .bin .add, [.t 7, .c (.int .i64 1)], none⟩,
  ⟨some 2, .mv, [.t 8], none⟩]
def a12 : AFunc := ⟨9, [.tmp 2], (.seq (.region a12r0 [1]) (.seq (.seq (.region a12r1 [1, 5]) (.cond (.t 5) (.seq (.region a12r2 [2]) .ret) .skip)) (.seq (.region a12r3 [2]) .ret)))⟩
theorem a12_ok : compileF Tryd.prog (lk [(0, ⟨[1], [], []⟩), (1, ⟨[1, 5], [], []⟩), (2, ⟨[2], [], []⟩), (3, ⟨[2], [], []⟩)]) Tryd.f12 = some a12 := by kernel_rfl

/- payroll/payrollgen.Mod -/
def a13r0 : List IOp := [⟨some 4, .mv, [.c (.int .i64 0)], none⟩]
def a13r1 : List IOp := [⟨some 6, .mv, [.t 0], none⟩,
  ⟨some 7, .mv, [.t 1], none⟩,
  ⟨some 8, .bin .rem, [.t 6, .t 7], none⟩,
  ⟨some 5, .mv, [.t 8], none⟩]
def a13r2 : List IOp := [⟨some 9, .mv, [.t 5], none⟩,
  ⟨some 10, .bin .lss, [.t 9, .c (.int .i64 0)], none⟩]
def a13r3 : List IOp := [⟨some 11, .mv, [.t 5], none⟩,
  ⟨some 12, .mv, [.t 1], none⟩,
  ⟨some 13, .bin .add, [.t 11, .t 12], none⟩,
  ⟨some 5, .mv, [.t 13], none⟩]
def a13r4 : List IOp := [⟨some 14, .mv, [.t 5], none⟩,
  ⟨some 4, .mv, [.t 14], none⟩]
def a13 : AFunc := ⟨15, [.tmp 4], (.seq (.region a13r0 [0, 1]) (.seq (.region a13r1 [1, 5]) (.seq (.seq (.region a13r2 [1, 5, 10]) (.cond (.t 10) (.region a13r3 [5]) .skip)) (.seq (.region a13r4 [4]) .ret))))⟩
theorem a13_ok : compileF Tryd.prog (lk [(0, ⟨[0, 1], [], []⟩), (1, ⟨[1, 5], [], []⟩), (2, ⟨[1, 5, 10], [], []⟩), (3, ⟨[5], [], []⟩), (4, ⟨[4], [], []⟩)]) Tryd.f13 = some a13 := by kernel_rfl

/- payroll/payrolllaw5.sane -/
def a14r0 : List IOp := [⟨some 0, .mv, [.c (.bool false)], none⟩]
def a14r1 : List IOp := [⟨some 10, .build [.int .i64 0, .int .i64 0] [(0, 1), (1, 1)], [.c (.int .i64 2), .c (.int .i64 4)], none⟩,
  ⟨some 1, .alloc 24 [.int .i64 0, .int .i64 0], [], none⟩,
  ⟨none, .store 2, [.t 1, .t 10], none⟩]
def a14r2 : List IOp := [⟨some 12, .loadA 2, [.t 1], none⟩,
  ⟨some 13, .call 17, [.t 12, .c (.int .i64 1)], none⟩,
  ⟨some 11, .mv, [.t 13], none⟩,
  ⟨some 14, .extract 0, [.t 11], none⟩,
  ⟨some 15, .extract 1, [.t 11], none⟩,
  ⟨some 2, .alloc 40 [.int .i64 0, .int .i64 0], [], none⟩,
  ⟨none, .store 2, [.t 2, .t 14], none⟩,
  ⟨some 3, .mv, [.t 15], none⟩]
def a14r3 : List IOp := [⟨some 17, .build [.int .i64 0, .int .i64 0] [], [], none⟩,
  ⟨some 18, .bslice 3 1 [.int .i64 0] 1 [0], [.c (.int .i64 20499)], none⟩,
  ⟨some 19, .call 21, [.t 17, .c (.int .i64 673), .t 18, .c (.int .i64 2), .c (.nils)], none⟩,
  ⟨some 16, .mv, [.t 19], none⟩,
  ⟨some 20, .extract 0, [.t 16], none⟩,
  ⟨some 21, .extract 1, [.t 16], none⟩,
  ⟨some 4, .mv, [.t 20], none⟩,
  ⟨some 5, .mv, [.t 21], none⟩]
def a14r4 : List IOp := [⟨some 23, .build [.int .i64 0, .int .i64 0] [], [], none⟩,
  ⟨some 24, .bslice 3 1 [.int .i64 0] 1 [0], [.c (.int .i64 20554)], none⟩,
  ⟨some 25, .call 23, [.c (.int .i64 100), .t 23, .c (.int .i64 675), .t 24, .c (.int .i64 0), .c (.nils)], none⟩,
  ⟨some 22, .mv, [.t 25], none⟩,
  ⟨some 26, .extract 0, [.t 22], none⟩,
  ⟨some 27, .extract 1, [.t 22], none⟩,
  ⟨some 6, .mv, [.t 26], none⟩,
  ⟨some 7, .mv, [.t 27], none⟩]
def a14r5 : List IOp := [⟨some 29, .loadA 2, [.t 1], none⟩,
  ⟨some 30, .call 16, [.t 29, .c (.int .i64 17)], none⟩,
  ⟨some 28, .mv, [.t 30], none⟩,
  ⟨some 31, .extract 0, [.t 28], none⟩,
  ⟨some 32, .extract 1, [.t 28], none⟩,
  ⟨some 8, .mv, [.t 31], none⟩,
  ⟨some 9, .mv, [.t 32], none⟩]
def a14r6 : List IOp := [⟨some 33, .mv, [.t 3], none⟩,
  ⟨some 34, .bin .eql, [.t 33, .c (.int .i64 0)], none⟩,
  ⟨some 35, .mv, [.t 34], none⟩,
  ⟨some 36, .loadA 2, [.t 2], some (35, true)⟩,
  ⟨some 37, .build [.int .i64 0, .int .i64 0] [(0, 1), (1, 1)], [.c (.int .i64 4), .c (.int .i64 17)], some (35, true)⟩,
  ⟨some 38, .eqA false [.int .i64, .int .i64], [.t 36, .t 37], some (35, true)⟩,
  ⟨some 39, .pick, [.t 35, .t 38, .c (.bool false)], none⟩,
  ⟨some 40, .mv, [.t 39], none⟩,
  ⟨some 41, .mv, [.t 5], some (40, true)⟩,
  ⟨some 42, .bin .eql, [.t 41, .c (.int .i64 0)], some (40, true)⟩,
  ⟨some 43, .pick, [.t 40, .t 42, .c (.bool false)], none⟩,
  ⟨some 44, .mv, [.t 43], none⟩,
  ⟨some 45, .mv, [.t 4], some (44, true)⟩,
  ⟨some 46, .len, [.t 45], some (44, true)⟩,
  ⟨some 47, .bin .eql, [.t 46, .c (.int .i64 2)], some (44, true)⟩,
  ⟨some 48, .pick, [.t 44, .t 47, .c (.bool false)], none⟩,
  ⟨some 49, .mv, [.t 48], none⟩,
  ⟨some 50, .mv, [.t 4], some (49, true)⟩,
  ⟨some 51, .indexAddr 1, [.t 50, .c (.int .i64 0)], some (49, true)⟩,
  ⟨some 52, .load1, [.t 51], some (49, true)⟩,
  ⟨some 53, .bin .eql, [.t 52, .c (.int .i64 14)], some (49, true)⟩,
  ⟨some 54, .pick, [.t 49, .t 53, .c (.bool false)], none⟩,
  ⟨some 55, .mv, [.t 54], none⟩,
  ⟨some 56, .mv, [.t 4], some (55, true)⟩,
  ⟨some 57, .indexAddr 1, [.t 56, .c (.int .i64 1)], some (55, true)⟩,
  ⟨some 58, .load1, [.t 57], some (55, true)⟩,
  ⟨some 59, .bin .eql, [.t 58, .c (.int .i64 16)], some (55, true)⟩,
  ⟨some 60, .pick, [.t 55, .t 59, .c (.bool false)], none⟩,
  ⟨some 61, .mv, [.t 60], none⟩,
  ⟨some 62, .mv, [.t 7], some (61, true)⟩,
  ⟨some 63, .bin .eql, [.t 62, .c (.int .i64 0)], some (61, true)⟩,
  ⟨some 64, .pick, [.t 61, .t 63, .c (.bool false)], none⟩,
  ⟨some 65, .mv, [.t 64], none⟩,
  ⟨some 66, .mv, [.t 6], some (65, true)⟩,
  ⟨some 67, .len, [.t 66], some (65, true)⟩,
  ⟨some 68, .bin .eql, [.t 67, .c (.int .i64 2)], some (65, true)⟩,
  ⟨some 69, .pick, [.t 65, .t 68, .c (.bool false)], none⟩,
  ⟨some 70, .mv, [.t 69], none⟩,
  ⟨some 71, .mv, [.t 6], some (70, true)⟩,
  ⟨some 72, .indexAddr 1, [.t 71, .c (.int .i64 0)], some (70, true)⟩,
  ⟨some 73, .load1, [.t 72], some (70, true)⟩,
  ⟨some 74, .bin .eql, [.t 73, .c (.int .i64 33)], some (70, true)⟩,
  ⟨some 75, .pick, [.t 70, .t 74, .c (.bool false)], none⟩,
  ⟨some 76, .mv, [.t 75], none⟩,
  ⟨some 77, .mv, [.t 6], some (76, true)⟩,
  ⟨some 78, .indexAddr 1, [.t 77, .c (.int .i64 1)], some (76, true)⟩,
  ⟨some 79, .load1, [.t 78], some (76, true)⟩,
  ⟨some 80, .bin .eql, [.t 79, .c (.int .i64 67)], some (76, true)⟩,
  ⟨some 81, .pick, [.t 76, .t 80, .c (.bool false)], none⟩,
  ⟨some 82, .mv, [.t 81], none⟩,
  ⟨some 83, .mv, [.t 9], some (82, true)⟩,
  ⟨some 84, .bin .eql, [.t 83, .c (.int .i64 0)], some (82, true)⟩,
  ⟨some 85, .pick, [.t 82, .t 84, .c (.bool false)], none⟩,
  ⟨some 86, .mv, [.t 85], none⟩,
  ⟨some 87, .mv, [.t 8], some (86, true)⟩,
  ⟨some 88, .bin .eql, [.t 87, .c (.int .i64 1)], some (86, true)⟩,
  ⟨some 89, .pick, [.t 86, .t 88, .c (.bool false)], none⟩,
  ⟨some 90, .mv, [.t 89], none⟩,
  ⟨some 91, .build [.int .i64 0, .int .i64 0] [], [], some (90, true)⟩,
  ⟨some 92, .call 18, [.t 91], some (90, true)⟩,
  ⟨some 93, .bin .eql, [.t 92, .c (.int .i64 2760)], some (90, true)⟩,
  ⟨some 94, .pick, [.t 90, .t 93, .c (.bool false)], none⟩,
  ⟨some 0, .mv, [.t 94], none⟩]
def a14 : AFunc := ⟨95, [.tmp 0], (.seq (.region a14r0 []) (.seq (.region a14r1 [1]) (.seq (.region a14r2 [1, 2, 3]) (.seq (.region a14r3 [1, 2, 3, 4, 5]) (.seq (.region a14r4 [1, 2, 3, 4, 5, 6, 7]) (.seq (.region a14r5 [2, 3, 4, 5, 6, 7, 8, 9]) (.seq (.region a14r6 [0]) .ret)))))))⟩
theorem a14_ok : compileF Tryd.prog (lk [(0, ⟨[], [], []⟩), (1, ⟨[1], [], []⟩), (2, ⟨[1, 2, 3], [], []⟩), (3, ⟨[1, 2, 3, 4, 5], [], []⟩), (4, ⟨[1, 2, 3, 4, 5, 6, 7], [], []⟩), (5, ⟨[2, 3, 4, 5, 6, 7, 8, 9], [], []⟩), (6, ⟨[0], [], []⟩)]) Tryd.f14 = some a14 := by kernel_rfl

/- (*payroll/payrollgen.Tape).Next -/
def a15r0 : List IOp := [⟨some 4, .mv, [.c (.int .i64 0)], none⟩]
def a15r1 : List (Nat × DOp) := [(0, ⟨⟨some 5, .mv, [.t 1], none⟩, none, []⟩),
  (1, ⟨⟨some 6, .bin .lss, [.t 5, .c (.int .i64 1)], none⟩, none, []⟩),
  (2, ⟨⟨some 7, .mv, [.t 6], none⟩, none, []⟩),
  (3, ⟨⟨some 8, .mv, [.t 0], some (7, false)⟩, none, [7, 8, 9, 10, 11]⟩),
  (4, ⟨⟨some 9, .nilchk, [.t 8], some (7, false)⟩, none, [7, 8, 9, 10, 11]⟩),
  (5, ⟨⟨some 10, .fieldAddr 1, [.t 9], some (7, false)⟩, none, [7, 8, 9, 10, 11]⟩),
  (6, ⟨⟨some 11, .load1, [.t 10], some (7, false)⟩, none, [7, 8, 9, 10, 11]⟩),
  (7, ⟨⟨some 12, .mv, [.t 0], some (7, false)⟩, none, [3, 4, 5, 6]⟩),
  (8, ⟨⟨some 13, .nilchk, [.t 12], some (7, false)⟩, none, [3, 4, 5, 6]⟩),
  (9, ⟨⟨some 14, .fieldAddr 0, [.t 13], some (7, false)⟩, none, [3, 4, 5, 6]⟩),
  (10, ⟨⟨some 15, .load1, [.t 14], some (7, false)⟩, none, [3, 4, 5, 6]⟩),
  (11, ⟨⟨some 16, .len, [.t 15], some (7, false)⟩, none, [3, 4, 5, 6]⟩),
  (12, ⟨⟨some 17, .bin .geq, [.t 11, .t 16], some (7, false)⟩, none, []⟩),
  (13, ⟨⟨some 18, .pick, [.t 7, .c (.bool true), .t 17], none⟩, none, []⟩)]
def a15r2 : List IOp := [⟨some 4, .mv, [.c (.int .i64 0)], none⟩]
def a15r3 : List IOp := [⟨some 19, .mv, [.t 0], none⟩,
  ⟨some 20, .nilchk, [.t 19], none⟩,
  ⟨some 21, .fieldAddr 1, [.t 20], none⟩,
  ⟨some 22, .load1, [.t 21], none⟩,
  ⟨some 23, .bin .add, [.t 22, .c (.int .i64 1)], none⟩,
  ⟨some 24, .nilchk, [.t 19], none⟩,
  ⟨some 25, .fieldAddr 1, [.t 24], none⟩,
  ⟨none, .store 1, [.t 25, .t 23], none⟩]
def a15r4 : List (Nat × DOp) := [(0, ⟨⟨some 26, .mv, [.t 0], none⟩, none, [4, 5, 6, 7, 8, 11]⟩),
  (1, ⟨⟨some 27, .nilchk, [.t 26], none⟩, none, [4, 5, 6, 7, 8, 11]⟩),
  (2, ⟨⟨some 28, .fieldAddr 0, [.t 27], none⟩, none, [4, 5, 6, 7, 8, 11]⟩),
  (3, ⟨⟨some 29, .load1, [.t 28], none⟩, none, [4, 5, 6, 7, 8, 11]⟩),
  (4, ⟨⟨some 30, .mv, [.t 0], none⟩, none, [0, 1, 2, 3, 11]⟩),
  (5, ⟨⟨some 31, .nilchk, [.t 30], none⟩, none, [0, 1, 2, 3, 11]⟩),
  (6, ⟨⟨some 32, .fieldAddr 1, [.t 31], none⟩, none, [0, 1, 2, 3, 11]⟩),
  (7, ⟨⟨some 33, .load1, [.t 32], none⟩, none, [0, 1, 2, 3, 11]⟩),
  (8, ⟨⟨some 34, .bin .sub, [.t 33, .c (.int .i64 1)], none⟩, none, [0, 1, 2, 3, 11]⟩),
  (9, ⟨⟨some 35, .indexAddr 1, [.t 29, .t 34], none⟩, none, [11]⟩),
  (10, ⟨⟨some 36, .load1, [.t 35], none⟩, none, [11]⟩),
  (11, ⟨⟨some 37, .mv, [.t 1], none⟩, none, [0, 1, 2, 3, 4, 5, 6, 7, 8, 9, 10]⟩),
  (12, ⟨⟨some 38, .call 13, [.t 36, .t 37], none⟩, none, []⟩),
  (13, ⟨⟨some 4, .mv, [.t 38], none⟩, none, []⟩)]
def a15 : AFunc := ⟨39, [.tmp 4], (.seq (.region a15r0 [0, 1]) (.seq (.seq (.draw a15r1 [] [0, 1, 18]) (.cond (.t 18) (.seq (.region a15r2 [4]) .ret) .skip)) (.seq (.region a15r3 [0, 1]) (.seq (.draw a15r4 [] [4]) .ret))))⟩
theorem a15_ok : compileF Tryd.prog (lk [(0, ⟨[0, 1], [], []⟩), (1, ⟨[0, 1, 18], [[], [0], [1, 0], [2, 1, 0], [3, 2, 1, 0], [4, 2, 3, 1, 0], [5, 2, 4, 3, 1, 0], [2, 1, 0], [7, 2, 1, 0], [8, 2, 7, 1, 0], [9, 2, 8, 7, 1, 0], [10, 2, 9, 8, 7, 1, 0], [6, 11, 2, 5, 4, 3, 1, 0, 10, 9, 8, 7], [2, 12, 1, 0, 6, 11, 5, 4, 3, 10, 9, 8, 7]], [0, 1, 2, 3, 4, 5, 6, 7, 8, 9, 10, 11, 12, 13]⟩), (2, ⟨[4], [], []⟩), (3, ⟨[0, 1], [], []⟩), (4, ⟨[4], [[], [0], [1, 0], [2, 1, 0], [], [4], [5, 4], [6, 5, 4], [7, 6, 5, 4], [3, 8, 2, 1, 0, 7, 6, 5, 4], [9, 3, 8, 2, 1, 0, 7, 6, 5, 4], [], [10, 11, 9, 3, 8, 2, 1, 0, 7, 6, 5, 4], [12, 0, 1, 2, 3, 4, 5, 6, 7, 8, 9, 10, 11]], [0, 1, 2, 3, 4, 5, 6, 7, 8, 9, 10, 11, 12, 13]⟩)]) Tryd.f15 = some a15 := by kernel_rfl

/- payroll/period.Of -/
def a16r0 : List IOp := [⟨some 2, .box 24 2, [.t 0], none⟩,
  ⟨some 4, .mv, [.c (.int .i64 0)], none⟩,
  ⟨some 5, .mv, [.c (.int .i64 0)], none⟩]
def a16r1 : List IOp := [⟨some 7, .loadA 2, [.t 2], none⟩,
  ⟨some 8, .call 28, [.t 7], none⟩,
  ⟨some 6, .mv, [.t 8], none⟩]
def a16r2 : List IOp := [⟨some 9, .mv, [.t 6], none⟩,
  ⟨some 10, .bin .neq, [.t 9, .c (.int .i64 0)], none⟩]
def a16r3 : List IOp := [⟨some 11, .mv, [.t 6], none⟩,
  ⟨some 4, .mv, [.c (.int .i64 0)], none⟩,
  ⟨some 5, .mv, [.t 11], none⟩]
def a16r4 : List IOp := [⟨some 12, .mv, [.t 1], none⟩,
  ⟨some 13, .bin .lss, [.t 12, .c (.int .i64 0)], none⟩,
  ⟨some 14, .mv, [.t 13], none⟩,
  ⟨some 15, .mv, [.t 1], some (14, false)⟩,
  ⟨some 16, .bin .gtr, [.t 15, .c (.int .i64 84005)], some (14, false)⟩,
  ⟨some 17, .pick, [.t 14, .c (.bool true), .t 16], none⟩]
def a16r5 : List IOp := [⟨some 4, .mv, [.c (.int .i64 0)], none⟩,
  ⟨some 5, .mv, [.c (.int .i64 2)], none⟩]
def a16r6 : List IOp := [⟨some 18, .loadA 2, [.t 2], none⟩,
  ⟨some 19, .mv, [.t 1], none⟩,
  ⟨some 20, .call 29, [.t 18, .t 19], none⟩,
  ⟨some 4, .mv, [.t 20], none⟩,
  ⟨some 5, .mv, [.c (.int .i64 0)], none⟩]
def a16 : AFunc := ⟨21, [.tmp 4, .tmp 5], (.seq (.region a16r0 [1, 2]) (.seq (.seq (.region a16r1 [1, 2, 6]) (.seq (.region a16r2 [1, 2, 6, 10]) (.cond (.t 10) (.seq (.region a16r3 [4, 5]) .ret) .skip))) (.seq (.seq (.region a16r4 [1, 2, 17]) (.cond (.t 17) (.seq (.region a16r5 [4, 5]) .ret) .skip)) (.seq (.region a16r6 [4, 5]) .ret))))⟩
theorem a16_ok : compileF Tryd.prog (lk [(0, ⟨[1, 2], [], []⟩), (1, ⟨[1, 2, 6], [], []⟩), (2, ⟨[1, 2, 6, 10], [], []⟩), (3, ⟨[4, 5], [], []⟩), (4, ⟨[1, 2, 17], [], []⟩), (5, ⟨[4, 5], [], []⟩), (6, ⟨[4, 5], [], []⟩)]) Tryd.f16 = some a16 := by kernel_rfl

/- payroll/period.Span -/
def a17r0 : List IOp := [⟨some 2, .box 24 2, [.t 0], none⟩,
  ⟨some 4, .alloc 40 [.int .i64 0, .int .i64 0], [], none⟩,
  ⟨some 5, .mv, [.c (.int .i64 0)], none⟩]
def a17r1 : List IOp := [⟨some 11, .loadA 2, [.t 2], none⟩,
  ⟨some 12, .call 28, [.t 11], none⟩,
  ⟨some 6, .mv, [.t 12], none⟩]
def a17r2 : List IOp := [⟨some 13, .mv, [.t 6], none⟩,
  ⟨some 14, .bin .neq, [.t 13, .c (.int .i64 0)], none⟩]
def a17r3 : List IOp := [⟨some 15, .build [.int .i64 0, .int .i64 0] [], [], none⟩,
  ⟨some 16, .mv, [.t 6], none⟩,
  ⟨none, .store 2, [.t 4, .t 15], none⟩,
  ⟨some 5, .mv, [.t 16], none⟩]
def a17r4 : List IOp := [⟨some 17, .mv, [.t 1], none⟩,
  ⟨some 18, .bin .lss, [.t 17, .c (.int .i64 0)], none⟩,
  ⟨some 19, .mv, [.t 18], none⟩,
  ⟨some 20, .mv, [.t 1], some (19, false)⟩,
  ⟨some 21, .loadA 2, [.t 2], some (19, false)⟩,
  ⟨some 22, .call 18, [.t 21], some (19, false)⟩,
  ⟨some 23, .bin .geq, [.t 20, .t 22], some (19, false)⟩,
  ⟨some 24, .pick, [.t 19, .c (.bool true), .t 23], none⟩]
def a17r5 : List IOp := [⟨some 25, .build [.int .i64 0, .int .i64 0] [], [], none⟩,
  ⟨none, .store 2, [.t 4, .t 25], none⟩,
  ⟨some 5, .mv, [.c (.int .i64 2)], none⟩]
def a17r6 : List IOp := [⟨some 26, .fieldAddr 0, [.t 2], none⟩,
  ⟨some 27, .load1, [.t 26], none⟩]
def a17r7 : List IOp := [⟨some 29, .bin .eql, [.t 27, .c (.int .i64 0)], none⟩,
  ⟨some 28, .mv, [.t 29], none⟩]
def a17r8 : List IOp := [⟨some 30, .mv, [.t 1], none⟩,
  ⟨some 31, .call 30, [.t 30], none⟩,
  ⟨none, .store 2, [.t 4, .t 31], none⟩,
  ⟨some 5, .mv, [.c (.int .i64 0)], none⟩]
def a17r9 : List IOp := [⟨some 33, .bin .eql, [.t 27, .c (.int .i64 1)], none⟩,
  ⟨some 32, .mv, [.t 33], none⟩]
def a17r10 : List IOp := [⟨some 34, .mv, [.t 1], none⟩,
  ⟨some 35, .bin .quo, [.t 34, .c (.int .i64 2)], none⟩,
  ⟨some 36, .call 30, [.t 35], none⟩,
  ⟨some 7, .alloc 40 [.int .i64 0, .int .i64 0], [], none⟩,
  ⟨none, .store 2, [.t 7, .t 36], none⟩]
def a17r11 : List IOp := [⟨some 37, .mv, [.t 1], none⟩,
  ⟨some 38, .bin .rem, [.t 37, .c (.int .i64 2)], none⟩,
  ⟨some 39, .bin .eql, [.t 38, .c (.int .i64 0)], none⟩]
def a17r12 : List IOp := [⟨some 40, .fieldAddr 0, [.t 7], none⟩,
  ⟨some 41, .load1, [.t 40], none⟩,
  ⟨some 42, .bin .add, [.t 41, .c (.int .i64 15)], none⟩,
  ⟨some 43, .bin .sub, [.t 42, .c (.int .i64 1)], none⟩,
  ⟨some 44, .fieldAddr 1, [.t 7], none⟩,
  ⟨none, .store 1, [.t 44, .t 43], none⟩]
def a17r13 : List IOp := [⟨some 45, .fieldAddr 0, [.t 7], none⟩,
  ⟨some 46, .load1, [.t 45], none⟩,
  ⟨some 47, .bin .add, [.t 46, .c (.int .i64 15)], none⟩,
  ⟨some 48, .fieldAddr 0, [.t 7], none⟩,
  ⟨none, .store 1, [.t 48, .t 47], none⟩]
def a17r14 : List IOp := [⟨some 49, .loadA 2, [.t 7], none⟩,
  ⟨none, .store 2, [.t 4, .t 49], none⟩,
  ⟨some 5, .mv, [.c (.int .i64 0)], none⟩]
def a17r15 : List IOp := [⟨some 51, .loadA 2, [.t 2], none⟩,
  ⟨some 52, .call 31, [.t 51], none⟩,
  ⟨some 50, .mv, [.t 52], none⟩,
  ⟨some 53, .extract 0, [.t 50], none⟩,
  ⟨some 54, .extract 1, [.t 50], none⟩,
  ⟨some 8, .mv, [.t 53], none⟩,
  ⟨some 9, .mv, [.t 54], none⟩]
def a17r16 : List IOp := [⟨some 55, .mv, [.t 1], none⟩,
  ⟨some 56, .mv, [.t 8], none⟩,
  ⟨some 57, .bin .mul, [.t 55, .t 56], none⟩,
  ⟨some 58, .mv, [.t 9], none⟩,
  ⟨some 59, .bin .sub, [.t 57, .t 58], none⟩,
  ⟨some 10, .mv, [.t 59], none⟩]
def a17r17 : List IOp := [⟨some 60, .mv, [.t 10], none⟩,
  ⟨some 61, .minmax true, [.t 60, .c (.int .i64 0)], none⟩,
  ⟨some 62, .mv, [.t 10], none⟩,
  ⟨some 63, .mv, [.t 8], none⟩,
  ⟨some 64, .bin .add, [.t 62, .t 63], none⟩,
  ⟨some 65, .bin .sub, [.t 64, .c (.int .i64 1)], none⟩,
  ⟨some 66, .minmax false, [.t 65, .c (.int .i64 84005)], none⟩,
  ⟨some 67, .build [.int .i64 0, .int .i64 0] [(0, 1), (1, 1)], [.t 61, .t 66], none⟩,
  ⟨none, .store 2, [.t 4, .t 67], none⟩,
  ⟨some 5, .mv, [.c (.int .i64 0)], none⟩]
def a17 : AFunc := ⟨68, [.cellA 4 2, .tmp 5], (.seq (.region a17r0 [1, 2, 4]) (.seq (.seq (.region a17r1 [1, 2, 4, 6]) (.seq (.region a17r2 [1, 2, 4, 6, 14]) (.cond (.t 14) (.seq (.region a17r3 [4, 5]) .ret) .skip))) (.seq (.seq (.region a17r4 [1, 2, 4, 24]) (.cond (.t 24) (.seq (.region a17r5 [4, 5]) .ret) .skip)) (.seq (.seq (.region a17r6 [1, 2, 4, 27]) (.block 0 (.seq (.region a17r7 [1, 2, 4, 27, 28]) (.cond (.t 28) (.seq (.region a17r8 [4, 5]) .ret) (.seq (.region a17r9 [1, 2, 4, 32]) (.cond (.t 32) (.seq (.region a17r10 [1, 4, 7]) (.seq (.seq (.region a17r11 [4, 7, 39]) (.cond (.t 39) (.region a17r12 [4, 7]) (.region a17r13 [4, 7]))) (.seq (.region a17r14 [4, 5]) .ret))) .skip)))))) (.seq (.region a17r15 [1, 4, 8, 9]) (.seq (.region a17r16 [4, 8, 10]) (.seq (.region a17r17 [4, 5]) .ret)))))))⟩
theorem a17_ok : compileF Tryd.prog (lk [(0, ⟨[1, 2, 4], [], []⟩), (1, ⟨[1, 2, 4, 6], [], []⟩), (2, ⟨[1, 2, 4, 6, 14], [], []⟩), (3, ⟨[4, 5], [], []⟩), (4, ⟨[1, 2, 4, 24], [], []⟩), (5, ⟨[4, 5], [], []⟩), (6, ⟨[1, 2, 4, 27], [], []⟩), (7, ⟨[1, 2, 4, 27, 28], [], []⟩), (8, ⟨[4, 5], [], []⟩), (9, ⟨[1, 2, 4, 32], [], []⟩), (10, ⟨[1, 4, 7], [], []⟩), (11, ⟨[4, 7, 39], [], []⟩), (12, ⟨[4, 7], [], []⟩), (13, ⟨[4, 7], [], []⟩), (14, ⟨[4, 5], [], []⟩), (15, ⟨[1, 4, 8, 9], [], []⟩), (16, ⟨[4, 8, 10], [], []⟩), (17, ⟨[4, 5], [], []⟩)]) Tryd.f17 = some a17 := by kernel_rfl

/- payroll/period.Count -/
def a18r0 : List IOp := [⟨some 1, .box 24 2, [.t 0], none⟩,
  ⟨some 2, .mv, [.c (.int .i64 0)], none⟩]
def a18r1 : List IOp := [⟨some 3, .loadA 2, [.t 1], none⟩,
  ⟨some 4, .call 28, [.t 3], none⟩,
  ⟨some 5, .bin .neq, [.t 4, .c (.int .i64 0)], none⟩]
def a18r2 : List IOp := [⟨some 2, .mv, [.c (.int .i64 0)], none⟩]
def a18r3 : List IOp := [⟨some 6, .loadA 2, [.t 1], none⟩,
  ⟨some 7, .call 29, [.t 6, .c (.int .i64 84005)], none⟩,
  ⟨some 8, .bin .add, [.t 7, .c (.int .i64 1)], none⟩,
  ⟨some 2, .mv, [.t 8], none⟩]
def a18 : AFunc := ⟨9, [.tmp 2], (.seq (.region a18r0 [1]) (.seq (.seq (.region a18r1 [1, 5]) (.cond (.t 5) (.seq (.region a18r2 [2]) .ret) .skip)) (.seq (.region a18r3 [2]) .ret)))⟩
theorem a18_ok : compileF Tryd.prog (lk [(0, ⟨[1], [], []⟩), (1, ⟨[1, 5], [], []⟩), (2, ⟨[2], [], []⟩), (3, ⟨[2], [], []⟩)]) Tryd.f18 = some a18 := by kernel_rfl

/- payroll/payrollref5.Span -/
def a19r0 : List IOp := [⟨some 2, .box 24 2, [.t 0], none⟩,
  ⟨some 4, .alloc 40 [.int .i64 0, .int .i64 0], [], none⟩,
  ⟨some 5, .mv, [.c (.int .i64 0)], none⟩]
def a19r1 : List IOp := [⟨some 10, .loadA 2, [.t 2], none⟩,
  ⟨some 11, .call 25, [.t 10], none⟩,
  ⟨some 6, .mv, [.t 11], none⟩]
def a19r2 : List IOp := [⟨some 12, .mv, [.t 6], none⟩,
  ⟨some 13, .bin .neq, [.t 12, .c (.int .i64 0)], none⟩]
def a19r3 : List IOp := [⟨some 14, .build [.int .i64 0, .int .i64 0] [], [], none⟩,
  ⟨some 15, .mv, [.t 6], none⟩,
  ⟨none, .store 2, [.t 4, .t 14], none⟩,
  ⟨some 5, .mv, [.t 15], none⟩]
def a19r4 : List IOp := [⟨some 16, .mv, [.t 1], none⟩,
  ⟨some 17, .bin .lss, [.t 16, .c (.int .i64 0)], none⟩,
  ⟨some 18, .mv, [.t 17], none⟩,
  ⟨some 19, .mv, [.t 1], some (18, false)⟩,
  ⟨some 20, .loadA 2, [.t 2], some (18, false)⟩,
  ⟨some 21, .call 12, [.t 20], some (18, false)⟩,
  ⟨some 22, .bin .geq, [.t 19, .t 21], some (18, false)⟩,
  ⟨some 23, .pick, [.t 18, .c (.bool true), .t 22], none⟩]
def a19r5 : List IOp := [⟨some 24, .build [.int .i64 0, .int .i64 0] [], [], none⟩,
  ⟨none, .store 2, [.t 4, .t 24], none⟩,
  ⟨some 5, .mv, [.c (.int .i64 2)], none⟩]
def a19r6 : List IOp := [⟨some 7, .mv, [.c (.int .i64 0)], none⟩,
  ⟨some 8, .mv, [.c (.int .i64 0)], none⟩]
def a19r7 : List IOp := [⟨some 25, .fieldAddr 0, [.t 2], none⟩,
  ⟨some 26, .load1, [.t 25], none⟩]
def a19r8 : List IOp := [⟨some 44, .bin .eql, [.t 26, .c (.int .i64 0)], none⟩,
  ⟨some 43, .mv, [.t 44], none⟩]
def a19r9 : List IOp := [⟨some 46, .mv, [.t 1], none⟩,
  ⟨some 47, .call 32, [.t 46], none⟩,
  ⟨some 45, .mv, [.t 47], none⟩,
  ⟨some 48, .extract 0, [.t 45], none⟩,
  ⟨some 49, .extract 1, [.t 45], none⟩,
  ⟨some 7, .mv, [.t 48], none⟩]
def a19r10 : List IOp := [⟨some 50, .mv, [.t 7], none⟩,
  ⟨some 51, .mv, [.t 1], none⟩,
  ⟨some 52, .call 33, [.t 51], none⟩,
  ⟨some 53, .bin .add, [.t 50, .t 52], none⟩,
  ⟨some 54, .bin .sub, [.t 53, .c (.int .i64 1)], none⟩,
  ⟨some 8, .mv, [.t 54], none⟩]
def a19r11 : List IOp := [⟨some 56, .bin .eql, [.t 26, .c (.int .i64 1)], none⟩,
  ⟨some 55, .mv, [.t 56], none⟩]
def a19r12 : List IOp := [⟨some 58, .mv, [.t 1], none⟩,
  ⟨some 59, .bin .quo, [.t 58, .c (.int .i64 2)], none⟩,
  ⟨some 60, .call 32, [.t 59], none⟩,
  ⟨some 57, .mv, [.t 60], none⟩,
  ⟨some 61, .extract 0, [.t 57], none⟩,
  ⟨some 62, .extract 1, [.t 57], none⟩,
  ⟨some 7, .mv, [.t 61], none⟩]
def a19r13 : List IOp := [⟨some 63, .mv, [.t 7], none⟩,
  ⟨some 64, .bin .add, [.t 63, .c (.int .i64 14)], none⟩,
  ⟨some 8, .mv, [.t 64], none⟩]
def a19r14 : List IOp := [⟨some 65, .mv, [.t 1], none⟩,
  ⟨some 66, .bin .rem, [.t 65, .c (.int .i64 2)], none⟩,
  ⟨some 67, .bin .eql, [.t 66, .c (.int .i64 1)], none⟩]
def a19r15 : List IOp := [⟨some 68, .mv, [.t 7], none⟩,
  ⟨some 69, .bin .add, [.t 68, .c (.int .i64 15)], none⟩,
  ⟨some 70, .mv, [.t 7], none⟩,
  ⟨some 71, .mv, [.t 1], none⟩,
  ⟨some 72, .bin .quo, [.t 71, .c (.int .i64 2)], none⟩,
  ⟨some 73, .call 33, [.t 72], none⟩,
  ⟨some 74, .bin .add, [.t 70, .t 73], none⟩,
  ⟨some 75, .bin .sub, [.t 74, .c (.int .i64 1)], none⟩,
  ⟨some 7, .mv, [.t 69], none⟩,
  ⟨some 8, .mv, [.t 75], none⟩]
def a19r16 : List IOp := [⟨some 27, .loadA 2, [.t 2], none⟩,
  ⟨some 28, .call 34, [.t 27], none⟩,
  ⟨some 9, .mv, [.t 28], none⟩]
def a19r17 : List IOp := [⟨some 29, .mv, [.t 1], none⟩,
  ⟨some 30, .mv, [.t 9], none⟩,
  ⟨some 31, .bin .mul, [.t 29, .t 30], none⟩,
  ⟨some 32, .mv, [.t 9], none⟩,
  ⟨some 33, .fieldAddr 1, [.t 2], none⟩,
  ⟨some 34, .load1, [.t 33], none⟩,
  ⟨some 35, .bin .sub, [.t 32, .t 34], none⟩,
  ⟨some 36, .mv, [.t 9], none⟩,
  ⟨some 37, .bin .rem, [.t 35, .t 36], none⟩,
  ⟨some 38, .bin .sub, [.t 31, .t 37], none⟩,
  ⟨some 7, .mv, [.t 38], none⟩]
def a19r18 : List IOp := [⟨some 39, .mv, [.t 7], none⟩,
  ⟨some 40, .mv, [.t 9], none⟩,
  ⟨some 41, .bin .add, [.t 39, .t 40], none⟩,
  ⟨some 42, .bin .sub, [.t 41, .c (.int .i64 1)], none⟩,
  ⟨some 8, .mv, [.t 42], none⟩]
def a19r19 : List IOp := [⟨some 76, .mv, [.t 7], none⟩,
  ⟨some 77, .minmax true, [.t 76, .c (.int .i64 0)], none⟩,
  ⟨some 78, .mv, [.t 8], none⟩,
  ⟨some 79, .minmax false, [.t 78, .c (.int .i64 84005)], none⟩,
  ⟨some 80, .build [.int .i64 0, .int .i64 0] [(0, 1), (1, 1)], [.t 77, .t 79], none⟩,
  ⟨none, .store 2, [.t 4, .t 80], none⟩,
  ⟨some 5, .mv, [.c (.int .i64 0)], none⟩]
def a19 : AFunc := ⟨81, [.cellA 4 2, .tmp 5], (.seq (.region a19r0 [1, 2, 4]) (.seq (.seq (.region a19r1 [1, 2, 4, 6]) (.seq (.region a19r2 [1, 2, 4, 6, 13]) (.cond (.t 13) (.seq (.region a19r3 [4, 5]) .ret) .skip))) (.seq (.seq (.region a19r4 [1, 2, 4, 23]) (.cond (.t 23) (.seq (.region a19r5 [4, 5]) .ret) .skip)) (.seq (.region a19r6 [1, 2, 4]) (.seq (.seq (.region a19r7 [1, 2, 4, 26]) (.block 0 (.seq (.region a19r8 [1, 2, 4, 26, 43]) (.cond (.t 43) (.seq (.region a19r9 [1, 4, 7]) (.region a19r10 [4, 7, 8])) (.seq (.region a19r11 [1, 2, 4, 55]) (.cond (.t 55) (.seq (.region a19r12 [1, 4, 7]) (.seq (.region a19r13 [1, 4, 7, 8]) (.seq (.region a19r14 [1, 4, 7, 8, 67]) (.cond (.t 67) (.region a19r15 [4, 7, 8]) .skip)))) (.seq (.region a19r16 [1, 2, 4, 9]) (.seq (.region a19r17 [4, 7, 9]) (.region a19r18 [4, 7, 8]))))))))) (.seq (.region a19r19 [4, 5]) .ret))))))⟩
theorem a19_ok : compileF Tryd.prog (lk [(0, ⟨[1, 2, 4], [], []⟩), (1, ⟨[1, 2, 4, 6], [], []⟩), (2, ⟨[1, 2, 4, 6, 13], [], []⟩), (3, ⟨[4, 5], [], []⟩), (4, ⟨[1, 2, 4, 23], [], []⟩), (5, ⟨[4, 5], [], []⟩), (6, ⟨[1, 2, 4], [], []⟩), (7, ⟨[1, 2, 4, 26], [], []⟩), (8, ⟨[1, 2, 4, 9], [], []⟩), (9, ⟨[4, 7, 9], [], []⟩), (10, ⟨[4, 7, 8], [], []⟩), (11, ⟨[1, 2, 4, 26, 43], [], []⟩), (12, ⟨[1, 4, 7], [], []⟩), (13, ⟨[4, 7, 8], [], []⟩), (14, ⟨[1, 2, 4, 55], [], []⟩), (15, ⟨[1, 4, 7], [], []⟩), (16, ⟨[1, 4, 7, 8], [], []⟩), (17, ⟨[1, 4, 7, 8, 67], [], []⟩), (18, ⟨[4, 7, 8], [], []⟩), (19, ⟨[4, 5], [], []⟩)]) Tryd.f19 = some a19 := by kernel_rfl

/- (*payroll/payrollgen.Tape).Holidays -/
def a20r0 : List IOp := [⟨some 4, .mv, [.c (.nils)], none⟩]
def a20r1 : List IOp := [⟨some 8, .build [.int .i64 0, .int .i64 0, .int .i64 0, .int .i64 0, .int .i64 0, .bool false] [(0, 1), (1, 1), (2, 1)], [.c (.int .i64 0), .c (.int .i64 1), .c (.int .i64 1)], none⟩,
  ⟨some 9, .build [.int .i64 0, .int .i64 0, .int .i64 0, .int .i64 0, .int .i64 0, .bool false] [(0, 1), (1, 1), (2, 1), (5, 1)], [.c (.int .i64 0), .c (.int .i64 12), .c (.int .i64 25), .c (.bool true)], none⟩,
  ⟨some 10, .build [.int .i64 0, .int .i64 0, .int .i64 0, .int .i64 0, .int .i64 0, .bool false] [(0, 1), (1, 1), (2, 1)], [.c (.int .i64 0), .c (.int .i64 2), .c (.int .i64 29)], none⟩,
  ⟨some 11, .build [.int .i64 0, .int .i64 0, .int .i64 0, .int .i64 0, .int .i64 0, .bool false] [(0, 1), (4, 1)], [.c (.int .i64 1), .c (.int .i64 1)], none⟩,
  ⟨some 12, .build [.int .i64 0, .int .i64 0, .int .i64 0, .int .i64 0, .int .i64 0, .bool false] [(0, 1), (4, 1)], [.c (.int .i64 1), .c (.int .i64 (-2))], none⟩,
  ⟨some 13, .build [.int .i64 0, .int .i64 0, .int .i64 0, .int .i64 0, .int .i64 0, .bool false] [(0, 1), (4, 1)], [.c (.int .i64 1), .c (.int .i64 (-100))], none⟩,
  ⟨some 14, .build [.int .i64 0, .int .i64 0, .int .i64 0, .int .i64 0, .int .i64 0, .bool false] [(0, 1), (1, 1), (3, 1), (2, 1)], [.c (.int .i64 2), .c (.int .i64 11), .c (.int .i64 3), .c (.int .i64 4)], none⟩,
  ⟨some 15, .build [.int .i64 0, .int .i64 0, .int .i64 0, .int .i64 0, .int .i64 0, .bool false] [(0, 1), (1, 1), (3, 1), (2, 1)], [.c (.int .i64 2), .c (.int .i64 1), .c (.int .i64 0), .c (.int .i64 (-1))], none⟩,
  ⟨some 16, .build [.int .i64 0, .int .i64 0, .int .i64 0, .int .i64 0, .int .i64 0, .bool false] [(0, 1), (1, 1), (3, 1), (2, 1), (5, 1)], [.c (.int .i64 2), .c (.int .i64 1), .c (.int .i64 5), .c (.int .i64 1), .c (.bool true)], none⟩,
  ⟨some 17, .build [.int .i64 0, .int .i64 0, .int .i64 0, .int .i64 0, .int .i64 0, .bool false] [(0, 1), (1, 1), (3, 1), (2, 1), (4, 1)], [.c (.int .i64 2), .c (.int .i64 12), .c (.int .i64 3), .c (.int .i64 5), .c (.int .i64 7)], none⟩,
  ⟨some 18, .build [.int .i64 0, .int .i64 0, .int .i64 0, .int .i64 0, .int .i64 0, .bool false] [(0, 1), (1, 1), (3, 1), (2, 1), (4, 1)], [.c (.int .i64 2), .c (.int .i64 1), .c (.int .i64 4), .c (.int .i64 1), .c (.int .i64 (-7))], none⟩,
  ⟨some 19, .bslice 67 6 [.int .i64 0, .int .i64 0, .int .i64 0, .int .i64 0, .int .i64 0, .bool false] 11 [0, 1, 2, 3, 4, 5, 6, 7, 8, 9, 10], [.t 8, .t 9, .t 10, .t 11, .t 12, .t 13, .t 14, .t 15, .t 16, .t 17, .t 18], none⟩,
  ⟨some 5, .mv, [.t 19], none⟩]
def a20r2 : List IOp := [⟨some 6, .mv, [.c (.nils)], none⟩]
def a20r3 : List IOp := [⟨some 20, .mv, [.t 0], none⟩,
  ⟨some 21, .call 15, [.t 20, .c (.int .i64 4)], none⟩,
  ⟨some 7, .mv, [.t 21], none⟩]
def a20r4 : List IOp := [⟨some 22, .mv, [.t 7], none⟩,
  ⟨some 23, .bin .gtr, [.t 22, .c (.int .i64 0)], none⟩]
def a20r5 : List IOp := [⟨some 26, .mv, [.t 6], none⟩,
  ⟨some 27, .mv, [.t 5], none⟩,
  ⟨some 28, .mv, [.t 0], none⟩,
  ⟨some 29, .mv, [.t 5], none⟩,
  ⟨some 30, .len, [.t 29], none⟩,
  ⟨some 31, .call 15, [.t 28, .t 30], none⟩,
  ⟨some 32, .indexAddr 6, [.t 27, .t 31], none⟩,
  ⟨some 33, .loadA 6, [.t 32], none⟩,
  ⟨some 34, .bslice 67 6 [.int .i64 0, .int .i64 0, .int .i64 0, .int .i64 0, .int .i64 0, .bool false] 1 [0], [.t 33], none⟩,
  ⟨some 35, .append 67 6 48, [.t 26, .t 34], none⟩,
  ⟨some 6, .mv, [.t 35], none⟩]
def a20r6 : List IOp := [⟨some 24, .mv, [.t 7], none⟩,
  ⟨some 25, .bin .sub, [.t 24, .c (.int .i64 1)], none⟩,
  ⟨some 7, .mv, [.t 25], none⟩]
def a20r7 : List IOp := [⟨some 36, .mv, [.t 1], none⟩,
  ⟨some 37, .mv, [.t 36], none⟩,
  ⟨some 38, .mv, [.t 0], some (37, true)⟩,
  ⟨some 39, .call 15, [.t 38, .c (.int .i64 6)], some (37, true)⟩,
  ⟨some 40, .bin .eql, [.t 39, .c (.int .i64 5)], some (37, true)⟩,
  ⟨some 41, .pick, [.t 37, .t 40, .c (.bool false)], none⟩]
def a20r8 : List IOp := [⟨some 42, .mv, [.t 6], none⟩,
  ⟨some 43, .mv, [.t 0], none⟩,
  ⟨some 44, .call 15, [.t 43, .c (.int .i64 4)], none⟩,
  ⟨some 45, .mv, [.t 0], none⟩,
  ⟨some 46, .call 15, [.t 45, .c (.int .i64 14)], none⟩,
  ⟨some 47, .mv, [.t 0], none⟩,
  ⟨some 48, .bslice 3 1 [.int .i64 0] 4 [0, 1, 2, 3], [.c (.int .i64 0), .c (.int .i64 6), .c (.int .i64 31), .c (.int .i64 (-1))], none⟩,
  ⟨some 49, .call 11, [.t 47, .t 48], none⟩,
  ⟨some 50, .mv, [.t 0], none⟩,
  ⟨some 51, .call 15, [.t 50, .c (.int .i64 8)], none⟩,
  ⟨some 52, .mv, [.t 0], none⟩,
  ⟨some 53, .bslice 3 1 [.int .i64 0] 3 [0, 1, 2], [.c (.int .i64 0), .c (.int .i64 8), .c (.int .i64 101)], none⟩,
  ⟨some 54, .call 11, [.t 52, .t 53], none⟩,
  ⟨some 55, .build [.int .i64 0, .int .i64 0, .int .i64 0, .int .i64 0, .int .i64 0, .bool false] [(0, 1), (1, 1), (2, 1), (3, 1), (4, 1)], [.t 44, .t 46, .t 49, .t 51, .t 54], none⟩,
  ⟨some 56, .bslice 67 6 [.int .i64 0, .int .i64 0, .int .i64 0, .int .i64 0, .int .i64 0, .bool false] 1 [0], [.t 55], none⟩,
  ⟨some 57, .append 67 6 48, [.t 42, .t 56], none⟩,
  ⟨some 6, .mv, [.t 57], none⟩]
def a20r9 : List IOp := [⟨some 58, .mv, [.t 6], none⟩,
  ⟨some 4, .mv, [.t 58], none⟩]
def a20 : AFunc := ⟨59, [.tmp 4], (.seq (.region a20r0 [0, 1]) (.seq (.region a20r1 [0, 1, 5]) (.seq (.region a20r2 [0, 1, 5, 6]) (.seq (.seq (.region a20r3 [0, 1, 5, 6, 7]) (.block 0 (.loop (.seq (.seq (.region a20r4 [0, 1, 5, 6, 7, 23]) (.cond (.t 23) .skip (.exit 0))) (.seq (.block 1 (.region a20r5 [0, 1, 5, 6, 7])) (.region a20r6 [0, 1, 5, 6, 7])))))) (.seq (.seq (.region a20r7 [0, 6, 41]) (.cond (.t 41) (.region a20r8 [6]) .skip)) (.seq (.region a20r9 [4]) .ret))))))⟩
theorem a20_ok : compileF Tryd.prog (lk [(0, ⟨[0, 1], [], []⟩), (1, ⟨[0, 1, 5], [], []⟩), (2, ⟨[0, 1, 5, 6], [], []⟩), (3, ⟨[0, 1, 5, 6, 7], [], []⟩), (4, ⟨[0, 1, 5, 6, 7, 23], [], []⟩), (5, ⟨[0, 1, 5, 6, 7], [], []⟩), (6, ⟨[0, 1, 5, 6, 7], [], []⟩), (7, ⟨[0, 6, 41], [], []⟩), (8, ⟨[6], [], []⟩), (9, ⟨[4], [], []⟩)]) Tryd.f20 = some a20 := by kernel_rfl

/- payroll/period.Weights -/
def a21r0 : List IOp := [⟨some 5, .box 24 2, [.t 0], none⟩,
  ⟨some 10, .mv, [.c (.nils)], none⟩,
  ⟨some 11, .mv, [.c (.int .i64 0)], none⟩]
def a21r1 : List IOp := [⟨some 20, .loadA 2, [.t 5], none⟩,
  ⟨some 21, .mv, [.t 1], none⟩,
  ⟨some 22, .call 17, [.t 20, .t 21], none⟩,
  ⟨some 19, .mv, [.t 22], none⟩,
  ⟨some 23, .extract 0, [.t 19], none⟩,
  ⟨some 24, .extract 1, [.t 19], none⟩,
  ⟨some 12, .alloc 40 [.int .i64 0, .int .i64 0], [], none⟩,
  ⟨none, .store 2, [.t 12, .t 23], none⟩,
  ⟨some 13, .mv, [.t 24], none⟩]
def a21r2 : List IOp := [⟨some 25, .mv, [.t 13], none⟩,
  ⟨some 26, .bin .neq, [.t 25, .c (.int .i64 0)], none⟩]
def a21r3 : List IOp := [⟨some 27, .mv, [.t 13], none⟩,
  ⟨some 10, .mv, [.c (.nils)], none⟩,
  ⟨some 11, .mv, [.t 27], none⟩]
def a21r4 : List IOp := [⟨some 28, .mv, [.t 3], none⟩]
def a21r5 : List IOp := [⟨some 30, .bin .eql, [.t 28, .c (.int .i64 0)], none⟩,
  ⟨some 29, .mv, [.t 30], none⟩]
def a21r6 : List IOp := [⟨some 31, .bin .eql, [.t 28, .c (.int .i64 1)], none⟩,
  ⟨some 29, .mv, [.t 31], none⟩]
def a21r7 : List IOp := [⟨some 33, .bin .eql, [.t 28, .c (.int .i64 2)], none⟩,
  ⟨some 32, .mv, [.t 33], none⟩]
def a21r8 : List IOp := [⟨some 34, .fieldAddr 0, [.t 5], none⟩,
  ⟨some 35, .load1, [.t 34], none⟩,
  ⟨some 36, .bin .neq, [.t 35, .c (.int .i64 0)], none⟩]
def a21r9 : List IOp := [⟨some 10, .mv, [.c (.nils)], none⟩,
  ⟨some 11, .mv, [.c (.int .i64 2)], none⟩]
def a21r10 : List IOp := [⟨some 10, .mv, [.c (.nils)], none⟩,
  ⟨some 11, .mv, [.c (.int .i64 2)], none⟩]
def a21r11 : List IOp := [⟨some 38, .loadA 2, [.t 12], none⟩,
  ⟨some 39, .mv, [.t 2], none⟩,
  ⟨some 40, .call 35, [.t 38, .t 39], none⟩,
  ⟨some 37, .mv, [.t 40], none⟩,
  ⟨some 41, .extract 0, [.t 37], none⟩,
  ⟨some 42, .extract 1, [.t 37], none⟩,
  ⟨some 14, .mv, [.t 41], none⟩,
  ⟨some 13, .mv, [.t 42], none⟩]
def a21r12 : List IOp := [⟨some 43, .mv, [.t 13], none⟩,
  ⟨some 44, .bin .neq, [.t 43, .c (.int .i64 0)], none⟩]
def a21r13 : List IOp := [⟨some 45, .mv, [.t 13], none⟩,
  ⟨some 10, .mv, [.c (.nils)], none⟩,
  ⟨some 11, .mv, [.t 45], none⟩]
def a21r14 : List IOp := [⟨some 46, .mv, [.t 4], none⟩,
  ⟨some 47, .call 36, [.t 46], none⟩,
  ⟨some 15, .mv, [.t 47], none⟩]
def a21r15 : List IOp := [⟨some 48, .mv, [.t 15], none⟩,
  ⟨some 49, .bin .neq, [.t 48, .c (.int .i64 0)], none⟩]
def a21r16 : List IOp := [⟨some 50, .mv, [.t 15], none⟩,
  ⟨some 10, .mv, [.c (.nils)], none⟩,
  ⟨some 11, .mv, [.t 50], none⟩]
def a21r17 : List IOp := [⟨some 51, .mv, [.t 14], none⟩,
  ⟨some 52, .len, [.t 51], none⟩,
  ⟨some 53, .mkslice 3 1 8 [.int .i64 0], [.t 52, .t 52], none⟩,
  ⟨some 16, .mv, [.t 53], none⟩]
def a21r18 : List IOp := [⟨some 54, .mv, [.t 14], none⟩,
  ⟨some 55, .len, [.t 54], none⟩,
  ⟨some 56, .mv, [.c (.int .i64 0)], none⟩]
def a21r19 : List IOp := [⟨some 57, .bin .lss, [.t 56, .t 55], none⟩]
def a21r20 : List IOp := [⟨some 58, .mv, [.t 56], none⟩,
  ⟨some 59, .indexAddr 2, [.t 54, .t 56], none⟩,
  ⟨some 60, .loadA 2, [.t 59], none⟩,
  ⟨some 18, .alloc 40 [.int .i64 0, .int .i64 0], [], none⟩,
  ⟨some 17, .mv, [.t 58], none⟩,
  ⟨none, .store 2, [.t 18, .t 60], none⟩]
def a21r21 : List IOp := [⟨some 61, .mv, [.t 16], none⟩,
  ⟨some 62, .mv, [.t 17], none⟩,
  ⟨some 63, .fieldAddr 1, [.t 18], none⟩,
  ⟨some 64, .load1, [.t 63], none⟩,
  ⟨some 65, .fieldAddr 0, [.t 18], none⟩,
  ⟨some 66, .load1, [.t 65], none⟩,
  ⟨some 67, .bin .sub, [.t 64, .t 66], none⟩,
  ⟨some 68, .bin .add, [.t 67, .c (.int .i64 1)], none⟩,
  ⟨some 69, .indexAddr 1, [.t 61, .t 62], none⟩,
  ⟨none, .store 1, [.t 69, .t 68], none⟩]
def a21r22 : List IOp := [⟨some 71, .mv, [.t 3], none⟩,
  ⟨some 72, .bin .eql, [.t 71, .c (.int .i64 1)], none⟩,
  ⟨some 70, .mv, [.t 72], none⟩]
def a21r23 : List IOp := [⟨some 74, .mv, [.t 16], none⟩,
  ⟨some 75, .mv, [.t 17], none⟩,
  ⟨some 76, .mv, [.t 4], none⟩,
  ⟨some 77, .fieldAddr 0, [.t 18], none⟩,
  ⟨some 78, .load1, [.t 77], none⟩,
  ⟨some 79, .fieldAddr 1, [.t 18], none⟩,
  ⟨some 80, .load1, [.t 79], none⟩,
  ⟨some 81, .call 37, [.t 76, .t 78, .t 80], none⟩,
  ⟨some 73, .mv, [.t 81], none⟩,
  ⟨some 82, .extract 0, [.t 73], none⟩,
  ⟨some 83, .extract 1, [.t 73], none⟩,
  ⟨some 84, .indexAddr 1, [.t 74, .t 75], none⟩,
  ⟨none, .store 1, [.t 84, .t 82], none⟩,
  ⟨some 13, .mv, [.t 83], none⟩]
def a21r24 : List IOp := [⟨some 85, .mv, [.t 13], none⟩,
  ⟨some 86, .bin .neq, [.t 85, .c (.int .i64 0)], none⟩]
def a21r25 : List IOp := [⟨some 87, .mv, [.t 13], none⟩,
  ⟨some 10, .mv, [.c (.nils)], none⟩,
  ⟨some 11, .mv, [.t 87], none⟩]
def a21r26 : List IOp := [⟨some 89, .mv, [.t 3], none⟩,
  ⟨some 90, .bin .eql, [.t 89, .c (.int .i64 2)], none⟩,
  ⟨some 91, .mv, [.t 90], none⟩,
  ⟨some 92, .fieldAddr 1, [.t 18], some (91, true)⟩,
  ⟨some 93, .load1, [.t 92], some (91, true)⟩,
  ⟨some 94, .fieldAddr 1, [.t 12], some (91, true)⟩,
  ⟨some 95, .load1, [.t 94], some (91, true)⟩,
  ⟨some 96, .bin .eql, [.t 93, .t 95], some (91, true)⟩,
  ⟨some 97, .pick, [.t 91, .t 96, .c (.bool false)], none⟩,
  ⟨some 88, .mv, [.t 97], none⟩]
def a21r27 : List (Nat × DOp) := [(0, ⟨⟨some 98, .mv, [.t 16], none⟩, none, [1, 4, 5, 6, 7, 8, 9, 10]⟩),
  (1, ⟨⟨some 99, .mv, [.t 17], none⟩, none, [0, 4, 5, 6, 7, 8, 9, 10]⟩),
  (2, ⟨⟨some 100, .indexAddr 1, [.t 98, .t 99], none⟩, none, [4, 5, 6, 7, 8, 9, 10]⟩),
  (3, ⟨⟨some 101, .load1, [.t 100], none⟩, none, [4, 5, 6, 7, 8, 9, 10]⟩),
  (4, ⟨⟨some 102, .fieldAddr 1, [.t 12], none⟩, none, [0, 1, 2, 3, 6, 7]⟩),
  (5, ⟨⟨some 103, .load1, [.t 102], none⟩, none, [0, 1, 2, 3, 6, 7]⟩),
  (6, ⟨⟨some 104, .fieldAddr 0, [.t 12], none⟩, none, [0, 1, 2, 3, 4, 5]⟩),
  (7, ⟨⟨some 105, .load1, [.t 104], none⟩, none, [0, 1, 2, 3, 4, 5]⟩),
  (8, ⟨⟨some 106, .bin .sub, [.t 103, .t 105], none⟩, none, [0, 1, 2, 3]⟩),
  (9, ⟨⟨some 107, .bin .add, [.t 106, .c (.int .i64 1)], none⟩, none, [0, 1, 2, 3]⟩),
  (10, ⟨⟨some 108, .bin .sub, [.c (.int .i64 30), .t 107], none⟩, none, [0, 1, 2, 3]⟩),
  (11, ⟨⟨some 109, .bin .add, [.t 101, .t 108], none⟩, none, []⟩),
  (12, ⟨⟨some 110, .indexAddr 1, [.t 98, .t 99], none⟩, none, []⟩),
  (13, ⟨⟨none, .store 1, [.t 110, .t 109], none⟩, none, []⟩)]
def a21r28 : List IOp := [⟨some 111, .bin .add, [.t 56, .c (.int .i64 1)], none⟩,
  ⟨some 56, .mv, [.t 111], none⟩]
def a21r29 : List IOp := [⟨some 112, .mv, [.t 16], none⟩,
  ⟨some 10, .mv, [.t 112], none⟩,
  ⟨some 11, .mv, [.c (.int .i64 0)], none⟩]
def a21 : AFunc := ⟨113, [.tmp 10, .tmp 11], (.seq (.region a21r0 [1, 2, 3, 4, 5]) (.seq (.region a21r1 [2, 3, 4, 5, 12, 13]) (.seq (.seq (.region a21r2 [2, 3, 4, 5, 12, 13, 26]) (.cond (.t 26) (.seq (.region a21r3 [10, 11]) .ret) .skip)) (.seq (.seq (.region a21r4 [2, 3, 4, 5, 12, 28]) (.block 0 (.seq (.seq (.region a21r5 [2, 3, 4, 5, 12, 28, 29]) (.cond (.t 29) .skip (.region a21r6 [2, 3, 4, 5, 12, 28, 29]))) (.cond (.t 29) .skip (.seq (.region a21r7 [2, 3, 4, 5, 12, 32]) (.cond (.t 32) (.seq (.region a21r8 [2, 3, 4, 12, 36]) (.cond (.t 36) (.seq (.region a21r9 [10, 11]) .ret) .skip)) (.seq (.region a21r10 [10, 11]) .ret))))))) (.seq (.region a21r11 [3, 4, 12, 13, 14]) (.seq (.seq (.region a21r12 [3, 4, 12, 13, 14, 44]) (.cond (.t 44) (.seq (.region a21r13 [10, 11]) .ret) .skip)) (.seq (.seq (.region a21r14 [3, 4, 12, 14, 15]) (.seq (.region a21r15 [3, 4, 12, 14, 15, 49]) (.cond (.t 49) (.seq (.region a21r16 [10, 11]) .ret) .skip))) (.seq (.region a21r17 [3, 4, 12, 14, 16]) (.seq (.seq (.region a21r18 [3, 4, 12, 16, 54, 55, 56]) (.block 1 (.loop (.seq (.region a21r19 [3, 4, 12, 16, 54, 55, 56, 57]) (.seq (.cond (.t 57) .skip (.exit 1)) (.seq (.block 2 (.seq (.region a21r20 [3, 4, 12, 16, 17, 18, 54, 55, 56]) (.seq (.region a21r21 [3, 4, 12, 16, 17, 18, 54, 55, 56]) (.block 3 (.seq (.region a21r22 [3, 4, 12, 16, 17, 18, 54, 55, 56, 70]) (.cond (.t 70) (.seq (.region a21r23 [3, 4, 12, 13, 16, 54, 55, 56]) (.seq (.region a21r24 [3, 4, 12, 13, 16, 54, 55, 56, 86]) (.cond (.t 86) (.seq (.region a21r25 [10, 11]) .ret) .skip))) (.seq (.region a21r26 [3, 4, 12, 16, 17, 54, 55, 56, 88]) (.cond (.t 88) (.draw a21r27 [] [3, 4, 12, 16, 54, 55, 56]) .skip)))))))) (.region a21r28 [3, 4, 12, 16, 54, 55, 56]))))))) (.seq (.region a21r29 [10, 11]) .ret))))))))))⟩
theorem a21_ok : compileF Tryd.prog (lk [(0, ⟨[1, 2, 3, 4, 5], [], []⟩), (1, ⟨[2, 3, 4, 5, 12, 13], [], []⟩), (2, ⟨[2, 3, 4, 5, 12, 13, 26], [], []⟩), (3, ⟨[10, 11], [], []⟩), (4, ⟨[2, 3, 4, 5, 12, 28], [], []⟩), (5, ⟨[10, 11], [], []⟩), (6, ⟨[2, 3, 4, 5, 12, 28, 29], [], []⟩), (7, ⟨[2, 3, 4, 5, 12, 28, 29], [], []⟩), (8, ⟨[2, 3, 4, 5, 12, 32], [], []⟩), (9, ⟨[2, 3, 4, 12, 36], [], []⟩), (10, ⟨[10, 11], [], []⟩), (11, ⟨[3, 4, 12, 13, 14], [], []⟩), (12, ⟨[3, 4, 12, 13, 14, 44], [], []⟩), (13, ⟨[10, 11], [], []⟩), (14, ⟨[3, 4, 12, 14, 15], [], []⟩), (15, ⟨[3, 4, 12, 14, 15, 49], [], []⟩), (16, ⟨[10, 11], [], []⟩), (17, ⟨[3, 4, 12, 14, 16], [], []⟩), (18, ⟨[3, 4, 12, 16, 54, 55, 56], [], []⟩), (19, ⟨[3, 4, 12, 16, 54, 55, 56, 57], [], []⟩), (20, ⟨[3, 4, 12, 16, 17, 18, 54, 55, 56], [], []⟩), (21, ⟨[3, 4, 12, 16, 17, 18, 54, 55, 56], [], []⟩), (22, ⟨[3, 4, 12, 16, 17, 18, 54, 55, 56, 70], [], []⟩), (23, ⟨[3, 4, 12, 13, 16, 54, 55, 56], [], []⟩), (24, ⟨[3, 4, 12, 13, 16, 54, 55, 56, 86], [], []⟩), (25, ⟨[10, 11], [], []⟩), (26, ⟨[3, 4, 12, 16, 17, 54, 55, 56, 88], [], []⟩), (27, ⟨[3, 4, 12, 16, 54, 55, 56], [[], [], [0, 1], [2, 0, 1], [], [4], [], [6], [5, 7, 4, 6], [8, 5, 7, 4, 6], [9, 8, 5, 7, 4, 6], [3, 10, 2, 0, 1, 9, 8, 5, 7, 4, 6], [0, 1, 2, 3, 4, 5, 6, 7, 8, 9, 10, 11], [12, 11, 0, 1, 2, 3, 4, 5, 6, 7, 8, 9, 10]], [0, 1, 2, 3, 4, 5, 6, 7, 8, 9, 10, 11, 12, 13]⟩), (28, ⟨[3, 4, 12, 16, 54, 55, 56], [], []⟩), (29, ⟨[10, 11], [], []⟩)]) Tryd.f21 = some a21 := by kernel_rfl

/- payroll/period.Portions -/
def a22r0 : List IOp := [⟨some 5, .box 24 2, [.t 0], none⟩,
  ⟨some 10, .mv, [.c (.nils)], none⟩,
  ⟨some 11, .mv, [.c (.int .i64 0)], none⟩]
def a22r1 : List IOp := [⟨some 21, .loadA 2, [.t 5], none⟩,
  ⟨some 22, .mv, [.t 1], none⟩,
  ⟨some 23, .mv, [.t 2], none⟩,
  ⟨some 24, .mv, [.t 3], none⟩,
  ⟨some 25, .mv, [.t 4], none⟩,
  ⟨some 26, .call 21, [.t 21, .t 22, .t 23, .t 24, .t 25], none⟩,
  ⟨some 20, .mv, [.t 26], none⟩,
  ⟨some 27, .extract 0, [.t 20], none⟩,
  ⟨some 28, .extract 1, [.t 20], none⟩,
  ⟨some 12, .mv, [.t 27], none⟩,
  ⟨some 13, .mv, [.t 28], none⟩]
def a22r2 : List IOp := [⟨some 29, .mv, [.t 13], none⟩,
  ⟨some 30, .bin .neq, [.t 29, .c (.int .i64 0)], none⟩]
def a22r3 : List IOp := [⟨some 31, .mv, [.t 13], none⟩,
  ⟨some 10, .mv, [.c (.nils)], none⟩,
  ⟨some 11, .mv, [.t 31], none⟩]
def a22r4 : List IOp := [⟨some 14, .mv, [.c (.int .i64 0)], none⟩]
def a22r5 : List IOp := [⟨some 32, .mv, [.t 12], none⟩,
  ⟨some 33, .len, [.t 32], none⟩,
  ⟨some 34, .mv, [.c (.int .i64 0)], none⟩]
def a22r6 : List IOp := [⟨some 35, .bin .lss, [.t 34, .t 33], none⟩]
def a22r7 : List IOp := [⟨some 36, .indexAddr 1, [.t 32, .t 34], none⟩,
  ⟨some 37, .load1, [.t 36], none⟩,
  ⟨some 16, .mv, [.t 37], none⟩]
def a22r8 : List IOp := [⟨some 38, .mv, [.t 14], none⟩,
  ⟨some 39, .mv, [.t 16], none⟩,
  ⟨some 40, .bin .add, [.t 38, .t 39], none⟩,
  ⟨some 14, .mv, [.t 40], none⟩]
def a22r9 : List IOp := [⟨some 41, .bin .add, [.t 34, .c (.int .i64 1)], none⟩,
  ⟨some 34, .mv, [.t 41], none⟩]
def a22r10 : List IOp := [⟨some 42, .mv, [.t 12], none⟩,
  ⟨some 43, .len, [.t 42], none⟩,
  ⟨some 44, .mkslice 53 2 16 [.int .i64 0, .int .i64 0], [.t 43, .t 43], none⟩,
  ⟨some 17, .mv, [.t 44], none⟩]
def a22r11 : List IOp := [⟨some 45, .mv, [.t 12], none⟩,
  ⟨some 46, .len, [.t 45], none⟩,
  ⟨some 47, .mv, [.c (.int .i64 0)], none⟩]
def a22r12 : List IOp := [⟨some 48, .bin .lss, [.t 47, .t 46], none⟩]
def a22r13 : List IOp := [⟨some 49, .mv, [.t 47], none⟩,
  ⟨some 50, .indexAddr 1, [.t 45, .t 47], none⟩,
  ⟨some 51, .load1, [.t 50], none⟩,
  ⟨some 18, .mv, [.t 49], none⟩,
  ⟨some 19, .mv, [.t 51], none⟩]
def a22r14 : List IOp := [⟨some 53, .mv, [.t 17], none⟩,
  ⟨some 54, .mv, [.t 18], none⟩,
  ⟨some 55, .mv, [.t 19], none⟩,
  ⟨some 56, .mv, [.t 14], none⟩,
  ⟨some 57, .call 38, [.t 55, .t 56], none⟩,
  ⟨some 52, .mv, [.t 57], none⟩,
  ⟨some 58, .extract 0, [.t 52], none⟩,
  ⟨some 59, .extract 1, [.t 52], none⟩,
  ⟨some 60, .indexAddr 2, [.t 53, .t 54], none⟩,
  ⟨none, .store 2, [.t 60, .t 58], none⟩,
  ⟨some 13, .mv, [.t 59], none⟩]
def a22r15 : List IOp := [⟨some 61, .mv, [.t 13], none⟩,
  ⟨some 62, .bin .neq, [.t 61, .c (.int .i64 0)], none⟩]
def a22r16 : List IOp := [⟨some 63, .mv, [.t 13], none⟩,
  ⟨some 10, .mv, [.c (.nils)], none⟩,
  ⟨some 11, .mv, [.t 63], none⟩]
def a22r17 : List IOp := [⟨some 64, .bin .add, [.t 47, .c (.int .i64 1)], none⟩,
  ⟨some 47, .mv, [.t 64], none⟩]
def a22r18 : List IOp := [⟨some 65, .mv, [.t 17], none⟩,
  ⟨some 10, .mv, [.t 65], none⟩,
  ⟨some 11, .mv, [.c (.int .i64 0)], none⟩]
def a22 : AFunc := ⟨66, [.tmp 10, .tmp 11], (.seq (.region a22r0 [1, 2, 3, 4, 5]) (.seq (.region a22r1 [12, 13]) (.seq (.seq (.region a22r2 [12, 13, 30]) (.cond (.t 30) (.seq (.region a22r3 [10, 11]) .ret) .skip)) (.seq (.region a22r4 [12, 14]) (.seq (.seq (.region a22r5 [12, 14, 32, 33, 34]) (.block 0 (.loop (.seq (.region a22r6 [12, 14, 32, 33, 34, 35]) (.seq (.cond (.t 35) .skip (.exit 0)) (.seq (.block 1 (.seq (.region a22r7 [12, 14, 16, 32, 33, 34]) (.region a22r8 [12, 14, 32, 33, 34]))) (.region a22r9 [12, 14, 32, 33, 34]))))))) (.seq (.region a22r10 [12, 14, 17]) (.seq (.seq (.region a22r11 [14, 17, 45, 46, 47]) (.block 2 (.loop (.seq (.region a22r12 [14, 17, 45, 46, 47, 48]) (.seq (.cond (.t 48) .skip (.exit 2)) (.seq (.block 3 (.seq (.region a22r13 [14, 17, 18, 19, 45, 46, 47]) (.seq (.region a22r14 [13, 14, 17, 45, 46, 47]) (.seq (.region a22r15 [13, 14, 17, 45, 46, 47, 62]) (.cond (.t 62) (.seq (.region a22r16 [10, 11]) .ret) .skip))))) (.region a22r17 [14, 17, 45, 46, 47]))))))) (.seq (.region a22r18 [10, 11]) .ret))))))))⟩
theorem a22_ok : compileF Tryd.prog (lk [(0, ⟨[1, 2, 3, 4, 5], [], []⟩), (1, ⟨[12, 13], [], []⟩), (2, ⟨[12, 13, 30], [], []⟩), (3, ⟨[10, 11], [], []⟩), (4, ⟨[12, 14], [], []⟩), (5, ⟨[12, 14, 32, 33, 34], [], []⟩), (6, ⟨[12, 14, 32, 33, 34, 35], [], []⟩), (7, ⟨[12, 14, 16, 32, 33, 34], [], []⟩), (8, ⟨[12, 14, 32, 33, 34], [], []⟩), (9, ⟨[12, 14, 32, 33, 34], [], []⟩), (10, ⟨[12, 14, 17], [], []⟩), (11, ⟨[14, 17, 45, 46, 47], [], []⟩), (12, ⟨[14, 17, 45, 46, 47, 48], [], []⟩), (13, ⟨[14, 17, 18, 19, 45, 46, 47], [], []⟩), (14, ⟨[13, 14, 17, 45, 46, 47], [], []⟩), (15, ⟨[13, 14, 17, 45, 46, 47, 62], [], []⟩), (16, ⟨[10, 11], [], []⟩), (17, ⟨[14, 17, 45, 46, 47], [], []⟩), (18, ⟨[10, 11], [], []⟩)]) Tryd.f22 = some a22 := by kernel_rfl

/- payroll/period.Divide -/
def a23r0 : List IOp := [⟨some 7, .box 24 2, [.t 1], none⟩,
  ⟨some 12, .mv, [.c (.nils)], none⟩,
  ⟨some 13, .mv, [.c (.int .i64 0)], none⟩]
def a23r1 : List IOp := [⟨some 17, .loadA 2, [.t 7], none⟩,
  ⟨some 18, .mv, [.t 2], none⟩,
  ⟨some 19, .mv, [.t 3], none⟩,
  ⟨some 20, .mv, [.t 4], none⟩,
  ⟨some 21, .mv, [.t 5], none⟩,
  ⟨some 22, .call 21, [.t 17, .t 18, .t 19, .t 20, .t 21], none⟩,
  ⟨some 16, .mv, [.t 22], none⟩,
  ⟨some 23, .extract 0, [.t 16], none⟩,
  ⟨some 24, .extract 1, [.t 16], none⟩,
  ⟨some 14, .mv, [.t 23], none⟩,
  ⟨some 15, .mv, [.t 24], none⟩]
def a23r2 : List IOp := [⟨some 25, .mv, [.t 15], none⟩,
  ⟨some 26, .bin .neq, [.t 25, .c (.int .i64 0)], none⟩]
def a23r3 : List IOp := [⟨some 27, .mv, [.t 15], none⟩,
  ⟨some 12, .mv, [.c (.nils)], none⟩,
  ⟨some 13, .mv, [.t 27], none⟩]
def a23r4 : List IOp := [⟨some 28, .mv, [.t 0], none⟩,
  ⟨some 29, .mv, [.t 14], none⟩,
  ⟨some 30, .call 39, [.t 28, .t 29], none⟩,
  ⟨some 31, .extract 0, [.t 30], none⟩,
  ⟨some 32, .extract 1, [.t 30], none⟩,
  ⟨some 12, .mv, [.t 31], none⟩,
  ⟨some 13, .mv, [.t 32], none⟩]
def a23 : AFunc := ⟨33, [.tmp 12, .tmp 13], (.seq (.region a23r0 [0, 2, 3, 4, 5, 7]) (.seq (.region a23r1 [0, 14, 15]) (.seq (.seq (.region a23r2 [0, 14, 15, 26]) (.cond (.t 26) (.seq (.region a23r3 [12, 13]) .ret) .skip)) (.seq (.region a23r4 [12, 13]) .ret))))⟩
theorem a23_ok : compileF Tryd.prog (lk [(0, ⟨[0, 2, 3, 4, 5, 7], [], []⟩), (1, ⟨[0, 14, 15], [], []⟩), (2, ⟨[0, 14, 15, 26], [], []⟩), (3, ⟨[12, 13], [], []⟩), (4, ⟨[12, 13], [], []⟩)]) Tryd.f23 = some a23 := by kernel_rfl

/- payroll/payrollref1.Add -/
def a24r0 : List IOp := [⟨some 2, .box 53 2, [.t 0], none⟩,
  ⟨some 3, .box 53 2, [.t 1], none⟩,
  ⟨some 4, .alloc 53 [.int .i64 0, .int .i64 0], [], none⟩,
  ⟨some 5, .mv, [.c (.int .i64 0)], none⟩]
def a24r1 : List IOp := [⟨some 6, .loadA 2, [.t 2], none⟩,
  ⟨some 7, .call 40, [.t 6], none⟩,
  ⟨some 8, .not, [.t 7], none⟩,
  ⟨some 9, .mv, [.t 8], none⟩,
  ⟨some 10, .loadA 2, [.t 3], some (9, false)⟩,
  ⟨some 11, .call 40, [.t 10], some (9, false)⟩,
  ⟨some 12, .not, [.t 11], some (9, false)⟩,
  ⟨some 13, .pick, [.t 9, .c (.bool true), .t 12], none⟩]
def a24r2 : List IOp := [⟨some 14, .build [.int .i64 0, .int .i64 0] [], [], none⟩,
  ⟨none, .store 2, [.t 4, .t 14], none⟩,
  ⟨some 5, .mv, [.c (.int .i64 1)], none⟩]
def a24r3 : List IOp := [⟨some 15, .fieldAddr 0, [.t 2], none⟩,
  ⟨some 16, .load1, [.t 15], none⟩,
  ⟨some 17, .fieldAddr 1, [.t 3], none⟩,
  ⟨some 18, .load1, [.t 17], none⟩,
  ⟨some 19, .bin .mul, [.t 16, .t 18], none⟩,
  ⟨some 20, .fieldAddr 0, [.t 3], none⟩,
  ⟨some 21, .load1, [.t 20], none⟩,
  ⟨some 22, .fieldAddr 1, [.t 2], none⟩,
  ⟨some 23, .load1, [.t 22], none⟩,
  ⟨some 24, .bin .mul, [.t 21, .t 23], none⟩,
  ⟨some 25, .bin .add, [.t 19, .t 24], none⟩,
  ⟨some 26, .fieldAddr 1, [.t 2], none⟩,
  ⟨some 27, .load1, [.t 26], none⟩,
  ⟨some 28, .fieldAddr 1, [.t 3], none⟩,
  ⟨some 29, .load1, [.t 28], none⟩,
  ⟨some 30, .bin .mul, [.t 27, .t 29], none⟩,
  ⟨some 31, .call 41, [.t 25, .t 30], none⟩,
  ⟨some 32, .extract 0, [.t 31], none⟩,
  ⟨some 33, .extract 1, [.t 31], none⟩,
  ⟨none, .store 2, [.t 4, .t 32], none⟩,
  ⟨some 5, .mv, [.t 33], none⟩]
def a24 : AFunc := ⟨34, [.cellA 4 2, .tmp 5], (.seq (.region a24r0 [2, 3, 4]) (.seq (.seq (.region a24r1 [2, 3, 4, 13]) (.cond (.t 13) (.seq (.region a24r2 [4, 5]) .ret) .skip)) (.seq (.region a24r3 [4, 5]) .ret)))⟩
theorem a24_ok : compileF Tryd.prog (lk [(0, ⟨[2, 3, 4], [], []⟩), (1, ⟨[2, 3, 4, 13], [], []⟩), (2, ⟨[4, 5], [], []⟩), (3, ⟨[4, 5], [], []⟩)]) Tryd.f24 = some a24 := by kernel_rfl

/- payroll/payrollref5.Valid -/
def a25r0 : List IOp := [⟨some 1, .box 24 2, [.t 0], none⟩,
  ⟨some 2, .mv, [.c (.int .i64 0)], none⟩]
def a25r1 : List IOp := [⟨some 3, .fieldAddr 0, [.t 1], none⟩,
  ⟨some 4, .load1, [.t 3], none⟩]
def a25r2 : List IOp := [⟨some 6, .bin .eql, [.t 4, .c (.int .i64 0)], none⟩,
  ⟨some 5, .mv, [.t 6], none⟩]
def a25r3 : List IOp := [⟨some 7, .bin .eql, [.t 4, .c (.int .i64 1)], none⟩,
  ⟨some 5, .mv, [.t 7], none⟩]
def a25r4 : List IOp := [⟨some 8, .fieldAddr 1, [.t 1], none⟩,
  ⟨some 9, .load1, [.t 8], none⟩,
  ⟨some 10, .bin .eql, [.t 9, .c (.int .i64 0)], none⟩]
def a25r5 : List IOp := [⟨some 2, .mv, [.c (.int .i64 0)], none⟩]
def a25r6 : List IOp := [⟨some 12, .bin .eql, [.t 4, .c (.int .i64 2)], none⟩,
  ⟨some 11, .mv, [.t 12], none⟩]
def a25r7 : List IOp := [⟨some 13, .bin .eql, [.t 4, .c (.int .i64 3)], none⟩,
  ⟨some 11, .mv, [.t 13], none⟩]
def a25r8 : List (Nat × DOp) := [(0, ⟨⟨some 14, .fieldAddr 1, [.t 1], none⟩, none, []⟩),
  (1, ⟨⟨some 15, .load1, [.t 14], none⟩, none, []⟩),
  (2, ⟨⟨some 16, .bin .geq, [.t 15, .c (.int .i64 0)], none⟩, none, []⟩),
  (3, ⟨⟨some 17, .mv, [.t 16], none⟩, none, []⟩),
  (4, ⟨⟨some 18, .fieldAddr 1, [.t 1], some (17, true)⟩, none, [6, 7]⟩),
  (5, ⟨⟨some 19, .load1, [.t 18], some (17, true)⟩, none, [6, 7]⟩),
  (6, ⟨⟨some 20, .loadA 2, [.t 1], some (17, true)⟩, none, [4, 5]⟩),
  (7, ⟨⟨some 21, .call 34, [.t 20], some (17, true)⟩, none, [4, 5]⟩),
  (8, ⟨⟨some 22, .bin .lss, [.t 19, .t 21], some (17, true)⟩, none, []⟩),
  (9, ⟨⟨some 23, .pick, [.t 17, .t 22, .c (.bool false)], none⟩, none, []⟩)]
def a25r9 : List IOp := [⟨some 2, .mv, [.c (.int .i64 0)], none⟩]
def a25r10 : List IOp := [⟨some 2, .mv, [.c (.int .i64 2)], none⟩]
def a25 : AFunc := ⟨24, [.tmp 2], (.seq (.region a25r0 [1]) (.seq (.seq (.region a25r1 [1, 4]) (.block 0 (.seq (.seq (.region a25r2 [1, 4, 5]) (.cond (.t 5) .skip (.region a25r3 [1, 4, 5]))) (.cond (.t 5) (.seq (.region a25r4 [10]) (.cond (.t 10) (.seq (.region a25r5 [2]) .ret) .skip)) (.seq (.seq (.region a25r6 [1, 4, 11]) (.cond (.t 11) .skip (.region a25r7 [1, 11]))) (.cond (.t 11) (.seq (.draw a25r8 [] [23]) (.cond (.t 23) (.seq (.region a25r9 [2]) .ret) .skip)) .skip)))))) (.seq (.region a25r10 [2]) .ret)))⟩
theorem a25_ok : compileF Tryd.prog (lk [(0, ⟨[1], [], []⟩), (1, ⟨[1, 4], [], []⟩), (2, ⟨[1, 4, 5], [], []⟩), (3, ⟨[1, 4, 5], [], []⟩), (4, ⟨[10], [], []⟩), (5, ⟨[2], [], []⟩), (6, ⟨[1, 4, 11], [], []⟩), (7, ⟨[1, 11], [], []⟩), (8, ⟨[23], [[], [0], [1, 0], [2, 1, 0], [3, 2, 1, 0], [4, 3, 2, 1, 0], [3, 2, 1, 0], [6, 3, 2, 1, 0], [5, 7, 3, 4, 2, 1, 0, 6], [3, 8, 2, 1, 0, 5, 7, 4, 6]], [0, 1, 2, 3, 4, 5, 6, 7, 8, 9]⟩), (9, ⟨[2], [], []⟩), (10, ⟨[2], [], []⟩)]) Tryd.f25 = some a25 := by kernel_rfl

/- payroll/payrollref3.InDays -/
def a26r0 : List IOp := [⟨some 2, .mv, [.c (.bool false)], none⟩]
def a26r1 : List IOp := [⟨some 3, .mv, [.t 0], none⟩,
  ⟨some 4, .bin .geq, [.t 3, .c (.int .i64 0)], none⟩,
  ⟨some 5, .mv, [.t 4], none⟩,
  ⟨some 6, .mv, [.t 0], some (5, true)⟩,
  ⟨some 7, .bin .leq, [.t 6, .c (.int .i64 84005)], some (5, true)⟩,
  ⟨some 8, .pick, [.t 5, .t 7, .c (.bool false)], none⟩,
  ⟨some 2, .mv, [.t 8], none⟩]
def a26 : AFunc := ⟨9, [.tmp 2], (.seq (.region a26r0 [0]) (.seq (.region a26r1 [2]) .ret))⟩
theorem a26_ok : compileF Tryd.prog (lk [(0, ⟨[0], [], []⟩), (1, ⟨[2], [], []⟩)]) Tryd.f26 = some a26 := by kernel_rfl

/- payroll/payrollref5.of -/
def a27r0 : List IOp := [⟨some 2, .box 24 2, [.t 0], none⟩,
  ⟨some 4, .mv, [.c (.int .i64 0)], none⟩]
def a27r1 : List IOp := [⟨some 11, .fieldAddr 0, [.t 2], none⟩,
  ⟨some 12, .load1, [.t 11], none⟩]
def a27r2 : List IOp := [⟨some 14, .bin .eql, [.t 12, .c (.int .i64 0)], none⟩,
  ⟨some 13, .mv, [.t 14], none⟩]
def a27r3 : List IOp := [⟨some 15, .mv, [.t 1], none⟩,
  ⟨some 16, .call 42, [.t 15], none⟩,
  ⟨some 4, .mv, [.t 16], none⟩]
def a27r4 : List IOp := [⟨some 18, .bin .eql, [.t 12, .c (.int .i64 1)], none⟩,
  ⟨some 17, .mv, [.t 18], none⟩]
def a27r5 : List IOp := [⟨some 19, .mv, [.t 1], none⟩,
  ⟨some 20, .call 42, [.t 19], none⟩,
  ⟨some 21, .bin .mul, [.c (.int .i64 2), .t 20], none⟩,
  ⟨some 5, .mv, [.t 21], none⟩]
def a27r6 : List IOp := [⟨some 23, .mv, [.t 1], none⟩,
  ⟨some 24, .call 43, [.t 23], none⟩,
  ⟨some 22, .mv, [.t 24], none⟩,
  ⟨some 25, .extract 0, [.t 22], none⟩,
  ⟨some 26, .extract 1, [.t 22], none⟩,
  ⟨some 27, .extract 2, [.t 22], none⟩,
  ⟨some 28, .extract 3, [.t 22], none⟩,
  ⟨some 6, .mv, [.t 25], none⟩,
  ⟨some 7, .mv, [.t 26], none⟩,
  ⟨some 8, .mv, [.t 27], none⟩,
  ⟨some 9, .mv, [.t 28], none⟩]
def a27r7 : List IOp := [⟨some 29, .mv, [.t 8], none⟩,
  ⟨some 30, .bin .gtr, [.t 29, .c (.int .i64 15)], none⟩]
def a27r8 : List IOp := [⟨some 31, .mv, [.t 5], none⟩,
  ⟨some 32, .bin .add, [.t 31, .c (.int .i64 1)], none⟩,
  ⟨some 5, .mv, [.t 32], none⟩]
def a27r9 : List IOp := [⟨some 33, .mv, [.t 5], none⟩,
  ⟨some 4, .mv, [.t 33], none⟩]
def a27r10 : List IOp := [⟨some 34, .loadA 2, [.t 2], none⟩,
  ⟨some 35, .call 34, [.t 34], none⟩,
  ⟨some 10, .mv, [.t 35], none⟩]
def a27r11 : List IOp := [⟨some 36, .mv, [.t 1], none⟩,
  ⟨some 37, .mv, [.t 10], none⟩,
  ⟨some 38, .fieldAddr 1, [.t 2], none⟩,
  ⟨some 39, .load1, [.t 38], none⟩,
  ⟨some 40, .bin .sub, [.t 37, .t 39], none⟩,
  ⟨some 41, .mv, [.t 10], none⟩,
  ⟨some 42, .bin .rem, [.t 40, .t 41], none⟩,
  ⟨some 43, .bin .add, [.t 36, .t 42], none⟩,
  ⟨some 44, .mv, [.t 10], none⟩,
  ⟨some 45, .bin .quo, [.t 43, .t 44], none⟩,
  ⟨some 4, .mv, [.t 45], none⟩]
def a27 : AFunc := ⟨46, [.tmp 4], (.seq (.region a27r0 [1, 2]) (.seq (.seq (.region a27r1 [1, 2, 12]) (.block 0 (.seq (.region a27r2 [1, 2, 12, 13]) (.cond (.t 13) (.seq (.region a27r3 [4]) .ret) (.seq (.region a27r4 [1, 2, 17]) (.cond (.t 17) (.seq (.region a27r5 [1, 5]) (.seq (.seq (.region a27r6 [5, 8]) (.seq (.region a27r7 [5, 30]) (.cond (.t 30) (.region a27r8 [5]) .skip))) (.seq (.region a27r9 [4]) .ret))) .skip)))))) (.seq (.region a27r10 [1, 2, 10]) (.seq (.region a27r11 [4]) .ret))))⟩
theorem a27_ok : compileF Tryd.prog (lk [(0, ⟨[1, 2], [], []⟩), (1, ⟨[1, 2, 12], [], []⟩), (2, ⟨[1, 2, 12, 13], [], []⟩), (3, ⟨[4], [], []⟩), (4, ⟨[1, 2, 17], [], []⟩), (5, ⟨[1, 5], [], []⟩), (6, ⟨[5, 8], [], []⟩), (7, ⟨[5, 30], [], []⟩), (8, ⟨[5], [], []⟩), (9, ⟨[4], [], []⟩), (10, ⟨[1, 2, 10], [], []⟩), (11, ⟨[4], [], []⟩)]) Tryd.f27 = some a27 := by kernel_rfl

/- payroll/period.Valid -/
def a28r0 : List IOp := [⟨some 1, .box 24 2, [.t 0], none⟩,
  ⟨some 2, .mv, [.c (.int .i64 0)], none⟩]
def a28r1 : List IOp := [⟨some 3, .mv, [.c (.int .i64 0)], none⟩]
def a28r2 : List IOp := [⟨some 4, .fieldAddr 0, [.t 1], none⟩,
  ⟨some 5, .load1, [.t 4], none⟩]
def a28r3 : List IOp := [⟨some 7, .bin .eql, [.t 5, .c (.int .i64 0)], none⟩,
  ⟨some 6, .mv, [.t 7], none⟩]
def a28r4 : List IOp := [⟨some 8, .bin .eql, [.t 5, .c (.int .i64 1)], none⟩,
  ⟨some 6, .mv, [.t 8], none⟩]
def a28r5 : List IOp := [⟨some 10, .bin .eql, [.t 5, .c (.int .i64 2)], none⟩,
  ⟨some 9, .mv, [.t 10], none⟩]
def a28r6 : List IOp := [⟨some 3, .mv, [.c (.int .i64 13)], none⟩]
def a28r7 : List IOp := [⟨some 12, .bin .eql, [.t 5, .c (.int .i64 3)], none⟩,
  ⟨some 11, .mv, [.t 12], none⟩]
def a28r8 : List IOp := [⟨some 3, .mv, [.c (.int .i64 6)], none⟩]
def a28r9 : List IOp := [⟨some 2, .mv, [.c (.int .i64 2)], none⟩]
def a28r10 : List IOp := [⟨some 13, .fieldAddr 1, [.t 1], none⟩,
  ⟨some 14, .load1, [.t 13], none⟩,
  ⟨some 15, .bin .lss, [.t 14, .c (.int .i64 0)], none⟩,
  ⟨some 16, .mv, [.t 15], none⟩,
  ⟨some 17, .fieldAddr 1, [.t 1], some (16, false)⟩,
  ⟨some 18, .load1, [.t 17], some (16, false)⟩,
  ⟨some 19, .mv, [.t 3], some (16, false)⟩,
  ⟨some 20, .bin .gtr, [.t 18, .t 19], some (16, false)⟩,
  ⟨some 21, .pick, [.t 16, .c (.bool true), .t 20], none⟩]
def a28r11 : List IOp := [⟨some 2, .mv, [.c (.int .i64 2)], none⟩]
def a28r12 : List IOp := [⟨some 2, .mv, [.c (.int .i64 0)], none⟩]
def a28 : AFunc := ⟨22, [.tmp 2], (.seq (.region a28r0 [1]) (.seq (.region a28r1 [1, 3]) (.seq (.seq (.region a28r2 [1, 3, 5]) (.block 0 (.seq (.seq (.region a28r3 [1, 3, 5, 6]) (.cond (.t 6) .skip (.region a28r4 [1, 3, 5, 6]))) (.cond (.t 6) .skip (.seq (.region a28r5 [1, 5, 9]) (.cond (.t 9) (.region a28r6 [1, 3]) (.seq (.region a28r7 [1, 11]) (.cond (.t 11) (.region a28r8 [1, 3]) (.seq (.region a28r9 [2]) .ret))))))))) (.seq (.seq (.region a28r10 [21]) (.cond (.t 21) (.seq (.region a28r11 [2]) .ret) .skip)) (.seq (.region a28r12 [2]) .ret)))))⟩
theorem a28_ok : compileF Tryd.prog (lk [(0, ⟨[1], [], []⟩), (1, ⟨[1, 3], [], []⟩), (2, ⟨[1, 3, 5], [], []⟩), (3, ⟨[2], [], []⟩), (4, ⟨[1, 3, 5, 6], [], []⟩), (5, ⟨[1, 3, 5, 6], [], []⟩), (6, ⟨[1, 5, 9], [], []⟩), (7, ⟨[1, 3], [], []⟩), (8, ⟨[1, 11], [], []⟩), (9, ⟨[1, 3], [], []⟩), (10, ⟨[21], [], []⟩), (11, ⟨[2], [], []⟩), (12, ⟨[2], [], []⟩)]) Tryd.f28 = some a28 := by kernel_rfl

/- payroll/period.of -/
def a29r0 : List IOp := [⟨some 2, .box 24 2, [.t 0], none⟩,
  ⟨some 4, .mv, [.c (.int .i64 0)], none⟩]
def a29r1 : List IOp := [⟨some 12, .fieldAddr 0, [.t 2], none⟩,
  ⟨some 13, .load1, [.t 12], none⟩]
def a29r2 : List IOp := [⟨some 15, .bin .eql, [.t 13, .c (.int .i64 0)], none⟩,
  ⟨some 14, .mv, [.t 15], none⟩]
def a29r3 : List IOp := [⟨some 16, .mv, [.t 1], none⟩,
  ⟨some 17, .call 44, [.t 16], none⟩,
  ⟨some 4, .mv, [.t 17], none⟩]
def a29r4 : List IOp := [⟨some 19, .bin .eql, [.t 13, .c (.int .i64 1)], none⟩,
  ⟨some 18, .mv, [.t 19], none⟩]
def a29r5 : List IOp := [⟨some 20, .mv, [.t 1], none⟩,
  ⟨some 21, .call 44, [.t 20], none⟩,
  ⟨some 22, .bin .mul, [.c (.int .i64 2), .t 21], none⟩,
  ⟨some 5, .mv, [.t 22], none⟩]
def a29r6 : List IOp := [⟨some 24, .mv, [.t 1], none⟩,
  ⟨some 25, .call 45, [.t 24], none⟩,
  ⟨some 23, .mv, [.t 25], none⟩,
  ⟨some 26, .extract 0, [.t 23], none⟩,
  ⟨some 27, .extract 1, [.t 23], none⟩,
  ⟨some 28, .extract 2, [.t 23], none⟩,
  ⟨some 29, .extract 3, [.t 23], none⟩,
  ⟨some 6, .mv, [.t 26], none⟩,
  ⟨some 7, .mv, [.t 27], none⟩,
  ⟨some 8, .mv, [.t 28], none⟩,
  ⟨some 9, .mv, [.t 29], none⟩]
def a29r7 : List IOp := [⟨some 30, .mv, [.t 8], none⟩,
  ⟨some 31, .bin .gtr, [.t 30, .c (.int .i64 15)], none⟩]
def a29r8 : List IOp := [⟨some 32, .mv, [.t 5], none⟩,
  ⟨some 33, .bin .add, [.t 32, .c (.int .i64 1)], none⟩,
  ⟨some 5, .mv, [.t 33], none⟩]
def a29r9 : List IOp := [⟨some 34, .mv, [.t 5], none⟩,
  ⟨some 4, .mv, [.t 34], none⟩]
def a29r10 : List IOp := [⟨some 36, .loadA 2, [.t 2], none⟩,
  ⟨some 37, .call 31, [.t 36], none⟩,
  ⟨some 35, .mv, [.t 37], none⟩,
  ⟨some 38, .extract 0, [.t 35], none⟩,
  ⟨some 39, .extract 1, [.t 35], none⟩,
  ⟨some 10, .mv, [.t 38], none⟩,
  ⟨some 11, .mv, [.t 39], none⟩]
def a29r11 : List IOp := [⟨some 40, .mv, [.t 1], none⟩,
  ⟨some 41, .mv, [.t 11], none⟩,
  ⟨some 42, .bin .add, [.t 40, .t 41], none⟩,
  ⟨some 43, .mv, [.t 10], none⟩,
  ⟨some 44, .bin .quo, [.t 42, .t 43], none⟩,
  ⟨some 4, .mv, [.t 44], none⟩]
def a29 : AFunc := ⟨45, [.tmp 4], (.seq (.region a29r0 [1, 2]) (.seq (.seq (.region a29r1 [1, 2, 13]) (.block 0 (.seq (.region a29r2 [1, 2, 13, 14]) (.cond (.t 14) (.seq (.region a29r3 [4]) .ret) (.seq (.region a29r4 [1, 2, 18]) (.cond (.t 18) (.seq (.region a29r5 [1, 5]) (.seq (.seq (.region a29r6 [5, 8]) (.seq (.region a29r7 [5, 31]) (.cond (.t 31) (.region a29r8 [5]) .skip))) (.seq (.region a29r9 [4]) .ret))) .skip)))))) (.seq (.region a29r10 [1, 10, 11]) (.seq (.region a29r11 [4]) .ret))))⟩
theorem a29_ok : compileF Tryd.prog (lk [(0, ⟨[1, 2], [], []⟩), (1, ⟨[1, 2, 13], [], []⟩), (2, ⟨[1, 2, 13, 14], [], []⟩), (3, ⟨[4], [], []⟩), (4, ⟨[1, 2, 18], [], []⟩), (5, ⟨[1, 5], [], []⟩), (6, ⟨[5, 8], [], []⟩), (7, ⟨[5, 31], [], []⟩), (8, ⟨[5], [], []⟩), (9, ⟨[4], [], []⟩), (10, ⟨[1, 10, 11], [], []⟩), (11, ⟨[4], [], []⟩)]) Tryd.f29 = some a29 := by kernel_rfl

/- payroll/period.month -/
def a30r0 : List IOp := [⟨some 2, .alloc 40 [.int .i64 0, .int .i64 0], [], none⟩]
def a30r1 : List IOp := [⟨some 6, .mv, [.t 0], none⟩,
  ⟨some 7, .call 46, [.t 6], none⟩,
  ⟨some 5, .mv, [.t 7], none⟩,
  ⟨some 8, .extract 0, [.t 5], none⟩,
  ⟨some 9, .extract 1, [.t 5], none⟩,
  ⟨some 3, .mv, [.t 8], none⟩,
  ⟨some 4, .mv, [.t 9], none⟩]
def a30r2 : List IOp := [⟨some 10, .mv, [.t 3], none⟩,
  ⟨some 11, .mv, [.t 3], none⟩,
  ⟨some 12, .mv, [.t 0], none⟩,
  ⟨some 13, .call 47, [.t 12], none⟩,
  ⟨some 14, .bin .add, [.t 11, .t 13], none⟩,
  ⟨some 15, .bin .sub, [.t 14, .c (.int .i64 1)], none⟩,
  ⟨some 16, .build [.int .i64 0, .int .i64 0] [(0, 1), (1, 1)], [.t 10, .t 15], none⟩,
  ⟨none, .store 2, [.t 2, .t 16], none⟩]
def a30 : AFunc := ⟨17, [.cellA 2 2], (.seq (.region a30r0 [0, 2]) (.seq (.region a30r1 [0, 2, 3]) (.seq (.region a30r2 [2]) .ret)))⟩
theorem a30_ok : compileF Tryd.prog (lk [(0, ⟨[0, 2], [], []⟩), (1, ⟨[0, 2, 3], [], []⟩), (2, ⟨[2], [], []⟩)]) Tryd.f30 = some a30 := by kernel_rfl

/- payroll/period.weeks -/
def a31r0 : List IOp := [⟨some 1, .box 24 2, [.t 0], none⟩,
  ⟨some 2, .mv, [.c (.int .i64 0)], none⟩,
  ⟨some 3, .mv, [.c (.int .i64 0)], none⟩]
def a31r1 : List IOp := [⟨some 4, .mv, [.c (.int .i64 7)], none⟩]
def a31r2 : List IOp := [⟨some 5, .fieldAddr 0, [.t 1], none⟩,
  ⟨some 6, .load1, [.t 5], none⟩,
  ⟨some 7, .bin .eql, [.t 6, .c (.int .i64 2)], none⟩]
def a31r3 : List IOp := [⟨some 4, .mv, [.c (.int .i64 14)], none⟩]
def a31r4 : List (Nat × DOp) := [(0, ⟨⟨some 8, .mv, [.t 4], none⟩, none, [1, 2, 3, 4, 5, 6]⟩),
  (1, ⟨⟨some 9, .mv, [.t 4], none⟩, none, [0, 2, 3, 5, 7]⟩),
  (2, ⟨⟨some 10, .fieldAddr 1, [.t 1], none⟩, none, [0, 1, 5, 7]⟩),
  (3, ⟨⟨some 11, .load1, [.t 10], none⟩, none, [0, 1, 5, 7]⟩),
  (4, ⟨⟨some 12, .bin .sub, [.t 9, .t 11], none⟩, none, [0, 5, 7]⟩),
  (5, ⟨⟨some 13, .mv, [.t 4], none⟩, none, [0, 1, 2, 3, 4, 7]⟩),
  (6, ⟨⟨some 14, .bin .rem, [.t 12, .t 13], none⟩, none, [0, 7]⟩),
  (7, ⟨⟨some 2, .mv, [.t 8], none⟩, none, [1, 2, 3, 4, 5, 6]⟩),
  (8, ⟨⟨some 3, .mv, [.t 14], none⟩, none, []⟩)]
def a31 : AFunc := ⟨15, [.tmp 2, .tmp 3], (.seq (.region a31r0 [1]) (.seq (.region a31r1 [1, 4]) (.seq (.seq (.region a31r2 [1, 4, 7]) (.cond (.t 7) (.region a31r3 [1, 4]) .skip)) (.seq (.draw a31r4 [] [2, 3]) .ret))))⟩
theorem a31_ok : compileF Tryd.prog (lk [(0, ⟨[1], [], []⟩), (1, ⟨[1, 4], [], []⟩), (2, ⟨[1, 4, 7], [], []⟩), (3, ⟨[1, 4], [], []⟩), (4, ⟨[2, 3], [[], [], [], [2], [1, 3, 2], [], [4, 5, 1, 3, 2], [0], [6, 7, 0, 1, 2, 3, 4, 5]], [0, 1, 2, 3, 4, 5, 6, 7, 8]⟩)]) Tryd.f31 = some a31 := by kernel_rfl

/- payroll/payrollref3.First -/
def a32r0 : List IOp := [⟨some 2, .mv, [.c (.int .i64 0)], none⟩,
  ⟨some 3, .mv, [.c (.bool false)], none⟩]
def a32r1 : List IOp := [⟨some 4, .mv, [.t 0], none⟩,
  ⟨some 5, .bin .lss, [.t 4, .c (.int .i64 0)], none⟩,
  ⟨some 6, .mv, [.t 5], none⟩,
  ⟨some 7, .mv, [.t 0], some (6, false)⟩,
  ⟨some 8, .bin .gtr, [.t 7, .c (.int .i64 2759)], some (6, false)⟩,
  ⟨some 9, .pick, [.t 6, .c (.bool true), .t 8], none⟩]
def a32r2 : List IOp := [⟨some 2, .mv, [.c (.int .i64 0)], none⟩,
  ⟨some 3, .mv, [.c (.bool false)], none⟩]
def a32r3 : List IOp := [⟨some 10, .mv, [.t 0], none⟩,
  ⟨some 11, .bin .quo, [.t 10, .c (.int .i64 12)], none⟩,
  ⟨some 12, .bin .add, [.c (.int .i64 1970), .t 11], none⟩,
  ⟨some 13, .mv, [.t 0], none⟩,
  ⟨some 14, .bin .rem, [.t 13, .c (.int .i64 12)], none⟩,
  ⟨some 15, .bin .add, [.c (.int .i64 1), .t 14], none⟩,
  ⟨some 16, .call 48, [.t 12, .t 15, .c (.int .i64 1)], none⟩,
  ⟨some 17, .extract 0, [.t 16], none⟩,
  ⟨some 18, .extract 1, [.t 16], none⟩,
  ⟨some 2, .mv, [.t 17], none⟩,
  ⟨some 3, .mv, [.t 18], none⟩]
def a32 : AFunc := ⟨19, [.tmp 2, .tmp 3], (.seq (.region a32r0 [0]) (.seq (.seq (.region a32r1 [0, 9]) (.cond (.t 9) (.seq (.region a32r2 [2, 3]) .ret) .skip)) (.seq (.region a32r3 [2, 3]) .ret)))⟩
theorem a32_ok : compileF Tryd.prog (lk [(0, ⟨[0], [], []⟩), (1, ⟨[0, 9], [], []⟩), (2, ⟨[2, 3], [], []⟩), (3, ⟨[2, 3], [], []⟩)]) Tryd.f32 = some a32 := by kernel_rfl

/- payroll/payrollref3.Length -/
def a33r0 : List IOp := [⟨some 2, .mv, [.c (.int .i64 0)], none⟩]
def a33r1 : List IOp := [⟨some 3, .mv, [.t 0], none⟩,
  ⟨some 4, .bin .lss, [.t 3, .c (.int .i64 0)], none⟩,
  ⟨some 5, .mv, [.t 4], none⟩,
  ⟨some 6, .mv, [.t 0], some (5, false)⟩,
  ⟨some 7, .bin .gtr, [.t 6, .c (.int .i64 2759)], some (5, false)⟩,
  ⟨some 8, .pick, [.t 5, .c (.bool true), .t 7], none⟩]
def a33r2 : List IOp := [⟨some 2, .mv, [.c (.int .i64 0)], none⟩]
def a33r3 : List IOp := [⟨some 9, .mv, [.t 0], none⟩,
  ⟨some 10, .bin .quo, [.t 9, .c (.int .i64 12)], none⟩,
  ⟨some 11, .bin .add, [.c (.int .i64 1970), .t 10], none⟩,
  ⟨some 12, .mv, [.t 0], none⟩,
  ⟨some 13, .bin .rem, [.t 12, .c (.int .i64 12)], none⟩,
  ⟨some 14, .bin .add, [.c (.int .i64 1), .t 13], none⟩,
  ⟨some 15, .call 49, [.t 11, .t 14], none⟩,
  ⟨some 2, .mv, [.t 15], none⟩]
def a33 : AFunc := ⟨16, [.tmp 2], (.seq (.region a33r0 [0]) (.seq (.seq (.region a33r1 [0, 8]) (.cond (.t 8) (.seq (.region a33r2 [2]) .ret) .skip)) (.seq (.region a33r3 [2]) .ret)))⟩
theorem a33_ok : compileF Tryd.prog (lk [(0, ⟨[0], [], []⟩), (1, ⟨[0, 8], [], []⟩), (2, ⟨[2], [], []⟩), (3, ⟨[2], [], []⟩)]) Tryd.f33 = some a33 := by kernel_rfl

/- payroll/payrollref5.length -/
def a34r0 : List IOp := [⟨some 1, .box 24 2, [.t 0], none⟩,
  ⟨some 2, .mv, [.c (.int .i64 0)], none⟩]
def a34r1 : List IOp := [⟨some 3, .fieldAddr 0, [.t 1], none⟩,
  ⟨some 4, .load1, [.t 3], none⟩,
  ⟨some 5, .bin .eql, [.t 4, .c (.int .i64 2)], none⟩]
def a34r2 : List IOp := [⟨some 2, .mv, [.c (.int .i64 14)], none⟩]
def a34r3 : List IOp := [⟨some 2, .mv, [.c (.int .i64 7)], none⟩]
def a34 : AFunc := ⟨6, [.tmp 2], (.seq (.region a34r0 [1]) (.seq (.seq (.region a34r1 [5]) (.cond (.t 5) (.seq (.region a34r2 [2]) .ret) .skip)) (.seq (.region a34r3 [2]) .ret)))⟩
theorem a34_ok : compileF Tryd.prog (lk [(0, ⟨[1], [], []⟩), (1, ⟨[5], [], []⟩), (2, ⟨[2], [], []⟩), (3, ⟨[2], [], []⟩)]) Tryd.f34 = some a34 := by kernel_rfl

/- payroll/period.parts -/
def a35r0 : List IOp := [⟨some 2, .box 40 2, [.t 0], none⟩,
  ⟨some 4, .mv, [.c (.nils)], none⟩,
  ⟨some 5, .mv, [.c (.int .i64 0)], none⟩]
def a35r1 : List IOp := [⟨some 6, .mv, [.c (.nils)], none⟩]
def a35r2 : List IOp := [⟨some 10, .fieldAddr 0, [.t 2], none⟩,
  ⟨some 11, .load1, [.t 10], none⟩,
  ⟨some 7, .mv, [.t 11], none⟩]
def a35r3 : List IOp := [⟨some 12, .mv, [.t 1], none⟩,
  ⟨some 13, .len, [.t 12], none⟩,
  ⟨some 14, .mv, [.c (.int .i64 0)], none⟩]
def a35r4 : List IOp := [⟨some 15, .bin .lss, [.t 14, .t 13], none⟩]
def a35r5 : List IOp := [⟨some 16, .indexAddr 1, [.t 12, .t 14], none⟩,
  ⟨some 17, .load1, [.t 16], none⟩,
  ⟨some 9, .mv, [.t 17], none⟩]
def a35r6 : List IOp := [⟨some 18, .mv, [.t 9], none⟩,
  ⟨some 19, .mv, [.t 7], none⟩,
  ⟨some 20, .bin .leq, [.t 18, .t 19], none⟩,
  ⟨some 21, .mv, [.t 20], none⟩,
  ⟨some 22, .mv, [.t 9], some (21, false)⟩,
  ⟨some 23, .fieldAddr 1, [.t 2], some (21, false)⟩,
  ⟨some 24, .load1, [.t 23], some (21, false)⟩,
  ⟨some 25, .bin .gtr, [.t 22, .t 24], some (21, false)⟩,
  ⟨some 26, .pick, [.t 21, .c (.bool true), .t 25], none⟩]
def a35r7 : List IOp := [⟨some 4, .mv, [.c (.nils)], none⟩,
  ⟨some 5, .mv, [.c (.int .i64 1)], none⟩]
def a35r8 : List IOp := [⟨some 27, .mv, [.t 6], none⟩,
  ⟨some 28, .mv, [.t 7], none⟩,
  ⟨some 29, .mv, [.t 9], none⟩,
  ⟨some 30, .bin .sub, [.t 29, .c (.int .i64 1)], none⟩,
  ⟨some 31, .build [.int .i64 0, .int .i64 0] [(0, 1), (1, 1)], [.t 28, .t 30], none⟩,
  ⟨some 32, .bslice 40 2 [.int .i64 0, .int .i64 0] 1 [0], [.t 31], none⟩,
  ⟨some 33, .append 40 2 16, [.t 27, .t 32], none⟩,
  ⟨some 6, .mv, [.t 33], none⟩]
def a35r9 : List IOp := [⟨some 34, .mv, [.t 9], none⟩,
  ⟨some 7, .mv, [.t 34], none⟩]
def a35r10 : List IOp := [⟨some 35, .bin .add, [.t 14, .c (.int .i64 1)], none⟩,
  ⟨some 14, .mv, [.t 35], none⟩]
def a35r11 : List IOp := [⟨some 36, .mv, [.t 6], none⟩,
  ⟨some 37, .mv, [.t 7], none⟩,
  ⟨some 38, .fieldAddr 1, [.t 2], none⟩,
  ⟨some 39, .load1, [.t 38], none⟩,
  ⟨some 40, .build [.int .i64 0, .int .i64 0] [(0, 1), (1, 1)], [.t 37, .t 39], none⟩,
  ⟨some 41, .bslice 40 2 [.int .i64 0, .int .i64 0] 1 [0], [.t 40], none⟩,
  ⟨some 42, .append 40 2 16, [.t 36, .t 41], none⟩,
  ⟨some 4, .mv, [.t 42], none⟩,
  ⟨some 5, .mv, [.c (.int .i64 0)], none⟩]
def a35 : AFunc := ⟨43, [.tmp 4, .tmp 5], (.seq (.region a35r0 [1, 2]) (.seq (.region a35r1 [1, 2, 6]) (.seq (.region a35r2 [1, 2, 6, 7]) (.seq (.seq (.region a35r3 [2, 6, 7, 12, 13, 14]) (.block 0 (.loop (.seq (.region a35r4 [2, 6, 7, 12, 13, 14, 15]) (.seq (.cond (.t 15) .skip (.exit 0)) (.seq (.block 1 (.seq (.region a35r5 [2, 6, 7, 9, 12, 13, 14]) (.seq (.seq (.region a35r6 [2, 6, 7, 9, 12, 13, 14, 26]) (.cond (.t 26) (.seq (.region a35r7 [4, 5]) .ret) .skip)) (.seq (.region a35r8 [2, 6, 9, 12, 13, 14]) (.region a35r9 [2, 6, 7, 12, 13, 14]))))) (.region a35r10 [2, 6, 7, 12, 13, 14]))))))) (.seq (.region a35r11 [4, 5]) .ret)))))⟩
theorem a35_ok : compileF Tryd.prog (lk [(0, ⟨[1, 2], [], []⟩), (1, ⟨[1, 2, 6], [], []⟩), (2, ⟨[1, 2, 6, 7], [], []⟩), (3, ⟨[2, 6, 7, 12, 13, 14], [], []⟩), (4, ⟨[2, 6, 7, 12, 13, 14, 15], [], []⟩), (5, ⟨[2, 6, 7, 9, 12, 13, 14], [], []⟩), (6, ⟨[2, 6, 7, 9, 12, 13, 14, 26], [], []⟩), (7, ⟨[4, 5], [], []⟩), (8, ⟨[2, 6, 9, 12, 13, 14], [], []⟩), (9, ⟨[2, 6, 7, 12, 13, 14], [], []⟩), (10, ⟨[2, 6, 7, 12, 13, 14], [], []⟩), (11, ⟨[4, 5], [], []⟩)]) Tryd.f35 = some a35 := by kernel_rfl

/- payroll/calendar.Valid -/
def a36r0 : List IOp := [⟨some 2, .mv, [.c (.int .i64 0)], none⟩]
def a36r1 : List IOp := [⟨some 5, .mv, [.t 0], none⟩,
  ⟨some 6, .len, [.t 5], none⟩,
  ⟨some 7, .bin .gtr, [.t 6, .c (.int .i64 1024)], none⟩]
def a36r2 : List IOp := [⟨some 2, .mv, [.c (.int .i64 3)], none⟩]
def a36r3 : List IOp := [⟨some 8, .mv, [.t 0], none⟩,
  ⟨some 9, .len, [.t 8], none⟩,
  ⟨some 10, .mv, [.c (.int .i64 0)], none⟩]
def a36r4 : List IOp := [⟨some 11, .bin .lss, [.t 10, .t 9], none⟩]
def a36r5 : List IOp := [⟨some 12, .indexAddr 6, [.t 8, .t 10], none⟩,
  ⟨some 13, .loadA 6, [.t 12], none⟩,
  ⟨some 4, .alloc 67 [.int .i64 0, .int .i64 0, .int .i64 0, .int .i64 0, .int .i64 0, .bool false], [], none⟩,
  ⟨none, .store 6, [.t 4, .t 13], none⟩]
def a36r6 : List IOp := [⟨some 14, .loadA 6, [.t 4], none⟩,
  ⟨some 15, .call 50, [.t 14], none⟩,
  ⟨some 16, .not, [.t 15], none⟩]
def a36r7 : List IOp := [⟨some 2, .mv, [.c (.int .i64 1)], none⟩]
def a36r8 : List IOp := [⟨some 17, .bin .add, [.t 10, .c (.int .i64 1)], none⟩,
  ⟨some 10, .mv, [.t 17], none⟩]
def a36r9 : List IOp := [⟨some 2, .mv, [.c (.int .i64 0)], none⟩]
def a36 : AFunc := ⟨18, [.tmp 2], (.seq (.region a36r0 [0]) (.seq (.seq (.region a36r1 [0, 7]) (.cond (.t 7) (.seq (.region a36r2 [2]) .ret) .skip)) (.seq (.seq (.region a36r3 [8, 9, 10]) (.block 0 (.loop (.seq (.region a36r4 [8, 9, 10, 11]) (.seq (.cond (.t 11) .skip (.exit 0)) (.seq (.block 1 (.seq (.region a36r5 [4, 8, 9, 10]) (.seq (.region a36r6 [8, 9, 10, 16]) (.cond (.t 16) (.seq (.region a36r7 [2]) .ret) .skip)))) (.region a36r8 [8, 9, 10]))))))) (.seq (.region a36r9 [2]) .ret))))⟩
theorem a36_ok : compileF Tryd.prog (lk [(0, ⟨[0], [], []⟩), (1, ⟨[0, 7], [], []⟩), (2, ⟨[2], [], []⟩), (3, ⟨[8, 9, 10], [], []⟩), (4, ⟨[8, 9, 10, 11], [], []⟩), (5, ⟨[4, 8, 9, 10], [], []⟩), (6, ⟨[8, 9, 10, 16], [], []⟩), (7, ⟨[2], [], []⟩), (8, ⟨[8, 9, 10], [], []⟩), (9, ⟨[2], [], []⟩)]) Tryd.f36 = some a36 := by kernel_rfl

/- payroll/calendar.Workdays -/
def a37r0 : List IOp := [⟨some 6, .mv, [.c (.int .i64 0)], none⟩,
  ⟨some 7, .mv, [.c (.int .i64 0)], none⟩]
def a37r1 : List IOp := [⟨some 14, .mv, [.t 0], none⟩,
  ⟨some 15, .call 36, [.t 14], none⟩,
  ⟨some 8, .mv, [.t 15], none⟩]
def a37r2 : List IOp := [⟨some 16, .mv, [.t 8], none⟩,
  ⟨some 17, .bin .neq, [.t 16, .c (.int .i64 0)], none⟩]
def a37r3 : List IOp := [⟨some 18, .mv, [.t 8], none⟩,
  ⟨some 6, .mv, [.c (.int .i64 0)], none⟩,
  ⟨some 7, .mv, [.t 18], none⟩]
def a37r4 : List IOp := [⟨some 19, .mv, [.t 1], none⟩,
  ⟨some 20, .call 51, [.t 19], none⟩,
  ⟨some 21, .not, [.t 20], none⟩,
  ⟨some 22, .mv, [.t 21], none⟩,
  ⟨some 23, .mv, [.t 2], some (22, false)⟩,
  ⟨some 24, .call 51, [.t 23], some (22, false)⟩,
  ⟨some 25, .not, [.t 24], some (22, false)⟩,
  ⟨some 26, .pick, [.t 22, .c (.bool true), .t 25], none⟩]
def a37r5 : List IOp := [⟨some 6, .mv, [.c (.int .i64 0)], none⟩,
  ⟨some 7, .mv, [.c (.int .i64 2)], none⟩]
def a37r6 : List IOp := [⟨some 27, .mv, [.t 2], none⟩,
  ⟨some 28, .mv, [.t 1], none⟩,
  ⟨some 29, .bin .lss, [.t 27, .t 28], none⟩]
def a37r7 : List IOp := [⟨some 6, .mv, [.c (.int .i64 0)], none⟩,
  ⟨some 7, .mv, [.c (.int .i64 0)], none⟩]
def a37r8 : List IOp := [⟨some 30, .mv, [.t 2], none⟩,
  ⟨some 31, .bin .add, [.t 30, .c (.int .i64 1)], none⟩,
  ⟨some 32, .call 52, [.t 31], none⟩,
  ⟨some 33, .mv, [.t 1], none⟩,
  ⟨some 34, .call 52, [.t 33], none⟩,
  ⟨some 35, .bin .sub, [.t 32, .t 34], none⟩,
  ⟨some 9, .mv, [.t 35], none⟩]
def a37r9 : List IOp := [⟨some 36, .mv, [.t 1], none⟩,
  ⟨some 37, .call 53, [.t 36], none⟩,
  ⟨some 38, .bin .sub, [.t 37, .c (.int .i64 1)], none⟩,
  ⟨some 39, .minmax true, [.t 38, .c (.int .i64 1970)], none⟩,
  ⟨some 40, .mv, [.t 2], none⟩,
  ⟨some 41, .call 53, [.t 40], none⟩,
  ⟨some 42, .bin .add, [.t 41, .c (.int .i64 1)], none⟩,
  ⟨some 43, .minmax false, [.t 42, .c (.int .i64 2199)], none⟩,
  ⟨some 10, .mv, [.t 39], none⟩,
  ⟨some 11, .mv, [.t 43], none⟩]
def a37r10 : List IOp := [⟨some 44, .mv, [.t 0], none⟩,
  ⟨some 45, .mv, [.t 10], none⟩,
  ⟨some 46, .mv, [.t 11], none⟩,
  ⟨some 47, .call 54, [.t 44, .t 45, .t 46], none⟩,
  ⟨some 48, .len, [.t 47], none⟩,
  ⟨some 49, .mv, [.c (.int .i64 0)], none⟩]
def a37r11 : List IOp := [⟨some 50, .bin .lss, [.t 49, .t 48], none⟩]
def a37r12 : List IOp := [⟨some 51, .indexAddr 1, [.t 47, .t 49], none⟩,
  ⟨some 52, .load1, [.t 51], none⟩,
  ⟨some 13, .mv, [.t 52], none⟩]
def a37r13 : List IOp := [⟨some 53, .mv, [.t 13], none⟩,
  ⟨some 54, .mv, [.t 1], none⟩,
  ⟨some 55, .bin .geq, [.t 53, .t 54], none⟩,
  ⟨some 56, .mv, [.t 55], none⟩,
  ⟨some 57, .mv, [.t 13], some (56, true)⟩,
  ⟨some 58, .mv, [.t 2], some (56, true)⟩,
  ⟨some 59, .bin .leq, [.t 57, .t 58], some (56, true)⟩,
  ⟨some 60, .pick, [.t 56, .t 59, .c (.bool false)], none⟩,
  ⟨some 61, .mv, [.t 60], none⟩,
  ⟨some 62, .mv, [.t 13], some (61, true)⟩,
  ⟨some 63, .call 55, [.t 62], some (61, true)⟩,
  ⟨some 64, .bin .lss, [.t 63, .c (.int .i64 5)], some (61, true)⟩,
  ⟨some 65, .pick, [.t 61, .t 64, .c (.bool false)], none⟩]
def a37r14 : List IOp := [⟨some 66, .mv, [.t 9], none⟩,
  ⟨some 67, .bin .sub, [.t 66, .c (.int .i64 1)], none⟩,
  ⟨some 9, .mv, [.t 67], none⟩]
def a37r15 : List IOp := [⟨some 68, .bin .add, [.t 49, .c (.int .i64 1)], none⟩,
  ⟨some 49, .mv, [.t 68], none⟩]
def a37r16 : List IOp := [⟨some 69, .mv, [.t 9], none⟩,
  ⟨some 6, .mv, [.t 69], none⟩,
  ⟨some 7, .mv, [.c (.int .i64 0)], none⟩]
def a37 : AFunc := ⟨70, [.tmp 6, .tmp 7], (.seq (.region a37r0 [0, 1, 2]) (.seq (.seq (.region a37r1 [0, 1, 2, 8]) (.seq (.region a37r2 [0, 1, 2, 8, 17]) (.cond (.t 17) (.seq (.region a37r3 [6, 7]) .ret) .skip))) (.seq (.seq (.region a37r4 [0, 1, 2, 26]) (.cond (.t 26) (.seq (.region a37r5 [6, 7]) .ret) .skip)) (.seq (.seq (.region a37r6 [0, 1, 2, 29]) (.cond (.t 29) (.seq (.region a37r7 [6, 7]) .ret) .skip)) (.seq (.region a37r8 [0, 1, 2, 9]) (.seq (.region a37r9 [0, 1, 2, 9, 10, 11]) (.seq (.seq (.region a37r10 [1, 2, 9, 47, 48, 49]) (.block 0 (.loop (.seq (.region a37r11 [1, 2, 9, 47, 48, 49, 50]) (.seq (.cond (.t 50) .skip (.exit 0)) (.seq (.block 1 (.seq (.region a37r12 [1, 2, 9, 13, 47, 48, 49]) (.seq (.region a37r13 [1, 2, 9, 47, 48, 49, 65]) (.cond (.t 65) (.region a37r14 [1, 2, 9, 47, 48, 49]) .skip)))) (.region a37r15 [1, 2, 9, 47, 48, 49]))))))) (.seq (.region a37r16 [6, 7]) .ret))))))))⟩
theorem a37_ok : compileF Tryd.prog (lk [(0, ⟨[0, 1, 2], [], []⟩), (1, ⟨[0, 1, 2, 8], [], []⟩), (2, ⟨[0, 1, 2, 8, 17], [], []⟩), (3, ⟨[6, 7], [], []⟩), (4, ⟨[0, 1, 2, 26], [], []⟩), (5, ⟨[6, 7], [], []⟩), (6, ⟨[0, 1, 2, 29], [], []⟩), (7, ⟨[6, 7], [], []⟩), (8, ⟨[0, 1, 2, 9], [], []⟩), (9, ⟨[0, 1, 2, 9, 10, 11], [], []⟩), (10, ⟨[1, 2, 9, 47, 48, 49], [], []⟩), (11, ⟨[1, 2, 9, 47, 48, 49, 50], [], []⟩), (12, ⟨[1, 2, 9, 13, 47, 48, 49], [], []⟩), (13, ⟨[1, 2, 9, 47, 48, 49, 65], [], []⟩), (14, ⟨[1, 2, 9, 47, 48, 49], [], []⟩), (15, ⟨[1, 2, 9, 47, 48, 49], [], []⟩), (16, ⟨[6, 7], [], []⟩)]) Tryd.f37 = some a37 := by kernel_rfl

/- payroll/ratio.New -/
def a38r0 : List IOp := [⟨some 4, .alloc 53 [.int .i64 0, .int .i64 0], [], none⟩,
  ⟨some 5, .mv, [.c (.int .i64 0)], none⟩]
def a38r1 : List IOp := [⟨some 6, .mv, [.t 1], none⟩,
  ⟨some 7, .bin .eql, [.t 6, .c (.int .i64 0)], none⟩]
def a38r2 : List IOp := [⟨some 8, .build [.int .i64 0, .int .i64 0] [], [], none⟩,
  ⟨none, .store 2, [.t 4, .t 8], none⟩,
  ⟨some 5, .mv, [.c (.int .i64 5)], none⟩]
def a38r3 : List IOp := [⟨some 9, .mv, [.t 0], none⟩,
  ⟨some 10, .bin .lss, [.t 9, .c (.int .i64 0)], none⟩,
  ⟨some 11, .mv, [.t 1], none⟩,
  ⟨some 12, .bin .lss, [.t 11, .c (.int .i64 0)], none⟩,
  ⟨some 13, .eqB true, [.t 10, .t 12], none⟩,
  ⟨some 14, .mv, [.t 0], none⟩,
  ⟨some 15, .call 57, [.t 14], none⟩,
  ⟨some 16, .mv, [.t 1], none⟩,
  ⟨some 17, .call 57, [.t 16], none⟩,
  ⟨some 18, .call 56, [.t 13, .t 15, .t 17], none⟩,
  ⟨some 19, .extract 0, [.t 18], none⟩,
  ⟨some 20, .extract 1, [.t 18], none⟩,
  ⟨none, .store 2, [.t 4, .t 19], none⟩,
  ⟨some 5, .mv, [.t 20], none⟩]
def a38 : AFunc := ⟨21, [.cellA 4 2, .tmp 5], (.seq (.region a38r0 [0, 1, 4]) (.seq (.seq (.region a38r1 [0, 1, 4, 7]) (.cond (.t 7) (.seq (.region a38r2 [4, 5]) .ret) .skip)) (.seq (.region a38r3 [4, 5]) .ret)))⟩
theorem a38_ok : compileF Tryd.prog (lk [(0, ⟨[0, 1, 4], [], []⟩), (1, ⟨[0, 1, 4, 7], [], []⟩), (2, ⟨[4, 5], [], []⟩), (3, ⟨[4, 5], [], []⟩)]) Tryd.f38 = some a38 := by kernel_rfl

/- payroll/rounding.Allocate -/
def a39r0 : List IOp := [⟨some 4, .mv, [.c (.nils)], none⟩,
  ⟨some 5, .mv, [.c (.int .i64 0)], none⟩]
def a39r1 : List IOp := [⟨some 11, .mv, [.t 1], none⟩,
  ⟨some 12, .len, [.t 11], none⟩,
  ⟨some 13, .bin .gtr, [.t 12, .c (.int .i64 1024)], none⟩]
def a39r2 : List IOp := [⟨some 4, .mv, [.c (.nils)], none⟩,
  ⟨some 5, .mv, [.c (.int .i64 3)], none⟩]
def a39r3 : List IOp := [⟨some 14, .mv, [.t 0], none⟩,
  ⟨some 15, .bin .lss, [.t 14, .c (.int .i64 (-1000000000))], none⟩,
  ⟨some 16, .mv, [.t 15], none⟩,
  ⟨some 17, .mv, [.t 0], some (16, false)⟩,
  ⟨some 18, .bin .gtr, [.t 17, .c (.int .i64 1000000000)], some (16, false)⟩,
  ⟨some 19, .pick, [.t 16, .c (.bool true), .t 18], none⟩]
def a39r4 : List IOp := [⟨some 4, .mv, [.c (.nils)], none⟩,
  ⟨some 5, .mv, [.c (.int .i64 2)], none⟩]
def a39r5 : List IOp := [⟨some 6, .mv, [.c (.int .i64 0)], none⟩]
def a39r6 : List IOp := [⟨some 20, .mv, [.t 1], none⟩,
  ⟨some 21, .len, [.t 20], none⟩,
  ⟨some 22, .mv, [.c (.int .i64 0)], none⟩]
def a39r7 : List IOp := [⟨some 23, .bin .lss, [.t 22, .t 21], none⟩]
def a39r8 : List IOp := [⟨some 24, .indexAddr 1, [.t 20, .t 22], none⟩,
  ⟨some 25, .load1, [.t 24], none⟩,
  ⟨some 8, .mv, [.t 25], none⟩]
def a39r9 : List IOp := [⟨some 26, .mv, [.t 8], none⟩,
  ⟨some 27, .bin .lss, [.t 26, .c (.int .i64 0)], none⟩,
  ⟨some 28, .mv, [.t 27], none⟩,
  ⟨some 29, .mv, [.t 8], some (28, false)⟩,
  ⟨some 30, .bin .gtr, [.t 29, .c (.int .i64 1000000000)], some (28, false)⟩,
  ⟨some 31, .pick, [.t 28, .c (.bool true), .t 30], none⟩]
def a39r10 : List IOp := [⟨some 4, .mv, [.c (.nils)], none⟩,
  ⟨some 5, .mv, [.c (.int .i64 2)], none⟩]
def a39r11 : List IOp := [⟨some 32, .mv, [.t 6], none⟩,
  ⟨some 33, .mv, [.t 8], none⟩,
  ⟨some 34, .bin .add, [.t 32, .t 33], none⟩,
  ⟨some 6, .mv, [.t 34], none⟩]
def a39r12 : List IOp := [⟨some 35, .bin .add, [.t 22, .c (.int .i64 1)], none⟩,
  ⟨some 22, .mv, [.t 35], none⟩]
def a39r13 : List IOp := [⟨some 36, .mv, [.t 6], none⟩,
  ⟨some 37, .bin .eql, [.t 36, .c (.int .i64 0)], none⟩]
def a39r14 : List IOp := [⟨some 4, .mv, [.c (.nils)], none⟩,
  ⟨some 5, .mv, [.c (.int .i64 5)], none⟩]
def a39r15 : List IOp := [⟨some 38, .mv, [.t 0], none⟩,
  ⟨some 39, .bin .geq, [.t 38, .c (.int .i64 0)], none⟩]
def a39r16 : List IOp := [⟨some 40, .mv, [.t 0], none⟩,
  ⟨some 41, .mv, [.t 1], none⟩,
  ⟨some 42, .mv, [.t 6], none⟩,
  ⟨some 43, .call 58, [.t 40, .t 41, .t 42], none⟩,
  ⟨some 4, .mv, [.t 43], none⟩,
  ⟨some 5, .mv, [.c (.int .i64 0)], none⟩]
def a39r17 : List IOp := [⟨some 44, .mv, [.t 0], none⟩,
  ⟨some 45, .neg, [.t 44], none⟩,
  ⟨some 46, .mv, [.t 1], none⟩,
  ⟨some 47, .mv, [.t 6], none⟩,
  ⟨some 48, .call 58, [.t 45, .t 46, .t 47], none⟩,
  ⟨some 9, .mv, [.t 48], none⟩]
def a39r18 : List IOp := [⟨some 49, .mv, [.t 9], none⟩,
  ⟨some 50, .len, [.t 49], none⟩,
  ⟨some 51, .mv, [.c (.int .i64 0)], none⟩]
def a39r19 : List IOp := [⟨some 52, .bin .lss, [.t 51, .t 50], none⟩]
def a39r20 : List IOp := [⟨some 53, .mv, [.t 51], none⟩,
  ⟨some 10, .mv, [.t 53], none⟩]
def a39r21 : List IOp := [⟨some 54, .mv, [.t 9], none⟩,
  ⟨some 55, .mv, [.t 10], none⟩,
  ⟨some 56, .mv, [.t 9], none⟩,
  ⟨some 57, .mv, [.t 10], none⟩,
  ⟨some 58, .indexAddr 1, [.t 56, .t 57], none⟩,
  ⟨some 59, .load1, [.t 58], none⟩,
  ⟨some 60, .neg, [.t 59], none⟩,
  ⟨some 61, .indexAddr 1, [.t 54, .t 55], none⟩,
  ⟨none, .store 1, [.t 61, .t 60], none⟩]
def a39r22 : List IOp := [⟨some 62, .bin .add, [.t 51, .c (.int .i64 1)], none⟩,
  ⟨some 51, .mv, [.t 62], none⟩]
def a39r23 : List IOp := [⟨some 63, .mv, [.t 9], none⟩,
  ⟨some 4, .mv, [.t 63], none⟩,
  ⟨some 5, .mv, [.c (.int .i64 0)], none⟩]
def a39 : AFunc := ⟨64, [.tmp 4, .tmp 5], (.seq (.region a39r0 [0, 1]) (.seq (.seq (.region a39r1 [0, 1, 13]) (.cond (.t 13) (.seq (.region a39r2 [4, 5]) .ret) .skip)) (.seq (.seq (.region a39r3 [0, 1, 19]) (.cond (.t 19) (.seq (.region a39r4 [4, 5]) .ret) .skip)) (.seq (.region a39r5 [0, 1, 6]) (.seq (.seq (.region a39r6 [0, 1, 6, 20, 21, 22]) (.block 0 (.loop (.seq (.region a39r7 [0, 1, 6, 20, 21, 22, 23]) (.seq (.cond (.t 23) .skip (.exit 0)) (.seq (.block 1 (.seq (.region a39r8 [0, 1, 6, 8, 20, 21, 22]) (.seq (.seq (.region a39r9 [0, 1, 6, 8, 20, 21, 22, 31]) (.cond (.t 31) (.seq (.region a39r10 [4, 5]) .ret) .skip)) (.region a39r11 [0, 1, 6, 20, 21, 22])))) (.region a39r12 [0, 1, 6, 20, 21, 22]))))))) (.seq (.seq (.region a39r13 [0, 1, 6, 37]) (.cond (.t 37) (.seq (.region a39r14 [4, 5]) .ret) .skip)) (.seq (.seq (.region a39r15 [0, 1, 6, 39]) (.cond (.t 39) (.seq (.region a39r16 [4, 5]) .ret) .skip)) (.seq (.region a39r17 [9]) (.seq (.seq (.region a39r18 [9, 50, 51]) (.block 2 (.loop (.seq (.region a39r19 [9, 50, 51, 52]) (.seq (.cond (.t 52) .skip (.exit 2)) (.seq (.block 3 (.seq (.region a39r20 [9, 10, 50, 51]) (.region a39r21 [9, 50, 51]))) (.region a39r22 [9, 50, 51]))))))) (.seq (.region a39r23 [4, 5]) .ret))))))))))⟩
theorem a39_ok : compileF Tryd.prog (lk [(0, ⟨[0, 1], [], []⟩), (1, ⟨[0, 1, 13], [], []⟩), (2, ⟨[4, 5], [], []⟩), (3, ⟨[0, 1, 19], [], []⟩), (4, ⟨[4, 5], [], []⟩), (5, ⟨[0, 1, 6], [], []⟩), (6, ⟨[0, 1, 6, 20, 21, 22], [], []⟩), (7, ⟨[0, 1, 6, 20, 21, 22, 23], [], []⟩), (8, ⟨[0, 1, 6, 8, 20, 21, 22], [], []⟩), (9, ⟨[0, 1, 6, 8, 20, 21, 22, 31], [], []⟩), (10, ⟨[4, 5], [], []⟩), (11, ⟨[0, 1, 6, 20, 21, 22], [], []⟩), (12, ⟨[0, 1, 6, 20, 21, 22], [], []⟩), (13, ⟨[0, 1, 6, 37], [], []⟩), (14, ⟨[4, 5], [], []⟩), (15, ⟨[0, 1, 6, 39], [], []⟩), (16, ⟨[4, 5], [], []⟩), (17, ⟨[9], [], []⟩), (18, ⟨[9, 50, 51], [], []⟩), (19, ⟨[9, 50, 51, 52], [], []⟩), (20, ⟨[9, 10, 50, 51], [], []⟩), (21, ⟨[9, 50, 51], [], []⟩), (22, ⟨[9, 50, 51], [], []⟩), (23, ⟨[4, 5], [], []⟩)]) Tryd.f39 = some a39 := by kernel_rfl

/- payroll/payrollref1.Valid -/
def a40r0 : List IOp := [⟨some 1, .box 53 2, [.t 0], none⟩,
  ⟨some 2, .mv, [.c (.bool false)], none⟩]
def a40r1 : List (Nat × DOp) := [(0, ⟨⟨some 3, .fieldAddr 1, [.t 1], none⟩, none, []⟩),
  (1, ⟨⟨some 4, .load1, [.t 3], none⟩, none, []⟩),
  (2, ⟨⟨some 5, .bin .geq, [.t 4, .c (.int .i64 1)], none⟩, none, []⟩),
  (3, ⟨⟨some 6, .mv, [.t 5], none⟩, none, []⟩),
  (4, ⟨⟨some 7, .fieldAddr 1, [.t 1], some (6, true)⟩, none, []⟩),
  (5, ⟨⟨some 8, .load1, [.t 7], some (6, true)⟩, none, []⟩),
  (6, ⟨⟨some 9, .bin .leq, [.t 8, .c (.int .i64 1000000)], some (6, true)⟩, none, []⟩),
  (7, ⟨⟨some 10, .pick, [.t 6, .t 9, .c (.bool false)], none⟩, none, []⟩),
  (8, ⟨⟨some 11, .mv, [.t 10], none⟩, none, []⟩),
  (9, ⟨⟨some 12, .fieldAddr 0, [.t 1], some (11, true)⟩, none, []⟩),
  (10, ⟨⟨some 13, .load1, [.t 12], some (11, true)⟩, none, []⟩),
  (11, ⟨⟨some 14, .bin .geq, [.t 13, .c (.int .i64 (-1000000000000))], some (11, true)⟩, none, []⟩),
  (12, ⟨⟨some 15, .pick, [.t 11, .t 14, .c (.bool false)], none⟩, none, []⟩),
  (13, ⟨⟨some 16, .mv, [.t 15], none⟩, none, []⟩),
  (14, ⟨⟨some 17, .fieldAddr 0, [.t 1], some (16, true)⟩, none, []⟩),
  (15, ⟨⟨some 18, .load1, [.t 17], some (16, true)⟩, none, []⟩),
  (16, ⟨⟨some 19, .bin .leq, [.t 18, .c (.int .i64 1000000000000)], some (16, true)⟩, none, []⟩),
  (17, ⟨⟨some 20, .pick, [.t 16, .t 19, .c (.bool false)], none⟩, none, []⟩),
  (18, ⟨⟨some 21, .mv, [.t 20], none⟩, none, []⟩),
  (19, ⟨⟨some 22, .fieldAddr 0, [.t 1], some (21, true)⟩, none, [22, 23]⟩),
  (20, ⟨⟨some 23, .load1, [.t 22], some (21, true)⟩, none, [22, 23]⟩),
  (22, ⟨⟨some 25, .fieldAddr 1, [.t 1], some (21, true)⟩, none, [19, 20, 21]⟩),
  (23, ⟨⟨some 26, .load1, [.t 25], some (21, true)⟩, none, [19, 20, 21]⟩),
  (21, ⟨⟨some 24, .call 60, [.t 23], some (21, true)⟩, none, [22, 23]⟩),
  (24, ⟨⟨some 27, .call 60, [.t 26], some (21, true)⟩, none, []⟩),
  (25, ⟨⟨some 28, .call 59, [.t 24, .t 27], some (21, true)⟩, none, []⟩),
  (26, ⟨⟨some 29, .bin .eql, [.t 28, .c (.int .u64 1)], some (21, true)⟩, none, []⟩),
  (27, ⟨⟨some 30, .pick, [.t 21, .t 29, .c (.bool false)], none⟩, none, []⟩),
  (28, ⟨⟨some 2, .mv, [.t 30], none⟩, none, []⟩)]
def a40 : AFunc := ⟨31, [.tmp 2], (.seq (.region a40r0 [1]) (.seq (.draw a40r1 [] [2]) .ret))⟩
theorem a40_ok : compileF Tryd.prog (lk [(0, ⟨[1], [], []⟩), (1, ⟨[2], [[], [0], [1, 0], [2, 1, 0], [3, 2, 1, 0], [4, 3, 2, 1, 0], [5, 3, 4, 2, 1, 0], [3, 6, 2, 1, 0, 5, 4], [7, 3, 6, 2, 1, 0, 5, 4], [8, 7, 3, 6, 2, 1, 0, 5, 4], [9, 8, 7, 3, 6, 2, 1, 0, 5, 4], [10, 8, 9, 7, 3, 6, 2, 1, 0, 5, 4], [8, 11, 7, 3, 6, 2, 1, 0, 5, 4, 10, 9], [12, 8, 11, 7, 3, 6, 2, 1, 0, 5, 4, 10, 9], [13, 12, 8, 11, 7, 3, 6, 2, 1, 0, 5, 4, 10, 9], [14, 13, 12, 8, 11, 7, 3, 6, 2, 1, 0, 5, 4, 10, 9], [15, 13, 14, 12, 8, 11, 7, 3, 6, 2, 1, 0, 5, 4, 10, 9], [13, 16, 12, 8, 11, 7, 3, 6, 2, 1, 0, 5, 4, 10, 9, 15, 14], [17, 13, 16, 12, 8, 11, 7, 3, 6, 2, 1, 0, 5, 4, 10, 9, 15, 14], [18, 17, 13, 16, 12, 8, 11, 7, 3, 6, 2, 1, 0, 5, 4, 10, 9, 15, 14], [19, 18, 17, 13, 16, 12, 8, 11, 7, 3, 6, 2, 1, 0, 5, 4, 10, 9, 15, 14], [20, 18, 19, 17, 13, 16, 12, 8, 11, 7, 3, 6, 2, 1, 0, 5, 4, 10, 9, 15, 14], [18, 17, 13, 16, 12, 8, 11, 7, 3, 6, 2, 1, 0, 5, 4, 10, 9, 15, 14], [22, 18, 17, 13, 16, 12, 8, 11, 7, 3, 6, 2, 1, 0, 5, 4, 10, 9, 15, 14], [23, 21, 18, 22, 17, 13, 16, 12, 8, 11, 7, 3, 6, 2, 1, 0, 5, 4, 10, 9, 15, 14, 20, 19], [21, 24, 18, 20, 19, 17, 13, 16, 12, 8, 11, 7, 3, 6, 2, 1, 0, 5, 4, 10, 9, 15, 14, 23, 22], [25, 18, 21, 24, 20, 19, 17, 13, 16, 12, 8, 11, 7, 3, 6, 2, 1, 0, 5, 4, 10, 9, 15, 14, 23, 22], [18, 26, 17, 13, 16, 12, 8, 11, 7, 3, 6, 2, 1, 0, 5, 4, 10, 9, 15, 14, 25, 21, 24, 20, 19, 23, 22], [27, 25, 0, 1, 2, 3, 4, 5, 6, 7, 8, 9, 10, 11, 12, 13, 14, 15, 16, 17, 18, 19, 20, 21, 22, 23, 24, 26]], [0, 1, 2, 3, 4, 5, 6, 7, 8, 9, 10, 11, 12, 13, 14, 15, 16, 17, 18, 19, 20, 22, 23, 21, 24, 25, 26, 27, 28]⟩)]) Tryd.f40 = some a40 := by kernel_rfl

/- payroll/payrollref1.New -/
def a41r0 : List IOp := [⟨some 4, .alloc 53 [.int .i64 0, .int .i64 0], [], none⟩,
  ⟨some 5, .mv, [.c (.int .i64 0)], none⟩]
def a41r1 : List IOp := [⟨some 10, .mv, [.t 1], none⟩,
  ⟨some 11, .bin .eql, [.t 10, .c (.int .i64 0)], none⟩]
def a41r2 : List IOp := [⟨some 12, .build [.int .i64 0, .int .i64 0] [], [], none⟩,
  ⟨none, .store 2, [.t 4, .t 12], none⟩,
  ⟨some 5, .mv, [.c (.int .i64 5)], none⟩]
def a41r3 : List IOp := [⟨some 13, .mv, [.t 0], none⟩,
  ⟨some 14, .call 60, [.t 13], none⟩,
  ⟨some 15, .mv, [.t 1], none⟩,
  ⟨some 16, .call 60, [.t 15], none⟩,
  ⟨some 6, .mv, [.t 14], none⟩,
  ⟨some 7, .mv, [.t 16], none⟩]
def a41r4 : List IOp := [⟨some 17, .mv, [.t 6], none⟩,
  ⟨some 18, .mv, [.t 7], none⟩,
  ⟨some 19, .call 59, [.t 17, .t 18], none⟩,
  ⟨some 8, .mv, [.t 19], none⟩]
def a41r5 : List (Nat × DOp) := [(0, ⟨⟨some 20, .mv, [.t 6], none⟩, none, [1, 3, 4, 5]⟩),
  (1, ⟨⟨some 21, .mv, [.t 8], none⟩, none, [0, 3, 4, 5]⟩),
  (2, ⟨⟨some 22, .bin .quo, [.t 20, .t 21], none⟩, none, [3, 4, 5]⟩),
  (3, ⟨⟨some 23, .mv, [.t 7], none⟩, none, [0, 1, 2, 4, 6]⟩),
  (4, ⟨⟨some 24, .mv, [.t 8], none⟩, none, [0, 1, 2, 3, 6]⟩),
  (5, ⟨⟨some 25, .bin .quo, [.t 23, .t 24], none⟩, none, [0, 1, 2, 6]⟩),
  (6, ⟨⟨some 6, .mv, [.t 22], none⟩, none, [3, 4, 5]⟩),
  (7, ⟨⟨some 7, .mv, [.t 25], none⟩, none, []⟩)]
def a41r6 : List IOp := [⟨some 26, .mv, [.t 6], none⟩,
  ⟨some 27, .bin .gtr, [.t 26, .c (.int .u64 1000000000000)], none⟩,
  ⟨some 28, .mv, [.t 27], none⟩,
  ⟨some 29, .mv, [.t 7], some (28, false)⟩,
  ⟨some 30, .bin .gtr, [.t 29, .c (.int .u64 1000000)], some (28, false)⟩,
  ⟨some 31, .pick, [.t 28, .c (.bool true), .t 30], none⟩]
def a41r7 : List IOp := [⟨some 32, .build [.int .i64 0, .int .i64 0] [], [], none⟩,
  ⟨none, .store 2, [.t 4, .t 32], none⟩,
  ⟨some 5, .mv, [.c (.int .i64 4)], none⟩]
def a41r8 : List IOp := [⟨some 33, .mv, [.t 6], none⟩,
  ⟨some 34, .conv .i64, [.t 33], none⟩,
  ⟨some 35, .mv, [.t 7], none⟩,
  ⟨some 36, .conv .i64, [.t 35], none⟩,
  ⟨some 37, .build [.int .i64 0, .int .i64 0] [(0, 1), (1, 1)], [.t 34, .t 36], none⟩,
  ⟨some 9, .alloc 53 [.int .i64 0, .int .i64 0], [], none⟩,
  ⟨none, .store 2, [.t 9, .t 37], none⟩]
def a41r9 : List IOp := [⟨some 38, .mv, [.t 0], none⟩,
  ⟨some 39, .bin .lss, [.t 38, .c (.int .i64 0)], none⟩,
  ⟨some 40, .mv, [.t 1], none⟩,
  ⟨some 41, .bin .lss, [.t 40, .c (.int .i64 0)], none⟩,
  ⟨some 42, .eqB true, [.t 39, .t 41], none⟩]
def a41r10 : List IOp := [⟨some 43, .fieldAddr 0, [.t 9], none⟩,
  ⟨some 44, .load1, [.t 43], none⟩,
  ⟨some 45, .neg, [.t 44], none⟩,
  ⟨some 46, .fieldAddr 0, [.t 9], none⟩,
  ⟨none, .store 1, [.t 46, .t 45], none⟩]
def a41r11 : List IOp := [⟨some 47, .loadA 2, [.t 9], none⟩,
  ⟨none, .store 2, [.t 4, .t 47], none⟩,
  ⟨some 5, .mv, [.c (.int .i64 0)], none⟩]
def a41 : AFunc := ⟨48, [.cellA 4 2, .tmp 5], (.seq (.region a41r0 [0, 1, 4]) (.seq (.seq (.region a41r1 [0, 1, 4, 11]) (.cond (.t 11) (.seq (.region a41r2 [4, 5]) .ret) .skip)) (.seq (.region a41r3 [0, 1, 4, 6, 7]) (.seq (.region a41r4 [0, 1, 4, 6, 7, 8]) (.seq (.draw a41r5 [] [0, 1, 4, 6, 7]) (.seq (.seq (.region a41r6 [0, 1, 4, 6, 7, 31]) (.cond (.t 31) (.seq (.region a41r7 [4, 5]) .ret) .skip)) (.seq (.region a41r8 [0, 1, 4, 9]) (.seq (.seq (.region a41r9 [4, 9, 42]) (.cond (.t 42) (.region a41r10 [4, 9]) .skip)) (.seq (.region a41r11 [4, 5]) .ret)))))))))⟩
theorem a41_ok : compileF Tryd.prog (lk [(0, ⟨[0, 1, 4], [], []⟩), (1, ⟨[0, 1, 4, 11], [], []⟩), (2, ⟨[4, 5], [], []⟩), (3, ⟨[0, 1, 4, 6, 7], [], []⟩), (4, ⟨[0, 1, 4, 6, 7, 8], [], []⟩), (5, ⟨[0, 1, 4, 6, 7], [[], [], [0, 1], [], [], [3, 4], [2, 0, 1], [5, 6, 0, 1, 2, 3, 4]], [0, 1, 2, 3, 4, 5, 6, 7]⟩), (6, ⟨[0, 1, 4, 6, 7, 31], [], []⟩), (7, ⟨[4, 5], [], []⟩), (8, ⟨[0, 1, 4, 9], [], []⟩), (9, ⟨[4, 9, 42], [], []⟩), (10, ⟨[4, 9], [], []⟩), (11, ⟨[4, 5], [], []⟩)]) Tryd.f41 = some a41 := by kernel_rfl

/- payroll/payrollref3.Month -/
def a42r0 : List IOp := [⟨some 2, .mv, [.c (.int .i64 0)], none⟩]
def a42r1 : List IOp := [⟨some 8, .mv, [.t 0], none⟩,
  ⟨some 9, .call 43, [.t 8], none⟩,
  ⟨some 7, .mv, [.t 9], none⟩,
  ⟨some 10, .extract 0, [.t 7], none⟩,
  ⟨some 11, .extract 1, [.t 7], none⟩,
  ⟨some 12, .extract 2, [.t 7], none⟩,
  ⟨some 13, .extract 3, [.t 7], none⟩,
  ⟨some 3, .mv, [.t 10], none⟩,
  ⟨some 4, .mv, [.t 11], none⟩,
  ⟨some 5, .mv, [.t 12], none⟩,
  ⟨some 6, .mv, [.t 13], none⟩]
def a42r2 : List IOp := [⟨some 14, .mv, [.t 6], none⟩,
  ⟨some 15, .not, [.t 14], none⟩]
def a42r3 : List IOp := [⟨some 2, .mv, [.c (.int .i64 (-1))], none⟩]
def a42r4 : List IOp := [⟨some 16, .mv, [.t 3], none⟩,
  ⟨some 17, .bin .sub, [.t 16, .c (.int .i64 1970)], none⟩,
  ⟨some 18, .bin .mul, [.t 17, .c (.int .i64 12)], none⟩,
  ⟨some 19, .mv, [.t 4], none⟩,
  ⟨some 20, .bin .add, [.t 18, .t 19], none⟩,
  ⟨some 21, .bin .sub, [.t 20, .c (.int .i64 1)], none⟩,
  ⟨some 2, .mv, [.t 21], none⟩]
def a42 : AFunc := ⟨22, [.tmp 2], (.seq (.region a42r0 [0]) (.seq (.region a42r1 [3, 4, 6]) (.seq (.seq (.region a42r2 [3, 4, 15]) (.cond (.t 15) (.seq (.region a42r3 [2]) .ret) .skip)) (.seq (.region a42r4 [2]) .ret))))⟩
theorem a42_ok : compileF Tryd.prog (lk [(0, ⟨[0], [], []⟩), (1, ⟨[3, 4, 6], [], []⟩), (2, ⟨[3, 4, 15], [], []⟩), (3, ⟨[2], [], []⟩), (4, ⟨[2], [], []⟩)]) Tryd.f42 = some a42 := by kernel_rfl

/- payroll/payrollref3.Date -/
def a43r0 : List IOp := [⟨some 2, .mv, [.c (.int .i64 0)], none⟩,
  ⟨some 3, .mv, [.c (.int .i64 0)], none⟩,
  ⟨some 4, .mv, [.c (.int .i64 0)], none⟩,
  ⟨some 5, .mv, [.c (.bool false)], none⟩]
def a43r1 : List IOp := [⟨some 9, .mv, [.t 0], none⟩,
  ⟨some 10, .call 26, [.t 9], none⟩,
  ⟨some 11, .not, [.t 10], none⟩]
def a43r2 : List IOp := [⟨some 2, .mv, [.c (.int .i64 0)], none⟩,
  ⟨some 3, .mv, [.c (.int .i64 0)], none⟩,
  ⟨some 4, .mv, [.c (.int .i64 0)], none⟩,
  ⟨some 5, .mv, [.c (.bool false)], none⟩]
def a43r3 : List IOp := [⟨some 12, .mv, [.t 0], none⟩,
  ⟨some 13, .bin .quo, [.t 12, .c (.int .i64 366)], none⟩,
  ⟨some 14, .bin .add, [.c (.int .i64 1970), .t 13], none⟩,
  ⟨some 6, .mv, [.t 14], none⟩]
def a43r4 : List IOp := [⟨some 15, .mv, [.t 6], none⟩,
  ⟨some 16, .bin .add, [.t 15, .c (.int .i64 1)], none⟩,
  ⟨some 17, .call 61, [.t 16], none⟩,
  ⟨some 18, .mv, [.t 0], none⟩,
  ⟨some 19, .bin .leq, [.t 17, .t 18], none⟩]
def a43r5 : List IOp := [⟨some 20, .mv, [.t 6], none⟩,
  ⟨some 21, .bin .add, [.t 20, .c (.int .i64 1)], none⟩,
  ⟨some 6, .mv, [.t 21], none⟩]
def a43r6 : List IOp := [⟨some 22, .mv, [.t 0], none⟩,
  ⟨some 23, .mv, [.t 6], none⟩,
  ⟨some 24, .call 61, [.t 23], none⟩,
  ⟨some 25, .bin .sub, [.t 22, .t 24], none⟩,
  ⟨some 7, .mv, [.t 25], none⟩]
def a43r7 : List IOp := [⟨some 8, .mv, [.c (.int .i64 1)], none⟩]
def a43r8 : List IOp := [⟨some 26, .mv, [.t 7], none⟩,
  ⟨some 27, .mv, [.t 6], none⟩,
  ⟨some 28, .mv, [.t 8], none⟩,
  ⟨some 29, .call 49, [.t 27, .t 28], none⟩,
  ⟨some 30, .bin .geq, [.t 26, .t 29], none⟩]
def a43r9 : List IOp := [⟨some 31, .mv, [.t 7], none⟩,
  ⟨some 32, .mv, [.t 6], none⟩,
  ⟨some 33, .mv, [.t 8], none⟩,
  ⟨some 34, .call 49, [.t 32, .t 33], none⟩,
  ⟨some 35, .bin .sub, [.t 31, .t 34], none⟩,
  ⟨some 7, .mv, [.t 35], none⟩]
def a43r10 : List IOp := [⟨some 36, .mv, [.t 8], none⟩,
  ⟨some 37, .bin .add, [.t 36, .c (.int .i64 1)], none⟩,
  ⟨some 8, .mv, [.t 37], none⟩]
def a43r11 : List IOp := [⟨some 38, .mv, [.t 6], none⟩,
  ⟨some 39, .mv, [.t 8], none⟩,
  ⟨some 40, .mv, [.t 7], none⟩,
  ⟨some 41, .bin .add, [.t 40, .c (.int .i64 1)], none⟩,
  ⟨some 2, .mv, [.t 38], none⟩,
  ⟨some 3, .mv, [.t 39], none⟩,
  ⟨some 4, .mv, [.t 41], none⟩,
  ⟨some 5, .mv, [.c (.bool true)], none⟩]
def a43 : AFunc := ⟨42, [.tmp 2, .tmp 3, .tmp 4, .tmp 5], (.seq (.region a43r0 [0]) (.seq (.seq (.region a43r1 [0, 11]) (.cond (.t 11) (.seq (.region a43r2 [2, 3, 4, 5]) .ret) .skip)) (.seq (.region a43r3 [0, 6]) (.seq (.block 0 (.loop (.seq (.seq (.region a43r4 [0, 6, 19]) (.cond (.t 19) .skip (.exit 0))) (.block 1 (.region a43r5 [0, 6]))))) (.seq (.region a43r6 [6, 7]) (.seq (.region a43r7 [6, 7, 8]) (.seq (.block 2 (.loop (.seq (.seq (.region a43r8 [6, 7, 8, 30]) (.cond (.t 30) .skip (.exit 2))) (.block 3 (.seq (.region a43r9 [6, 7, 8]) (.region a43r10 [6, 7, 8])))))) (.seq (.region a43r11 [2, 3, 4, 5]) .ret))))))))⟩
theorem a43_ok : compileF Tryd.prog (lk [(0, ⟨[0], [], []⟩), (1, ⟨[0, 11], [], []⟩), (2, ⟨[2, 3, 4, 5], [], []⟩), (3, ⟨[0, 6], [], []⟩), (4, ⟨[0, 6, 19], [], []⟩), (5, ⟨[0, 6], [], []⟩), (6, ⟨[6, 7], [], []⟩), (7, ⟨[6, 7, 8], [], []⟩), (8, ⟨[6, 7, 8, 30], [], []⟩), (9, ⟨[6, 7, 8], [], []⟩), (10, ⟨[6, 7, 8], [], []⟩), (11, ⟨[2, 3, 4, 5], [], []⟩)]) Tryd.f43 = some a43 := by kernel_rfl

/- payroll/calendar.Month -/
def a44r0 : List IOp := [⟨some 2, .mv, [.c (.int .i64 0)], none⟩]
def a44r1 : List IOp := [⟨some 8, .mv, [.t 0], none⟩,
  ⟨some 9, .call 45, [.t 8], none⟩,
  ⟨some 7, .mv, [.t 9], none⟩,
  ⟨some 10, .extract 0, [.t 7], none⟩,
  ⟨some 11, .extract 1, [.t 7], none⟩,
  ⟨some 12, .extract 2, [.t 7], none⟩,
  ⟨some 13, .extract 3, [.t 7], none⟩,
  ⟨some 3, .mv, [.t 10], none⟩,
  ⟨some 4, .mv, [.t 11], none⟩,
  ⟨some 5, .mv, [.t 12], none⟩,
  ⟨some 6, .mv, [.t 13], none⟩]
def a44r2 : List IOp := [⟨some 14, .mv, [.t 6], none⟩,
  ⟨some 15, .not, [.t 14], none⟩]
def a44r3 : List IOp := [⟨some 2, .mv, [.c (.int .i64 (-1))], none⟩]
def a44r4 : List IOp := [⟨some 16, .mv, [.t 3], none⟩,
  ⟨some 17, .bin .sub, [.t 16, .c (.int .i64 1970)], none⟩,
  ⟨some 18, .bin .mul, [.t 17, .c (.int .i64 12)], none⟩,
  ⟨some 19, .mv, [.t 4], none⟩,
  ⟨some 20, .bin .add, [.t 18, .t 19], none⟩,
  ⟨some 21, .bin .sub, [.t 20, .c (.int .i64 1)], none⟩,
  ⟨some 2, .mv, [.t 21], none⟩]
def a44 : AFunc := ⟨22, [.tmp 2], (.seq (.region a44r0 [0]) (.seq (.region a44r1 [3, 4, 6]) (.seq (.seq (.region a44r2 [3, 4, 15]) (.cond (.t 15) (.seq (.region a44r3 [2]) .ret) .skip)) (.seq (.region a44r4 [2]) .ret))))⟩
theorem a44_ok : compileF Tryd.prog (lk [(0, ⟨[0], [], []⟩), (1, ⟨[3, 4, 6], [], []⟩), (2, ⟨[3, 4, 15], [], []⟩), (3, ⟨[2], [], []⟩), (4, ⟨[2], [], []⟩)]) Tryd.f44 = some a44 := by kernel_rfl

/- payroll/calendar.Date -/
def a45r0 : List IOp := [⟨some 2, .mv, [.c (.int .i64 0)], none⟩,
  ⟨some 3, .mv, [.c (.int .i64 0)], none⟩,
  ⟨some 4, .mv, [.c (.int .i64 0)], none⟩,
  ⟨some 5, .mv, [.c (.bool false)], none⟩]
def a45r1 : List IOp := [⟨some 9, .mv, [.t 0], none⟩,
  ⟨some 10, .call 51, [.t 9], none⟩,
  ⟨some 11, .not, [.t 10], none⟩]
def a45r2 : List IOp := [⟨some 2, .mv, [.c (.int .i64 0)], none⟩,
  ⟨some 3, .mv, [.c (.int .i64 0)], none⟩,
  ⟨some 4, .mv, [.c (.int .i64 0)], none⟩,
  ⟨some 5, .mv, [.c (.bool false)], none⟩]
def a45r3 : List IOp := [⟨some 12, .mv, [.t 0], none⟩,
  ⟨some 13, .call 53, [.t 12], none⟩,
  ⟨some 6, .mv, [.t 13], none⟩]
def a45r4 : List IOp := [⟨some 14, .mv, [.t 0], none⟩,
  ⟨some 15, .mv, [.t 6], none⟩,
  ⟨some 16, .call 62, [.t 15], none⟩,
  ⟨some 17, .bin .sub, [.t 14, .t 16], none⟩,
  ⟨some 7, .mv, [.t 17], none⟩]
def a45r5 : List IOp := [⟨some 8, .mv, [.c (.int .i64 1)], none⟩]
def a45r6 : List IOp := [⟨some 18, .mv, [.t 7], none⟩,
  ⟨some 19, .mv, [.t 6], none⟩,
  ⟨some 20, .mv, [.t 8], none⟩,
  ⟨some 21, .call 63, [.t 19, .t 20], none⟩,
  ⟨some 22, .bin .geq, [.t 18, .t 21], none⟩]
def a45r7 : List IOp := [⟨some 23, .mv, [.t 7], none⟩,
  ⟨some 24, .mv, [.t 6], none⟩,
  ⟨some 25, .mv, [.t 8], none⟩,
  ⟨some 26, .call 63, [.t 24, .t 25], none⟩,
  ⟨some 27, .bin .sub, [.t 23, .t 26], none⟩,
  ⟨some 7, .mv, [.t 27], none⟩]
def a45r8 : List IOp := [⟨some 28, .mv, [.t 8], none⟩,
  ⟨some 29, .bin .add, [.t 28, .c (.int .i64 1)], none⟩,
  ⟨some 8, .mv, [.t 29], none⟩]
def a45r9 : List IOp := [⟨some 30, .mv, [.t 6], none⟩,
  ⟨some 31, .mv, [.t 8], none⟩,
  ⟨some 32, .mv, [.t 7], none⟩,
  ⟨some 33, .bin .add, [.t 32, .c (.int .i64 1)], none⟩,
  ⟨some 2, .mv, [.t 30], none⟩,
  ⟨some 3, .mv, [.t 31], none⟩,
  ⟨some 4, .mv, [.t 33], none⟩,
  ⟨some 5, .mv, [.c (.bool true)], none⟩]
def a45 : AFunc := ⟨34, [.tmp 2, .tmp 3, .tmp 4, .tmp 5], (.seq (.region a45r0 [0]) (.seq (.seq (.region a45r1 [0, 11]) (.cond (.t 11) (.seq (.region a45r2 [2, 3, 4, 5]) .ret) .skip)) (.seq (.region a45r3 [0, 6]) (.seq (.region a45r4 [6, 7]) (.seq (.region a45r5 [6, 7, 8]) (.seq (.block 0 (.loop (.seq (.seq (.region a45r6 [6, 7, 8, 22]) (.cond (.t 22) .skip (.exit 0))) (.block 1 (.seq (.region a45r7 [6, 7, 8]) (.region a45r8 [6, 7, 8])))))) (.seq (.region a45r9 [2, 3, 4, 5]) .ret)))))))⟩
theorem a45_ok : compileF Tryd.prog (lk [(0, ⟨[0], [], []⟩), (1, ⟨[0, 11], [], []⟩), (2, ⟨[2, 3, 4, 5], [], []⟩), (3, ⟨[0, 6], [], []⟩), (4, ⟨[6, 7], [], []⟩), (5, ⟨[6, 7, 8], [], []⟩), (6, ⟨[6, 7, 8, 22], [], []⟩), (7, ⟨[6, 7, 8], [], []⟩), (8, ⟨[6, 7, 8], [], []⟩), (9, ⟨[2, 3, 4, 5], [], []⟩)]) Tryd.f45 = some a45 := by kernel_rfl

/- payroll/calendar.First -/
def a46r0 : List IOp := [⟨some 2, .mv, [.c (.int .i64 0)], none⟩,
  ⟨some 3, .mv, [.c (.bool false)], none⟩]
def a46r1 : List IOp := [⟨some 4, .mv, [.t 0], none⟩,
  ⟨some 5, .bin .lss, [.t 4, .c (.int .i64 0)], none⟩,
  ⟨some 6, .mv, [.t 5], none⟩,
  ⟨some 7, .mv, [.t 0], some (6, false)⟩,
  ⟨some 8, .bin .gtr, [.t 7, .c (.int .i64 2759)], some (6, false)⟩,
  ⟨some 9, .pick, [.t 6, .c (.bool true), .t 8], none⟩]
def a46r2 : List IOp := [⟨some 2, .mv, [.c (.int .i64 0)], none⟩,
  ⟨some 3, .mv, [.c (.bool false)], none⟩]
def a46r3 : List IOp := [⟨some 10, .mv, [.t 0], none⟩,
  ⟨some 11, .bin .quo, [.t 10, .c (.int .i64 12)], none⟩,
  ⟨some 12, .bin .add, [.c (.int .i64 1970), .t 11], none⟩,
  ⟨some 13, .mv, [.t 0], none⟩,
  ⟨some 14, .bin .rem, [.t 13, .c (.int .i64 12)], none⟩,
  ⟨some 15, .bin .add, [.t 14, .c (.int .i64 1)], none⟩,
  ⟨some 16, .call 64, [.t 12, .t 15, .c (.int .i64 1)], none⟩,
  ⟨some 2, .mv, [.t 16], none⟩,
  ⟨some 3, .mv, [.c (.bool true)], none⟩]
def a46 : AFunc := ⟨17, [.tmp 2, .tmp 3], (.seq (.region a46r0 [0]) (.seq (.seq (.region a46r1 [0, 9]) (.cond (.t 9) (.seq (.region a46r2 [2, 3]) .ret) .skip)) (.seq (.region a46r3 [2, 3]) .ret)))⟩
theorem a46_ok : compileF Tryd.prog (lk [(0, ⟨[0], [], []⟩), (1, ⟨[0, 9], [], []⟩), (2, ⟨[2, 3], [], []⟩), (3, ⟨[2, 3], [], []⟩)]) Tryd.f46 = some a46 := by kernel_rfl

/- payroll/calendar.Length -/
def a47r0 : List IOp := [⟨some 2, .mv, [.c (.int .i64 0)], none⟩]
def a47r1 : List IOp := [⟨some 3, .mv, [.t 0], none⟩,
  ⟨some 4, .bin .lss, [.t 3, .c (.int .i64 0)], none⟩,
  ⟨some 5, .mv, [.t 4], none⟩,
  ⟨some 6, .mv, [.t 0], some (5, false)⟩,
  ⟨some 7, .bin .gtr, [.t 6, .c (.int .i64 2759)], some (5, false)⟩,
  ⟨some 8, .pick, [.t 5, .c (.bool true), .t 7], none⟩]
def a47r2 : List IOp := [⟨some 2, .mv, [.c (.int .i64 0)], none⟩]
def a47r3 : List IOp := [⟨some 9, .mv, [.t 0], none⟩,
  ⟨some 10, .bin .quo, [.t 9, .c (.int .i64 12)], none⟩,
  ⟨some 11, .bin .add, [.c (.int .i64 1970), .t 10], none⟩,
  ⟨some 12, .mv, [.t 0], none⟩,
  ⟨some 13, .bin .rem, [.t 12, .c (.int .i64 12)], none⟩,
  ⟨some 14, .bin .add, [.t 13, .c (.int .i64 1)], none⟩,
  ⟨some 15, .call 63, [.t 11, .t 14], none⟩,
  ⟨some 2, .mv, [.t 15], none⟩]
def a47 : AFunc := ⟨16, [.tmp 2], (.seq (.region a47r0 [0]) (.seq (.seq (.region a47r1 [0, 8]) (.cond (.t 8) (.seq (.region a47r2 [2]) .ret) .skip)) (.seq (.region a47r3 [2]) .ret)))⟩
theorem a47_ok : compileF Tryd.prog (lk [(0, ⟨[0], [], []⟩), (1, ⟨[0, 8], [], []⟩), (2, ⟨[2], [], []⟩), (3, ⟨[2], [], []⟩)]) Tryd.f47 = some a47 := by kernel_rfl

/- payroll/payrollref3.Day -/
def a48r0 : List IOp := [⟨some 6, .mv, [.c (.int .i64 0)], none⟩,
  ⟨some 7, .mv, [.c (.bool false)], none⟩]
def a48r1 : List IOp := [⟨some 8, .mv, [.t 0], none⟩,
  ⟨some 9, .call 65, [.t 8], none⟩,
  ⟨some 10, .not, [.t 9], none⟩,
  ⟨some 11, .mv, [.t 10], none⟩,
  ⟨some 12, .mv, [.t 1], some (11, false)⟩,
  ⟨some 13, .bin .lss, [.t 12, .c (.int .i64 1)], some (11, false)⟩,
  ⟨some 14, .pick, [.t 11, .c (.bool true), .t 13], none⟩,
  ⟨some 15, .mv, [.t 14], none⟩,
  ⟨some 16, .mv, [.t 1], some (15, false)⟩,
  ⟨some 17, .bin .gtr, [.t 16, .c (.int .i64 12)], some (15, false)⟩,
  ⟨some 18, .pick, [.t 15, .c (.bool true), .t 17], none⟩,
  ⟨some 19, .mv, [.t 18], none⟩,
  ⟨some 20, .mv, [.t 2], some (19, false)⟩,
  ⟨some 21, .bin .lss, [.t 20, .c (.int .i64 1)], some (19, false)⟩,
  ⟨some 22, .pick, [.t 19, .c (.bool true), .t 21], none⟩,
  ⟨some 23, .mv, [.t 22], none⟩,
  ⟨some 24, .mv, [.t 2], some (23, false)⟩,
  ⟨some 25, .mv, [.t 0], some (23, false)⟩,
  ⟨some 26, .mv, [.t 1], some (23, false)⟩,
  ⟨some 27, .call 49, [.t 25, .t 26], some (23, false)⟩,
  ⟨some 28, .bin .gtr, [.t 24, .t 27], some (23, false)⟩,
  ⟨some 29, .pick, [.t 23, .c (.bool true), .t 28], none⟩]
def a48r2 : List IOp := [⟨some 6, .mv, [.c (.int .i64 0)], none⟩,
  ⟨some 7, .mv, [.c (.bool false)], none⟩]
def a48r3 : List IOp := [⟨some 30, .mv, [.t 0], none⟩,
  ⟨some 31, .mv, [.t 1], none⟩,
  ⟨some 32, .mv, [.t 2], none⟩,
  ⟨some 33, .call 66, [.t 30, .t 31, .t 32], none⟩,
  ⟨some 6, .mv, [.t 33], none⟩,
  ⟨some 7, .mv, [.c (.bool true)], none⟩]
def a48 : AFunc := ⟨34, [.tmp 6, .tmp 7], (.seq (.region a48r0 [0, 1, 2]) (.seq (.seq (.region a48r1 [0, 1, 2, 29]) (.cond (.t 29) (.seq (.region a48r2 [6, 7]) .ret) .skip)) (.seq (.region a48r3 [6, 7]) .ret)))⟩
theorem a48_ok : compileF Tryd.prog (lk [(0, ⟨[0, 1, 2], [], []⟩), (1, ⟨[0, 1, 2, 29], [], []⟩), (2, ⟨[6, 7], [], []⟩), (3, ⟨[6, 7], [], []⟩)]) Tryd.f48 = some a48 := by kernel_rfl

/- payroll/payrollref3.lengths -/
def a49r0 : List IOp := [⟨some 4, .mv, [.c (.int .i64 0)], none⟩]
def a49r1 : List IOp := [⟨some 5, .mv, [.t 1], none⟩]
def a49r2 : List IOp := [⟨some 7, .bin .eql, [.t 5, .c (.int .i64 4)], none⟩,
  ⟨some 6, .mv, [.t 7], none⟩]
def a49r3 : List IOp := [⟨some 8, .bin .eql, [.t 5, .c (.int .i64 6)], none⟩,
  ⟨some 6, .mv, [.t 8], none⟩]
def a49r4 : List IOp := [⟨some 9, .bin .eql, [.t 5, .c (.int .i64 9)], none⟩,
  ⟨some 6, .mv, [.t 9], none⟩]
def a49r5 : List IOp := [⟨some 10, .bin .eql, [.t 5, .c (.int .i64 11)], none⟩,
  ⟨some 6, .mv, [.t 10], none⟩]
def a49r6 : List IOp := [⟨some 4, .mv, [.c (.int .i64 30)], none⟩]
def a49r7 : List IOp := [⟨some 12, .bin .eql, [.t 5, .c (.int .i64 2)], none⟩,
  ⟨some 11, .mv, [.t 12], none⟩]
def a49r8 : List IOp := [⟨some 13, .mv, [.t 0], none⟩,
  ⟨some 14, .bin .rem, [.t 13, .c (.int .i64 4)], none⟩,
  ⟨some 15, .bin .eql, [.t 14, .c (.int .i64 0)], none⟩,
  ⟨some 16, .mv, [.t 15], none⟩,
  ⟨some 17, .mv, [.t 0], some (16, true)⟩,
  ⟨some 18, .bin .rem, [.t 17, .c (.int .i64 100)], some (16, true)⟩,
  ⟨some 19, .bin .neq, [.t 18, .c (.int .i64 0)], some (16, true)⟩,
  ⟨some 20, .mv, [.t 19], some (16, true)⟩,
  ⟨some 21, .mv, [.t 0], some (20, false)⟩,
  ⟨some 22, .bin .rem, [.t 21, .c (.int .i64 400)], some (20, false)⟩,
  ⟨some 23, .bin .eql, [.t 22, .c (.int .i64 0)], some (20, false)⟩,
  ⟨some 24, .pick, [.t 20, .c (.bool true), .t 23], some (16, true)⟩,
  ⟨some 25, .pick, [.t 16, .t 24, .c (.bool false)], none⟩]
def a49r9 : List IOp := [⟨some 4, .mv, [.c (.int .i64 29)], none⟩]
def a49r10 : List IOp := [⟨some 4, .mv, [.c (.int .i64 28)], none⟩]
def a49r11 : List IOp := [⟨some 4, .mv, [.c (.int .i64 31)], none⟩]
def a49 : AFunc := ⟨26, [.tmp 4], (.seq (.region a49r0 [0, 1]) (.seq (.seq (.region a49r1 [0, 5]) (.block 0 (.seq (.seq (.region a49r2 [0, 5, 6]) (.cond (.t 6) .skip (.seq (.region a49r3 [0, 5, 6]) (.cond (.t 6) .skip (.seq (.region a49r4 [0, 5, 6]) (.cond (.t 6) .skip (.region a49r5 [0, 5, 6]))))))) (.cond (.t 6) (.seq (.region a49r6 [4]) .ret) (.seq (.region a49r7 [0, 11]) (.cond (.t 11) (.seq (.seq (.region a49r8 [25]) (.cond (.t 25) (.seq (.region a49r9 [4]) .ret) .skip)) (.seq (.region a49r10 [4]) .ret)) .skip)))))) (.seq (.region a49r11 [4]) .ret)))⟩
theorem a49_ok : compileF Tryd.prog (lk [(0, ⟨[0, 1], [], []⟩), (1, ⟨[0, 5], [], []⟩), (2, ⟨[0, 5, 6], [], []⟩), (3, ⟨[0, 5, 6], [], []⟩), (4, ⟨[0, 5, 6], [], []⟩), (5, ⟨[0, 5, 6], [], []⟩), (6, ⟨[4], [], []⟩), (7, ⟨[0, 11], [], []⟩), (8, ⟨[25], [], []⟩), (9, ⟨[4], [], []⟩), (10, ⟨[4], [], []⟩), (11, ⟨[4], [], []⟩)]) Tryd.f49 = some a49 := by kernel_rfl

/- payroll/calendar.validRule -/
def a50r0 : List IOp := [⟨some 1, .box 67 6, [.t 0], none⟩,
  ⟨some 2, .mv, [.c (.bool false)], none⟩]
def a50r1 : List IOp := [⟨some 4, .fieldAddr 0, [.t 1], none⟩,
  ⟨some 5, .load1, [.t 4], none⟩]
def a50r2 : List IOp := [⟨some 7, .bin .eql, [.t 5, .c (.int .i64 0)], none⟩,
  ⟨some 6, .mv, [.t 7], none⟩]
def a50r3 : List IOp := [⟨some 8, .fieldAddr 1, [.t 1], none⟩,
  ⟨some 9, .load1, [.t 8], none⟩,
  ⟨some 10, .bin .lss, [.t 9, .c (.int .i64 1)], none⟩,
  ⟨some 11, .mv, [.t 10], none⟩,
  ⟨some 12, .fieldAddr 1, [.t 1], some (11, false)⟩,
  ⟨some 13, .load1, [.t 12], some (11, false)⟩,
  ⟨some 14, .bin .gtr, [.t 13, .c (.int .i64 12)], some (11, false)⟩,
  ⟨some 15, .pick, [.t 11, .c (.bool true), .t 14], none⟩,
  ⟨some 16, .mv, [.t 15], none⟩,
  ⟨some 17, .fieldAddr 3, [.t 1], some (16, false)⟩,
  ⟨some 18, .load1, [.t 17], some (16, false)⟩,
  ⟨some 19, .bin .neq, [.t 18, .c (.int .i64 0)], some (16, false)⟩,
  ⟨some 20, .pick, [.t 16, .c (.bool true), .t 19], none⟩,
  ⟨some 21, .mv, [.t 20], none⟩,
  ⟨some 22, .fieldAddr 4, [.t 1], some (21, false)⟩,
  ⟨some 23, .load1, [.t 22], some (21, false)⟩,
  ⟨some 24, .bin .neq, [.t 23, .c (.int .i64 0)], some (21, false)⟩,
  ⟨some 25, .pick, [.t 21, .c (.bool true), .t 24], none⟩]
def a50r4 : List IOp := [⟨some 2, .mv, [.c (.bool false)], none⟩]
def a50r5 : List IOp := [⟨some 26, .fieldAddr 1, [.t 1], none⟩,
  ⟨some 27, .load1, [.t 26], none⟩,
  ⟨some 28, .bin .sub, [.t 27, .c (.int .i64 1)], none⟩,
  ⟨some 29, .mv, [], none⟩,
  ⟨some 30, .load1, [.t 29], none⟩,
  ⟨some 3, .mv, [.t 30], none⟩]
def a50r6 : List IOp := [⟨some 31, .fieldAddr 1, [.t 1], none⟩,
  ⟨some 32, .load1, [.t 31], none⟩,
  ⟨some 33, .bin .eql, [.t 32, .c (.int .i64 2)], none⟩]
def a50r7 : List IOp := [⟨some 3, .mv, [.c (.int .i64 29)], none⟩]
def a50r8 : List IOp := [⟨some 34, .fieldAddr 2, [.t 1], none⟩,
  ⟨some 35, .load1, [.t 34], none⟩,
  ⟨some 36, .bin .geq, [.t 35, .c (.int .i64 1)], none⟩,
  ⟨some 37, .mv, [.t 36], none⟩,
  ⟨some 38, .fieldAddr 2, [.t 1], some (37, true)⟩,
  ⟨some 39, .load1, [.t 38], some (37, true)⟩,
  ⟨some 40, .mv, [.t 3], some (37, true)⟩,
  ⟨some 41, .bin .leq, [.t 39, .t 40], some (37, true)⟩,
  ⟨some 42, .pick, [.t 37, .t 41, .c (.bool false)], none⟩,
  ⟨some 2, .mv, [.t 42], none⟩]
def a50r9 : List IOp := [⟨some 44, .bin .eql, [.t 5, .c (.int .i64 1)], none⟩,
  ⟨some 43, .mv, [.t 44], none⟩]
def a50r10 : List IOp := [⟨some 45, .fieldAddr 4, [.t 1], none⟩,
  ⟨some 46, .load1, [.t 45], none⟩,
  ⟨some 47, .bin .geq, [.t 46, .c (.int .i64 (-100))], none⟩,
  ⟨some 48, .mv, [.t 47], none⟩,
  ⟨some 49, .fieldAddr 4, [.t 1], some (48, true)⟩,
  ⟨some 50, .load1, [.t 49], some (48, true)⟩,
  ⟨some 51, .bin .leq, [.t 50, .c (.int .i64 100)], some (48, true)⟩,
  ⟨some 52, .pick, [.t 48, .t 51, .c (.bool false)], none⟩,
  ⟨some 53, .mv, [.t 52], none⟩,
  ⟨some 54, .fieldAddr 1, [.t 1], some (53, true)⟩,
  ⟨some 55, .load1, [.t 54], some (53, true)⟩,
  ⟨some 56, .bin .eql, [.t 55, .c (.int .i64 0)], some (53, true)⟩,
  ⟨some 57, .pick, [.t 53, .t 56, .c (.bool false)], none⟩,
  ⟨some 58, .mv, [.t 57], none⟩,
  ⟨some 59, .fieldAddr 2, [.t 1], some (58, true)⟩,
  ⟨some 60, .load1, [.t 59], some (58, true)⟩,
  ⟨some 61, .bin .eql, [.t 60, .c (.int .i64 0)], some (58, true)⟩,
  ⟨some 62, .pick, [.t 58, .t 61, .c (.bool false)], none⟩,
  ⟨some 63, .mv, [.t 62], none⟩,
  ⟨some 64, .fieldAddr 3, [.t 1], some (63, true)⟩,
  ⟨some 65, .load1, [.t 64], some (63, true)⟩,
  ⟨some 66, .bin .eql, [.t 65, .c (.int .i64 0)], some (63, true)⟩,
  ⟨some 67, .pick, [.t 63, .t 66, .c (.bool false)], none⟩,
  ⟨some 2, .mv, [.t 67], none⟩]
def a50r11 : List IOp := [⟨some 69, .bin .eql, [.t 5, .c (.int .i64 2)], none⟩,
  ⟨some 68, .mv, [.t 69], none⟩]
def a50r12 : List IOp := [⟨some 70, .fieldAddr 1, [.t 1], none⟩,
  ⟨some 71, .load1, [.t 70], none⟩,
  ⟨some 72, .bin .geq, [.t 71, .c (.int .i64 1)], none⟩,
  ⟨some 73, .mv, [.t 72], none⟩,
  ⟨some 74, .fieldAddr 1, [.t 1], some (73, true)⟩,
  ⟨some 75, .load1, [.t 74], some (73, true)⟩,
  ⟨some 76, .bin .leq, [.t 75, .c (.int .i64 12)], some (73, true)⟩,
  ⟨some 77, .pick, [.t 73, .t 76, .c (.bool false)], none⟩,
  ⟨some 78, .mv, [.t 77], none⟩,
  ⟨some 79, .fieldAddr 2, [.t 1], some (78, true)⟩,
  ⟨some 80, .load1, [.t 79], some (78, true)⟩,
  ⟨some 81, .bin .eql, [.t 80, .c (.int .i64 (-1))], some (78, true)⟩,
  ⟨some 82, .mv, [.t 81], some (78, true)⟩,
  ⟨some 83, .fieldAddr 2, [.t 1], some (82, false)⟩,
  ⟨some 84, .load1, [.t 83], some (82, false)⟩,
  ⟨some 85, .bin .geq, [.t 84, .c (.int .i64 1)], some (82, false)⟩,
  ⟨some 86, .mv, [.t 85], some (82, false)⟩,
  ⟨some 87, .fieldAddr 2, [.t 1], some (86, true)⟩,
  ⟨some 88, .load1, [.t 87], some (86, true)⟩,
  ⟨some 89, .bin .leq, [.t 88, .c (.int .i64 5)], some (86, true)⟩,
  ⟨some 90, .pick, [.t 86, .t 89, .c (.bool false)], some (82, false)⟩,
  ⟨some 91, .pick, [.t 82, .c (.bool true), .t 90], some (78, true)⟩,
  ⟨some 92, .pick, [.t 78, .t 91, .c (.bool false)], none⟩,
  ⟨some 93, .mv, [.t 92], none⟩,
  ⟨some 94, .fieldAddr 3, [.t 1], some (93, true)⟩,
  ⟨some 95, .load1, [.t 94], some (93, true)⟩,
  ⟨some 96, .bin .geq, [.t 95, .c (.int .i64 0)], some (93, true)⟩,
  ⟨some 97, .pick, [.t 93, .t 96, .c (.bool false)], none⟩,
  ⟨some 98, .mv, [.t 97], none⟩,
  ⟨some 99, .fieldAddr 3, [.t 1], some (98, true)⟩,
  ⟨some 100, .load1, [.t 99], some (98, true)⟩,
  ⟨some 101, .bin .leq, [.t 100, .c (.int .i64 6)], some (98, true)⟩,
  ⟨some 102, .pick, [.t 98, .t 101, .c (.bool false)], none⟩,
  ⟨some 103, .mv, [.t 102], none⟩,
  ⟨some 104, .fieldAddr 4, [.t 1], some (103, true)⟩,
  ⟨some 105, .load1, [.t 104], some (103, true)⟩,
  ⟨some 106, .bin .geq, [.t 105, .c (.int .i64 (-7))], some (103, true)⟩,
  ⟨some 107, .pick, [.t 103, .t 106, .c (.bool false)], none⟩,
  ⟨some 108, .mv, [.t 107], none⟩,
  ⟨some 109, .fieldAddr 4, [.t 1], some (108, true)⟩,
  ⟨some 110, .load1, [.t 109], some (108, true)⟩,
  ⟨some 111, .bin .leq, [.t 110, .c (.int .i64 7)], some (108, true)⟩,
  ⟨some 112, .pick, [.t 108, .t 111, .c (.bool false)], none⟩,
  ⟨some 2, .mv, [.t 112], none⟩]
def a50r13 : List IOp := [⟨some 2, .mv, [.c (.bool false)], none⟩]
def a50 : AFunc := ⟨113, [.tmp 2], (.seq (.region a50r0 [1]) (.seq (.seq (.region a50r1 [1, 5]) (.block 0 (.seq (.region a50r2 [1, 5, 6]) (.cond (.t 6) (.seq (.seq (.region a50r3 [1, 25]) (.cond (.t 25) (.seq (.region a50r4 [2]) .ret) .skip)) (.seq (.region a50r5 [1, 3]) (.seq (.seq (.region a50r6 [1, 3, 33]) (.cond (.t 33) (.region a50r7 [1, 3]) .skip)) (.seq (.region a50r8 [2]) .ret)))) (.seq (.region a50r9 [1, 5, 43]) (.cond (.t 43) (.seq (.region a50r10 [2]) .ret) (.seq (.region a50r11 [1, 68]) (.cond (.t 68) (.seq (.region a50r12 [2]) .ret) .skip)))))))) (.seq (.region a50r13 [2]) .ret)))⟩
theorem a50_ok : compileF Tryd.prog (lk [(0, ⟨[1], [], []⟩), (1, ⟨[1, 5], [], []⟩), (2, ⟨[1, 5, 6], [], []⟩), (3, ⟨[1, 25], [], []⟩), (4, ⟨[2], [], []⟩), (5, ⟨[1, 3], [], []⟩), (6, ⟨[1, 3, 33], [], []⟩), (7, ⟨[1, 3], [], []⟩), (8, ⟨[2], [], []⟩), (9, ⟨[1, 5, 43], [], []⟩), (10, ⟨[2], [], []⟩), (11, ⟨[1, 68], [], []⟩), (12, ⟨[2], [], []⟩), (13, ⟨[2], [], []⟩)]) Tryd.f50 = some a50 := by kernel_rfl

/- payroll/calendar.valid -/
def a51r0 : List IOp := [⟨some 2, .mv, [.c (.bool false)], none⟩]
def a51r1 : List IOp := [⟨some 3, .mv, [.t 0], none⟩,
  ⟨some 4, .bin .geq, [.t 3, .c (.int .i64 0)], none⟩,
  ⟨some 5, .mv, [.t 4], none⟩,
  ⟨some 6, .mv, [.t 0], some (5, true)⟩,
  ⟨some 7, .bin .leq, [.t 6, .c (.int .i64 84005)], some (5, true)⟩,
  ⟨some 8, .pick, [.t 5, .t 7, .c (.bool false)], none⟩,
  ⟨some 2, .mv, [.t 8], none⟩]
def a51 : AFunc := ⟨9, [.tmp 2], (.seq (.region a51r0 [0]) (.seq (.region a51r1 [2]) .ret))⟩
theorem a51_ok : compileF Tryd.prog (lk [(0, ⟨[0], [], []⟩), (1, ⟨[2], [], []⟩)]) Tryd.f51 = some a51 := by kernel_rfl

/- payroll/calendar.weekdaysBefore -/
def a52r0 : List IOp := [⟨some 2, .mv, [.c (.int .i64 0)], none⟩]
def a52r1 : List IOp := [⟨some 4, .mv, [.t 0], none⟩,
  ⟨some 5, .bin .add, [.t 4, .c (.int .i64 3)], none⟩,
  ⟨some 3, .mv, [.t 5], none⟩]
def a52r2 : List IOp := [⟨some 6, .mv, [.t 3], none⟩,
  ⟨some 7, .bin .quo, [.t 6, .c (.int .i64 7)], none⟩,
  ⟨some 8, .bin .mul, [.t 7, .c (.int .i64 5)], none⟩,
  ⟨some 9, .mv, [.t 3], none⟩,
  ⟨some 10, .bin .rem, [.t 9, .c (.int .i64 7)], none⟩,
  ⟨some 11, .minmax false, [.t 10, .c (.int .i64 5)], none⟩,
  ⟨some 12, .bin .add, [.t 8, .t 11], none⟩,
  ⟨some 2, .mv, [.t 12], none⟩]
def a52 : AFunc := ⟨13, [.tmp 2], (.seq (.region a52r0 [0]) (.seq (.region a52r1 [3]) (.seq (.region a52r2 [2]) .ret)))⟩
theorem a52_ok : compileF Tryd.prog (lk [(0, ⟨[0], [], []⟩), (1, ⟨[3], [], []⟩), (2, ⟨[2], [], []⟩)]) Tryd.f52 = some a52 := by kernel_rfl

/- payroll/calendar.yearOf -/
def a53r0 : List IOp := [⟨some 2, .mv, [.c (.int .i64 0)], none⟩]
def a53r1 : List IOp := [⟨some 4, .mv, [.t 0], none⟩,
  ⟨some 5, .bin .quo, [.t 4, .c (.int .i64 366)], none⟩,
  ⟨some 6, .bin .add, [.c (.int .i64 1970), .t 5], none⟩,
  ⟨some 3, .mv, [.t 6], none⟩]
def a53r2 : List IOp := [⟨some 7, .mv, [.t 3], none⟩,
  ⟨some 8, .bin .add, [.t 7, .c (.int .i64 1)], none⟩,
  ⟨some 9, .call 62, [.t 8], none⟩,
  ⟨some 10, .mv, [.t 0], none⟩,
  ⟨some 11, .bin .leq, [.t 9, .t 10], none⟩]
def a53r3 : List IOp := [⟨some 12, .mv, [.t 3], none⟩,
  ⟨some 13, .bin .add, [.t 12, .c (.int .i64 1)], none⟩,
  ⟨some 3, .mv, [.t 13], none⟩]
def a53r4 : List IOp := [⟨some 14, .mv, [.t 3], none⟩,
  ⟨some 2, .mv, [.t 14], none⟩]
def a53 : AFunc := ⟨15, [.tmp 2], (.seq (.region a53r0 [0]) (.seq (.region a53r1 [0, 3]) (.seq (.block 0 (.loop (.seq (.seq (.region a53r2 [0, 3, 11]) (.cond (.t 11) .skip (.exit 0))) (.block 1 (.region a53r3 [0, 3]))))) (.seq (.region a53r4 [2]) .ret))))⟩
theorem a53_ok : compileF Tryd.prog (lk [(0, ⟨[0], [], []⟩), (1, ⟨[0, 3], [], []⟩), (2, ⟨[0, 3, 11], [], []⟩), (3, ⟨[0, 3], [], []⟩), (4, ⟨[2], [], []⟩)]) Tryd.f53 = some a53 := by kernel_rfl

/- payroll/calendar.collect -/
def a54r0 : List IOp := [⟨some 6, .mv, [.c (.nils)], none⟩]
def a54r1 : List IOp := [⟨some 7, .mv, [.c (.nils)], none⟩]
def a54r2 : List IOp := [⟨some 13, .mv, [.t 1], none⟩,
  ⟨some 8, .mv, [.t 13], none⟩]
def a54r3 : List IOp := [⟨some 14, .mv, [.t 8], none⟩,
  ⟨some 15, .mv, [.t 2], none⟩,
  ⟨some 16, .bin .leq, [.t 14, .t 15], none⟩]
def a54r4 : List IOp := [⟨some 19, .mv, [.t 0], none⟩,
  ⟨some 20, .len, [.t 19], none⟩,
  ⟨some 21, .mv, [.c (.int .i64 0)], none⟩]
def a54r5 : List IOp := [⟨some 22, .bin .lss, [.t 21, .t 20], none⟩]
def a54r6 : List IOp := [⟨some 23, .indexAddr 6, [.t 19, .t 21], none⟩,
  ⟨some 24, .loadA 6, [.t 23], none⟩,
  ⟨some 10, .alloc 67 [.int .i64 0, .int .i64 0, .int .i64 0, .int .i64 0, .int .i64 0, .bool false], [], none⟩,
  ⟨none, .store 6, [.t 10, .t 24], none⟩]
def a54r7 : List IOp := [⟨some 26, .loadA 6, [.t 10], none⟩,
  ⟨some 27, .mv, [.t 8], none⟩,
  ⟨some 28, .call 67, [.t 26, .t 27], none⟩,
  ⟨some 25, .mv, [.t 28], none⟩,
  ⟨some 29, .extract 0, [.t 25], none⟩,
  ⟨some 30, .extract 1, [.t 25], none⟩,
  ⟨some 11, .mv, [.t 29], none⟩,
  ⟨some 12, .mv, [.t 30], none⟩]
def a54r8 : List IOp := [⟨some 31, .mv, [.t 12], none⟩]
def a54r9 : List IOp := [⟨some 32, .mv, [.t 7], none⟩,
  ⟨some 33, .mv, [.t 11], none⟩,
  ⟨some 34, .bslice 3 1 [.int .i64 0] 1 [0], [.t 33], none⟩,
  ⟨some 35, .append 3 1 8, [.t 32, .t 34], none⟩,
  ⟨some 7, .mv, [.t 35], none⟩]
def a54r10 : List IOp := [⟨some 36, .bin .add, [.t 21, .c (.int .i64 1)], none⟩,
  ⟨some 21, .mv, [.t 36], none⟩]
def a54r11 : List IOp := [⟨some 17, .mv, [.t 8], none⟩,
  ⟨some 18, .bin .add, [.t 17, .c (.int .i64 1)], none⟩,
  ⟨some 8, .mv, [.t 18], none⟩]
def a54r12 : List IOp := [⟨some 37, .mv, [.t 7], none⟩,
  ⟨some 38, .call 68, [.t 37], none⟩]
def a54r13 : List IOp := [⟨some 39, .mv, [.t 7], none⟩,
  ⟨some 40, .call 69, [.t 39], none⟩,
  ⟨some 6, .mv, [.t 40], none⟩]
def a54 : AFunc := ⟨41, [.tmp 6], (.seq (.region a54r0 [0, 1, 2]) (.seq (.region a54r1 [0, 1, 2, 7]) (.seq (.seq (.region a54r2 [0, 2, 7, 8]) (.block 0 (.loop (.seq (.seq (.region a54r3 [0, 2, 7, 8, 16]) (.cond (.t 16) .skip (.exit 0))) (.seq (.block 1 (.seq (.region a54r4 [0, 2, 7, 8, 19, 20, 21]) (.block 2 (.loop (.seq (.region a54r5 [0, 2, 7, 8, 19, 20, 21, 22]) (.seq (.cond (.t 22) .skip (.exit 2)) (.seq (.block 3 (.seq (.region a54r6 [0, 2, 7, 8, 10, 19, 20, 21]) (.seq (.region a54r7 [0, 2, 7, 8, 11, 12, 19, 20, 21]) (.seq (.region a54r8 [0, 2, 7, 8, 11, 19, 20, 21, 31]) (.cond (.t 31) (.region a54r9 [0, 2, 7, 8, 19, 20, 21]) .skip))))) (.region a54r10 [0, 2, 7, 8, 19, 20, 21])))))))) (.region a54r11 [0, 2, 7, 8])))))) (.seq (.region a54r12 [7]) (.seq (.region a54r13 [6]) .ret)))))⟩
theorem a54_ok : compileF Tryd.prog (lk [(0, ⟨[0, 1, 2], [], []⟩), (1, ⟨[0, 1, 2, 7], [], []⟩), (2, ⟨[0, 2, 7, 8], [], []⟩), (3, ⟨[0, 2, 7, 8, 16], [], []⟩), (4, ⟨[0, 2, 7, 8], [], []⟩), (5, ⟨[0, 2, 7, 8, 19, 20, 21], [], []⟩), (6, ⟨[0, 2, 7, 8, 19, 20, 21, 22], [], []⟩), (7, ⟨[0, 2, 7, 8, 10, 19, 20, 21], [], []⟩), (8, ⟨[0, 2, 7, 8, 11, 12, 19, 20, 21], [], []⟩), (9, ⟨[0, 2, 7, 8, 11, 19, 20, 21, 31], [], []⟩), (10, ⟨[0, 2, 7, 8, 19, 20, 21], [], []⟩), (11, ⟨[0, 2, 7, 8, 19, 20, 21], [], []⟩), (12, ⟨[7], [], []⟩), (13, ⟨[6], [], []⟩)]) Tryd.f54 = some a54 := by kernel_rfl

/- payroll/calendar.weekday -/
def a55r0 : List IOp := [⟨some 2, .mv, [.c (.int .i64 0)], none⟩]
def a55r1 : List IOp := [⟨some 3, .mv, [.t 0], none⟩,
  ⟨some 4, .bin .add, [.t 3, .c (.int .i64 3)], none⟩,
  ⟨some 5, .bin .rem, [.t 4, .c (.int .i64 7)], none⟩,
  ⟨some 6, .bin .add, [.t 5, .c (.int .i64 7)], none⟩,
  ⟨some 7, .bin .rem, [.t 6, .c (.int .i64 7)], none⟩,
  ⟨some 2, .mv, [.t 7], none⟩]
def a55 : AFunc := ⟨8, [.tmp 2], (.seq (.region a55r0 [0]) (.seq (.region a55r1 [2]) .ret))⟩
theorem a55_ok : compileF Tryd.prog (lk [(0, ⟨[0], [], []⟩), (1, ⟨[2], [], []⟩)]) Tryd.f55 = some a55 := by kernel_rfl

/- payroll/ratio.fit -/
def a56r0 : List IOp := [⟨some 6, .alloc 53 [.int .i64 0, .int .i64 0], [], none⟩,
  ⟨some 7, .mv, [.c (.int .i64 0)], none⟩]
def a56r1 : List IOp := [⟨some 10, .mv, [.t 1], none⟩,
  ⟨some 11, .mv, [.t 2], none⟩,
  ⟨some 12, .call 70, [.t 10, .t 11], none⟩,
  ⟨some 8, .mv, [.t 12], none⟩]
def a56r2 : List (Nat × DOp) := [(0, ⟨⟨some 13, .mv, [.t 1], none⟩, none, [1, 3, 4, 5]⟩),
  (1, ⟨⟨some 14, .mv, [.t 8], none⟩, none, [0, 3, 4, 5]⟩),
  (2, ⟨⟨some 15, .bin .quo, [.t 13, .t 14], none⟩, none, [3, 4, 5]⟩),
  (3, ⟨⟨some 16, .mv, [.t 2], none⟩, none, [0, 1, 2, 4, 6]⟩),
  (4, ⟨⟨some 17, .mv, [.t 8], none⟩, none, [0, 1, 2, 3, 6]⟩),
  (5, ⟨⟨some 18, .bin .quo, [.t 16, .t 17], none⟩, none, [0, 1, 2, 6]⟩),
  (6, ⟨⟨some 1, .mv, [.t 15], none⟩, none, [3, 4, 5]⟩),
  (7, ⟨⟨some 2, .mv, [.t 18], none⟩, none, []⟩)]
def a56r3 : List IOp := [⟨some 19, .mv, [.t 1], none⟩,
  ⟨some 20, .bin .gtr, [.t 19, .c (.int .u64 1000000000000)], none⟩,
  ⟨some 21, .mv, [.t 20], none⟩,
  ⟨some 22, .mv, [.t 2], some (21, false)⟩,
  ⟨some 23, .bin .gtr, [.t 22, .c (.int .u64 1000000)], some (21, false)⟩,
  ⟨some 24, .pick, [.t 21, .c (.bool true), .t 23], none⟩]
def a56r4 : List IOp := [⟨some 25, .build [.int .i64 0, .int .i64 0] [], [], none⟩,
  ⟨none, .store 2, [.t 6, .t 25], none⟩,
  ⟨some 7, .mv, [.c (.int .i64 4)], none⟩]
def a56r5 : List IOp := [⟨some 26, .mv, [.t 1], none⟩,
  ⟨some 27, .conv .i64, [.t 26], none⟩,
  ⟨some 9, .mv, [.t 27], none⟩]
def a56r6 : List IOp := [⟨some 28, .mv, [.t 0], none⟩]
def a56r7 : List IOp := [⟨some 29, .mv, [.t 9], none⟩,
  ⟨some 30, .neg, [.t 29], none⟩,
  ⟨some 9, .mv, [.t 30], none⟩]
def a56r8 : List IOp := [⟨some 31, .mv, [.t 9], none⟩,
  ⟨some 32, .mv, [.t 2], none⟩,
  ⟨some 33, .conv .i64, [.t 32], none⟩,
  ⟨some 34, .build [.int .i64 0, .int .i64 0] [(0, 1), (1, 1)], [.t 31, .t 33], none⟩,
  ⟨none, .store 2, [.t 6, .t 34], none⟩,
  ⟨some 7, .mv, [.c (.int .i64 0)], none⟩]
def a56 : AFunc := ⟨35, [.cellA 6 2, .tmp 7], (.seq (.region a56r0 [0, 1, 2, 6]) (.seq (.region a56r1 [0, 1, 2, 6, 8]) (.seq (.draw a56r2 [] [0, 1, 2, 6]) (.seq (.seq (.region a56r3 [0, 1, 2, 6, 24]) (.cond (.t 24) (.seq (.region a56r4 [6, 7]) .ret) .skip)) (.seq (.region a56r5 [0, 2, 6, 9]) (.seq (.seq (.region a56r6 [2, 6, 9, 28]) (.cond (.t 28) (.region a56r7 [2, 6, 9]) .skip)) (.seq (.region a56r8 [6, 7]) .ret)))))))⟩
theorem a56_ok : compileF Tryd.prog (lk [(0, ⟨[0, 1, 2, 6], [], []⟩), (1, ⟨[0, 1, 2, 6, 8], [], []⟩), (2, ⟨[0, 1, 2, 6], [[], [], [0, 1], [], [], [3, 4], [2, 0, 1], [5, 6, 0, 1, 2, 3, 4]], [0, 1, 2, 3, 4, 5, 6, 7]⟩), (3, ⟨[0, 1, 2, 6, 24], [], []⟩), (4, ⟨[6, 7], [], []⟩), (5, ⟨[0, 2, 6, 9], [], []⟩), (6, ⟨[2, 6, 9, 28], [], []⟩), (7, ⟨[2, 6, 9], [], []⟩), (8, ⟨[6, 7], [], []⟩)]) Tryd.f56 = some a56 := by kernel_rfl

/- payroll/ratio.magnitude -/
def a57r0 : List IOp := [⟨some 2, .mv, [.c (.int .u64 0)], none⟩]
def a57r1 : List IOp := [⟨some 3, .mv, [.t 0], none⟩,
  ⟨some 4, .bin .lss, [.t 3, .c (.int .i64 0)], none⟩]
def a57r2 : List IOp := [⟨some 5, .mv, [.t 0], none⟩,
  ⟨some 6, .conv .u64, [.t 5], none⟩,
  ⟨some 7, .neg, [.t 6], none⟩,
  ⟨some 2, .mv, [.t 7], none⟩]
def a57r3 : List IOp := [⟨some 8, .mv, [.t 0], none⟩,
  ⟨some 9, .conv .u64, [.t 8], none⟩,
  ⟨some 2, .mv, [.t 9], none⟩]
def a57 : AFunc := ⟨10, [.tmp 2], (.seq (.region a57r0 [0]) (.seq (.seq (.region a57r1 [0, 4]) (.cond (.t 4) (.seq (.region a57r2 [2]) .ret) .skip)) (.seq (.region a57r3 [2]) .ret)))⟩
theorem a57_ok : compileF Tryd.prog (lk [(0, ⟨[0], [], []⟩), (1, ⟨[0, 4], [], []⟩), (2, ⟨[2], [], []⟩), (3, ⟨[2], [], []⟩)]) Tryd.f57 = some a57 := by kernel_rfl

/- payroll/rounding.divide -/
def a58r0 : List IOp := [⟨some 6, .mv, [.c (.nils)], none⟩]
def a58r1 : List IOp := [⟨some 15, .mv, [.t 1], none⟩,
  ⟨some 16, .len, [.t 15], none⟩,
  ⟨some 17, .mkslice 3 1 8 [.int .i64 0], [.t 16, .t 16], none⟩,
  ⟨some 7, .mv, [.t 17], none⟩]
def a58r2 : List IOp := [⟨some 18, .mv, [.t 1], none⟩,
  ⟨some 19, .len, [.t 18], none⟩,
  ⟨some 20, .mkslice 3 1 8 [.int .i64 0], [.t 19, .t 19], none⟩,
  ⟨some 8, .alloc 22 [.nils], [], none⟩,
  ⟨none, .store 1, [.t 8, .t 20], none⟩]
def a58r3 : List IOp := [⟨some 21, .mv, [.t 1], none⟩,
  ⟨some 22, .len, [.t 21], none⟩,
  ⟨some 23, .mkslice 3 1 8 [.int .i64 0], [.t 22, .t 22], none⟩,
  ⟨some 9, .mv, [.t 23], none⟩]
def a58r4 : List IOp := [⟨some 24, .mv, [.t 0], none⟩,
  ⟨some 10, .mv, [.t 24], none⟩]
def a58r5 : List IOp := [⟨some 25, .mv, [.t 1], none⟩,
  ⟨some 26, .len, [.t 25], none⟩,
  ⟨some 27, .mv, [.c (.int .i64 0)], none⟩]
def a58r6 : List IOp := [⟨some 28, .bin .lss, [.t 27, .t 26], none⟩]
def a58r7 : List IOp := [⟨some 29, .mv, [.t 27], none⟩,
  ⟨some 30, .indexAddr 1, [.t 25, .t 27], none⟩,
  ⟨some 31, .load1, [.t 30], none⟩,
  ⟨some 11, .mv, [.t 29], none⟩,
  ⟨some 12, .mv, [.t 31], none⟩]
def a58r8 : List (Nat × DOp) := [(0, ⟨⟨some 32, .mv, [.t 7], none⟩, none, [1, 2, 3, 4, 5, 6, 7, 8, 9, 10, 11, 12, 13]⟩),
  (1, ⟨⟨some 33, .mv, [.t 11], none⟩, none, [0, 2, 3, 4, 5, 6, 7, 8, 9, 10, 11, 12, 13]⟩),
  (2, ⟨⟨some 34, .load1, [.t 8], none⟩, none, [0, 1, 3, 4, 5, 6, 7, 8, 9, 10, 11, 12, 13, 14, 15]⟩),
  (3, ⟨⟨some 35, .mv, [.t 11], none⟩, none, [0, 1, 2, 4, 5, 6, 7, 8, 9, 10, 11, 12, 13, 14, 15]⟩),
  (4, ⟨⟨some 36, .mv, [.t 0], none⟩, none, [0, 1, 2, 3, 5, 7, 9, 10, 11, 12, 13]⟩),
  (5, ⟨⟨some 37, .mv, [.t 12], none⟩, none, [0, 1, 2, 3, 4, 7, 9, 10, 11, 12, 13]⟩),
  (6, ⟨⟨some 38, .bin .mul, [.t 36, .t 37], none⟩, none, [0, 1, 2, 3, 7, 9, 10, 11, 12, 13]⟩),
  (7, ⟨⟨some 39, .mv, [.t 2], none⟩, none, [0, 1, 2, 3, 4, 5, 6, 9, 10, 11, 12, 13]⟩),
  (8, ⟨⟨some 40, .bin .quo, [.t 38, .t 39], none⟩, none, [0, 1, 2, 3, 9, 10, 11, 12, 13]⟩),
  (9, ⟨⟨some 41, .mv, [.t 0], none⟩, none, [0, 1, 2, 3, 4, 5, 6, 7, 8, 10, 12, 14, 15]⟩),
  (10, ⟨⟨some 42, .mv, [.t 12], none⟩, none, [0, 1, 2, 3, 4, 5, 6, 7, 8, 9, 12, 14, 15]⟩),
  (11, ⟨⟨some 43, .bin .mul, [.t 41, .t 42], none⟩, none, [0, 1, 2, 3, 4, 5, 6, 7, 8, 12, 14, 15]⟩),
  (12, ⟨⟨some 44, .mv, [.t 2], none⟩, none, [0, 1, 2, 3, 4, 5, 6, 7, 8, 9, 10, 11, 14, 15]⟩),
  (13, ⟨⟨some 45, .bin .rem, [.t 43, .t 44], none⟩, none, [0, 1, 2, 3, 4, 5, 6, 7, 8, 14, 15]⟩),
  (14, ⟨⟨some 46, .indexAddr 1, [.t 32, .t 33], none⟩, none, [2, 3, 9, 10, 11, 12, 13]⟩),
  (15, ⟨⟨none, .store 1, [.t 46, .t 40], none⟩, none, [2, 3, 9, 10, 11, 12, 13]⟩),
  (16, ⟨⟨some 47, .indexAddr 1, [.t 34, .t 35], none⟩, none, []⟩),
  (17, ⟨⟨none, .store 1, [.t 47, .t 45], none⟩, none, []⟩)]
def a58r9 : List IOp := [⟨some 48, .mv, [.t 9], none⟩,
  ⟨some 49, .mv, [.t 11], none⟩,
  ⟨some 50, .mv, [.t 11], none⟩,
  ⟨some 51, .indexAddr 1, [.t 48, .t 49], none⟩,
  ⟨none, .store 1, [.t 51, .t 50], none⟩]
def a58r10 : List IOp := [⟨some 52, .mv, [.t 10], none⟩,
  ⟨some 53, .mv, [.t 7], none⟩,
  ⟨some 54, .mv, [.t 11], none⟩,
  ⟨some 55, .indexAddr 1, [.t 53, .t 54], none⟩,
  ⟨some 56, .load1, [.t 55], none⟩,
  ⟨some 57, .bin .sub, [.t 52, .t 56], none⟩,
  ⟨some 10, .mv, [.t 57], none⟩]
def a58r11 : List IOp := [⟨some 58, .bin .add, [.t 27, .c (.int .i64 1)], none⟩,
  ⟨some 27, .mv, [.t 58], none⟩]
def a58r12 : List IOp := [⟨some 59, .mv, [.t 9], none⟩,
  ⟨some 60, .mkfn 72, [.t 8], none⟩,
  ⟨some 61, .call 71, [.t 59, .t 60], none⟩]
def a58r13 : List IOp := [⟨some 62, .mv, [.t 9], none⟩,
  ⟨some 63, .mv, [.t 10], none⟩,
  ⟨some 64, .slice false true 1, [.t 62, .t 63], none⟩,
  ⟨some 65, .len, [.t 64], none⟩,
  ⟨some 66, .mv, [.c (.int .i64 0)], none⟩]
def a58r14 : List IOp := [⟨some 67, .bin .lss, [.t 66, .t 65], none⟩]
def a58r15 : List IOp := [⟨some 68, .indexAddr 1, [.t 64, .t 66], none⟩,
  ⟨some 69, .load1, [.t 68], none⟩,
  ⟨some 14, .mv, [.t 69], none⟩]
def a58r16 : List IOp := [⟨some 70, .mv, [.t 7], none⟩,
  ⟨some 71, .mv, [.t 14], none⟩,
  ⟨some 72, .indexAddr 1, [.t 70, .t 71], none⟩,
  ⟨some 73, .load1, [.t 72], none⟩,
  ⟨some 74, .bin .add, [.t 73, .c (.int .i64 1)], none⟩,
  ⟨some 75, .indexAddr 1, [.t 70, .t 71], none⟩,
  ⟨none, .store 1, [.t 75, .t 74], none⟩]
def a58r17 : List IOp := [⟨some 76, .bin .add, [.t 66, .c (.int .i64 1)], none⟩,
  ⟨some 66, .mv, [.t 76], none⟩]
def a58r18 : List IOp := [⟨some 77, .mv, [.t 7], none⟩,
  ⟨some 6, .mv, [.t 77], none⟩]
def a58 : AFunc := ⟨78, [.tmp 6], (.seq (.region a58r0 [0, 1, 2]) (.seq (.region a58r1 [0, 1, 2, 7]) (.seq (.region a58r2 [0, 1, 2, 7, 8]) (.seq (.region a58r3 [0, 1, 2, 7, 8, 9]) (.seq (.region a58r4 [0, 1, 2, 7, 8, 9, 10]) (.seq (.seq (.region a58r5 [0, 2, 7, 8, 9, 10, 25, 26, 27]) (.block 0 (.loop (.seq (.region a58r6 [0, 2, 7, 8, 9, 10, 25, 26, 27, 28]) (.seq (.cond (.t 28) .skip (.exit 0)) (.seq (.block 1 (.seq (.region a58r7 [0, 2, 7, 8, 9, 10, 11, 12, 25, 26, 27]) (.seq (.draw a58r8 [] [0, 2, 7, 8, 9, 10, 11, 25, 26, 27]) (.seq (.region a58r9 [0, 2, 7, 8, 9, 10, 11, 25, 26, 27]) (.region a58r10 [0, 2, 7, 8, 9, 10, 25, 26, 27]))))) (.region a58r11 [0, 2, 7, 8, 9, 10, 25, 26, 27]))))))) (.seq (.region a58r12 [7, 9, 10]) (.seq (.seq (.region a58r13 [7, 64, 65, 66]) (.block 2 (.loop (.seq (.region a58r14 [7, 64, 65, 66, 67]) (.seq (.cond (.t 67) .skip (.exit 2)) (.seq (.block 3 (.seq (.region a58r15 [7, 14, 64, 65, 66]) (.region a58r16 [7, 64, 65, 66]))) (.region a58r17 [7, 64, 65, 66]))))))) (.seq (.region a58r18 [6]) .ret)))))))))⟩
theorem a58_ok : compileF Tryd.prog (lk [(0, ⟨[0, 1, 2], [], []⟩), (1, ⟨[0, 1, 2, 7], [], []⟩), (2, ⟨[0, 1, 2, 7, 8], [], []⟩), (3, ⟨[0, 1, 2, 7, 8, 9], [], []⟩), (4, ⟨[0, 1, 2, 7, 8, 9, 10], [], []⟩), (5, ⟨[0, 2, 7, 8, 9, 10, 25, 26, 27], [], []⟩), (6, ⟨[0, 2, 7, 8, 9, 10, 25, 26, 27, 28], [], []⟩), (7, ⟨[0, 2, 7, 8, 9, 10, 11, 12, 25, 26, 27], [], []⟩), (8, ⟨[0, 2, 7, 8, 9, 10, 11, 25, 26, 27], [[], [], [], [], [], [], [4, 5], [], [6, 7, 4, 5], [], [], [9, 10], [], [11, 12, 9, 10], [0, 1, 4, 5, 6, 7, 8], [14, 8, 0, 1, 4, 5, 6, 7], [2, 3, 0, 1, 4, 5, 6, 7, 8, 9, 10, 11, 12, 13, 14, 15], [16, 13, 15, 0, 1, 2, 3, 4, 5, 6, 7, 8, 9, 10, 11, 12, 14]], [0, 1, 2, 3, 4, 5, 6, 7, 8, 9, 10, 11, 12, 13, 14, 15, 16, 17]⟩), (9, ⟨[0, 2, 7, 8, 9, 10, 11, 25, 26, 27], [], []⟩), (10, ⟨[0, 2, 7, 8, 9, 10, 25, 26, 27], [], []⟩), (11, ⟨[0, 2, 7, 8, 9, 10, 25, 26, 27], [], []⟩), (12, ⟨[7, 9, 10], [], []⟩), (13, ⟨[7, 64, 65, 66], [], []⟩), (14, ⟨[7, 64, 65, 66, 67], [], []⟩), (15, ⟨[7, 14, 64, 65, 66], [], []⟩), (16, ⟨[7, 64, 65, 66], [], []⟩), (17, ⟨[7, 64, 65, 66], [], []⟩), (18, ⟨[6], [], []⟩)]) Tryd.f58 = some a58 := by kernel_rfl

/- payroll/payrollref1.common -/
def a59r0 : List IOp := [⟨some 4, .mv, [.c (.int .u64 0)], none⟩]
def a59r1 : List IOp := [⟨some 5, .mv, [.t 1], none⟩,
  ⟨some 6, .bin .neq, [.t 5, .c (.int .u64 0)], none⟩]
def a59r2 : List (Nat × DOp) := [(0, ⟨⟨some 7, .mv, [.t 1], none⟩, none, [1, 2, 3]⟩),
  (1, ⟨⟨some 8, .mv, [.t 0], none⟩, none, [0, 2]⟩),
  (2, ⟨⟨some 9, .mv, [.t 1], none⟩, none, [0, 1, 4]⟩),
  (3, ⟨⟨some 10, .bin .rem, [.t 8, .t 9], none⟩, none, [0, 4]⟩),
  (4, ⟨⟨some 0, .mv, [.t 7], none⟩, none, [2, 3]⟩),
  (5, ⟨⟨some 1, .mv, [.t 10], none⟩, none, []⟩)]
def a59r3 : List IOp := [⟨some 11, .mv, [.t 0], none⟩,
  ⟨some 4, .mv, [.t 11], none⟩]
def a59 : AFunc := ⟨12, [.tmp 4], (.seq (.region a59r0 [0, 1]) (.seq (.block 0 (.loop (.seq (.seq (.region a59r1 [0, 1, 6]) (.cond (.t 6) .skip (.exit 0))) (.block 1 (.draw a59r2 [] [0, 1]))))) (.seq (.region a59r3 [4]) .ret)))⟩
theorem a59_ok : compileF Tryd.prog (lk [(0, ⟨[0, 1], [], []⟩), (1, ⟨[0, 1, 6], [], []⟩), (2, ⟨[0, 1], [[], [], [], [1, 2], [0, 1], [3, 4, 0, 1, 2]], [0, 1, 2, 3, 4, 5]⟩), (3, ⟨[4], [], []⟩)]) Tryd.f59 = some a59 := by kernel_rfl

/- payroll/payrollref1.size -/
def a60r0 : List IOp := [⟨some 2, .mv, [.c (.int .u64 0)], none⟩]
def a60r1 : List IOp := [⟨some 3, .mv, [.t 0], none⟩,
  ⟨some 4, .bin .lss, [.t 3, .c (.int .i64 0)], none⟩]
def a60r2 : List IOp := [⟨some 5, .mv, [.t 0], none⟩,
  ⟨some 6, .bin .add, [.t 5, .c (.int .i64 1)], none⟩,
  ⟨some 7, .neg, [.t 6], none⟩,
  ⟨some 8, .conv .u64, [.t 7], none⟩,
  ⟨some 9, .bin .add, [.t 8, .c (.int .u64 1)], none⟩,
  ⟨some 2, .mv, [.t 9], none⟩]
def a60r3 : List IOp := [⟨some 10, .mv, [.t 0], none⟩,
  ⟨some 11, .conv .u64, [.t 10], none⟩,
  ⟨some 2, .mv, [.t 11], none⟩]
def a60 : AFunc := ⟨12, [.tmp 2], (.seq (.region a60r0 [0]) (.seq (.seq (.region a60r1 [0, 4]) (.cond (.t 4) (.seq (.region a60r2 [2]) .ret) .skip)) (.seq (.region a60r3 [2]) .ret)))⟩
theorem a60_ok : compileF Tryd.prog (lk [(0, ⟨[0], [], []⟩), (1, ⟨[0, 4], [], []⟩), (2, ⟨[2], [], []⟩), (3, ⟨[2], [], []⟩)]) Tryd.f60 = some a60 := by kernel_rfl

/- payroll/payrollref3.before -/
def a61r0 : List IOp := [⟨some 2, .mv, [.c (.int .i64 0)], none⟩]
def a61r1 : List IOp := [⟨some 5, .mv, [.t 0], none⟩,
  ⟨some 6, .bin .sub, [.t 5, .c (.int .i64 1970)], none⟩,
  ⟨some 7, .bin .mul, [.t 6, .c (.int .i64 365)], none⟩,
  ⟨some 3, .mv, [.t 7], none⟩]
def a61r2 : List IOp := [⟨some 4, .mv, [.c (.int .i64 1972)], none⟩]
def a61r3 : List IOp := [⟨some 8, .mv, [.t 4], none⟩,
  ⟨some 9, .mv, [.t 0], none⟩,
  ⟨some 10, .bin .lss, [.t 8, .t 9], none⟩]
def a61r4 : List IOp := [⟨some 13, .mv, [.t 4], none⟩,
  ⟨some 14, .call 49, [.t 13, .c (.int .i64 2)], none⟩,
  ⟨some 15, .bin .eql, [.t 14, .c (.int .i64 29)], none⟩]
def a61r5 : List IOp := [⟨some 16, .mv, [.t 3], none⟩,
  ⟨some 17, .bin .add, [.t 16, .c (.int .i64 1)], none⟩,
  ⟨some 3, .mv, [.t 17], none⟩]
def a61r6 : List IOp := [⟨some 11, .mv, [.t 4], none⟩,
  ⟨some 12, .bin .add, [.t 11, .c (.int .i64 4)], none⟩,
  ⟨some 4, .mv, [.t 12], none⟩]
def a61r7 : List IOp := [⟨some 18, .mv, [.t 3], none⟩,
  ⟨some 2, .mv, [.t 18], none⟩]
def a61 : AFunc := ⟨19, [.tmp 2], (.seq (.region a61r0 [0]) (.seq (.region a61r1 [0, 3]) (.seq (.seq (.region a61r2 [0, 3, 4]) (.block 0 (.loop (.seq (.seq (.region a61r3 [0, 3, 4, 10]) (.cond (.t 10) .skip (.exit 0))) (.seq (.block 1 (.seq (.region a61r4 [0, 3, 4, 15]) (.cond (.t 15) (.region a61r5 [0, 3, 4]) .skip))) (.region a61r6 [0, 3, 4])))))) (.seq (.region a61r7 [2]) .ret))))⟩
theorem a61_ok : compileF Tryd.prog (lk [(0, ⟨[0], [], []⟩), (1, ⟨[0, 3], [], []⟩), (2, ⟨[0, 3, 4], [], []⟩), (3, ⟨[0, 3, 4, 10], [], []⟩), (4, ⟨[0, 3, 4], [], []⟩), (5, ⟨[0, 3, 4, 15], [], []⟩), (6, ⟨[0, 3, 4], [], []⟩), (7, ⟨[2], [], []⟩)]) Tryd.f61 = some a61 := by kernel_rfl

/- payroll/calendar.begin -/
def a62r0 : List IOp := [⟨some 2, .mv, [.c (.int .i64 0)], none⟩]
def a62r1 : List IOp := [⟨some 3, .mv, [.t 0], none⟩,
  ⟨some 4, .bin .sub, [.t 3, .c (.int .i64 1970)], none⟩,
  ⟨some 5, .bin .mul, [.c (.int .i64 365), .t 4], none⟩,
  ⟨some 6, .mv, [.t 0], none⟩,
  ⟨some 7, .bin .sub, [.t 6, .c (.int .i64 1)], none⟩,
  ⟨some 8, .call 74, [.t 7], none⟩,
  ⟨some 9, .bin .add, [.t 5, .t 8], none⟩,
  ⟨some 10, .call 74, [.c (.int .i64 1969)], none⟩,
  ⟨some 11, .bin .sub, [.t 9, .t 10], none⟩,
  ⟨some 2, .mv, [.t 11], none⟩]
def a62 : AFunc := ⟨12, [.tmp 2], (.seq (.region a62r0 [0]) (.seq (.region a62r1 [2]) .ret))⟩
theorem a62_ok : compileF Tryd.prog (lk [(0, ⟨[0], [], []⟩), (1, ⟨[2], [], []⟩)]) Tryd.f62 = some a62 := by kernel_rfl

/- payroll/calendar.number -/
def a64r0 : List IOp := [⟨some 6, .mv, [.c (.int .i64 0)], none⟩]
def a64r1 : List IOp := [⟨some 9, .mv, [.t 0], none⟩,
  ⟨some 10, .call 62, [.t 9], none⟩,
  ⟨some 7, .mv, [.t 10], none⟩]
def a64r2 : List IOp := [⟨some 8, .mv, [.c (.int .i64 1)], none⟩]
def a64r3 : List IOp := [⟨some 11, .mv, [.t 8], none⟩,
  ⟨some 12, .mv, [.t 1], none⟩,
  ⟨some 13, .bin .lss, [.t 11, .t 12], none⟩]
def a64r4 : List IOp := [⟨some 16, .mv, [.t 7], none⟩,
  ⟨some 17, .mv, [.t 0], none⟩,
  ⟨some 18, .mv, [.t 8], none⟩,
  ⟨some 19, .call 63, [.t 17, .t 18], none⟩,
  ⟨some 20, .bin .add, [.t 16, .t 19], none⟩,
  ⟨some 7, .mv, [.t 20], none⟩]
def a64r5 : List IOp := [⟨some 14, .mv, [.t 8], none⟩,
  ⟨some 15, .bin .add, [.t 14, .c (.int .i64 1)], none⟩,
  ⟨some 8, .mv, [.t 15], none⟩]
def a64r6 : List IOp := [⟨some 21, .mv, [.t 7], none⟩,
  ⟨some 22, .mv, [.t 2], none⟩,
  ⟨some 23, .bin .add, [.t 21, .t 22], none⟩,
  ⟨some 24, .bin .sub, [.t 23, .c (.int .i64 1)], none⟩,
  ⟨some 6, .mv, [.t 24], none⟩]
def a64 : AFunc := ⟨25, [.tmp 6], (.seq (.region a64r0 [0, 1, 2]) (.seq (.region a64r1 [0, 1, 2, 7]) (.seq (.seq (.region a64r2 [0, 1, 2, 7, 8]) (.block 0 (.loop (.seq (.seq (.region a64r3 [0, 1, 2, 7, 8, 13]) (.cond (.t 13) .skip (.exit 0))) (.seq (.block 1 (.region a64r4 [0, 1, 2, 7, 8])) (.region a64r5 [0, 1, 2, 7, 8])))))) (.seq (.region a64r6 [6]) .ret))))⟩
theorem a64_ok : compileF Tryd.prog (lk [(0, ⟨[0, 1, 2], [], []⟩), (1, ⟨[0, 1, 2, 7], [], []⟩), (2, ⟨[0, 1, 2, 7, 8], [], []⟩), (3, ⟨[0, 1, 2, 7, 8, 13], [], []⟩), (4, ⟨[0, 1, 2, 7, 8], [], []⟩), (5, ⟨[0, 1, 2, 7, 8], [], []⟩), (6, ⟨[6], [], []⟩)]) Tryd.f64 = some a64 := by kernel_rfl

/- payroll/payrollref3.InYears -/
def a65r0 : List IOp := [⟨some 2, .mv, [.c (.bool false)], none⟩]
def a65r1 : List IOp := [⟨some 3, .mv, [.t 0], none⟩,
  ⟨some 4, .bin .geq, [.t 3, .c (.int .i64 1970)], none⟩,
  ⟨some 5, .mv, [.t 4], none⟩,
  ⟨some 6, .mv, [.t 0], some (5, true)⟩,
  ⟨some 7, .bin .leq, [.t 6, .c (.int .i64 2199)], some (5, true)⟩,
  ⟨some 8, .pick, [.t 5, .t 7, .c (.bool false)], none⟩,
  ⟨some 2, .mv, [.t 8], none⟩]
def a65 : AFunc := ⟨9, [.tmp 2], (.seq (.region a65r0 [0]) (.seq (.region a65r1 [2]) .ret))⟩
theorem a65_ok : compileF Tryd.prog (lk [(0, ⟨[0], [], []⟩), (1, ⟨[2], [], []⟩)]) Tryd.f65 = some a65 := by kernel_rfl

/- payroll/payrollref3.raw -/
def a66r0 : List IOp := [⟨some 6, .mv, [.c (.int .i64 0)], none⟩]
def a66r1 : List IOp := [⟨some 9, .mv, [.t 0], none⟩,
  ⟨some 10, .call 61, [.t 9], none⟩,
  ⟨some 11, .mv, [.t 2], none⟩,
  ⟨some 12, .bin .add, [.t 10, .t 11], none⟩,
  ⟨some 13, .bin .sub, [.t 12, .c (.int .i64 1)], none⟩,
  ⟨some 7, .mv, [.t 13], none⟩]
def a66r2 : List IOp := [⟨some 8, .mv, [.c (.int .i64 1)], none⟩]
def a66r3 : List IOp := [⟨some 14, .mv, [.t 8], none⟩,
  ⟨some 15, .mv, [.t 1], none⟩,
  ⟨some 16, .bin .lss, [.t 14, .t 15], none⟩]
def a66r4 : List IOp := [⟨some 19, .mv, [.t 7], none⟩,
  ⟨some 20, .mv, [.t 0], none⟩,
  ⟨some 21, .mv, [.t 8], none⟩,
  ⟨some 22, .call 49, [.t 20, .t 21], none⟩,
  ⟨some 23, .bin .add, [.t 19, .t 22], none⟩,
  ⟨some 7, .mv, [.t 23], none⟩]
def a66r5 : List IOp := [⟨some 17, .mv, [.t 8], none⟩,
  ⟨some 18, .bin .add, [.t 17, .c (.int .i64 1)], none⟩,
  ⟨some 8, .mv, [.t 18], none⟩]
def a66r6 : List IOp := [⟨some 24, .mv, [.t 7], none⟩,
  ⟨some 6, .mv, [.t 24], none⟩]
def a66 : AFunc := ⟨25, [.tmp 6], (.seq (.region a66r0 [0, 1, 2]) (.seq (.region a66r1 [0, 1, 7]) (.seq (.seq (.region a66r2 [0, 1, 7, 8]) (.block 0 (.loop (.seq (.seq (.region a66r3 [0, 1, 7, 8, 16]) (.cond (.t 16) .skip (.exit 0))) (.seq (.block 1 (.region a66r4 [0, 1, 7, 8])) (.region a66r5 [0, 1, 7, 8])))))) (.seq (.region a66r6 [6]) .ret))))⟩
theorem a66_ok : compileF Tryd.prog (lk [(0, ⟨[0, 1, 2], [], []⟩), (1, ⟨[0, 1, 7], [], []⟩), (2, ⟨[0, 1, 7, 8], [], []⟩), (3, ⟨[0, 1, 7, 8, 16], [], []⟩), (4, ⟨[0, 1, 7, 8], [], []⟩), (5, ⟨[0, 1, 7, 8], [], []⟩), (6, ⟨[6], [], []⟩)]) Tryd.f66 = some a66 := by kernel_rfl

/- payroll/calendar.named -/
def a67r0 : List IOp := [⟨some 2, .box 67 6, [.t 0], none⟩,
  ⟨some 4, .mv, [.c (.int .i64 0)], none⟩,
  ⟨some 5, .mv, [.c (.bool false)], none⟩]
def a67r1 : List IOp := [⟨some 6, .mv, [.c (.int .i64 0)], none⟩]
def a67r2 : List IOp := [⟨some 7, .mv, [.c (.bool false)], none⟩]
def a67r3 : List IOp := [⟨some 9, .fieldAddr 0, [.t 2], none⟩,
  ⟨some 10, .load1, [.t 9], none⟩]
def a67r4 : List IOp := [⟨some 12, .bin .eql, [.t 10, .c (.int .i64 0)], none⟩,
  ⟨some 11, .mv, [.t 12], none⟩]
def a67r5 : List IOp := [⟨some 14, .mv, [.t 1], none⟩,
  ⟨some 15, .fieldAddr 1, [.t 2], none⟩,
  ⟨some 16, .load1, [.t 15], none⟩,
  ⟨some 17, .fieldAddr 2, [.t 2], none⟩,
  ⟨some 18, .load1, [.t 17], none⟩,
  ⟨some 19, .call 76, [.t 14, .t 16, .t 18], none⟩,
  ⟨some 13, .mv, [.t 19], none⟩,
  ⟨some 20, .extract 0, [.t 13], none⟩,
  ⟨some 21, .extract 1, [.t 13], none⟩,
  ⟨some 6, .mv, [.t 20], none⟩,
  ⟨some 7, .mv, [.t 21], none⟩]
def a67r6 : List IOp := [⟨some 23, .bin .eql, [.t 10, .c (.int .i64 1)], none⟩,
  ⟨some 22, .mv, [.t 23], none⟩]
def a67r7 : List IOp := [⟨some 25, .mv, [.t 1], none⟩,
  ⟨some 26, .call 77, [.t 25], none⟩,
  ⟨some 24, .mv, [.t 26], none⟩,
  ⟨some 27, .extract 0, [.t 24], none⟩,
  ⟨some 28, .extract 1, [.t 24], none⟩,
  ⟨some 6, .mv, [.t 27], none⟩,
  ⟨some 7, .mv, [.t 28], none⟩]
def a67r8 : List IOp := [⟨some 30, .bin .eql, [.t 10, .c (.int .i64 2)], none⟩,
  ⟨some 29, .mv, [.t 30], none⟩]
def a67r9 : List IOp := [⟨some 32, .mv, [.t 1], none⟩,
  ⟨some 33, .fieldAddr 1, [.t 2], none⟩,
  ⟨some 34, .load1, [.t 33], none⟩,
  ⟨some 35, .fieldAddr 3, [.t 2], none⟩,
  ⟨some 36, .load1, [.t 35], none⟩,
  ⟨some 37, .fieldAddr 2, [.t 2], none⟩,
  ⟨some 38, .load1, [.t 37], none⟩,
  ⟨some 39, .call 78, [.t 32, .t 34, .t 36, .t 38], none⟩,
  ⟨some 31, .mv, [.t 39], none⟩,
  ⟨some 40, .extract 0, [.t 31], none⟩,
  ⟨some 41, .extract 1, [.t 31], none⟩,
  ⟨some 6, .mv, [.t 40], none⟩,
  ⟨some 7, .mv, [.t 41], none⟩]
def a67r10 : List IOp := [⟨some 42, .mv, [.t 7], none⟩,
  ⟨some 43, .not, [.t 42], none⟩]
def a67r11 : List IOp := [⟨some 4, .mv, [.c (.int .i64 0)], none⟩,
  ⟨some 5, .mv, [.c (.bool false)], none⟩]
def a67r12 : List IOp := [⟨some 44, .mv, [.t 6], none⟩,
  ⟨some 45, .fieldAddr 4, [.t 2], none⟩,
  ⟨some 46, .load1, [.t 45], none⟩,
  ⟨some 47, .bin .add, [.t 44, .t 46], none⟩,
  ⟨some 6, .mv, [.t 47], none⟩]
def a67r13 : List IOp := [⟨some 48, .mv, [.t 6], none⟩,
  ⟨some 49, .call 55, [.t 48], none⟩,
  ⟨some 8, .mv, [.t 49], none⟩]
def a67r14 : List IOp := [⟨some 50, .fieldAddr 5, [.t 2], none⟩,
  ⟨some 51, .load1, [.t 50], none⟩,
  ⟨some 52, .mv, [.t 51], none⟩,
  ⟨some 53, .mv, [.t 8], some (52, true)⟩,
  ⟨some 54, .bin .geq, [.t 53, .c (.int .i64 5)], some (52, true)⟩,
  ⟨some 55, .pick, [.t 52, .t 54, .c (.bool false)], none⟩]
def a67r15 : List IOp := [⟨some 56, .mv, [.t 6], none⟩,
  ⟨some 57, .mv, [.t 8], none⟩,
  ⟨some 58, .bin .sub, [.c (.int .i64 7), .t 57], none⟩,
  ⟨some 59, .bin .add, [.t 56, .t 58], none⟩,
  ⟨some 6, .mv, [.t 59], none⟩]
def a67r16 : List IOp := [⟨some 60, .mv, [.t 6], none⟩,
  ⟨some 61, .call 51, [.t 60], none⟩,
  ⟨some 62, .not, [.t 61], none⟩]
def a67r17 : List IOp := [⟨some 4, .mv, [.c (.int .i64 0)], none⟩,
  ⟨some 5, .mv, [.c (.bool false)], none⟩]
def a67r18 : List IOp := [⟨some 63, .mv, [.t 6], none⟩,
  ⟨some 4, .mv, [.t 63], none⟩,
  ⟨some 5, .mv, [.c (.bool true)], none⟩]
def a67 : AFunc := ⟨64, [.tmp 4, .tmp 5], (.seq (.region a67r0 [1, 2]) (.seq (.region a67r1 [1, 2, 6]) (.seq (.region a67r2 [1, 2, 6, 7]) (.seq (.seq (.region a67r3 [1, 2, 6, 7, 10]) (.block 0 (.seq (.region a67r4 [1, 2, 6, 7, 10, 11]) (.cond (.t 11) (.region a67r5 [2, 6, 7]) (.seq (.region a67r6 [1, 2, 6, 7, 10, 22]) (.cond (.t 22) (.region a67r7 [2, 6, 7]) (.seq (.region a67r8 [1, 2, 6, 7, 29]) (.cond (.t 29) (.region a67r9 [2, 6, 7]) .skip)))))))) (.seq (.seq (.region a67r10 [2, 6, 43]) (.cond (.t 43) (.seq (.region a67r11 [4, 5]) .ret) .skip)) (.seq (.region a67r12 [2, 6]) (.seq (.seq (.region a67r13 [2, 6, 8]) (.seq (.region a67r14 [6, 8, 55]) (.cond (.t 55) (.region a67r15 [6]) .skip))) (.seq (.seq (.region a67r16 [6, 62]) (.cond (.t 62) (.seq (.region a67r17 [4, 5]) .ret) .skip)) (.seq (.region a67r18 [4, 5]) .ret)))))))))⟩
theorem a67_ok : compileF Tryd.prog (lk [(0, ⟨[1, 2], [], []⟩), (1, ⟨[1, 2, 6], [], []⟩), (2, ⟨[1, 2, 6, 7], [], []⟩), (3, ⟨[1, 2, 6, 7, 10], [], []⟩), (4, ⟨[1, 2, 6, 7, 10, 11], [], []⟩), (5, ⟨[2, 6, 7], [], []⟩), (6, ⟨[1, 2, 6, 7, 10, 22], [], []⟩), (7, ⟨[2, 6, 7], [], []⟩), (8, ⟨[1, 2, 6, 7, 29], [], []⟩), (9, ⟨[2, 6, 7], [], []⟩), (10, ⟨[2, 6, 43], [], []⟩), (11, ⟨[4, 5], [], []⟩), (12, ⟨[2, 6], [], []⟩), (13, ⟨[2, 6, 8], [], []⟩), (14, ⟨[6, 8, 55], [], []⟩), (15, ⟨[6], [], []⟩), (16, ⟨[6, 62], [], []⟩), (17, ⟨[4, 5], [], []⟩), (18, ⟨[4, 5], [], []⟩)]) Tryd.f67 = some a67 := by kernel_rfl

/- payroll/ratio.gcd -/
def a70r0 : List IOp := [⟨some 4, .mv, [.c (.int .u64 0)], none⟩]
def a70r1 : List IOp := [⟨some 5, .mv, [.t 1], none⟩,
  ⟨some 6, .bin .neq, [.t 5, .c (.int .u64 0)], none⟩]
def a70r2 : List (Nat × DOp) := [(0, ⟨⟨some 7, .mv, [.t 1], none⟩, none, [1, 2, 3]⟩),
  (1, ⟨⟨some 8, .mv, [.t 0], none⟩, none, [0, 2]⟩),
  (2, ⟨⟨some 9, .mv, [.t 1], none⟩, none, [0, 1, 4]⟩),
  (3, ⟨⟨some 10, .bin .rem, [.t 8, .t 9], none⟩, none, [0, 4]⟩),
  (4, ⟨⟨some 0, .mv, [.t 7], none⟩, none, [2, 3]⟩),
  (5, ⟨⟨some 1, .mv, [.t 10], none⟩, none, []⟩)]
def a70r3 : List IOp := [⟨some 11, .mv, [.t 0], none⟩,
  ⟨some 4, .mv, [.t 11], none⟩]
def a70 : AFunc := ⟨12, [.tmp 4], (.seq (.region a70r0 [0, 1]) (.seq (.block 0 (.loop (.seq (.seq (.region a70r1 [0, 1, 6]) (.cond (.t 6) .skip (.exit 0))) (.block 1 (.draw a70r2 [] [0, 1]))))) (.seq (.region a70r3 [4]) .ret)))⟩
theorem a70_ok : compileF Tryd.prog (lk [(0, ⟨[0, 1], [], []⟩), (1, ⟨[0, 1, 6], [], []⟩), (2, ⟨[0, 1], [[], [], [], [1, 2], [0, 1], [3, 4, 0, 1, 2]], [0, 1, 2, 3, 4, 5]⟩), (3, ⟨[4], [], []⟩)]) Tryd.f70 = some a70 := by kernel_rfl

/- slices.SortStableFunc[[]int,int] -/
def a71r0 : List IOp := [⟨some 4, .mv, [.t 0], none⟩,
  ⟨some 5, .mv, [.t 0], none⟩,
  ⟨some 6, .len, [.t 5], none⟩,
  ⟨some 7, .mv, [.t 1], none⟩,
  ⟨some 8, .call 81, [.t 4, .t 6, .t 7], none⟩]
def a71 : AFunc := ⟨9, [], (.region a71r0 [])⟩
theorem a71_ok : compileF Tryd.prog (lk [(0, ⟨[], [], []⟩)]) Tryd.f71 = some a71 := by kernel_rfl

/- payroll/rounding.divide$1 -/
def a72r0 : List IOp := [⟨some 5, .mv, [.c (.int .i64 0)], none⟩]
def a72r1 : List (Nat × DOp) := [(0, ⟨⟨some 6, .load1, [.t 2], none⟩, none, [1, 4, 5, 6, 7]⟩),
  (1, ⟨⟨some 7, .mv, [.t 1], none⟩, none, [0, 4, 5, 6, 7]⟩),
  (2, ⟨⟨some 8, .indexAddr 1, [.t 6, .t 7], none⟩, none, [4, 5, 6, 7]⟩),
  (3, ⟨⟨some 9, .load1, [.t 8], none⟩, none, [4, 5, 6, 7]⟩),
  (4, ⟨⟨some 10, .load1, [.t 2], none⟩, none, [0, 1, 2, 3, 5]⟩),
  (5, ⟨⟨some 11, .mv, [.t 0], none⟩, none, [0, 1, 2, 3, 4]⟩),
  (6, ⟨⟨some 12, .indexAddr 1, [.t 10, .t 11], none⟩, none, [0, 1, 2, 3]⟩),
  (7, ⟨⟨some 13, .load1, [.t 12], none⟩, none, [0, 1, 2, 3]⟩),
  (8, ⟨⟨some 14, .call 73, [.t 9, .t 13], none⟩, none, []⟩),
  (9, ⟨⟨some 5, .mv, [.t 14], none⟩, none, []⟩)]
def a72 : AFunc := ⟨15, [.tmp 5], (.seq (.region a72r0 [0, 1, 2]) (.seq (.draw a72r1 [] [5]) .ret))⟩
theorem a72_ok : compileF Tryd.prog (lk [(0, ⟨[0, 1, 2], [], []⟩), (1, ⟨[5], [[], [], [0, 1], [2, 0, 1], [], [], [4, 5], [6, 4, 5], [3, 7, 2, 0, 1, 6, 4, 5], [8, 0, 1, 2, 3, 4, 5, 6, 7]], [0, 1, 2, 3, 4, 5, 6, 7, 8, 9]⟩)]) Tryd.f72 = some a72 := by kernel_rfl

/- cmp.Compare[int] -/
def a73r0 : List IOp := [⟨some 4, .mv, [.c (.int .i64 0)], none⟩]
def a73r1 : List IOp := [⟨some 7, .mv, [.t 0], none⟩,
  ⟨some 8, .call 82, [.t 7], none⟩,
  ⟨some 5, .mv, [.t 8], none⟩]
def a73r2 : List IOp := [⟨some 9, .mv, [.t 1], none⟩,
  ⟨some 10, .call 82, [.t 9], none⟩,
  ⟨some 6, .mv, [.t 10], none⟩]
def a73r3 : List IOp := [⟨some 11, .mv, [.t 5], none⟩]
def a73r4 : List IOp := [⟨some 12, .mv, [.t 6], none⟩]
def a73r5 : List IOp := [⟨some 4, .mv, [.c (.int .i64 0)], none⟩]
def a73r6 : List IOp := [⟨some 4, .mv, [.c (.int .i64 (-1))], none⟩]
def a73r7 : List IOp := [⟨some 13, .mv, [.t 6], none⟩]
def a73r8 : List IOp := [⟨some 4, .mv, [.c (.int .i64 1)], none⟩]
def a73r9 : List IOp := [⟨some 14, .mv, [.t 0], none⟩,
  ⟨some 15, .mv, [.t 1], none⟩,
  ⟨some 16, .bin .lss, [.t 14, .t 15], none⟩]
def a73r10 : List IOp := [⟨some 4, .mv, [.c (.int .i64 (-1))], none⟩]
def a73r11 : List IOp := [⟨some 17, .mv, [.t 0], none⟩,
  ⟨some 18, .mv, [.t 1], none⟩,
  ⟨some 19, .bin .gtr, [.t 17, .t 18], none⟩]
def a73r12 : List IOp := [⟨some 4, .mv, [.c (.int .i64 1)], none⟩]
def a73r13 : List IOp := [⟨some 4, .mv, [.c (.int .i64 0)], none⟩]
def a73 : AFunc := ⟨20, [.tmp 4], (.seq (.region a73r0 [0, 1]) (.seq (.region a73r1 [0, 1, 5]) (.seq (.region a73r2 [0, 1, 5, 6]) (.seq (.seq (.region a73r3 [0, 1, 6, 11]) (.cond (.t 11) (.seq (.seq (.region a73r4 [12]) (.cond (.t 12) (.seq (.region a73r5 [4]) .ret) .skip)) (.seq (.region a73r6 [4]) .ret)) .skip)) (.seq (.seq (.region a73r7 [0, 1, 13]) (.cond (.t 13) (.seq (.region a73r8 [4]) .ret) .skip)) (.seq (.seq (.region a73r9 [0, 1, 16]) (.cond (.t 16) (.seq (.region a73r10 [4]) .ret) .skip)) (.seq (.seq (.region a73r11 [19]) (.cond (.t 19) (.seq (.region a73r12 [4]) .ret) .skip)) (.seq (.region a73r13 [4]) .ret))))))))⟩
theorem a73_ok : compileF Tryd.prog (lk [(0, ⟨[0, 1], [], []⟩), (1, ⟨[0, 1, 5], [], []⟩), (2, ⟨[0, 1, 5, 6], [], []⟩), (3, ⟨[0, 1, 6, 11], [], []⟩), (4, ⟨[12], [], []⟩), (5, ⟨[4], [], []⟩), (6, ⟨[4], [], []⟩), (7, ⟨[0, 1, 13], [], []⟩), (8, ⟨[4], [], []⟩), (9, ⟨[0, 1, 16], [], []⟩), (10, ⟨[4], [], []⟩), (11, ⟨[19], [], []⟩), (12, ⟨[4], [], []⟩), (13, ⟨[4], [], []⟩)]) Tryd.f73 = some a73 := by kernel_rfl

/- payroll/calendar.leaps -/
def a74r0 : List IOp := [⟨some 2, .mv, [.c (.int .i64 0)], none⟩]
def a74r1 : List IOp := [⟨some 3, .mv, [.t 0], none⟩,
  ⟨some 4, .bin .quo, [.t 3, .c (.int .i64 4)], none⟩,
  ⟨some 5, .mv, [.t 0], none⟩,
  ⟨some 6, .bin .quo, [.t 5, .c (.int .i64 100)], none⟩,
  ⟨some 7, .bin .sub, [.t 4, .t 6], none⟩,
  ⟨some 8, .mv, [.t 0], none⟩,
  ⟨some 9, .bin .quo, [.t 8, .c (.int .i64 400)], none⟩,
  ⟨some 10, .bin .add, [.t 7, .t 9], none⟩,
  ⟨some 2, .mv, [.t 10], none⟩]
def a74 : AFunc := ⟨11, [.tmp 2], (.seq (.region a74r0 [0]) (.seq (.region a74r1 [2]) .ret))⟩
theorem a74_ok : compileF Tryd.prog (lk [(0, ⟨[0], [], []⟩), (1, ⟨[2], [], []⟩)]) Tryd.f74 = some a74 := by kernel_rfl

/- payroll/calendar.leap -/
def a75r0 : List IOp := [⟨some 2, .mv, [.c (.bool false)], none⟩]
def a75r1 : List IOp := [⟨some 3, .mv, [.t 0], none⟩,
  ⟨some 4, .bin .rem, [.t 3, .c (.int .i64 4)], none⟩,
  ⟨some 5, .bin .eql, [.t 4, .c (.int .i64 0)], none⟩,
  ⟨some 6, .mv, [.t 5], none⟩,
  ⟨some 7, .mv, [.t 0], some (6, true)⟩,
  ⟨some 8, .bin .rem, [.t 7, .c (.int .i64 100)], some (6, true)⟩,
  ⟨some 9, .bin .neq, [.t 8, .c (.int .i64 0)], some (6, true)⟩,
  ⟨some 10, .mv, [.t 9], some (6, true)⟩,
  ⟨some 11, .mv, [.t 0], some (10, false)⟩,
  ⟨some 12, .bin .rem, [.t 11, .c (.int .i64 400)], some (10, false)⟩,
  ⟨some 13, .bin .eql, [.t 12, .c (.int .i64 0)], some (10, false)⟩,
  ⟨some 14, .pick, [.t 10, .c (.bool true), .t 13], some (6, true)⟩,
  ⟨some 15, .pick, [.t 6, .t 14, .c (.bool false)], none⟩,
  ⟨some 2, .mv, [.t 15], none⟩]
def a75 : AFunc := ⟨16, [.tmp 2], (.seq (.region a75r0 [0]) (.seq (.region a75r1 [2]) .ret))⟩
theorem a75_ok : compileF Tryd.prog (lk [(0, ⟨[0], [], []⟩), (1, ⟨[2], [], []⟩)]) Tryd.f75 = some a75 := by kernel_rfl

/- payroll/calendar.Day -/
def a76r0 : List IOp := [⟨some 6, .mv, [.c (.int .i64 0)], none⟩,
  ⟨some 7, .mv, [.c (.bool false)], none⟩]
def a76r1 : List IOp := [⟨some 8, .mv, [.t 0], none⟩,
  ⟨some 9, .bin .lss, [.t 8, .c (.int .i64 1970)], none⟩,
  ⟨some 10, .mv, [.t 9], none⟩,
  ⟨some 11, .mv, [.t 0], some (10, false)⟩,
  ⟨some 12, .bin .gtr, [.t 11, .c (.int .i64 2199)], some (10, false)⟩,
  ⟨some 13, .pick, [.t 10, .c (.bool true), .t 12], none⟩,
  ⟨some 14, .mv, [.t 13], none⟩,
  ⟨some 15, .mv, [.t 1], some (14, false)⟩,
  ⟨some 16, .bin .lss, [.t 15, .c (.int .i64 1)], some (14, false)⟩,
  ⟨some 17, .pick, [.t 14, .c (.bool true), .t 16], none⟩,
  ⟨some 18, .mv, [.t 17], none⟩,
  ⟨some 19, .mv, [.t 1], some (18, false)⟩,
  ⟨some 20, .bin .gtr, [.t 19, .c (.int .i64 12)], some (18, false)⟩,
  ⟨some 21, .pick, [.t 18, .c (.bool true), .t 20], none⟩]
def a76r2 : List IOp := [⟨some 6, .mv, [.c (.int .i64 0)], none⟩,
  ⟨some 7, .mv, [.c (.bool false)], none⟩]
def a76r3 : List IOp := [⟨some 22, .mv, [.t 2], none⟩,
  ⟨some 23, .bin .lss, [.t 22, .c (.int .i64 1)], none⟩,
  ⟨some 24, .mv, [.t 23], none⟩,
  ⟨some 25, .mv, [.t 2], some (24, false)⟩,
  ⟨some 26, .mv, [.t 0], some (24, false)⟩,
  ⟨some 27, .mv, [.t 1], some (24, false)⟩,
  ⟨some 28, .call 63, [.t 26, .t 27], some (24, false)⟩,
  ⟨some 29, .bin .gtr, [.t 25, .t 28], some (24, false)⟩,
  ⟨some 30, .pick, [.t 24, .c (.bool true), .t 29], none⟩]
def a76r4 : List IOp := [⟨some 6, .mv, [.c (.int .i64 0)], none⟩,
  ⟨some 7, .mv, [.c (.bool false)], none⟩]
def a76r5 : List IOp := [⟨some 31, .mv, [.t 0], none⟩,
  ⟨some 32, .mv, [.t 1], none⟩,
  ⟨some 33, .mv, [.t 2], none⟩,
  ⟨some 34, .call 64, [.t 31, .t 32, .t 33], none⟩,
  ⟨some 6, .mv, [.t 34], none⟩,
  ⟨some 7, .mv, [.c (.bool true)], none⟩]
def a76 : AFunc := ⟨35, [.tmp 6, .tmp 7], (.seq (.region a76r0 [0, 1, 2]) (.seq (.seq (.region a76r1 [0, 1, 2, 21]) (.cond (.t 21) (.seq (.region a76r2 [6, 7]) .ret) .skip)) (.seq (.seq (.region a76r3 [0, 1, 2, 30]) (.cond (.t 30) (.seq (.region a76r4 [6, 7]) .ret) .skip)) (.seq (.region a76r5 [6, 7]) .ret))))⟩
theorem a76_ok : compileF Tryd.prog (lk [(0, ⟨[0, 1, 2], [], []⟩), (1, ⟨[0, 1, 2, 21], [], []⟩), (2, ⟨[6, 7], [], []⟩), (3, ⟨[0, 1, 2, 30], [], []⟩), (4, ⟨[6, 7], [], []⟩), (5, ⟨[6, 7], [], []⟩)]) Tryd.f76 = some a76 := by kernel_rfl

/- payroll/calendar.Easter -/
def a77r0 : List IOp := [⟨some 2, .mv, [.c (.int .i64 0)], none⟩,
  ⟨some 3, .mv, [.c (.bool false)], none⟩]
def a77r1 : List IOp := [⟨some 12, .mv, [.t 0], none⟩,
  ⟨some 13, .bin .lss, [.t 12, .c (.int .i64 1970)], none⟩,
  ⟨some 14, .mv, [.t 13], none⟩,
  ⟨some 15, .mv, [.t 0], some (14, false)⟩,
  ⟨some 16, .bin .gtr, [.t 15, .c (.int .i64 2199)], some (14, false)⟩,
  ⟨some 17, .pick, [.t 14, .c (.bool true), .t 16], none⟩]
def a77r2 : List IOp := [⟨some 2, .mv, [.c (.int .i64 0)], none⟩,
  ⟨some 3, .mv, [.c (.bool false)], none⟩]
def a77r3 : List IOp := [⟨some 18, .mv, [.t 0], none⟩,
  ⟨some 19, .bin .rem, [.t 18, .c (.int .i64 19)], none⟩,
  ⟨some 20, .mv, [.t 0], none⟩,
  ⟨some 21, .bin .quo, [.t 20, .c (.int .i64 100)], none⟩,
  ⟨some 22, .mv, [.t 0], none⟩,
  ⟨some 23, .bin .rem, [.t 22, .c (.int .i64 100)], none⟩,
  ⟨some 4, .mv, [.t 19], none⟩,
  ⟨some 5, .mv, [.t 21], none⟩,
  ⟨some 6, .mv, [.t 23], none⟩]
def a77r4 : List IOp := [⟨some 24, .mv, [.t 5], none⟩,
  ⟨some 25, .mv, [.t 5], none⟩,
  ⟨some 26, .bin .add, [.t 25, .c (.int .i64 8)], none⟩,
  ⟨some 27, .bin .quo, [.t 26, .c (.int .i64 25)], none⟩,
  ⟨some 28, .bin .sub, [.t 24, .t 27], none⟩,
  ⟨some 29, .bin .add, [.t 28, .c (.int .i64 1)], none⟩,
  ⟨some 30, .bin .quo, [.t 29, .c (.int .i64 3)], none⟩,
  ⟨some 7, .mv, [.t 30], none⟩]
def a77r5 : List IOp := [⟨some 31, .mv, [.t 4], none⟩,
  ⟨some 32, .bin .mul, [.c (.int .i64 19), .t 31], none⟩,
  ⟨some 33, .mv, [.t 5], none⟩,
  ⟨some 34, .bin .add, [.t 32, .t 33], none⟩,
  ⟨some 35, .mv, [.t 5], none⟩,
  ⟨some 36, .bin .quo, [.t 35, .c (.int .i64 4)], none⟩,
  ⟨some 37, .bin .sub, [.t 34, .t 36], none⟩,
  ⟨some 38, .mv, [.t 7], none⟩,
  ⟨some 39, .bin .sub, [.t 37, .t 38], none⟩,
  ⟨some 40, .bin .add, [.t 39, .c (.int .i64 15)], none⟩,
  ⟨some 41, .bin .rem, [.t 40, .c (.int .i64 30)], none⟩,
  ⟨some 8, .mv, [.t 41], none⟩]
def a77r6 : List IOp := [⟨some 42, .mv, [.t 5], none⟩,
  ⟨some 43, .bin .rem, [.t 42, .c (.int .i64 4)], none⟩,
  ⟨some 44, .bin .mul, [.c (.int .i64 2), .t 43], none⟩,
  ⟨some 45, .bin .add, [.c (.int .i64 32), .t 44], none⟩,
  ⟨some 46, .mv, [.t 6], none⟩,
  ⟨some 47, .bin .quo, [.t 46, .c (.int .i64 4)], none⟩,
  ⟨some 48, .bin .mul, [.c (.int .i64 2), .t 47], none⟩,
  ⟨some 49, .bin .add, [.t 45, .t 48], none⟩,
  ⟨some 50, .mv, [.t 8], none⟩,
  ⟨some 51, .bin .sub, [.t 49, .t 50], none⟩,
  ⟨some 52, .mv, [.t 6], none⟩,
  ⟨some 53, .bin .rem, [.t 52, .c (.int .i64 4)], none⟩,
  ⟨some 54, .bin .sub, [.t 51, .t 53], none⟩,
  ⟨some 55, .bin .rem, [.t 54, .c (.int .i64 7)], none⟩,
  ⟨some 9, .mv, [.t 55], none⟩]
def a77r7 : List IOp := [⟨some 56, .mv, [.t 4], none⟩,
  ⟨some 57, .mv, [.t 8], none⟩,
  ⟨some 58, .bin .mul, [.c (.int .i64 11), .t 57], none⟩,
  ⟨some 59, .bin .add, [.t 56, .t 58], none⟩,
  ⟨some 60, .mv, [.t 9], none⟩,
  ⟨some 61, .bin .mul, [.c (.int .i64 22), .t 60], none⟩,
  ⟨some 62, .bin .add, [.t 59, .t 61], none⟩,
  ⟨some 63, .bin .quo, [.t 62, .c (.int .i64 451)], none⟩,
  ⟨some 10, .mv, [.t 63], none⟩]
def a77r8 : List IOp := [⟨some 64, .mv, [.t 8], none⟩,
  ⟨some 65, .mv, [.t 9], none⟩,
  ⟨some 66, .bin .add, [.t 64, .t 65], none⟩,
  ⟨some 67, .mv, [.t 10], none⟩,
  ⟨some 68, .bin .mul, [.c (.int .i64 7), .t 67], none⟩,
  ⟨some 69, .bin .sub, [.t 66, .t 68], none⟩,
  ⟨some 70, .bin .add, [.t 69, .c (.int .i64 114)], none⟩,
  ⟨some 11, .mv, [.t 70], none⟩]
def a77r9 : List IOp := [⟨some 71, .mv, [.t 0], none⟩,
  ⟨some 72, .mv, [.t 11], none⟩,
  ⟨some 73, .bin .quo, [.t 72, .c (.int .i64 31)], none⟩,
  ⟨some 74, .mv, [.t 11], none⟩,
  ⟨some 75, .bin .rem, [.t 74, .c (.int .i64 31)], none⟩,
  ⟨some 76, .bin .add, [.t 75, .c (.int .i64 1)], none⟩,
  ⟨some 77, .call 76, [.t 71, .t 73, .t 76], none⟩,
  ⟨some 78, .extract 0, [.t 77], none⟩,
  ⟨some 79, .extract 1, [.t 77], none⟩,
  ⟨some 2, .mv, [.t 78], none⟩,
  ⟨some 3, .mv, [.t 79], none⟩]
def a77 : AFunc := ⟨80, [.tmp 2, .tmp 3], (.seq (.region a77r0 [0]) (.seq (.seq (.region a77r1 [0, 17]) (.cond (.t 17) (.seq (.region a77r2 [2, 3]) .ret) .skip)) (.seq (.region a77r3 [0, 4, 5, 6]) (.seq (.region a77r4 [0, 4, 5, 6, 7]) (.seq (.region a77r5 [0, 4, 5, 6, 8]) (.seq (.region a77r6 [0, 4, 8, 9]) (.seq (.region a77r7 [0, 8, 9, 10]) (.seq (.region a77r8 [0, 11]) (.seq (.region a77r9 [2, 3]) .ret)))))))))⟩
theorem a77_ok : compileF Tryd.prog (lk [(0, ⟨[0], [], []⟩), (1, ⟨[0, 17], [], []⟩), (2, ⟨[2, 3], [], []⟩), (3, ⟨[0, 4, 5, 6], [], []⟩), (4, ⟨[0, 4, 5, 6, 7], [], []⟩), (5, ⟨[0, 4, 5, 6, 8], [], []⟩), (6, ⟨[0, 4, 8, 9], [], []⟩), (7, ⟨[0, 8, 9, 10], [], []⟩), (8, ⟨[0, 11], [], []⟩), (9, ⟨[2, 3], [], []⟩)]) Tryd.f77 = some a77 := by kernel_rfl

/- payroll/calendar.nth -/
def a78r0 : List IOp := [⟨some 8, .mv, [.c (.int .i64 0)], none⟩,
  ⟨some 9, .mv, [.c (.bool false)], none⟩]
def a78r1 : List IOp := [⟨some 13, .mv, [.t 0], none⟩,
  ⟨some 14, .mv, [.t 1], none⟩,
  ⟨some 15, .call 64, [.t 13, .t 14, .c (.int .i64 1)], none⟩,
  ⟨some 10, .mv, [.t 15], none⟩]
def a78r2 : List IOp := [⟨some 16, .mv, [.t 0], none⟩,
  ⟨some 17, .mv, [.t 1], none⟩,
  ⟨some 18, .call 63, [.t 16, .t 17], none⟩,
  ⟨some 11, .mv, [.t 18], none⟩]
def a78r3 : List IOp := [⟨some 19, .mv, [.t 2], none⟩,
  ⟨some 20, .mv, [.t 10], none⟩,
  ⟨some 21, .call 55, [.t 20], none⟩,
  ⟨some 22, .bin .sub, [.t 19, .t 21], none⟩,
  ⟨some 23, .bin .add, [.t 22, .c (.int .i64 7)], none⟩,
  ⟨some 24, .bin .rem, [.t 23, .c (.int .i64 7)], none⟩,
  ⟨some 12, .mv, [.t 24], none⟩]
def a78r4 : List IOp := [⟨some 25, .mv, [.t 3], none⟩,
  ⟨some 26, .bin .eql, [.t 25, .c (.int .i64 (-1))], none⟩]
def a78r5 : List IOp := [⟨some 27, .mv, [.t 12], none⟩,
  ⟨some 28, .mv, [.t 11], none⟩,
  ⟨some 29, .bin .sub, [.t 28, .c (.int .i64 1)], none⟩,
  ⟨some 30, .mv, [.t 12], none⟩,
  ⟨some 31, .bin .sub, [.t 29, .t 30], none⟩,
  ⟨some 32, .bin .quo, [.t 31, .c (.int .i64 7)], none⟩,
  ⟨some 33, .bin .mul, [.t 32, .c (.int .i64 7)], none⟩,
  ⟨some 34, .bin .add, [.t 27, .t 33], none⟩,
  ⟨some 12, .mv, [.t 34], none⟩]
def a78r6 : List IOp := [⟨some 35, .mv, [.t 12], none⟩,
  ⟨some 36, .mv, [.t 3], none⟩,
  ⟨some 37, .bin .sub, [.t 36, .c (.int .i64 1)], none⟩,
  ⟨some 38, .bin .mul, [.c (.int .i64 7), .t 37], none⟩,
  ⟨some 39, .bin .add, [.t 35, .t 38], none⟩,
  ⟨some 12, .mv, [.t 39], none⟩]
def a78r7 : List IOp := [⟨some 40, .mv, [.t 12], none⟩,
  ⟨some 41, .mv, [.t 11], none⟩,
  ⟨some 42, .bin .geq, [.t 40, .t 41], none⟩]
def a78r8 : List IOp := [⟨some 8, .mv, [.c (.int .i64 0)], none⟩,
  ⟨some 9, .mv, [.c (.bool false)], none⟩]
def a78r9 : List IOp := [⟨some 43, .mv, [.t 10], none⟩,
  ⟨some 44, .mv, [.t 12], none⟩,
  ⟨some 45, .bin .add, [.t 43, .t 44], none⟩,
  ⟨some 8, .mv, [.t 45], none⟩,
  ⟨some 9, .mv, [.c (.bool true)], none⟩]
def a78 : AFunc := ⟨46, [.tmp 8, .tmp 9], (.seq (.region a78r0 [0, 1, 2, 3]) (.seq (.region a78r1 [0, 1, 2, 3, 10]) (.seq (.region a78r2 [2, 3, 10, 11]) (.seq (.region a78r3 [3, 10, 11, 12]) (.seq (.seq (.region a78r4 [3, 10, 11, 12, 26]) (.cond (.t 26) (.region a78r5 [10, 11, 12]) (.region a78r6 [10, 11, 12]))) (.seq (.seq (.region a78r7 [10, 12, 42]) (.cond (.t 42) (.seq (.region a78r8 [8, 9]) .ret) .skip)) (.seq (.region a78r9 [8, 9]) .ret)))))))⟩
theorem a78_ok : compileF Tryd.prog (lk [(0, ⟨[0, 1, 2, 3], [], []⟩), (1, ⟨[0, 1, 2, 3, 10], [], []⟩), (2, ⟨[2, 3, 10, 11], [], []⟩), (3, ⟨[3, 10, 11, 12], [], []⟩), (4, ⟨[3, 10, 11, 12, 26], [], []⟩), (5, ⟨[10, 11, 12], [], []⟩), (6, ⟨[10, 11, 12], [], []⟩), (7, ⟨[10, 12, 42], [], []⟩), (8, ⟨[8, 9], [], []⟩), (9, ⟨[8, 9], [], []⟩)]) Tryd.f78 = some a78 := by kernel_rfl

/- slices.stableCmpFunc[int] -/
def a81r0 : List IOp := [⟨some 6, .mv, [.c (.int .i64 20)], none⟩]
def a81r1 : List IOp := [⟨some 10, .mv, [.t 6], none⟩,
  ⟨some 7, .mv, [.c (.int .i64 0)], none⟩,
  ⟨some 8, .mv, [.t 10], none⟩]
def a81r2 : List IOp := [⟨some 11, .mv, [.t 8], none⟩,
  ⟨some 12, .mv, [.t 1], none⟩,
  ⟨some 13, .bin .leq, [.t 11, .t 12], none⟩]
def a81r3 : List IOp := [⟨some 14, .mv, [.t 0], none⟩,
  ⟨some 15, .mv, [.t 7], none⟩,
  ⟨some 16, .mv, [.t 8], none⟩,
  ⟨some 17, .mv, [.t 2], none⟩,
  ⟨some 18, .call 94, [.t 14, .t 15, .t 16, .t 17], none⟩]
def a81r4 : List IOp := [⟨some 19, .mv, [.t 8], none⟩,
  ⟨some 7, .mv, [.t 19], none⟩]
def a81r5 : List IOp := [⟨some 20, .mv, [.t 8], none⟩,
  ⟨some 21, .mv, [.t 6], none⟩,
  ⟨some 22, .bin .add, [.t 20, .t 21], none⟩,
  ⟨some 8, .mv, [.t 22], none⟩]
def a81r6 : List IOp := [⟨some 23, .mv, [.t 0], none⟩,
  ⟨some 24, .mv, [.t 7], none⟩,
  ⟨some 25, .mv, [.t 1], none⟩,
  ⟨some 26, .mv, [.t 2], none⟩,
  ⟨some 27, .call 94, [.t 23, .t 24, .t 25, .t 26], none⟩]
def a81r7 : List IOp := [⟨some 28, .mv, [.t 6], none⟩,
  ⟨some 29, .mv, [.t 1], none⟩,
  ⟨some 30, .bin .lss, [.t 28, .t 29], none⟩]
def a81r8 : List IOp := [⟨some 31, .mv, [.t 6], none⟩,
  ⟨some 32, .bin .mul, [.c (.int .i64 2), .t 31], none⟩,
  ⟨some 7, .mv, [.c (.int .i64 0)], none⟩,
  ⟨some 8, .mv, [.t 32], none⟩]
def a81r9 : List IOp := [⟨some 33, .mv, [.t 8], none⟩,
  ⟨some 34, .mv, [.t 1], none⟩,
  ⟨some 35, .bin .leq, [.t 33, .t 34], none⟩]
def a81r10 : List IOp := [⟨some 36, .mv, [.t 0], none⟩,
  ⟨some 37, .mv, [.t 7], none⟩,
  ⟨some 38, .mv, [.t 7], none⟩,
  ⟨some 39, .mv, [.t 6], none⟩,
  ⟨some 40, .bin .add, [.t 38, .t 39], none⟩,
  ⟨some 41, .mv, [.t 8], none⟩,
  ⟨some 42, .mv, [.t 2], none⟩,
  ⟨some 43, .call 95, [.t 36, .t 37, .t 40, .t 41, .t 42], none⟩]
def a81r11 : List IOp := [⟨some 44, .mv, [.t 8], none⟩,
  ⟨some 7, .mv, [.t 44], none⟩]
def a81r12 : List IOp := [⟨some 45, .mv, [.t 8], none⟩,
  ⟨some 46, .mv, [.t 6], none⟩,
  ⟨some 47, .bin .mul, [.c (.int .i64 2), .t 46], none⟩,
  ⟨some 48, .bin .add, [.t 45, .t 47], none⟩,
  ⟨some 8, .mv, [.t 48], none⟩]
def a81r13 : List IOp := [⟨some 49, .mv, [.t 7], none⟩,
  ⟨some 50, .mv, [.t 6], none⟩,
  ⟨some 51, .bin .add, [.t 49, .t 50], none⟩,
  ⟨some 9, .mv, [.t 51], none⟩]
def a81r14 : List IOp := [⟨some 52, .mv, [.t 9], none⟩,
  ⟨some 53, .mv, [.t 1], none⟩,
  ⟨some 54, .bin .lss, [.t 52, .t 53], none⟩]
def a81r15 : List IOp := [⟨some 55, .mv, [.t 0], none⟩,
  ⟨some 56, .mv, [.t 7], none⟩,
  ⟨some 57, .mv, [.t 9], none⟩,
  ⟨some 58, .mv, [.t 1], none⟩,
  ⟨some 59, .mv, [.t 2], none⟩,
  ⟨some 60, .call 95, [.t 55, .t 56, .t 57, .t 58, .t 59], none⟩]
def a81r16 : List IOp := [⟨some 61, .mv, [.t 6], none⟩,
  ⟨some 62, .bin .mul, [.t 61, .c (.int .i64 2)], none⟩,
  ⟨some 6, .mv, [.t 62], none⟩]
def a81 : AFunc := ⟨63, [], (.seq (.region a81r0 [0, 1, 2, 6]) (.seq (.region a81r1 [0, 1, 2, 6, 7, 8]) (.seq (.block 0 (.loop (.seq (.seq (.region a81r2 [0, 1, 2, 6, 7, 8, 13]) (.cond (.t 13) .skip (.exit 0))) (.block 1 (.seq (.region a81r3 [0, 1, 2, 6, 8]) (.seq (.region a81r4 [0, 1, 2, 6, 7, 8]) (.region a81r5 [0, 1, 2, 6, 7, 8]))))))) (.seq (.region a81r6 [0, 1, 2, 6]) (.block 2 (.loop (.seq (.seq (.region a81r7 [0, 1, 2, 6, 30]) (.cond (.t 30) .skip (.exit 2))) (.block 3 (.seq (.region a81r8 [0, 1, 2, 6, 7, 8]) (.seq (.block 4 (.loop (.seq (.seq (.region a81r9 [0, 1, 2, 6, 7, 8, 35]) (.cond (.t 35) .skip (.exit 4))) (.block 5 (.seq (.region a81r10 [0, 1, 2, 6, 8]) (.seq (.region a81r11 [0, 1, 2, 6, 7, 8]) (.region a81r12 [0, 1, 2, 6, 7, 8]))))))) (.seq (.seq (.region a81r13 [0, 1, 2, 6, 7, 9]) (.seq (.region a81r14 [0, 1, 2, 6, 7, 9, 54]) (.cond (.t 54) (.region a81r15 [0, 1, 2, 6]) .skip))) (.region a81r16 [0, 1, 2, 6]))))))))))))⟩
theorem a81_ok : compileF Tryd.prog (lk [(0, ⟨[0, 1, 2, 6], [], []⟩), (1, ⟨[0, 1, 2, 6, 7, 8], [], []⟩), (2, ⟨[0, 1, 2, 6, 7, 8, 13], [], []⟩), (3, ⟨[0, 1, 2, 6, 8], [], []⟩), (4, ⟨[0, 1, 2, 6, 7, 8], [], []⟩), (5, ⟨[0, 1, 2, 6, 7, 8], [], []⟩), (6, ⟨[0, 1, 2, 6], [], []⟩), (7, ⟨[0, 1, 2, 6, 30], [], []⟩), (8, ⟨[0, 1, 2, 6, 7, 8], [], []⟩), (9, ⟨[0, 1, 2, 6, 7, 8, 35], [], []⟩), (10, ⟨[0, 1, 2, 6, 8], [], []⟩), (11, ⟨[0, 1, 2, 6, 7, 8], [], []⟩), (12, ⟨[0, 1, 2, 6, 7, 8], [], []⟩), (13, ⟨[0, 1, 2, 6, 7, 9], [], []⟩), (14, ⟨[0, 1, 2, 6, 7, 9, 54], [], []⟩), (15, ⟨[0, 1, 2, 6], [], []⟩), (16, ⟨[0, 1, 2, 6], [], []⟩)]) Tryd.f81 = some a81 := by kernel_rfl

/- cmp.isNaN[int] -/
def a82r0 : List IOp := [⟨some 2, .mv, [.c (.bool false)], none⟩]
def a82r1 : List IOp := [⟨some 3, .mv, [.t 0], none⟩,
  ⟨some 4, .mv, [.t 0], none⟩,
  ⟨some 5, .bin .neq, [.t 3, .t 4], none⟩,
  ⟨some 2, .mv, [.t 5], none⟩]
def a82 : AFunc := ⟨6, [.tmp 2], (.seq (.region a82r0 [0]) (.seq (.region a82r1 [2]) .ret))⟩
theorem a82_ok : compileF Tryd.prog (lk [(0, ⟨[0], [], []⟩), (1, ⟨[2], [], []⟩)]) Tryd.f82 = some a82 := by kernel_rfl

/- slices.insertionSortCmpFunc[int] -/
def a94r0 : List IOp := [⟨some 10, .mv, [.t 1], none⟩,
  ⟨some 11, .bin .add, [.t 10, .c (.int .i64 1)], none⟩,
  ⟨some 8, .mv, [.t 11], none⟩]
def a94r1 : List IOp := [⟨some 12, .mv, [.t 8], none⟩,
  ⟨some 13, .mv, [.t 2], none⟩,
  ⟨some 14, .bin .lss, [.t 12, .t 13], none⟩]
def a94r2 : List IOp := [⟨some 17, .mv, [.t 8], none⟩,
  ⟨some 9, .mv, [.t 17], none⟩]
def a94r3 : List (Nat × DOp) := [(0, ⟨⟨some 18, .mv, [.t 9], none⟩, none, [1]⟩),
  (1, ⟨⟨some 19, .mv, [.t 1], none⟩, none, [0]⟩),
  (2, ⟨⟨some 20, .bin .gtr, [.t 18, .t 19], none⟩, none, []⟩),
  (3, ⟨⟨some 21, .mv, [.t 20], none⟩, none, []⟩),
  (4, ⟨⟨some 22, .mv, [.t 3], some (21, true)⟩, none, [5, 6, 7, 8, 9, 10, 11, 12, 13]⟩),
  (5, ⟨⟨some 23, .mv, [.t 0], some (21, true)⟩, none, [4, 6, 9, 10, 11, 12, 13]⟩),
  (6, ⟨⟨some 24, .mv, [.t 9], some (21, true)⟩, none, [4, 5, 9, 10, 11, 12, 13]⟩),
  (7, ⟨⟨some 25, .indexAddr 1, [.t 23, .t 24], some (21, true)⟩, none, [4, 9, 10, 11, 12, 13]⟩),
  (8, ⟨⟨some 26, .load1, [.t 25], some (21, true)⟩, none, [4, 9, 10, 11, 12, 13]⟩),
  (9, ⟨⟨some 27, .mv, [.t 0], some (21, true)⟩, none, [4, 5, 6, 7, 8, 10, 11]⟩),
  (10, ⟨⟨some 28, .mv, [.t 9], some (21, true)⟩, none, [4, 5, 6, 7, 8, 9]⟩),
  (11, ⟨⟨some 29, .bin .sub, [.t 28, .c (.int .i64 1)], some (21, true)⟩, none, [4, 5, 6, 7, 8, 9]⟩),
  (12, ⟨⟨some 30, .indexAddr 1, [.t 27, .t 29], some (21, true)⟩, none, [4, 5, 6, 7, 8]⟩),
  (13, ⟨⟨some 31, .load1, [.t 30], some (21, true)⟩, none, [4, 5, 6, 7, 8]⟩),
  (14, ⟨⟨some 32, .callv, [.t 22, .t 26, .t 31], some (21, true)⟩, none, []⟩),
  (15, ⟨⟨some 33, .bin .lss, [.t 32, .c (.int .i64 0)], some (21, true)⟩, none, []⟩),
  (16, ⟨⟨some 34, .pick, [.t 21, .t 33, .c (.bool false)], none⟩, none, []⟩)]
def a94r4 : List (Nat × DOp) := [(0, ⟨⟨some 37, .mv, [.t 0], none⟩, none, [1, 2, 3, 4, 5, 6, 7, 8, 9, 10, 11, 12, 13]⟩),
  (1, ⟨⟨some 38, .mv, [.t 9], none⟩, none, [0, 2, 3, 4, 5, 6, 7, 8, 9, 10, 11, 12, 13]⟩),
  (2, ⟨⟨some 39, .mv, [.t 0], none⟩, none, [0, 1, 3, 4, 5, 6, 7, 8, 9, 10, 11, 12, 13, 14, 15]⟩),
  (3, ⟨⟨some 40, .mv, [.t 9], none⟩, none, [0, 1, 2, 5, 6, 7, 8, 9, 10, 11, 12, 13, 14, 15]⟩),
  (4, ⟨⟨some 41, .bin .sub, [.t 40, .c (.int .i64 1)], none⟩, none, [0, 1, 2, 5, 6, 7, 8, 9, 10, 11, 12, 13, 14, 15]⟩),
  (5, ⟨⟨some 42, .mv, [.t 0], none⟩, none, [0, 1, 2, 3, 4, 6, 7, 10, 11, 12, 13]⟩),
  (6, ⟨⟨some 43, .mv, [.t 9], none⟩, none, [0, 1, 2, 3, 4, 5, 10, 11, 12, 13]⟩),
  (7, ⟨⟨some 44, .bin .sub, [.t 43, .c (.int .i64 1)], none⟩, none, [0, 1, 2, 3, 4, 5, 10, 11, 12, 13]⟩),
  (8, ⟨⟨some 45, .indexAddr 1, [.t 42, .t 44], none⟩, none, [0, 1, 2, 3, 4, 10, 11, 12, 13]⟩),
  (9, ⟨⟨some 46, .load1, [.t 45], none⟩, none, [0, 1, 2, 3, 4, 10, 11, 12, 13]⟩),
  (10, ⟨⟨some 47, .mv, [.t 0], none⟩, none, [0, 1, 2, 3, 4, 5, 6, 7, 8, 9, 11]⟩),
  (11, ⟨⟨some 48, .mv, [.t 9], none⟩, none, [0, 1, 2, 3, 4, 5, 6, 7, 8, 9, 10]⟩),
  (12, ⟨⟨some 49, .indexAddr 1, [.t 47, .t 48], none⟩, none, [0, 1, 2, 3, 4, 5, 6, 7, 8, 9]⟩),
  (13, ⟨⟨some 50, .load1, [.t 49], none⟩, none, [0, 1, 2, 3, 4, 5, 6, 7, 8, 9]⟩),
  (14, ⟨⟨some 51, .indexAddr 1, [.t 37, .t 38], none⟩, none, [2, 3, 4]⟩),
  (15, ⟨⟨none, .store 1, [.t 51, .t 46], none⟩, none, [2, 3, 4]⟩),
  (16, ⟨⟨some 52, .indexAddr 1, [.t 39, .t 41], none⟩, none, []⟩),
  (17, ⟨⟨none, .store 1, [.t 52, .t 50], none⟩, none, []⟩)]
def a94r5 : List IOp := [⟨some 35, .mv, [.t 9], none⟩,
  ⟨some 36, .bin .sub, [.t 35, .c (.int .i64 1)], none⟩,
  ⟨some 9, .mv, [.t 36], none⟩]
def a94r6 : List IOp := [⟨some 15, .mv, [.t 8], none⟩,
  ⟨some 16, .bin .add, [.t 15, .c (.int .i64 1)], none⟩,
  ⟨some 8, .mv, [.t 16], none⟩]
def a94 : AFunc := ⟨53, [], (.seq (.region a94r0 [0, 1, 2, 3, 8]) (.block 0 (.loop (.seq (.seq (.region a94r1 [0, 1, 2, 3, 8, 14]) (.cond (.t 14) .skip (.exit 0))) (.seq (.block 1 (.seq (.region a94r2 [0, 1, 2, 3, 8, 9]) (.block 2 (.loop (.seq (.seq (.draw a94r3 [] [0, 1, 2, 3, 8, 9, 34]) (.cond (.t 34) .skip (.exit 2))) (.seq (.block 3 (.draw a94r4 [] [0, 1, 2, 3, 8, 9])) (.region a94r5 [0, 1, 2, 3, 8, 9]))))))) (.region a94r6 [0, 1, 2, 3, 8]))))))⟩
theorem a94_ok : compileF Tryd.prog (lk [(0, ⟨[0, 1, 2, 3, 8], [], []⟩), (1, ⟨[0, 1, 2, 3, 8, 14], [], []⟩), (2, ⟨[0, 1, 2, 3, 8], [], []⟩), (3, ⟨[0, 1, 2, 3, 8, 9], [], []⟩), (4, ⟨[0, 1, 2, 3, 8, 9, 34], [[], [], [0, 1], [2, 0, 1], [3, 2, 0, 1], [3, 2, 0, 1], [3, 2, 0, 1], [5, 6, 3, 2, 0, 1], [7, 3, 5, 6, 2, 0, 1], [3, 2, 0, 1], [3, 2, 0, 1], [10, 3, 2, 0, 1], [9, 11, 3, 2, 0, 1, 10], [12, 3, 9, 11, 2, 0, 1, 10], [4, 8, 13, 3, 2, 0, 1, 7, 5, 6, 12, 9, 11, 10], [14, 3, 4, 8, 13, 2, 0, 1, 7, 5, 6, 12, 9, 11, 10], [3, 15, 2, 0, 1, 14, 4, 8, 13, 7, 5, 6, 12, 9, 11, 10]], [0, 1, 2, 3, 4, 5, 6, 7, 8, 9, 10, 11, 12, 13, 14, 15, 16]⟩), (5, ⟨[0, 1, 2, 3, 8, 9], [], []⟩), (6, ⟨[0, 1, 2, 3, 8, 9], [[], [], [], [], [3], [], [], [6], [5, 7, 6], [8, 5, 7, 6], [], [], [10, 11], [12, 10, 11], [0, 1, 5, 6, 7, 8, 9, 13, 12, 10, 11], [14, 9, 0, 1, 5, 6, 7, 8, 13, 12, 10, 11], [2, 4, 0, 1, 3, 5, 6, 7, 8, 9, 10, 11, 12, 13, 14, 15], [16, 13, 15, 0, 1, 2, 3, 4, 5, 6, 7, 8, 9, 10, 11, 12, 14]], [0, 1, 2, 3, 4, 5, 6, 7, 8, 9, 10, 11, 12, 13, 14, 15, 16, 17]⟩)]) Tryd.f94 = some a94 := by kernel_rfl

/- slices.symMergeCmpFunc[int] -/
def a95r0 : List IOp := [⟨some 25, .mv, [.t 2], none⟩,
  ⟨some 26, .mv, [.t 1], none⟩,
  ⟨some 27, .bin .sub, [.t 25, .t 26], none⟩,
  ⟨some 28, .bin .eql, [.t 27, .c (.int .i64 1)], none⟩]
def a95r1 : List IOp := [⟨some 29, .mv, [.t 2], none⟩,
  ⟨some 10, .mv, [.t 29], none⟩]
def a95r2 : List IOp := [⟨some 30, .mv, [.t 3], none⟩,
  ⟨some 11, .mv, [.t 30], none⟩]
def a95r3 : List IOp := [⟨some 31, .mv, [.t 10], none⟩,
  ⟨some 32, .mv, [.t 11], none⟩,
  ⟨some 33, .bin .lss, [.t 31, .t 32], none⟩]
def a95r4 : List IOp := [⟨some 34, .mv, [.t 10], none⟩,
  ⟨some 35, .mv, [.t 11], none⟩,
  ⟨some 36, .bin .add, [.t 34, .t 35], none⟩,
  ⟨some 37, .conv .u64, [.t 36], none⟩,
  ⟨some 38, .bin .shr, [.t 37, .c (.int .u64 1)], none⟩,
  ⟨some 39, .conv .i64, [.t 38], none⟩,
  ⟨some 12, .mv, [.t 39], none⟩]
def a95r5 : List (Nat × DOp) := [(0, ⟨⟨some 40, .mv, [.t 4], none⟩, none, [1, 2, 3, 4, 5, 6, 7, 8]⟩),
  (1, ⟨⟨some 41, .mv, [.t 0], none⟩, none, [0, 2, 5, 6, 7, 8]⟩),
  (2, ⟨⟨some 42, .mv, [.t 12], none⟩, none, [0, 1, 5, 6, 7, 8]⟩),
  (3, ⟨⟨some 43, .indexAddr 1, [.t 41, .t 42], none⟩, none, [0, 5, 6, 7, 8]⟩),
  (4, ⟨⟨some 44, .load1, [.t 43], none⟩, none, [0, 5, 6, 7, 8]⟩),
  (5, ⟨⟨some 45, .mv, [.t 0], none⟩, none, [0, 1, 2, 3, 4, 6]⟩),
  (6, ⟨⟨some 46, .mv, [.t 1], none⟩, none, [0, 1, 2, 3, 4, 5]⟩),
  (7, ⟨⟨some 47, .indexAddr 1, [.t 45, .t 46], none⟩, none, [0, 1, 2, 3, 4]⟩),
  (8, ⟨⟨some 48, .load1, [.t 47], none⟩, none, [0, 1, 2, 3, 4]⟩),
  (9, ⟨⟨some 49, .callv, [.t 40, .t 44, .t 48], none⟩, none, []⟩),
  (10, ⟨⟨some 50, .bin .lss, [.t 49, .c (.int .i64 0)], none⟩, none, []⟩)]
def a95r6 : List IOp := [⟨some 51, .mv, [.t 12], none⟩,
  ⟨some 52, .bin .add, [.t 51, .c (.int .i64 1)], none⟩,
  ⟨some 10, .mv, [.t 52], none⟩]
def a95r7 : List IOp := [⟨some 53, .mv, [.t 12], none⟩,
  ⟨some 11, .mv, [.t 53], none⟩]
def a95r8 : List IOp := [⟨some 54, .mv, [.t 1], none⟩,
  ⟨some 13, .mv, [.t 54], none⟩]
def a95r9 : List IOp := [⟨some 55, .mv, [.t 13], none⟩,
  ⟨some 56, .mv, [.t 10], none⟩,
  ⟨some 57, .bin .sub, [.t 56, .c (.int .i64 1)], none⟩,
  ⟨some 58, .bin .lss, [.t 55, .t 57], none⟩]
def a95r10 : List (Nat × DOp) := [(0, ⟨⟨some 61, .mv, [.t 0], none⟩, none, [1, 2, 3, 4, 5, 6, 7, 8, 9, 10, 11, 12, 13]⟩),
  (1, ⟨⟨some 62, .mv, [.t 13], none⟩, none, [0, 2, 3, 4, 5, 6, 7, 8, 9, 10, 11, 12, 13]⟩),
  (2, ⟨⟨some 63, .mv, [.t 0], none⟩, none, [0, 1, 3, 4, 5, 6, 7, 8, 9, 10, 11, 12, 13, 14, 15]⟩),
  (3, ⟨⟨some 64, .mv, [.t 13], none⟩, none, [0, 1, 2, 5, 6, 7, 8, 9, 10, 11, 12, 13, 14, 15]⟩),
  (4, ⟨⟨some 65, .bin .add, [.t 64, .c (.int .i64 1)], none⟩, none, [0, 1, 2, 5, 6, 7, 8, 9, 10, 11, 12, 13, 14, 15]⟩),
  (5, ⟨⟨some 66, .mv, [.t 0], none⟩, none, [0, 1, 2, 3, 4, 6, 7, 10, 11, 12, 13]⟩),
  (6, ⟨⟨some 67, .mv, [.t 13], none⟩, none, [0, 1, 2, 3, 4, 5, 10, 11, 12, 13]⟩),
  (7, ⟨⟨some 68, .bin .add, [.t 67, .c (.int .i64 1)], none⟩, none, [0, 1, 2, 3, 4, 5, 10, 11, 12, 13]⟩),
  (8, ⟨⟨some 69, .indexAddr 1, [.t 66, .t 68], none⟩, none, [0, 1, 2, 3, 4, 10, 11, 12, 13]⟩),
  (9, ⟨⟨some 70, .load1, [.t 69], none⟩, none, [0, 1, 2, 3, 4, 10, 11, 12, 13]⟩),
  (10, ⟨⟨some 71, .mv, [.t 0], none⟩, none, [0, 1, 2, 3, 4, 5, 6, 7, 8, 9, 11]⟩),
  (11, ⟨⟨some 72, .mv, [.t 13], none⟩, none, [0, 1, 2, 3, 4, 5, 6, 7, 8, 9, 10]⟩),
  (12, ⟨⟨some 73, .indexAddr 1, [.t 71, .t 72], none⟩, none, [0, 1, 2, 3, 4, 5, 6, 7, 8, 9]⟩),
  (13, ⟨⟨some 74, .load1, [.t 73], none⟩, none, [0, 1, 2, 3, 4, 5, 6, 7, 8, 9]⟩),
  (14, ⟨⟨some 75, .indexAddr 1, [.t 61, .t 62], none⟩, none, [2, 3, 4]⟩),
  (15, ⟨⟨none, .store 1, [.t 75, .t 70], none⟩, none, [2, 3, 4]⟩),
  (16, ⟨⟨some 76, .indexAddr 1, [.t 63, .t 65], none⟩, none, []⟩),
  (17, ⟨⟨none, .store 1, [.t 76, .t 74], none⟩, none, []⟩)]
def a95r11 : List IOp := [⟨some 59, .mv, [.t 13], none⟩,
  ⟨some 60, .bin .add, [.t 59, .c (.int .i64 1)], none⟩,
  ⟨some 13, .mv, [.t 60], none⟩]
def a95r12 : List IOp := [⟨some 77, .mv, [.t 3], none⟩,
  ⟨some 78, .mv, [.t 2], none⟩,
  ⟨some 79, .bin .sub, [.t 77, .t 78], none⟩,
  ⟨some 80, .bin .eql, [.t 79, .c (.int .i64 1)], none⟩]
def a95r13 : List IOp := [⟨some 81, .mv, [.t 1], none⟩,
  ⟨some 14, .mv, [.t 81], none⟩]
def a95r14 : List IOp := [⟨some 82, .mv, [.t 2], none⟩,
  ⟨some 15, .mv, [.t 82], none⟩]
def a95r15 : List IOp := [⟨some 83, .mv, [.t 14], none⟩,
  ⟨some 84, .mv, [.t 15], none⟩,
  ⟨some 85, .bin .lss, [.t 83, .t 84], none⟩]
def a95r16 : List IOp := [⟨some 86, .mv, [.t 14], none⟩,
  ⟨some 87, .mv, [.t 15], none⟩,
  ⟨some 88, .bin .add, [.t 86, .t 87], none⟩,
  ⟨some 89, .conv .u64, [.t 88], none⟩,
  ⟨some 90, .bin .shr, [.t 89, .c (.int .u64 1)], none⟩,
  ⟨some 91, .conv .i64, [.t 90], none⟩,
  ⟨some 16, .mv, [.t 91], none⟩]
def a95r17 : List (Nat × DOp) := [(0, ⟨⟨some 92, .mv, [.t 4], none⟩, none, [1, 2, 3, 4, 5, 6, 7, 8]⟩),
  (1, ⟨⟨some 93, .mv, [.t 0], none⟩, none, [0, 2, 5, 6, 7, 8]⟩),
  (2, ⟨⟨some 94, .mv, [.t 2], none⟩, none, [0, 1, 5, 6, 7, 8]⟩),
  (3, ⟨⟨some 95, .indexAddr 1, [.t 93, .t 94], none⟩, none, [0, 5, 6, 7, 8]⟩),
  (4, ⟨⟨some 96, .load1, [.t 95], none⟩, none, [0, 5, 6, 7, 8]⟩),
  (5, ⟨⟨some 97, .mv, [.t 0], none⟩, none, [0, 1, 2, 3, 4, 6]⟩),
  (6, ⟨⟨some 98, .mv, [.t 16], none⟩, none, [0, 1, 2, 3, 4, 5]⟩),
  (7, ⟨⟨some 99, .indexAddr 1, [.t 97, .t 98], none⟩, none, [0, 1, 2, 3, 4]⟩),
  (8, ⟨⟨some 100, .load1, [.t 99], none⟩, none, [0, 1, 2, 3, 4]⟩),
  (9, ⟨⟨some 101, .callv, [.t 92, .t 96, .t 100], none⟩, none, []⟩),
  (10, ⟨⟨some 102, .bin .lss, [.t 101, .c (.int .i64 0)], none⟩, none, []⟩),
  (11, ⟨⟨some 103, .not, [.t 102], none⟩, none, []⟩)]
def a95r18 : List IOp := [⟨some 104, .mv, [.t 16], none⟩,
  ⟨some 105, .bin .add, [.t 104, .c (.int .i64 1)], none⟩,
  ⟨some 14, .mv, [.t 105], none⟩]
def a95r19 : List IOp := [⟨some 106, .mv, [.t 16], none⟩,
  ⟨some 15, .mv, [.t 106], none⟩]
def a95r20 : List IOp := [⟨some 107, .mv, [.t 2], none⟩,
  ⟨some 17, .mv, [.t 107], none⟩]
def a95r21 : List IOp := [⟨some 108, .mv, [.t 17], none⟩,
  ⟨some 109, .mv, [.t 14], none⟩,
  ⟨some 110, .bin .gtr, [.t 108, .t 109], none⟩]
def a95r22 : List (Nat × DOp) := [(0, ⟨⟨some 113, .mv, [.t 0], none⟩, none, [1, 2, 3, 4, 5, 6, 7, 8, 9, 10, 11, 12, 13]⟩),
  (1, ⟨⟨some 114, .mv, [.t 17], none⟩, none, [0, 2, 3, 4, 5, 6, 7, 8, 9, 10, 11, 12, 13]⟩),
  (2, ⟨⟨some 115, .mv, [.t 0], none⟩, none, [0, 1, 3, 4, 5, 6, 7, 8, 9, 10, 11, 12, 13, 14, 15]⟩),
  (3, ⟨⟨some 116, .mv, [.t 17], none⟩, none, [0, 1, 2, 5, 6, 7, 8, 9, 10, 11, 12, 13, 14, 15]⟩),
  (4, ⟨⟨some 117, .bin .sub, [.t 116, .c (.int .i64 1)], none⟩, none, [0, 1, 2, 5, 6, 7, 8, 9, 10, 11, 12, 13, 14, 15]⟩),
  (5, ⟨⟨some 118, .mv, [.t 0], none⟩, none, [0, 1, 2, 3, 4, 6, 7, 10, 11, 12, 13]⟩),
  (6, ⟨⟨some 119, .mv, [.t 17], none⟩, none, [0, 1, 2, 3, 4, 5, 10, 11, 12, 13]⟩),
  (7, ⟨⟨some 120, .bin .sub, [.t 119, .c (.int .i64 1)], none⟩, none, [0, 1, 2, 3, 4, 5, 10, 11, 12, 13]⟩),
  (8, ⟨⟨some 121, .indexAddr 1, [.t 118, .t 120], none⟩, none, [0, 1, 2, 3, 4, 10, 11, 12, 13]⟩),
  (9, ⟨⟨some 122, .load1, [.t 121], none⟩, none, [0, 1, 2, 3, 4, 10, 11, 12, 13]⟩),
  (10, ⟨⟨some 123, .mv, [.t 0], none⟩, none, [0, 1, 2, 3, 4, 5, 6, 7, 8, 9, 11]⟩),
  (11, ⟨⟨some 124, .mv, [.t 17], none⟩, none, [0, 1, 2, 3, 4, 5, 6, 7, 8, 9, 10]⟩),
  (12, ⟨⟨some 125, .indexAddr 1, [.t 123, .t 124], none⟩, none, [0, 1, 2, 3, 4, 5, 6, 7, 8, 9]⟩),
  (13, ⟨⟨some 126, .load1, [.t 125], none⟩, none, [0, 1, 2, 3, 4, 5, 6, 7, 8, 9]⟩),
  (14, ⟨⟨some 127, .indexAddr 1, [.t 113, .t 114], none⟩, none, [2, 3, 4]⟩),
  (15, ⟨⟨none, .store 1, [.t 127, .t 122], none⟩, none, [2, 3, 4]⟩),
  (16, ⟨⟨some 128, .indexAddr 1, [.t 115, .t 117], none⟩, none, []⟩),
  (17, ⟨⟨none, .store 1, [.t 128, .t 126], none⟩, none, []⟩)]
def a95r23 : List IOp := [⟨some 111, .mv, [.t 17], none⟩,
  ⟨some 112, .bin .sub, [.t 111, .c (.int .i64 1)], none⟩,
  ⟨some 17, .mv, [.t 112], none⟩]
def a95r24 : List IOp := [⟨some 129, .mv, [.t 1], none⟩,
  ⟨some 130, .mv, [.t 3], none⟩,
  ⟨some 131, .bin .add, [.t 129, .t 130], none⟩,
  ⟨some 132, .conv .u64, [.t 131], none⟩,
  ⟨some 133, .bin .shr, [.t 132, .c (.int .u64 1)], none⟩,
  ⟨some 134, .conv .i64, [.t 133], none⟩,
  ⟨some 18, .mv, [.t 134], none⟩]
def a95r25 : List IOp := [⟨some 135, .mv, [.t 18], none⟩,
  ⟨some 136, .mv, [.t 2], none⟩,
  ⟨some 137, .bin .add, [.t 135, .t 136], none⟩,
  ⟨some 19, .mv, [.t 137], none⟩]
def a95r26 : List IOp := [⟨some 20, .mv, [.c (.int .i64 0)], none⟩,
  ⟨some 21, .mv, [.c (.int .i64 0)], none⟩]
def a95r27 : List IOp := [⟨some 138, .mv, [.t 2], none⟩,
  ⟨some 139, .mv, [.t 18], none⟩,
  ⟨some 140, .bin .gtr, [.t 138, .t 139], none⟩]
def a95r28 : List IOp := [⟨some 141, .mv, [.t 19], none⟩,
  ⟨some 142, .mv, [.t 3], none⟩,
  ⟨some 143, .bin .sub, [.t 141, .t 142], none⟩,
  ⟨some 20, .mv, [.t 143], none⟩]
def a95r29 : List IOp := [⟨some 144, .mv, [.t 18], none⟩,
  ⟨some 21, .mv, [.t 144], none⟩]
def a95r30 : List IOp := [⟨some 145, .mv, [.t 1], none⟩,
  ⟨some 20, .mv, [.t 145], none⟩]
def a95r31 : List IOp := [⟨some 146, .mv, [.t 2], none⟩,
  ⟨some 21, .mv, [.t 146], none⟩]
def a95r32 : List IOp := [⟨some 147, .mv, [.t 19], none⟩,
  ⟨some 148, .bin .sub, [.t 147, .c (.int .i64 1)], none⟩,
  ⟨some 22, .mv, [.t 148], none⟩]
def a95r33 : List IOp := [⟨some 149, .mv, [.t 20], none⟩,
  ⟨some 150, .mv, [.t 21], none⟩,
  ⟨some 151, .bin .lss, [.t 149, .t 150], none⟩]
def a95r34 : List IOp := [⟨some 152, .mv, [.t 20], none⟩,
  ⟨some 153, .mv, [.t 21], none⟩,
  ⟨some 154, .bin .add, [.t 152, .t 153], none⟩,
  ⟨some 155, .conv .u64, [.t 154], none⟩,
  ⟨some 156, .bin .shr, [.t 155, .c (.int .u64 1)], none⟩,
  ⟨some 157, .conv .i64, [.t 156], none⟩,
  ⟨some 23, .mv, [.t 157], none⟩]
def a95r35 : List (Nat × DOp) := [(0, ⟨⟨some 158, .mv, [.t 4], none⟩, none, [1, 2, 3, 4, 5, 6, 7, 8, 9, 10]⟩),
  (1, ⟨⟨some 159, .mv, [.t 0], none⟩, none, [0, 2, 3, 4, 7, 8, 9, 10]⟩),
  (2, ⟨⟨some 160, .mv, [.t 22], none⟩, none, [0, 1, 3, 7, 8, 9, 10]⟩),
  (3, ⟨⟨some 161, .mv, [.t 23], none⟩, none, [0, 1, 2, 7, 8, 9, 10]⟩),
  (4, ⟨⟨some 162, .bin .sub, [.t 160, .t 161], none⟩, none, [0, 1, 7, 8, 9, 10]⟩),
  (5, ⟨⟨some 163, .indexAddr 1, [.t 159, .t 162], none⟩, none, [0, 7, 8, 9, 10]⟩),
  (6, ⟨⟨some 164, .load1, [.t 163], none⟩, none, [0, 7, 8, 9, 10]⟩),
  (7, ⟨⟨some 165, .mv, [.t 0], none⟩, none, [0, 1, 2, 3, 4, 5, 6, 8]⟩),
  (8, ⟨⟨some 166, .mv, [.t 23], none⟩, none, [0, 1, 2, 3, 4, 5, 6, 7]⟩),
  (9, ⟨⟨some 167, .indexAddr 1, [.t 165, .t 166], none⟩, none, [0, 1, 2, 3, 4, 5, 6]⟩),
  (10, ⟨⟨some 168, .load1, [.t 167], none⟩, none, [0, 1, 2, 3, 4, 5, 6]⟩),
  (11, ⟨⟨some 169, .callv, [.t 158, .t 164, .t 168], none⟩, none, []⟩),
  (12, ⟨⟨some 170, .bin .lss, [.t 169, .c (.int .i64 0)], none⟩, none, []⟩),
  (13, ⟨⟨some 171, .not, [.t 170], none⟩, none, []⟩)]
def a95r36 : List IOp := [⟨some 172, .mv, [.t 23], none⟩,
  ⟨some 173, .bin .add, [.t 172, .c (.int .i64 1)], none⟩,
  ⟨some 20, .mv, [.t 173], none⟩]
def a95r37 : List IOp := [⟨some 174, .mv, [.t 23], none⟩,
  ⟨some 21, .mv, [.t 174], none⟩]
def a95r38 : List IOp := [⟨some 175, .mv, [.t 19], none⟩,
  ⟨some 176, .mv, [.t 20], none⟩,
  ⟨some 177, .bin .sub, [.t 175, .t 176], none⟩,
  ⟨some 24, .mv, [.t 177], none⟩]
def a95r39 : List IOp := [⟨some 178, .mv, [.t 20], none⟩,
  ⟨some 179, .mv, [.t 2], none⟩,
  ⟨some 180, .bin .lss, [.t 178, .t 179], none⟩,
  ⟨some 181, .mv, [.t 180], none⟩,
  ⟨some 182, .mv, [.t 2], some (181, true)⟩,
  ⟨some 183, .mv, [.t 24], some (181, true)⟩,
  ⟨some 184, .bin .lss, [.t 182, .t 183], some (181, true)⟩,
  ⟨some 185, .pick, [.t 181, .t 184, .c (.bool false)], none⟩]
def a95r40 : List IOp := [⟨some 186, .mv, [.t 0], none⟩,
  ⟨some 187, .mv, [.t 20], none⟩,
  ⟨some 188, .mv, [.t 2], none⟩,
  ⟨some 189, .mv, [.t 24], none⟩,
  ⟨some 190, .mv, [.t 4], none⟩,
  ⟨some 191, .call 101, [.t 186, .t 187, .t 188, .t 189, .t 190], none⟩]
def a95r41 : List IOp := [⟨some 192, .mv, [.t 1], none⟩,
  ⟨some 193, .mv, [.t 20], none⟩,
  ⟨some 194, .bin .lss, [.t 192, .t 193], none⟩,
  ⟨some 195, .mv, [.t 194], none⟩,
  ⟨some 196, .mv, [.t 20], some (195, true)⟩,
  ⟨some 197, .mv, [.t 18], some (195, true)⟩,
  ⟨some 198, .bin .lss, [.t 196, .t 197], some (195, true)⟩,
  ⟨some 199, .pick, [.t 195, .t 198, .c (.bool false)], none⟩]
def a95r42 : List IOp := [⟨some 200, .mv, [.t 0], none⟩,
  ⟨some 201, .mv, [.t 1], none⟩,
  ⟨some 202, .mv, [.t 20], none⟩,
  ⟨some 203, .mv, [.t 18], none⟩,
  ⟨some 204, .mv, [.t 4], none⟩,
  ⟨some 205, .call 95, [.t 200, .t 201, .t 202, .t 203, .t 204], none⟩]
def a95r43 : List IOp := [⟨some 206, .mv, [.t 18], none⟩,
  ⟨some 207, .mv, [.t 24], none⟩,
  ⟨some 208, .bin .lss, [.t 206, .t 207], none⟩,
  ⟨some 209, .mv, [.t 208], none⟩,
  ⟨some 210, .mv, [.t 24], some (209, true)⟩,
  ⟨some 211, .mv, [.t 3], some (209, true)⟩,
  ⟨some 212, .bin .lss, [.t 210, .t 211], some (209, true)⟩,
  ⟨some 213, .pick, [.t 209, .t 212, .c (.bool false)], none⟩]
def a95r44 : List IOp := [⟨some 214, .mv, [.t 0], none⟩,
  ⟨some 215, .mv, [.t 18], none⟩,
  ⟨some 216, .mv, [.t 24], none⟩,
  ⟨some 217, .mv, [.t 3], none⟩,
  ⟨some 218, .mv, [.t 4], none⟩,
  ⟨some 219, .call 95, [.t 214, .t 215, .t 216, .t 217, .t 218], none⟩]
def a95 : AFunc := ⟨220, [], (.seq (.seq (.region a95r0 [0, 1, 2, 3, 4, 28]) (.cond (.t 28) (.seq (.region a95r1 [0, 1, 3, 4, 10]) (.seq (.region a95r2 [0, 1, 4, 10, 11]) (.seq (.block 0 (.loop (.seq (.seq (.region a95r3 [0, 1, 4, 10, 11, 33]) (.cond (.t 33) .skip (.exit 0))) (.block 1 (.seq (.region a95r4 [0, 1, 4, 10, 11, 12]) (.seq (.draw a95r5 [] [0, 1, 4, 10, 11, 12, 50]) (.cond (.t 50) (.region a95r6 [0, 1, 4, 10, 11]) (.region a95r7 [0, 1, 4, 10, 11])))))))) (.seq (.seq (.region a95r8 [0, 10, 13]) (.block 2 (.loop (.seq (.seq (.region a95r9 [0, 10, 13, 58]) (.cond (.t 58) .skip (.exit 2))) (.seq (.block 3 (.draw a95r10 [] [0, 10, 13])) (.region a95r11 [0, 10, 13])))))) .ret)))) .skip)) (.seq (.seq (.region a95r12 [0, 1, 2, 3, 4, 80]) (.cond (.t 80) (.seq (.region a95r13 [0, 2, 4, 14]) (.seq (.region a95r14 [0, 2, 4, 14, 15]) (.seq (.block 4 (.loop (.seq (.seq (.region a95r15 [0, 2, 4, 14, 15, 85]) (.cond (.t 85) .skip (.exit 4))) (.block 5 (.seq (.region a95r16 [0, 2, 4, 14, 15, 16]) (.seq (.draw a95r17 [] [0, 2, 4, 14, 15, 16, 103]) (.cond (.t 103) (.region a95r18 [0, 2, 4, 14, 15]) (.region a95r19 [0, 2, 4, 14, 15])))))))) (.seq (.seq (.region a95r20 [0, 14, 17]) (.block 6 (.loop (.seq (.seq (.region a95r21 [0, 14, 17, 110]) (.cond (.t 110) .skip (.exit 6))) (.seq (.block 7 (.draw a95r22 [] [0, 14, 17])) (.region a95r23 [0, 14, 17])))))) .ret)))) .skip)) (.seq (.region a95r24 [0, 1, 2, 3, 4, 18]) (.seq (.region a95r25 [0, 1, 2, 3, 4, 18, 19]) (.seq (.region a95r26 [0, 1, 2, 3, 4, 18, 19]) (.seq (.seq (.region a95r27 [0, 1, 2, 3, 4, 18, 19, 140]) (.cond (.t 140) (.seq (.region a95r28 [0, 1, 2, 3, 4, 18, 19, 20]) (.region a95r29 [0, 1, 2, 3, 4, 18, 19, 20, 21])) (.seq (.region a95r30 [0, 1, 2, 3, 4, 18, 19, 20]) (.region a95r31 [0, 1, 2, 3, 4, 18, 19, 20, 21])))) (.seq (.region a95r32 [0, 1, 2, 3, 4, 18, 19, 20, 21, 22]) (.seq (.block 8 (.loop (.seq (.seq (.region a95r33 [0, 1, 2, 3, 4, 18, 19, 20, 21, 22, 151]) (.cond (.t 151) .skip (.exit 8))) (.block 9 (.seq (.region a95r34 [0, 1, 2, 3, 4, 18, 19, 20, 21, 22, 23]) (.seq (.draw a95r35 [] [0, 1, 2, 3, 4, 18, 19, 20, 21, 22, 23, 171]) (.cond (.t 171) (.region a95r36 [0, 1, 2, 3, 4, 18, 19, 20, 21, 22]) (.region a95r37 [0, 1, 2, 3, 4, 18, 19, 20, 21, 22])))))))) (.seq (.region a95r38 [0, 1, 2, 3, 4, 18, 20, 24]) (.seq (.seq (.region a95r39 [0, 1, 2, 3, 4, 18, 20, 24, 185]) (.cond (.t 185) (.region a95r40 [0, 1, 3, 4, 18, 20, 24]) .skip)) (.seq (.seq (.region a95r41 [0, 1, 3, 4, 18, 20, 24, 199]) (.cond (.t 199) (.region a95r42 [0, 3, 4, 18, 24]) .skip)) (.seq (.region a95r43 [0, 3, 4, 18, 24, 213]) (.cond (.t 213) (.region a95r44 []) .skip)))))))))))))⟩
theorem a95_ok : compileF Tryd.prog (lk [(0, ⟨[0, 1, 2, 3, 4, 28], [], []⟩), (1, ⟨[0, 1, 3, 4, 10], [], []⟩), (2, ⟨[0, 1, 4, 10, 11], [], []⟩), (3, ⟨[0, 1, 4, 10, 11, 33], [], []⟩), (4, ⟨[0, 1, 4, 10, 11, 12], [], []⟩), (5, ⟨[0, 1, 4, 10, 11, 12, 50], [[], [], [], [1, 2], [3, 1, 2], [], [], [5, 6], [7, 5, 6], [0, 4, 8, 3, 1, 2, 7, 5, 6], [9, 0, 4, 8, 3, 1, 2, 7, 5, 6]], [0, 1, 2, 3, 4, 5, 6, 7, 8, 9, 10]⟩), (6, ⟨[0, 1, 4, 10, 11], [], []⟩), (7, ⟨[0, 1, 4, 10, 11], [], []⟩), (8, ⟨[0, 10, 13], [], []⟩), (9, ⟨[0, 10, 13, 58], [], []⟩), (10, ⟨[0, 10, 13], [], []⟩), (11, ⟨[0, 10, 13], [[], [], [], [], [3], [], [], [6], [5, 7, 6], [8, 5, 7, 6], [], [], [10, 11], [12, 10, 11], [0, 1, 5, 6, 7, 8, 9, 13, 12, 10, 11], [14, 9, 0, 1, 5, 6, 7, 8, 13, 12, 10, 11], [2, 4, 0, 1, 3, 5, 6, 7, 8, 9, 10, 11, 12, 13, 14, 15], [16, 13, 15, 0, 1, 2, 3, 4, 5, 6, 7, 8, 9, 10, 11, 12, 14]], [0, 1, 2, 3, 4, 5, 6, 7, 8, 9, 10, 11, 12, 13, 14, 15, 16, 17]⟩), (12, ⟨[0, 1, 2, 3, 4, 80], [], []⟩), (13, ⟨[0, 2, 4, 14], [], []⟩), (14, ⟨[0, 2, 4, 14, 15], [], []⟩), (15, ⟨[0, 2, 4, 14, 15, 85], [], []⟩), (16, ⟨[0, 2, 4, 14, 15, 16], [], []⟩), (17, ⟨[0, 2, 4, 14, 15, 16, 103], [[], [], [], [1, 2], [3, 1, 2], [], [], [5, 6], [7, 5, 6], [0, 4, 8, 3, 1, 2, 7, 5, 6], [9, 0, 4, 8, 3, 1, 2, 7, 5, 6], [10, 9, 0, 4, 8, 3, 1, 2, 7, 5, 6]], [0, 1, 2, 3, 4, 5, 6, 7, 8, 9, 10, 11]⟩), (18, ⟨[0, 2, 4, 14, 15], [], []⟩), (19, ⟨[0, 2, 4, 14, 15], [], []⟩), (20, ⟨[0, 14, 17], [], []⟩), (21, ⟨[0, 14, 17, 110], [], []⟩), (22, ⟨[0, 14, 17], [], []⟩), (23, ⟨[0, 14, 17], [[], [], [], [], [3], [], [], [6], [5, 7, 6], [8, 5, 7, 6], [], [], [10, 11], [12, 10, 11], [0, 1, 5, 6, 7, 8, 9, 13, 12, 10, 11], [14, 9, 0, 1, 5, 6, 7, 8, 13, 12, 10, 11], [2, 4, 0, 1, 3, 5, 6, 7, 8, 9, 10, 11, 12, 13, 14, 15], [16, 13, 15, 0, 1, 2, 3, 4, 5, 6, 7, 8, 9, 10, 11, 12, 14]], [0, 1, 2, 3, 4, 5, 6, 7, 8, 9, 10, 11, 12, 13, 14, 15, 16, 17]⟩), (24, ⟨[0, 1, 2, 3, 4, 18], [], []⟩), (25, ⟨[0, 1, 2, 3, 4, 18, 19], [], []⟩), (26, ⟨[0, 1, 2, 3, 4, 18, 19], [], []⟩), (27, ⟨[0, 1, 2, 3, 4, 18, 19, 140], [], []⟩), (28, ⟨[0, 1, 2, 3, 4, 18, 19, 20], [], []⟩), (29, ⟨[0, 1, 2, 3, 4, 18, 19, 20, 21], [], []⟩), (30, ⟨[0, 1, 2, 3, 4, 18, 19, 20], [], []⟩), (31, ⟨[0, 1, 2, 3, 4, 18, 19, 20, 21], [], []⟩), (32, ⟨[0, 1, 2, 3, 4, 18, 19, 20, 21, 22], [], []⟩), (33, ⟨[0, 1, 2, 3, 4, 18, 19, 20, 21, 22, 151], [], []⟩), (34, ⟨[0, 1, 2, 3, 4, 18, 19, 20, 21, 22, 23], [], []⟩), (35, ⟨[0, 1, 2, 3, 4, 18, 19, 20, 21, 22, 23, 171], [[], [], [], [], [2, 3], [1, 4, 2, 3], [5, 1, 4, 2, 3], [], [], [7, 8], [9, 7, 8], [0, 6, 10, 5, 1, 4, 2, 3, 9, 7, 8], [11, 0, 6, 10, 5, 1, 4, 2, 3, 9, 7, 8], [12, 11, 0, 6, 10, 5, 1, 4, 2, 3, 9, 7, 8]], [0, 1, 2, 3, 4, 5, 6, 7, 8, 9, 10, 11, 12, 13]⟩), (36, ⟨[0, 1, 2, 3, 4, 18, 19, 20, 21, 22], [], []⟩), (37, ⟨[0, 1, 2, 3, 4, 18, 19, 20, 21, 22], [], []⟩), (38, ⟨[0, 1, 2, 3, 4, 18, 20, 24], [], []⟩), (39, ⟨[0, 1, 2, 3, 4, 18, 20, 24, 185], [], []⟩), (40, ⟨[0, 1, 3, 4, 18, 20, 24], [], []⟩), (41, ⟨[0, 1, 3, 4, 18, 20, 24, 199], [], []⟩), (42, ⟨[0, 3, 4, 18, 24], [], []⟩), (43, ⟨[0, 3, 4, 18, 24, 213], [], []⟩), (44, ⟨[], [], []⟩)]) Tryd.f95 = some a95 := by kernel_rfl

/- slices.rotateCmpFunc[int] -/
def a101r0 : List IOp := [⟨some 12, .mv, [.t 2], none⟩,
  ⟨some 13, .mv, [.t 1], none⟩,
  ⟨some 14, .bin .sub, [.t 12, .t 13], none⟩,
  ⟨some 10, .mv, [.t 14], none⟩]
def a101r1 : List IOp := [⟨some 15, .mv, [.t 3], none⟩,
  ⟨some 16, .mv, [.t 2], none⟩,
  ⟨some 17, .bin .sub, [.t 15, .t 16], none⟩,
  ⟨some 11, .mv, [.t 17], none⟩]
def a101r2 : List IOp := [⟨some 18, .mv, [.t 10], none⟩,
  ⟨some 19, .mv, [.t 11], none⟩,
  ⟨some 20, .bin .neq, [.t 18, .t 19], none⟩]
def a101r3 : List IOp := [⟨some 21, .mv, [.t 10], none⟩,
  ⟨some 22, .mv, [.t 11], none⟩,
  ⟨some 23, .bin .gtr, [.t 21, .t 22], none⟩]
def a101r4 : List IOp := [⟨some 24, .mv, [.t 0], none⟩,
  ⟨some 25, .mv, [.t 2], none⟩,
  ⟨some 26, .mv, [.t 10], none⟩,
  ⟨some 27, .bin .sub, [.t 25, .t 26], none⟩,
  ⟨some 28, .mv, [.t 2], none⟩,
  ⟨some 29, .mv, [.t 11], none⟩,
  ⟨some 30, .mv, [.t 4], none⟩,
  ⟨some 31, .call 103, [.t 24, .t 27, .t 28, .t 29, .t 30], none⟩]
def a101r5 : List IOp := [⟨some 32, .mv, [.t 10], none⟩,
  ⟨some 33, .mv, [.t 11], none⟩,
  ⟨some 34, .bin .sub, [.t 32, .t 33], none⟩,
  ⟨some 10, .mv, [.t 34], none⟩]
def a101r6 : List IOp := [⟨some 35, .mv, [.t 0], none⟩,
  ⟨some 36, .mv, [.t 2], none⟩,
  ⟨some 37, .mv, [.t 10], none⟩,
  ⟨some 38, .bin .sub, [.t 36, .t 37], none⟩,
  ⟨some 39, .mv, [.t 2], none⟩,
  ⟨some 40, .mv, [.t 11], none⟩,
  ⟨some 41, .bin .add, [.t 39, .t 40], none⟩,
  ⟨some 42, .mv, [.t 10], none⟩,
  ⟨some 43, .bin .sub, [.t 41, .t 42], none⟩,
  ⟨some 44, .mv, [.t 10], none⟩,
  ⟨some 45, .mv, [.t 4], none⟩,
  ⟨some 46, .call 103, [.t 35, .t 38, .t 43, .t 44, .t 45], none⟩]
def a101r7 : List IOp := [⟨some 47, .mv, [.t 11], none⟩,
  ⟨some 48, .mv, [.t 10], none⟩,
  ⟨some 49, .bin .sub, [.t 47, .t 48], none⟩,
  ⟨some 11, .mv, [.t 49], none⟩]
def a101r8 : List IOp := [⟨some 50, .mv, [.t 0], none⟩,
  ⟨some 51, .mv, [.t 2], none⟩,
  ⟨some 52, .mv, [.t 10], none⟩,
  ⟨some 53, .bin .sub, [.t 51, .t 52], none⟩,
  ⟨some 54, .mv, [.t 2], none⟩,
  ⟨some 55, .mv, [.t 10], none⟩,
  ⟨some 56, .mv, [.t 4], none⟩,
  ⟨some 57, .call 103, [.t 50, .t 53, .t 54, .t 55, .t 56], none⟩]
def a101 : AFunc := ⟨58, [], (.seq (.region a101r0 [0, 2, 3, 4, 10]) (.seq (.region a101r1 [0, 2, 4, 10, 11]) (.seq (.block 0 (.loop (.seq (.seq (.region a101r2 [0, 2, 4, 10, 11, 20]) (.cond (.t 20) .skip (.exit 0))) (.block 1 (.seq (.region a101r3 [0, 2, 4, 10, 11, 23]) (.cond (.t 23) (.seq (.region a101r4 [0, 2, 4, 10, 11]) (.region a101r5 [0, 2, 4, 10, 11])) (.seq (.region a101r6 [0, 2, 4, 10, 11]) (.region a101r7 [0, 2, 4, 10, 11])))))))) (.region a101r8 []))))⟩
theorem a101_ok : compileF Tryd.prog (lk [(0, ⟨[0, 2, 3, 4, 10], [], []⟩), (1, ⟨[0, 2, 4, 10, 11], [], []⟩), (2, ⟨[0, 2, 4, 10, 11, 20], [], []⟩), (3, ⟨[0, 2, 4, 10, 11, 23], [], []⟩), (4, ⟨[0, 2, 4, 10, 11], [], []⟩), (5, ⟨[0, 2, 4, 10, 11], [], []⟩), (6, ⟨[0, 2, 4, 10, 11], [], []⟩), (7, ⟨[0, 2, 4, 10, 11], [], []⟩), (8, ⟨[], [], []⟩)]) Tryd.f101 = some a101 := by kernel_rfl

/- slices.swapRangeCmpFunc[int] -/
def a103r0 : List IOp := [⟨some 10, .mv, [.c (.int .i64 0)], none⟩]
def a103r1 : List IOp := [⟨some 11, .mv, [.t 10], none⟩,
  ⟨some 12, .mv, [.t 3], none⟩,
  ⟨some 13, .bin .lss, [.t 11, .t 12], none⟩]
def a103r2 : List (Nat × DOp) := [(0, ⟨⟨some 16, .mv, [.t 0], none⟩, none, [1, 2, 3, 4, 5, 6, 7, 8, 9, 10, 11, 12, 13, 14, 15, 16, 17, 18, 19]⟩),
  (1, ⟨⟨some 17, .mv, [.t 1], none⟩, none, [0, 2, 4, 5, 6, 7, 8, 9, 10, 11, 12, 13, 14, 15, 16, 17, 18, 19]⟩),
  (2, ⟨⟨some 18, .mv, [.t 10], none⟩, none, [0, 1, 4, 5, 6, 7, 8, 9, 10, 11, 12, 13, 14, 15, 16, 17, 18, 19]⟩),
  (3, ⟨⟨some 19, .bin .add, [.t 17, .t 18], none⟩, none, [0, 4, 5, 6, 7, 8, 9, 10, 11, 12, 13, 14, 15, 16, 17, 18, 19]⟩),
  (4, ⟨⟨some 20, .mv, [.t 0], none⟩, none, [0, 1, 2, 3, 5, 6, 7, 8, 9, 10, 11, 12, 13, 14, 15, 16, 17, 18, 19, 20, 21]⟩),
  (5, ⟨⟨some 21, .mv, [.t 2], none⟩, none, [0, 1, 2, 3, 4, 6, 8, 9, 10, 11, 12, 13, 14, 15, 16, 17, 18, 19, 20, 21]⟩),
  (6, ⟨⟨some 22, .mv, [.t 10], none⟩, none, [0, 1, 2, 3, 4, 5, 8, 9, 10, 11, 12, 13, 14, 15, 16, 17, 18, 19, 20, 21]⟩),
  (7, ⟨⟨some 23, .bin .add, [.t 21, .t 22], none⟩, none, [0, 1, 2, 3, 4, 8, 9, 10, 11, 12, 13, 14, 15, 16, 17, 18, 19, 20, 21]⟩),
  (8, ⟨⟨some 24, .mv, [.t 0], none⟩, none, [0, 1, 2, 3, 4, 5, 6, 7, 9, 10, 11, 14, 15, 16, 17, 18, 19]⟩),
  (9, ⟨⟨some 25, .mv, [.t 2], none⟩, none, [0, 1, 2, 3, 4, 5, 6, 7, 8, 10, 14, 15, 16, 17, 18, 19]⟩),
  (10, ⟨⟨some 26, .mv, [.t 10], none⟩, none, [0, 1, 2, 3, 4, 5, 6, 7, 8, 9, 14, 15, 16, 17, 18, 19]⟩),
  (11, ⟨⟨some 27, .bin .add, [.t 25, .t 26], none⟩, none, [0, 1, 2, 3, 4, 5, 6, 7, 8, 14, 15, 16, 17, 18, 19]⟩),
  (12, ⟨⟨some 28, .indexAddr 1, [.t 24, .t 27], none⟩, none, [0, 1, 2, 3, 4, 5, 6, 7, 14, 15, 16, 17, 18, 19]⟩),
  (13, ⟨⟨some 29, .load1, [.t 28], none⟩, none, [0, 1, 2, 3, 4, 5, 6, 7, 14, 15, 16, 17, 18, 19]⟩),
  (14, ⟨⟨some 30, .mv, [.t 0], none⟩, none, [0, 1, 2, 3, 4, 5, 6, 7, 8, 9, 10, 11, 12, 13, 15, 16, 17]⟩),
  (15, ⟨⟨some 31, .mv, [.t 1], none⟩, none, [0, 1, 2, 3, 4, 5, 6, 7, 8, 9, 10, 11, 12, 13, 14, 16]⟩),
  (16, ⟨⟨some 32, .mv, [.t 10], none⟩, none, [0, 1, 2, 3, 4, 5, 6, 7, 8, 9, 10, 11, 12, 13, 14, 15]⟩),
  (17, ⟨⟨some 33, .bin .add, [.t 31, .t 32], none⟩, none, [0, 1, 2, 3, 4, 5, 6, 7, 8, 9, 10, 11, 12, 13, 14]⟩),
  (18, ⟨⟨some 34, .indexAddr 1, [.t 30, .t 33], none⟩, none, [0, 1, 2, 3, 4, 5, 6, 7, 8, 9, 10, 11, 12, 13]⟩),
  (19, ⟨⟨some 35, .load1, [.t 34], none⟩, none, [0, 1, 2, 3, 4, 5, 6, 7, 8, 9, 10, 11, 12, 13]⟩),
  (20, ⟨⟨some 36, .indexAddr 1, [.t 16, .t 19], none⟩, none, [4, 5, 6, 7]⟩),
  (21, ⟨⟨none, .store 1, [.t 36, .t 29], none⟩, none, [4, 5, 6, 7]⟩),
  (22, ⟨⟨some 37, .indexAddr 1, [.t 20, .t 23], none⟩, none, []⟩),
  (23, ⟨⟨none, .store 1, [.t 37, .t 35], none⟩, none, []⟩)]
def a103r3 : List IOp := [⟨some 14, .mv, [.t 10], none⟩,
  ⟨some 15, .bin .add, [.t 14, .c (.int .i64 1)], none⟩,
  ⟨some 10, .mv, [.t 15], none⟩]
def a103 : AFunc := ⟨38, [], (.seq (.region a103r0 [0, 1, 2, 3, 10]) (.block 0 (.loop (.seq (.seq (.region a103r1 [0, 1, 2, 3, 10, 13]) (.cond (.t 13) .skip (.exit 0))) (.seq (.block 1 (.draw a103r2 [] [0, 1, 2, 3, 10])) (.region a103r3 [0, 1, 2, 3, 10]))))))⟩
theorem a103_ok : compileF Tryd.prog (lk [(0, ⟨[0, 1, 2, 3, 10], [], []⟩), (1, ⟨[0, 1, 2, 3, 10, 13], [], []⟩), (2, ⟨[0, 1, 2, 3, 10], [], []⟩), (3, ⟨[0, 1, 2, 3, 10], [[], [], [], [1, 2], [], [], [], [5, 6], [], [], [], [9, 10], [8, 11, 9, 10], [12, 8, 11, 9, 10], [], [], [], [15, 16], [14, 17, 15, 16], [18, 14, 17, 15, 16], [0, 3, 1, 2, 8, 9, 10, 11, 12, 13, 19, 18, 14, 17, 15, 16], [20, 13, 0, 1, 2, 3, 8, 9, 10, 11, 12, 19, 18, 14, 17, 15, 16], [4, 7, 0, 1, 2, 3, 5, 6, 8, 9, 10, 11, 12, 13, 14, 15, 16, 17, 18, 19, 20, 21], [22, 19, 21, 0, 1, 2, 3, 4, 5, 6, 7, 8, 9, 10, 11, 12, 13, 14, 15, 16, 17, 18, 20]], [0, 1, 2, 3, 4, 5, 6, 7, 8, 9, 10, 11, 12, 13, 14, 15, 16, 17, 18, 19, 20, 21, 22, 23]⟩)]) Tryd.f103 = some a103 := by kernel_rfl

end Go.Proofs.YtlanehcihoiglaaDoor
