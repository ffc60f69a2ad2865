/- The abstract forms of the functions, printed by a program, and that the given program has these forms. -/
import Derived.Test.YtaloobgfgehhdaaGreatAbsMd
import Derived.Test.YtaloobgfgehhdaaGreatProg
import Derived.KernelRfl
set_option linter.unusedSimpArgs false
set_option linter.unusedVariables false
set_option linter.unusedSectionVars false
namespace Go.Proofs.YtaloobgfgehhdaaGreat
open Go Go.Abs
/- payroll/payrolllaw14.RestMonotone -/
def a3r0 : List IOp := [⟨some 4, .mv, [.c (.bool false)], none⟩]
def a3r1 : List IOp := [⟨some 17, .mv, [.t 0], none⟩,
  ⟨some 18, .call 5, [.t 17], none⟩,
  ⟨some 5, .mv, [.t 18], none⟩]
def a3r2 : List IOp := [⟨some 19, .mv, [.t 5], none⟩,
  ⟨some 20, .call 6, [.t 19], none⟩,
  ⟨some 21, .mv, [.t 5], none⟩,
  ⟨some 22, .call 7, [.t 21, .c (.int .i64 6)], none⟩,
  ⟨some 6, .alloc 27 [.int .i64 0, .nils], [], none⟩,
  ⟨none, .store 2, [.t 6, .t 20], none⟩,
  ⟨some 7, .mv, [.t 22], none⟩]
def a3r3 : List IOp := [⟨some 23, .mv, [.t 5], none⟩,
  ⟨some 24, .call 8, [.t 23, .c (.int .i64 700)], none⟩,
  ⟨some 25, .bin .add, [.c (.int .i64 1), .t 24], none⟩,
  ⟨some 26, .mv, [.t 5], none⟩,
  ⟨some 27, .call 8, [.t 26, .c (.int .i64 5000)], none⟩,
  ⟨some 28, .bin .add, [.c (.int .i64 1), .t 27], none⟩,
  ⟨some 29, .build [.int .i64 0, .int .i64 0, .int .i64 0, .int .i64 0] [(0, 1), (1, 1)], [.t 25, .t 28], none⟩,
  ⟨some 8, .alloc 33 [.int .i64 0, .int .i64 0, .int .i64 0, .int .i64 0], [], none⟩,
  ⟨none, .store 4, [.t 8, .t 29], none⟩]
def a3r4 : List (Nat × DOp) := [(0, ⟨⟨some 30, .fieldAddr 0, [.t 8], none⟩, none, [2, 3, 5, 6, 7, 8, 9, 11]⟩),
  (1, ⟨⟨some 31, .load1, [.t 30], none⟩, none, [2, 3, 5, 6, 7, 8, 9, 11]⟩),
  (2, ⟨⟨some 32, .mv, [.t 1], none⟩, none, [0, 1, 5, 6, 7, 11]⟩),
  (5, ⟨⟨some 35, .fieldAddr 1, [.t 8], none⟩, none, [0, 1, 2, 3, 4, 7, 8, 11]⟩),
  (6, ⟨⟨some 36, .load1, [.t 35], none⟩, none, [0, 1, 2, 3, 4, 7, 8, 11]⟩),
  (7, ⟨⟨some 37, .mv, [.t 1], none⟩, none, [0, 1, 2, 3, 4, 5, 6, 11]⟩),
  (11, ⟨⟨some 9, .alloc 33 [.int .i64 0, .int .i64 0, .int .i64 0, .int .i64 0], [], none⟩, some 0, [0, 1, 2, 3, 4, 5, 6, 7, 8, 9, 10]⟩),
  (3, ⟨⟨some 33, .call 9, [.t 32, .c (.int .i64 740)], none⟩, none, [0, 1, 5, 6, 7, 11]⟩),
  (4, ⟨⟨some 34, .bin .add, [.t 31, .t 33], none⟩, none, [5, 6, 7, 8, 9, 11]⟩),
  (8, ⟨⟨some 38, .call 9, [.t 37, .c (.int .i64 5000)], none⟩, none, [0, 1, 4, 5, 6, 11]⟩),
  (9, ⟨⟨some 39, .bin .add, [.t 36, .t 38], none⟩, none, [0, 1, 4, 11]⟩),
  (10, ⟨⟨some 40, .build [.int .i64 0, .int .i64 0, .int .i64 0, .int .i64 0] [(0, 1), (1, 1)], [.t 34, .t 39], none⟩, none, [11]⟩),
  (12, ⟨⟨none, .store 4, [.t 9, .t 40], none⟩, none, []⟩)]
def a3r5 : List IOp := [⟨some 42, .loadA 2, [.t 6], none⟩,
  ⟨some 43, .loadA 4, [.t 8], none⟩,
  ⟨some 44, .mv, [.t 7], none⟩,
  ⟨some 45, .call 10, [.t 42, .t 43, .t 44, .c (.int .i64 20447), .c (.int .i64 20474)], none⟩,
  ⟨some 41, .mv, [.t 45], none⟩,
  ⟨some 46, .extract 0, [.t 41], none⟩,
  ⟨some 47, .extract 1, [.t 41], none⟩,
  ⟨some 10, .mv, [.t 46], none⟩,
  ⟨some 11, .mv, [.t 47], none⟩]
def a3r6 : List IOp := [⟨some 49, .loadA 2, [.t 6], none⟩,
  ⟨some 50, .loadA 4, [.t 9], none⟩,
  ⟨some 51, .mv, [.t 7], none⟩,
  ⟨some 52, .call 10, [.t 49, .t 50, .t 51, .c (.int .i64 20447), .c (.int .i64 20474)], none⟩,
  ⟨some 48, .mv, [.t 52], none⟩,
  ⟨some 53, .extract 0, [.t 48], none⟩,
  ⟨some 54, .extract 1, [.t 48], none⟩,
  ⟨some 12, .mv, [.t 53], none⟩,
  ⟨some 13, .mv, [.t 54], none⟩]
def a3r7 : List IOp := [⟨some 55, .mv, [.t 11], none⟩,
  ⟨some 56, .bin .neq, [.t 55, .c (.int .i64 0)], none⟩,
  ⟨some 57, .mv, [.t 56], none⟩,
  ⟨some 58, .mv, [.t 13], some (57, false)⟩,
  ⟨some 59, .bin .neq, [.t 58, .c (.int .i64 0)], some (57, false)⟩,
  ⟨some 60, .pick, [.t 57, .c (.bool true), .t 59], none⟩]
def a3r8 : List IOp := [⟨some 4, .mv, [.c (.bool false)], none⟩]
def a3r9 : List IOp := [⟨some 14, .mv, [.c (.int .i64 0)], none⟩]
def a3r10 : List IOp := [⟨some 61, .mv, [.t 14], none⟩,
  ⟨some 62, .mv, [.t 10], none⟩,
  ⟨some 63, .len, [.t 62], none⟩,
  ⟨some 64, .bin .lss, [.t 61, .t 63], none⟩]
def a3r11 : List IOp := [⟨some 15, .mv, [.c (.bool false)], none⟩]
def a3r12 : List IOp := [⟨some 16, .mv, [.c (.int .i64 0)], none⟩]
def a3r13 : List IOp := [⟨some 67, .mv, [.t 16], none⟩,
  ⟨some 68, .mv, [.t 12], none⟩,
  ⟨some 69, .len, [.t 68], none⟩,
  ⟨some 70, .bin .lss, [.t 67, .t 69], none⟩]
def a3r14 : List (Nat × DOp) := [(0, ⟨⟨some 73, .mv, [.t 15], none⟩, none, []⟩),
  (1, ⟨⟨some 74, .mv, [.t 73], none⟩, none, []⟩),
  (2, ⟨⟨some 75, .mv, [.t 10], some (74, false)⟩, none, [3, 6, 7, 8, 9]⟩),
  (3, ⟨⟨some 76, .mv, [.t 14], some (74, false)⟩, none, [2, 6, 7, 8, 9]⟩),
  (4, ⟨⟨some 77, .indexAddr 3, [.t 75, .t 76], some (74, false)⟩, none, [6, 7, 8, 9]⟩),
  (5, ⟨⟨some 78, .loadA 3, [.t 77], some (74, false)⟩, none, [6, 7, 8, 9]⟩),
  (6, ⟨⟨some 79, .mv, [.t 12], some (74, false)⟩, none, [2, 3, 4, 5, 7]⟩),
  (7, ⟨⟨some 80, .mv, [.t 16], some (74, false)⟩, none, [2, 3, 4, 5, 6]⟩),
  (8, ⟨⟨some 81, .indexAddr 3, [.t 79, .t 80], some (74, false)⟩, none, [2, 3, 4, 5]⟩),
  (9, ⟨⟨some 82, .loadA 3, [.t 81], some (74, false)⟩, none, [2, 3, 4, 5]⟩),
  (10, ⟨⟨some 83, .eqA false [.int .i64, .int .i64, .int .i64], [.t 78, .t 82], some (74, false)⟩, none, []⟩),
  (11, ⟨⟨some 84, .pick, [.t 74, .c (.bool true), .t 83], none⟩, none, []⟩),
  (12, ⟨⟨some 15, .mv, [.t 84], none⟩, none, []⟩)]
def a3r15 : List IOp := [⟨some 71, .mv, [.t 16], none⟩,
  ⟨some 72, .bin .add, [.t 71, .c (.int .i64 1)], none⟩,
  ⟨some 16, .mv, [.t 72], none⟩]
def a3r16 : List IOp := [⟨some 85, .mv, [.t 15], none⟩,
  ⟨some 86, .not, [.t 85], none⟩]
def a3r17 : List IOp := [⟨some 4, .mv, [.c (.bool false)], none⟩]
def a3r18 : List IOp := [⟨some 65, .mv, [.t 14], none⟩,
  ⟨some 66, .bin .add, [.t 65, .c (.int .i64 1)], none⟩,
  ⟨some 14, .mv, [.t 66], none⟩]
def a3r19 : List IOp := [⟨some 87, .mv, [.t 10], none⟩,
  ⟨some 88, .len, [.t 87], none⟩,
  ⟨some 89, .mv, [.t 12], none⟩,
  ⟨some 90, .len, [.t 89], none⟩,
  ⟨some 91, .bin .leq, [.t 88, .t 90], none⟩,
  ⟨some 92, .mv, [.t 91], none⟩,
  ⟨some 93, .call 11, [], some (92, true)⟩,
  ⟨some 94, .pick, [.t 92, .t 93, .c (.bool false)], none⟩,
  ⟨some 4, .mv, [.t 94], none⟩]
def a3 : AFunc := ⟨95, [.tmp 4], (.seq (.region a3r0 [0, 1]) (.seq (.region a3r1 [1, 5]) (.seq (.region a3r2 [1, 5, 6, 7]) (.seq (.region a3r3 [1, 6, 7, 8]) (.seq (.draw a3r4 [(33, 4)] [6, 7, 8, 9]) (.seq (.region a3r5 [6, 7, 9, 10, 11]) (.seq (.region a3r6 [10, 11, 12, 13]) (.seq (.seq (.region a3r7 [10, 12, 60]) (.cond (.t 60) (.seq (.region a3r8 [4]) .ret) .skip)) (.seq (.seq (.region a3r9 [10, 12, 14]) (.block 0 (.loop (.seq (.seq (.region a3r10 [10, 12, 14, 64]) (.cond (.t 64) .skip (.exit 0))) (.seq (.block 1 (.seq (.region a3r11 [10, 12, 14, 15]) (.seq (.seq (.region a3r12 [10, 12, 14, 15, 16]) (.block 2 (.loop (.seq (.seq (.region a3r13 [10, 12, 14, 15, 16, 70]) (.cond (.t 70) .skip (.exit 2))) (.seq (.block 3 (.draw a3r14 [] [10, 12, 14, 15, 16])) (.region a3r15 [10, 12, 14, 15, 16])))))) (.seq (.region a3r16 [10, 12, 14, 86]) (.cond (.t 86) (.seq (.region a3r17 [4]) .ret) .skip))))) (.region a3r18 [10, 12, 14])))))) (.seq (.region a3r19 [4]) .ret))))))))))⟩
theorem a3_ok : compileF Tryz.prog (lk [(0, ⟨[0, 1], [], []⟩), (1, ⟨[1, 5], [], []⟩), (2, ⟨[1, 5, 6, 7], [], []⟩), (3, ⟨[1, 6, 7, 8], [], []⟩), (4, ⟨[6, 7, 8, 9], [[], [0], [], [2], [1, 3, 0, 2], [], [5], [], [7, 3, 2], [6, 8, 5, 7, 3, 2], [4, 9, 1, 3, 0, 2, 6, 8, 5, 7], [], [11, 10, 8, 0, 1, 2, 3, 4, 5, 6, 7, 9]], [0, 1, 2, 5, 6, 7, 11, 3, 4, 8, 9, 10, 12]⟩), (5, ⟨[6, 7, 9, 10, 11], [], []⟩), (6, ⟨[10, 11, 12, 13], [], []⟩), (7, ⟨[10, 12, 60], [], []⟩), (8, ⟨[4], [], []⟩), (9, ⟨[10, 12, 14], [], []⟩), (10, ⟨[10, 12, 14, 64], [], []⟩), (11, ⟨[10, 12, 14], [], []⟩), (12, ⟨[10, 12, 14, 15], [], []⟩), (13, ⟨[10, 12, 14, 15, 16], [], []⟩), (14, ⟨[10, 12, 14, 15, 16, 70], [], []⟩), (15, ⟨[10, 12, 14, 15, 16], [], []⟩), (16, ⟨[10, 12, 14, 15, 16], [[], [0], [1, 0], [1, 0], [2, 3, 1, 0], [4, 1, 2, 3, 0], [1, 0], [1, 0], [6, 7, 1, 0], [8, 1, 6, 7, 0], [5, 9, 1, 4, 2, 3, 0, 8, 6, 7], [1, 10, 0, 5, 9, 4, 2, 3, 8, 6, 7], [11, 1, 0, 2, 3, 4, 5, 6, 7, 8, 9, 10]], [0, 1, 2, 3, 4, 5, 6, 7, 8, 9, 10, 11, 12]⟩), (17, ⟨[10, 12, 14, 86], [], []⟩), (18, ⟨[4], [], []⟩), (19, ⟨[4], [], []⟩)]) Tryz.f3 = some a3 := by kernel_rfl

/- payroll/payrolllaw14.RestAverage -/
def a4r0 : List IOp := [⟨some 4, .mv, [.c (.bool false)], none⟩]
def a4r1 : List IOp := [⟨some 15, .mv, [.t 0], none⟩,
  ⟨some 16, .call 5, [.t 15], none⟩,
  ⟨some 5, .mv, [.t 16], none⟩]
def a4r2 : List IOp := [⟨some 17, .mv, [.t 5], none⟩,
  ⟨some 18, .call 7, [.t 17, .c (.int .i64 6)], none⟩,
  ⟨some 6, .mv, [.t 18], none⟩]
def a4r3 : List IOp := [⟨some 19, .mv, [.t 1], none⟩,
  ⟨some 20, .call 9, [.t 19, .c (.int .i64 1500)], none⟩,
  ⟨some 21, .bin .add, [.c (.int .i64 1), .t 20], none⟩,
  ⟨some 7, .mv, [.t 21], none⟩]
def a4r4 : List IOp := [⟨some 22, .call 12, [.c (.int .i64 20454)], none⟩,
  ⟨some 23, .bin .sub, [.t 22, .c (.int .i64 7)], none⟩,
  ⟨some 8, .mv, [.t 23], none⟩]
def a4r5 : List IOp := [⟨some 25, .build [.int .i64 0, .nils] [], [], none⟩,
  ⟨some 26, .mv, [.t 7], none⟩,
  ⟨some 27, .build [.int .i64 0, .int .i64 0, .int .i64 0, .int .i64 0] [(2, 1), (3, 1)], [.t 26, .c (.int .i64 1)], none⟩,
  ⟨some 28, .mv, [.t 6], none⟩,
  ⟨some 29, .mv, [.t 8], none⟩,
  ⟨some 30, .mv, [.t 8], none⟩,
  ⟨some 31, .bin .add, [.t 30, .c (.int .i64 34)], none⟩,
  ⟨some 32, .call 10, [.t 25, .t 27, .t 28, .t 29, .t 31], none⟩,
  ⟨some 24, .mv, [.t 32], none⟩,
  ⟨some 33, .extract 0, [.t 24], none⟩,
  ⟨some 34, .extract 1, [.t 24], none⟩,
  ⟨some 9, .mv, [.t 33], none⟩,
  ⟨some 10, .mv, [.t 34], none⟩]
def a4r6 : List IOp := [⟨some 35, .mv, [.t 10], none⟩,
  ⟨some 36, .bin .neq, [.t 35, .c (.int .i64 0)], none⟩]
def a4r7 : List IOp := [⟨some 4, .mv, [.c (.bool false)], none⟩]
def a4r8 : List IOp := [⟨some 11, .mv, [.c (.int .i64 0)], none⟩]
def a4r9 : List IOp := [⟨some 37, .mv, [.t 8], none⟩,
  ⟨some 12, .mv, [.t 37], none⟩]
def a4r10 : List IOp := [⟨some 38, .mv, [.t 12], none⟩,
  ⟨some 39, .mv, [.t 8], none⟩,
  ⟨some 40, .bin .add, [.t 39, .c (.int .i64 35)], none⟩,
  ⟨some 41, .bin .lss, [.t 38, .t 40], none⟩]
def a4r11 : List IOp := [⟨some 13, .mv, [.c (.int .i64 0)], none⟩]
def a4r12 : List IOp := [⟨some 14, .mv, [.c (.int .i64 0)], none⟩]
def a4r13 : List IOp := [⟨some 44, .mv, [.t 14], none⟩,
  ⟨some 45, .mv, [.t 6], none⟩,
  ⟨some 46, .len, [.t 45], none⟩,
  ⟨some 47, .bin .lss, [.t 44, .t 46], none⟩]
def a4r14 : List IOp := [⟨some 50, .mv, [.t 6], none⟩,
  ⟨some 51, .mv, [.t 14], none⟩,
  ⟨some 52, .indexAddr 2, [.t 50, .t 51], none⟩,
  ⟨some 53, .fieldAddr 0, [.t 52], none⟩,
  ⟨some 54, .load1, [.t 53], none⟩,
  ⟨some 55, .mv, [.t 12], none⟩,
  ⟨some 56, .bin .geq, [.t 54, .t 55], none⟩,
  ⟨some 57, .mv, [.t 56], none⟩,
  ⟨some 58, .mv, [.t 6], some (57, true)⟩,
  ⟨some 59, .mv, [.t 14], some (57, true)⟩,
  ⟨some 60, .indexAddr 2, [.t 58, .t 59], some (57, true)⟩,
  ⟨some 61, .fieldAddr 0, [.t 60], some (57, true)⟩,
  ⟨some 62, .load1, [.t 61], some (57, true)⟩,
  ⟨some 63, .mv, [.t 12], some (57, true)⟩,
  ⟨some 64, .bin .add, [.t 63, .c (.int .i64 7)], some (57, true)⟩,
  ⟨some 65, .bin .lss, [.t 62, .t 64], some (57, true)⟩,
  ⟨some 66, .pick, [.t 57, .t 65, .c (.bool false)], none⟩]
def a4r15 : List IOp := [⟨some 67, .mv, [.t 13], none⟩,
  ⟨some 68, .mv, [.t 6], none⟩,
  ⟨some 69, .mv, [.t 14], none⟩,
  ⟨some 70, .indexAddr 2, [.t 68, .t 69], none⟩,
  ⟨some 71, .fieldAddr 1, [.t 70], none⟩,
  ⟨some 72, .load1, [.t 71], none⟩,
  ⟨some 73, .call 13, [.t 72], none⟩,
  ⟨some 74, .bin .add, [.t 67, .t 73], none⟩,
  ⟨some 13, .mv, [.t 74], none⟩]
def a4r16 : List IOp := [⟨some 48, .mv, [.t 14], none⟩,
  ⟨some 49, .bin .add, [.t 48, .c (.int .i64 1)], none⟩,
  ⟨some 14, .mv, [.t 49], none⟩]
def a4r17 : List IOp := [⟨some 75, .mv, [.t 13], none⟩,
  ⟨some 76, .mv, [.t 7], none⟩,
  ⟨some 77, .bin .leq, [.t 75, .t 76], none⟩]
def a4r18 : List IOp := [⟨some 78, .mv, [.t 11], none⟩,
  ⟨some 79, .mv, [.t 9], none⟩,
  ⟨some 80, .len, [.t 79], none⟩,
  ⟨some 81, .bin .geq, [.t 78, .t 80], none⟩,
  ⟨some 82, .mv, [.t 81], none⟩,
  ⟨some 83, .mv, [.t 9], some (82, false)⟩,
  ⟨some 84, .mv, [.t 11], some (82, false)⟩,
  ⟨some 85, .indexAddr 3, [.t 83, .t 84], some (82, false)⟩,
  ⟨some 86, .loadA 3, [.t 85], some (82, false)⟩,
  ⟨some 87, .mv, [.t 12], some (82, false)⟩,
  ⟨some 88, .mv, [.t 13], some (82, false)⟩,
  ⟨some 89, .build [.int .i64 0, .int .i64 0, .int .i64 0] [(0, 1), (1, 1), (2, 1)], [.c (.int .i64 3), .t 87, .t 88], some (82, false)⟩,
  ⟨some 90, .eqA true [.int .i64, .int .i64, .int .i64], [.t 86, .t 89], some (82, false)⟩,
  ⟨some 91, .pick, [.t 82, .c (.bool true), .t 90], none⟩]
def a4r19 : List IOp := [⟨some 4, .mv, [.c (.bool false)], none⟩]
def a4r20 : List IOp := [⟨some 92, .mv, [.t 11], none⟩,
  ⟨some 93, .bin .add, [.t 92, .c (.int .i64 1)], none⟩,
  ⟨some 11, .mv, [.t 93], none⟩]
def a4r21 : List IOp := [⟨some 42, .mv, [.t 12], none⟩,
  ⟨some 43, .bin .add, [.t 42, .c (.int .i64 7)], none⟩,
  ⟨some 12, .mv, [.t 43], none⟩]
def a4r22 : List IOp := [⟨some 94, .mv, [.t 11], none⟩,
  ⟨some 95, .mv, [.t 9], none⟩,
  ⟨some 96, .len, [.t 95], none⟩,
  ⟨some 97, .bin .eql, [.t 94, .t 96], none⟩,
  ⟨some 98, .mv, [.t 97], none⟩,
  ⟨some 99, .call 11, [], some (98, true)⟩,
  ⟨some 100, .pick, [.t 98, .t 99, .c (.bool false)], none⟩,
  ⟨some 4, .mv, [.t 100], none⟩]
def a4 : AFunc := ⟨101, [.tmp 4], (.seq (.region a4r0 [0, 1]) (.seq (.region a4r1 [1, 5]) (.seq (.region a4r2 [1, 6]) (.seq (.region a4r3 [6, 7]) (.seq (.region a4r4 [6, 7, 8]) (.seq (.region a4r5 [6, 7, 8, 9, 10]) (.seq (.seq (.region a4r6 [6, 7, 8, 9, 36]) (.cond (.t 36) (.seq (.region a4r7 [4]) .ret) .skip)) (.seq (.region a4r8 [6, 7, 8, 9, 11]) (.seq (.seq (.region a4r9 [6, 7, 8, 9, 11, 12]) (.block 0 (.loop (.seq (.seq (.region a4r10 [6, 7, 8, 9, 11, 12, 41]) (.cond (.t 41) .skip (.exit 0))) (.seq (.block 1 (.seq (.region a4r11 [6, 7, 8, 9, 11, 12, 13]) (.seq (.seq (.region a4r12 [6, 7, 8, 9, 11, 12, 13, 14]) (.block 2 (.loop (.seq (.seq (.region a4r13 [6, 7, 8, 9, 11, 12, 13, 14, 47]) (.cond (.t 47) .skip (.exit 2))) (.seq (.block 3 (.seq (.region a4r14 [6, 7, 8, 9, 11, 12, 13, 14, 66]) (.cond (.t 66) (.region a4r15 [6, 7, 8, 9, 11, 12, 13, 14]) .skip))) (.region a4r16 [6, 7, 8, 9, 11, 12, 13, 14])))))) (.seq (.seq (.region a4r17 [6, 7, 8, 9, 11, 12, 13, 77]) (.cond (.t 77) (.exit 1) .skip)) (.seq (.seq (.region a4r18 [6, 7, 8, 9, 11, 12, 91]) (.cond (.t 91) (.seq (.region a4r19 [4]) .ret) .skip)) (.region a4r20 [6, 7, 8, 9, 11, 12])))))) (.region a4r21 [6, 7, 8, 9, 11, 12])))))) (.seq (.region a4r22 [4]) .ret))))))))))⟩
theorem a4_ok : compileF Tryz.prog (lk [(0, ⟨[0, 1], [], []⟩), (1, ⟨[1, 5], [], []⟩), (2, ⟨[1, 6], [], []⟩), (3, ⟨[6, 7], [], []⟩), (4, ⟨[6, 7, 8], [], []⟩), (5, ⟨[6, 7, 8, 9, 10], [], []⟩), (6, ⟨[6, 7, 8, 9, 36], [], []⟩), (7, ⟨[4], [], []⟩), (8, ⟨[6, 7, 8, 9, 11], [], []⟩), (9, ⟨[6, 7, 8, 9, 11, 12], [], []⟩), (10, ⟨[6, 7, 8, 9, 11, 12, 41], [], []⟩), (11, ⟨[6, 7, 8, 9, 11, 12], [], []⟩), (12, ⟨[6, 7, 8, 9, 11, 12, 13], [], []⟩), (13, ⟨[6, 7, 8, 9, 11, 12, 13, 14], [], []⟩), (14, ⟨[6, 7, 8, 9, 11, 12, 13, 14, 47], [], []⟩), (15, ⟨[6, 7, 8, 9, 11, 12, 13, 14], [], []⟩), (16, ⟨[6, 7, 8, 9, 11, 12, 13, 14, 66], [], []⟩), (17, ⟨[6, 7, 8, 9, 11, 12, 13, 14], [], []⟩), (18, ⟨[6, 7, 8, 9, 11, 12, 13, 77], [], []⟩), (19, ⟨[6, 7, 8, 9, 11, 12, 91], [], []⟩), (20, ⟨[4], [], []⟩), (21, ⟨[6, 7, 8, 9, 11, 12], [], []⟩), (22, ⟨[4], [], []⟩)]) Tryz.f4 = some a4 := by kernel_rfl

/- payroll/payrollgen.New -/
def a5r0 : List IOp := [⟨some 2, .mv, [.c (.nilp)], none⟩]
def a5r1 : List IOp := [⟨some 3, .mv, [.t 0], none⟩,
  ⟨some 4, .build [.nils, .int .i64 0] [(0, 1)], [.t 3], none⟩,
  ⟨some 5, .box 48 2, [.t 4], none⟩,
  ⟨some 2, .mv, [.t 5], none⟩]
def a5 : AFunc := ⟨6, [.tmp 2], (.seq (.region a5r0 [0]) (.seq (.region a5r1 [2]) .ret))⟩
theorem a5_ok : compileF Tryz.prog (lk [(0, ⟨[0], [], []⟩), (1, ⟨[2], [], []⟩)]) Tryz.f5 = some a5 := by kernel_rfl

/- (*payroll/payrollgen.Tape).Zone -/
def a6r0 : List IOp := [⟨some 2, .alloc 27 [.int .i64 0, .nils], [], none⟩]
def a6r1 : List IOp := [⟨some 6, .mv, [.t 0], none⟩,
  ⟨some 7, .bslice 3 1 [.int .i64 0] 6 [0, 1, 2, 3, 4, 5], [.c (.int .i64 0), .c (.int .i64 60), .c (.int .i64 (-300)), .c (.int .i64 840), .c (.int .i64 (-840)), .c (.int .i64 570)], none⟩,
  ⟨some 8, .call 14, [.t 6, .t 7], none⟩,
  ⟨some 9, .build [.int .i64 0, .nils] [(0, 1)], [.t 8], none⟩,
  ⟨some 3, .alloc 27 [.int .i64 0, .nils], [], none⟩,
  ⟨none, .store 2, [.t 3, .t 9], none⟩]
def a6r2 : List IOp := [⟨some 10, .mv, [.t 0], none⟩,
  ⟨some 11, .bslice 3 1 [.int .i64 0] 5 [0, 1, 2, 3, 4], [.c (.int .i64 0), .c (.int .i64 29453760), .c (.int .i64 29455200), .c (.int .i64 29456700), .c (.int .i64 29453060)], none⟩,
  ⟨some 12, .call 14, [.t 10, .t 11], none⟩,
  ⟨some 4, .mv, [.t 12], none⟩]
def a6r3 : List IOp := [⟨some 13, .mv, [.t 0], none⟩,
  ⟨some 14, .call 8, [.t 13, .c (.int .i64 4)], none⟩,
  ⟨some 5, .mv, [.t 14], none⟩]
def a6r4 : List IOp := [⟨some 15, .mv, [.t 5], none⟩,
  ⟨some 16, .bin .gtr, [.t 15, .c (.int .i64 0)], none⟩]
def a6r5 : List (Nat × DOp) := [(0, ⟨⟨some 19, .fieldAddr 1, [.t 3], none⟩, none, [2, 3, 4, 5, 6, 7]⟩),
  (1, ⟨⟨some 20, .load1, [.t 19], none⟩, none, [2, 3, 4, 5, 6, 7]⟩),
  (2, ⟨⟨some 21, .mv, [.t 4], none⟩, none, [0, 1, 3, 4, 5]⟩),
  (3, ⟨⟨some 22, .mv, [.t 0], none⟩, none, [0, 1, 2, 4]⟩),
  (4, ⟨⟨some 23, .bslice 3 1 [.int .i64 0] 6 [0, 1, 2, 3, 4, 5], [.c (.int .i64 60), .c (.int .i64 120), .c (.int .i64 0), .c (.int .i64 (-300)), .c (.int .i64 840), .c (.int .i64 (-840))], none⟩, some 0, [0, 1, 2, 3]⟩),
  (5, ⟨⟨some 24, .call 14, [.t 22, .t 23], none⟩, none, [0, 1, 2]⟩),
  (6, ⟨⟨some 25, .build [.int .i64 0, .int .i64 0] [(0, 1), (1, 1)], [.t 21, .t 24], none⟩, none, [0, 1]⟩),
  (7, ⟨⟨some 26, .bslice 51 2 [.int .i64 0, .int .i64 0] 1 [0], [.t 25], none⟩, some 1, [0, 1]⟩),
  (8, ⟨⟨some 27, .append 51 2 16, [.t 20, .t 26], none⟩, none, []⟩),
  (9, ⟨⟨some 28, .fieldAddr 1, [.t 3], none⟩, none, []⟩),
  (10, ⟨⟨none, .store 1, [.t 28, .t 27], none⟩, none, []⟩)]
def a6r6 : List IOp := [⟨some 29, .mv, [.t 4], none⟩,
  ⟨some 30, .mv, [.t 0], none⟩,
  ⟨some 31, .bslice 3 1 [.int .i64 0] 5 [0, 1, 2, 3, 4], [.c (.int .i64 60), .c (.int .i64 1440), .c (.int .i64 30), .c (.int .i64 4320), .c (.int .i64 1)], none⟩,
  ⟨some 32, .call 14, [.t 30, .t 31], none⟩,
  ⟨some 33, .bin .add, [.t 29, .t 32], none⟩,
  ⟨some 4, .mv, [.t 33], none⟩]
def a6r7 : List IOp := [⟨some 17, .mv, [.t 5], none⟩,
  ⟨some 18, .bin .sub, [.t 17, .c (.int .i64 1)], none⟩,
  ⟨some 5, .mv, [.t 18], none⟩]
def a6r8 : List IOp := [⟨some 34, .loadA 2, [.t 3], none⟩,
  ⟨none, .store 2, [.t 2, .t 34], none⟩]
def a6 : AFunc := ⟨35, [.cellA 2 2], (.seq (.region a6r0 [0, 2]) (.seq (.region a6r1 [0, 2, 3]) (.seq (.region a6r2 [0, 2, 3, 4]) (.seq (.seq (.region a6r3 [0, 2, 3, 4, 5]) (.block 0 (.loop (.seq (.seq (.region a6r4 [0, 2, 3, 4, 5, 16]) (.cond (.t 16) .skip (.exit 0))) (.seq (.block 1 (.seq (.draw a6r5 [(3, 1), (51, 2)] [0, 2, 3, 4, 5]) (.region a6r6 [0, 2, 3, 4, 5]))) (.region a6r7 [0, 2, 3, 4, 5])))))) (.seq (.region a6r8 [2]) .ret)))))⟩
theorem a6_ok : compileF Tryz.prog (lk [(0, ⟨[0, 2], [], []⟩), (1, ⟨[0, 2, 3], [], []⟩), (2, ⟨[0, 2, 3, 4], [], []⟩), (3, ⟨[0, 2, 3, 4, 5], [], []⟩), (4, ⟨[0, 2, 3, 4, 5, 16], [], []⟩), (5, ⟨[0, 2, 3, 4, 5], [], []⟩), (6, ⟨[0, 2, 3, 4, 5], [[], [0], [], [], [], [3, 4], [2, 5, 3, 4], [6, 2, 5, 3, 4], [1, 7, 5, 0, 6, 2, 3, 4], [0, 1, 2, 3, 4, 5, 6, 7, 8], [9, 8, 0, 1, 2, 3, 4, 5, 6, 7]], [0, 1, 2, 3, 4, 5, 6, 7, 8, 9, 10]⟩), (7, ⟨[0, 2, 3, 4, 5], [], []⟩), (8, ⟨[2], [], []⟩)]) Tryz.f6 = some a6 := by kernel_rfl

/- (*payroll/payrollgen.Tape).Works -/
def a7r0 : List IOp := [⟨some 4, .mv, [.c (.nils)], none⟩]
def a7r1 : List IOp := [⟨some 5, .mv, [.c (.nils)], none⟩]
def a7r2 : List IOp := [⟨some 12, .mv, [.t 0], none⟩,
  ⟨some 13, .call 8, [.t 12, .c (.int .i64 3)], none⟩,
  ⟨some 14, .bin .mul, [.t 13, .c (.int .i64 1440)], none⟩,
  ⟨some 15, .bin .sub, [.c (.int .i64 29453760), .t 14], none⟩,
  ⟨some 6, .mv, [.t 15], none⟩]
def a7r3 : List IOp := [⟨some 16, .mv, [.t 0], none⟩,
  ⟨some 17, .mv, [.t 1], none⟩,
  ⟨some 18, .bin .add, [.t 17, .c (.int .i64 1)], none⟩,
  ⟨some 19, .call 8, [.t 16, .t 18], none⟩,
  ⟨some 7, .mv, [.t 19], none⟩]
def a7r4 : List IOp := [⟨some 20, .mv, [.t 7], none⟩,
  ⟨some 21, .bin .gtr, [.t 20, .c (.int .i64 0)], none⟩]
def a7r5 : List IOp := [⟨some 24, .mv, [.t 6], none⟩,
  ⟨some 25, .bin .quo, [.t 24, .c (.int .i64 1440)], none⟩,
  ⟨some 26, .mv, [.t 0], none⟩,
  ⟨some 27, .call 8, [.t 26, .c (.int .i64 5)], none⟩,
  ⟨some 28, .bin .quo, [.t 27, .c (.int .i64 4)], none⟩,
  ⟨some 29, .bin .sub, [.t 25, .t 28], none⟩,
  ⟨some 30, .build [.int .i64 0, .nils] [(0, 1)], [.t 29], none⟩,
  ⟨some 8, .alloc 45 [.int .i64 0, .nils], [], none⟩,
  ⟨none, .store 2, [.t 8, .t 30], none⟩]
def a7r6 : List IOp := [⟨some 31, .mv, [.t 0], none⟩,
  ⟨some 32, .call 8, [.t 31, .c (.int .i64 2)], none⟩,
  ⟨some 33, .bin .add, [.c (.int .i64 1), .t 32], none⟩,
  ⟨some 9, .mv, [.t 33], none⟩]
def a7r7 : List IOp := [⟨some 34, .mv, [.t 9], none⟩,
  ⟨some 35, .bin .gtr, [.t 34, .c (.int .i64 0)], none⟩]
def a7r8 : List IOp := [⟨some 38, .mv, [.t 6], none⟩,
  ⟨some 39, .mv, [.t 0], none⟩,
  ⟨some 40, .bslice 3 1 [.int .i64 0] 4 [0, 1, 2, 3], [.c (.int .i64 0), .c (.int .i64 30), .c (.int .i64 400), .c (.int .i64 1)], none⟩,
  ⟨some 41, .call 14, [.t 39, .t 40], none⟩,
  ⟨some 42, .bin .add, [.t 38, .t 41], none⟩,
  ⟨some 6, .mv, [.t 42], none⟩]
def a7r9 : List IOp := [⟨some 43, .mv, [.t 0], none⟩,
  ⟨some 44, .bslice 3 1 [.int .i64 0] 4 [0, 1, 2, 3], [.c (.int .i64 240), .c (.int .i64 60), .c (.int .i64 480), .c (.int .i64 1)], none⟩,
  ⟨some 45, .call 14, [.t 43, .t 44], none⟩,
  ⟨some 10, .mv, [.t 45], none⟩]
def a7r10 : List IOp := [⟨some 46, .fieldAddr 1, [.t 8], none⟩,
  ⟨some 47, .load1, [.t 46], none⟩,
  ⟨some 48, .mv, [.t 6], none⟩,
  ⟨some 49, .mv, [.t 6], none⟩,
  ⟨some 50, .mv, [.t 10], none⟩,
  ⟨some 51, .bin .add, [.t 49, .t 50], none⟩,
  ⟨some 52, .build [.int .i64 0, .int .i64 0] [(0, 1), (1, 1)], [.t 48, .t 51], none⟩,
  ⟨some 53, .bslice 53 2 [.int .i64 0, .int .i64 0] 1 [0], [.t 52], none⟩,
  ⟨some 54, .append 53 2 16, [.t 47, .t 53], none⟩,
  ⟨some 55, .fieldAddr 1, [.t 8], none⟩,
  ⟨none, .store 1, [.t 55, .t 54], none⟩]
def a7r11 : List IOp := [⟨some 56, .mv, [.t 6], none⟩,
  ⟨some 57, .mv, [.t 10], none⟩,
  ⟨some 58, .bin .add, [.t 56, .t 57], none⟩,
  ⟨some 6, .mv, [.t 58], none⟩]
def a7r12 : List IOp := [⟨some 36, .mv, [.t 9], none⟩,
  ⟨some 37, .bin .sub, [.t 36, .c (.int .i64 1)], none⟩,
  ⟨some 9, .mv, [.t 37], none⟩]
def a7r13 : List IOp := [⟨some 59, .mv, [.t 5], none⟩,
  ⟨some 60, .loadA 2, [.t 8], none⟩,
  ⟨some 61, .bslice 45 2 [.int .i64 0, .nils] 1 [0], [.t 60], none⟩,
  ⟨some 62, .append 45 2 32, [.t 59, .t 61], none⟩,
  ⟨some 5, .mv, [.t 62], none⟩]
def a7r14 : List IOp := [⟨some 63, .mv, [.t 6], none⟩,
  ⟨some 64, .mv, [.t 0], none⟩,
  ⟨some 65, .bslice 3 1 [.int .i64 0] 4 [0, 1, 2, 3], [.c (.int .i64 600), .c (.int .i64 0), .c (.int .i64 1440), .c (.int .i64 60)], none⟩,
  ⟨some 66, .call 14, [.t 64, .t 65], none⟩,
  ⟨some 67, .bin .add, [.t 63, .t 66], none⟩,
  ⟨some 6, .mv, [.t 67], none⟩]
def a7r15 : List IOp := [⟨some 22, .mv, [.t 7], none⟩,
  ⟨some 23, .bin .sub, [.t 22, .c (.int .i64 1)], none⟩,
  ⟨some 7, .mv, [.t 23], none⟩]
def a7r16 : List IOp := [⟨some 68, .mv, [.t 5], none⟩,
  ⟨some 69, .len, [.t 68], none⟩,
  ⟨some 70, .bin .gtr, [.t 69, .c (.int .i64 1)], none⟩,
  ⟨some 71, .mv, [.t 70], none⟩,
  ⟨some 72, .mv, [.t 0], some (71, true)⟩,
  ⟨some 73, .call 8, [.t 72, .c (.int .i64 2)], some (71, true)⟩,
  ⟨some 74, .bin .eql, [.t 73, .c (.int .i64 0)], some (71, true)⟩,
  ⟨some 75, .pick, [.t 71, .t 74, .c (.bool false)], none⟩]
def a7r17 : List IOp := [⟨some 76, .mv, [.t 0], none⟩,
  ⟨some 77, .mv, [.t 5], none⟩,
  ⟨some 78, .len, [.t 77], none⟩,
  ⟨some 79, .call 8, [.t 76, .t 78], none⟩,
  ⟨some 11, .mv, [.t 79], none⟩]
def a7r18 : List (Nat × DOp) := [(0, ⟨⟨some 80, .mv, [.t 5], none⟩, none, [1, 2, 3, 4, 5, 6, 7, 8, 9]⟩),
  (1, ⟨⟨some 81, .mv, [.t 5], none⟩, none, [0, 2, 3, 4, 5, 6, 7, 8, 9, 10, 11]⟩),
  (2, ⟨⟨some 82, .mv, [.t 11], none⟩, none, [0, 1, 3, 4, 5, 6, 7, 8, 9, 10, 11]⟩),
  (3, ⟨⟨some 83, .mv, [.t 5], none⟩, none, [0, 1, 2, 4, 7, 8, 9]⟩),
  (4, ⟨⟨some 84, .mv, [.t 11], none⟩, none, [0, 1, 2, 3, 7, 8, 9]⟩),
  (5, ⟨⟨some 85, .indexAddr 2, [.t 83, .t 84], none⟩, none, [0, 1, 2, 7, 8, 9]⟩),
  (6, ⟨⟨some 86, .loadA 2, [.t 85], none⟩, none, [0, 1, 2, 7, 8, 9]⟩),
  (7, ⟨⟨some 87, .mv, [.t 5], none⟩, none, [0, 1, 2, 3, 4, 5, 6]⟩),
  (8, ⟨⟨some 88, .indexAddr 2, [.t 87, .c (.int .i64 0)], none⟩, none, [0, 1, 2, 3, 4, 5, 6]⟩),
  (9, ⟨⟨some 89, .loadA 2, [.t 88], none⟩, none, [0, 1, 2, 3, 4, 5, 6]⟩),
  (10, ⟨⟨some 90, .indexAddr 2, [.t 80, .c (.int .i64 0)], none⟩, none, [1, 2]⟩),
  (11, ⟨⟨none, .store 2, [.t 90, .t 86], none⟩, none, [1, 2]⟩),
  (12, ⟨⟨some 91, .indexAddr 2, [.t 81, .t 82], none⟩, none, []⟩),
  (13, ⟨⟨none, .store 2, [.t 91, .t 89], none⟩, none, []⟩)]
def a7r19 : List IOp := [⟨some 92, .mv, [.t 5], none⟩,
  ⟨some 4, .mv, [.t 92], none⟩]
def a7 : AFunc := ⟨93, [.tmp 4], (.seq (.region a7r0 [0, 1]) (.seq (.region a7r1 [0, 1, 5]) (.seq (.region a7r2 [0, 1, 5, 6]) (.seq (.seq (.region a7r3 [0, 5, 6, 7]) (.block 0 (.loop (.seq (.seq (.region a7r4 [0, 5, 6, 7, 21]) (.cond (.t 21) .skip (.exit 0))) (.seq (.block 1 (.seq (.region a7r5 [0, 5, 6, 7, 8]) (.seq (.seq (.region a7r6 [0, 5, 6, 7, 8, 9]) (.block 2 (.loop (.seq (.seq (.region a7r7 [0, 5, 6, 7, 8, 9, 35]) (.cond (.t 35) .skip (.exit 2))) (.seq (.block 3 (.seq (.region a7r8 [0, 5, 6, 7, 8, 9]) (.seq (.region a7r9 [0, 5, 6, 7, 8, 9, 10]) (.seq (.region a7r10 [0, 5, 6, 7, 8, 9, 10]) (.region a7r11 [0, 5, 6, 7, 8, 9]))))) (.region a7r12 [0, 5, 6, 7, 8, 9])))))) (.seq (.region a7r13 [0, 5, 6, 7]) (.region a7r14 [0, 5, 6, 7]))))) (.region a7r15 [0, 5, 6, 7])))))) (.seq (.seq (.region a7r16 [0, 5, 75]) (.cond (.t 75) (.seq (.region a7r17 [5, 11]) (.draw a7r18 [] [5])) .skip)) (.seq (.region a7r19 [4]) .ret))))))⟩
theorem a7_ok : compileF Tryz.prog (lk [(0, ⟨[0, 1], [], []⟩), (1, ⟨[0, 1, 5], [], []⟩), (2, ⟨[0, 1, 5, 6], [], []⟩), (3, ⟨[0, 5, 6, 7], [], []⟩), (4, ⟨[0, 5, 6, 7, 21], [], []⟩), (5, ⟨[0, 5, 6, 7], [], []⟩), (6, ⟨[0, 5, 6, 7, 8], [], []⟩), (7, ⟨[0, 5, 6, 7, 8, 9], [], []⟩), (8, ⟨[0, 5, 6, 7, 8, 9, 35], [], []⟩), (9, ⟨[0, 5, 6, 7, 8, 9], [], []⟩), (10, ⟨[0, 5, 6, 7, 8, 9], [], []⟩), (11, ⟨[0, 5, 6, 7, 8, 9, 10], [], []⟩), (12, ⟨[0, 5, 6, 7, 8, 9, 10], [], []⟩), (13, ⟨[0, 5, 6, 7, 8, 9], [], []⟩), (14, ⟨[0, 5, 6, 7], [], []⟩), (15, ⟨[0, 5, 6, 7], [], []⟩), (16, ⟨[0, 5, 75], [], []⟩), (17, ⟨[5, 11], [], []⟩), (18, ⟨[5], [[], [], [], [], [], [3, 4], [5, 3, 4], [], [7], [8, 7], [0, 3, 4, 5, 6, 9, 8, 7], [10, 6, 0, 3, 4, 5, 9, 8, 7], [1, 2, 0, 3, 4, 5, 6, 7, 8, 9, 10, 11], [12, 9, 11, 0, 1, 2, 3, 4, 5, 6, 7, 8, 10]], [0, 1, 2, 3, 4, 5, 6, 7, 8, 9, 10, 11, 12, 13]⟩), (19, ⟨[4], [], []⟩)]) Tryz.f7 = some a7 := by kernel_rfl

/- (*payroll/payrollgen.Tape).Next -/
def a8r0 : List IOp := [⟨some 4, .mv, [.c (.int .i64 0)], none⟩]
def a8r1 : List (Nat × DOp) := [(0, ⟨⟨some 5, .mv, [.t 1], none⟩, none, []⟩),
  (1, ⟨⟨some 6, .bin .lss, [.t 5, .c (.int .i64 1)], none⟩, none, []⟩),
  (2, ⟨⟨some 7, .mv, [.t 6], none⟩, none, []⟩),
  (3, ⟨⟨some 8, .mv, [.t 0], some (7, false)⟩, none, [7, 8, 9, 10, 11]⟩),
  (4, ⟨⟨some 9, .nilchk, [.t 8], some (7, false)⟩, none, [7, 8, 9, 10, 11]⟩),
  (5, ⟨⟨some 10, .fieldAddr 1, [.t 9], some (7, false)⟩, none, [7, 8, 9, 10, 11]⟩),
  (6, ⟨⟨some 11, .load1, [.t 10], some (7, false)⟩, none, [7, 8, 9, 10, 11]⟩),
  (7, ⟨⟨some 12, .mv, [.t 0], some (7, false)⟩, none, [3, 4, 5, 6]⟩),
  (8, ⟨⟨some 13, .nilchk, [.t 12], some (7, false)⟩, none, [3, 4, 5, 6]⟩),
  (9, ⟨⟨some 14, .fieldAddr 0, [.t 13], some (7, false)⟩, none, [3, 4, 5, 6]⟩),
  (10, ⟨⟨some 15, .load1, [.t 14], some (7, false)⟩, none, [3, 4, 5, 6]⟩),
  (11, ⟨⟨some 16, .len, [.t 15], some (7, false)⟩, none, [3, 4, 5, 6]⟩),
  (12, ⟨⟨some 17, .bin .geq, [.t 11, .t 16], some (7, false)⟩, none, []⟩),
  (13, ⟨⟨some 18, .pick, [.t 7, .c (.bool true), .t 17], none⟩, none, []⟩)]
def a8r2 : List IOp := [⟨some 4, .mv, [.c (.int .i64 0)], none⟩]
def a8r3 : List IOp := [⟨some 19, .mv, [.t 0], none⟩,
  ⟨some 20, .nilchk, [.t 19], none⟩,
  ⟨some 21, .fieldAddr 1, [.t 20], none⟩,
  ⟨some 22, .load1, [.t 21], none⟩,
  ⟨some 23, .bin .add, [.t 22, .c (.int .i64 1)], none⟩,
  ⟨some 24, .nilchk, [.t 19], none⟩,
  ⟨some 25, .fieldAddr 1, [.t 24], none⟩,
  ⟨none, .store 1, [.t 25, .t 23], none⟩]
def a8r4 : List (Nat × DOp) := [(0, ⟨⟨some 26, .mv, [.t 0], none⟩, none, [4, 5, 6, 7, 8, 11]⟩),
  (1, ⟨⟨some 27, .nilchk, [.t 26], none⟩, none, [4, 5, 6, 7, 8, 11]⟩),
  (2, ⟨⟨some 28, .fieldAddr 0, [.t 27], none⟩, none, [4, 5, 6, 7, 8, 11]⟩),
  (3, ⟨⟨some 29, .load1, [.t 28], none⟩, none, [4, 5, 6, 7, 8, 11]⟩),
  (4, ⟨⟨some 30, .mv, [.t 0], none⟩, none, [0, 1, 2, 3, 11]⟩),
  (5, ⟨⟨some 31, .nilchk, [.t 30], none⟩, none, [0, 1, 2, 3, 11]⟩),
  (6, ⟨⟨some 32, .fieldAddr 1, [.t 31], none⟩, none, [0, 1, 2, 3, 11]⟩),
  (7, ⟨⟨some 33, .load1, [.t 32], none⟩, none, [0, 1, 2, 3, 11]⟩),
  (8, ⟨⟨some 34, .bin .sub, [.t 33, .c (.int .i64 1)], none⟩, none, [0, 1, 2, 3, 11]⟩),
  (9, ⟨⟨some 35, .indexAddr 1, [.t 29, .t 34], none⟩, none, [11]⟩),
  (10, ⟨⟨some 36, .load1, [.t 35], none⟩, none, [11]⟩),
  (11, ⟨⟨some 37, .mv, [.t 1], none⟩, none, [0, 1, 2, 3, 4, 5, 6, 7, 8, 9, 10]⟩),
  (12, ⟨⟨some 38, .call 9, [.t 36, .t 37], none⟩, none, []⟩),
  (13, ⟨⟨some 4, .mv, [.t 38], none⟩, none, []⟩)]
def a8 : AFunc := ⟨39, [.tmp 4], (.seq (.region a8r0 [0, 1]) (.seq (.seq (.draw a8r1 [] [0, 1, 18]) (.cond (.t 18) (.seq (.region a8r2 [4]) .ret) .skip)) (.seq (.region a8r3 [0, 1]) (.seq (.draw a8r4 [] [4]) .ret))))⟩
theorem a8_ok : compileF Tryz.prog (lk [(0, ⟨[0, 1], [], []⟩), (1, ⟨[0, 1, 18], [[], [0], [1, 0], [2, 1, 0], [3, 2, 1, 0], [4, 2, 3, 1, 0], [5, 2, 4, 3, 1, 0], [2, 1, 0], [7, 2, 1, 0], [8, 2, 7, 1, 0], [9, 2, 8, 7, 1, 0], [10, 2, 9, 8, 7, 1, 0], [6, 11, 2, 5, 4, 3, 1, 0, 10, 9, 8, 7], [2, 12, 1, 0, 6, 11, 5, 4, 3, 10, 9, 8, 7]], [0, 1, 2, 3, 4, 5, 6, 7, 8, 9, 10, 11, 12, 13]⟩), (2, ⟨[4], [], []⟩), (3, ⟨[0, 1], [], []⟩), (4, ⟨[4], [[], [0], [1, 0], [2, 1, 0], [], [4], [5, 4], [6, 5, 4], [7, 6, 5, 4], [3, 8, 2, 1, 0, 7, 6, 5, 4], [9, 3, 8, 2, 1, 0, 7, 6, 5, 4], [], [10, 11, 9, 3, 8, 2, 1, 0, 7, 6, 5, 4], [12, 0, 1, 2, 3, 4, 5, 6, 7, 8, 9, 10, 11]], [0, 1, 2, 3, 4, 5, 6, 7, 8, 9, 10, 11, 12, 13]⟩)]) Tryz.f8 = some a8 := by kernel_rfl

/- payroll/payrollgen.Mod -/
def a9r0 : List IOp := [⟨some 4, .mv, [.c (.int .i64 0)], none⟩]
def a9r1 : List IOp := [⟨some 6, .mv, [.t 0], none⟩,
  ⟨some 7, .mv, [.t 1], none⟩,
  ⟨some 8, .bin .rem, [.t 6, .t 7], none⟩,
  ⟨some 5, .mv, [.t 8], none⟩]
def a9r2 : List IOp := [⟨some 9, .mv, [.t 5], none⟩,
  ⟨some 10, .bin .lss, [.t 9, .c (.int .i64 0)], none⟩]
def a9r3 : List IOp := [⟨some 11, .mv, [.t 5], none⟩,
  ⟨some 12, .mv, [.t 1], none⟩,
  ⟨some 13, .bin .add, [.t 11, .t 12], none⟩,
  ⟨some 5, .mv, [.t 13], none⟩]
def a9r4 : List IOp := [⟨some 14, .mv, [.t 5], none⟩,
  ⟨some 4, .mv, [.t 14], none⟩]
def a9 : AFunc := ⟨15, [.tmp 4], (.seq (.region a9r0 [0, 1]) (.seq (.region a9r1 [1, 5]) (.seq (.seq (.region a9r2 [1, 5, 10]) (.cond (.t 10) (.region a9r3 [5]) .skip)) (.seq (.region a9r4 [4]) .ret))))⟩
theorem a9_ok : compileF Tryz.prog (lk [(0, ⟨[0, 1], [], []⟩), (1, ⟨[1, 5], [], []⟩), (2, ⟨[1, 5, 10], [], []⟩), (3, ⟨[5], [], []⟩), (4, ⟨[4], [], []⟩)]) Tryz.f9 = some a9 := by kernel_rfl

/- payroll/rest.Check -/
def a10r0 : List IOp := [⟨some 5, .box 27 2, [.t 0], none⟩,
  ⟨some 6, .box 33 4, [.t 1], none⟩,
  ⟨some 10, .mv, [.c (.nils)], none⟩,
  ⟨some 11, .mv, [.c (.int .i64 0)], none⟩]
def a10r1 : List IOp := [⟨some 18, .loadA 2, [.t 5], none⟩,
  ⟨some 19, .call 15, [.t 18], none⟩,
  ⟨some 12, .mv, [.t 19], none⟩]
def a10r2 : List IOp := [⟨some 20, .mv, [.t 12], none⟩,
  ⟨some 21, .bin .neq, [.t 20, .c (.int .i64 0)], none⟩]
def a10r3 : List IOp := [⟨some 22, .mv, [.t 12], none⟩,
  ⟨some 10, .mv, [.c (.nils)], none⟩,
  ⟨some 11, .mv, [.t 22], none⟩]
def a10r4 : List IOp := [⟨some 23, .loadA 4, [.t 6], none⟩,
  ⟨some 24, .call 16, [.t 23], none⟩,
  ⟨some 13, .mv, [.t 24], none⟩]
def a10r5 : List IOp := [⟨some 25, .mv, [.t 13], none⟩,
  ⟨some 26, .bin .neq, [.t 25, .c (.int .i64 0)], none⟩]
def a10r6 : List IOp := [⟨some 27, .mv, [.t 13], none⟩,
  ⟨some 10, .mv, [.c (.nils)], none⟩,
  ⟨some 11, .mv, [.t 27], none⟩]
def a10r7 : List IOp := [⟨some 28, .mv, [.t 3], none⟩,
  ⟨some 29, .bin .lss, [.t 28, .c (.int .i64 0)], none⟩,
  ⟨some 30, .mv, [.t 29], none⟩,
  ⟨some 31, .mv, [.t 3], some (30, false)⟩,
  ⟨some 32, .bin .gtr, [.t 31, .c (.int .i64 84005)], some (30, false)⟩,
  ⟨some 33, .pick, [.t 30, .c (.bool true), .t 32], none⟩,
  ⟨some 34, .mv, [.t 33], none⟩,
  ⟨some 35, .mv, [.t 4], some (34, false)⟩,
  ⟨some 36, .bin .lss, [.t 35, .c (.int .i64 0)], some (34, false)⟩,
  ⟨some 37, .pick, [.t 34, .c (.bool true), .t 36], none⟩,
  ⟨some 38, .mv, [.t 37], none⟩,
  ⟨some 39, .mv, [.t 4], some (38, false)⟩,
  ⟨some 40, .bin .gtr, [.t 39, .c (.int .i64 84005)], some (38, false)⟩,
  ⟨some 41, .pick, [.t 38, .c (.bool true), .t 40], none⟩]
def a10r8 : List IOp := [⟨some 10, .mv, [.c (.nils)], none⟩,
  ⟨some 11, .mv, [.c (.int .i64 2)], none⟩]
def a10r9 : List IOp := [⟨some 42, .mv, [.t 4], none⟩,
  ⟨some 43, .mv, [.t 3], none⟩,
  ⟨some 44, .bin .lss, [.t 42, .t 43], none⟩]
def a10r10 : List IOp := [⟨some 10, .mv, [.c (.nils)], none⟩,
  ⟨some 11, .mv, [.c (.int .i64 1)], none⟩]
def a10r11 : List IOp := [⟨some 46, .build [.str ⟨#[]⟩, .nils, .nils] [(0, 1)], [.c (.str ⟨#[110, 111, 114, 109, 97, 108]⟩)], none⟩,
  ⟨some 47, .mv, [.t 2], none⟩,
  ⟨some 48, .call 17, [.t 46, .t 47], none⟩,
  ⟨some 45, .mv, [.t 48], none⟩,
  ⟨some 49, .extract 0, [.t 45], none⟩,
  ⟨some 50, .extract 1, [.t 45], none⟩,
  ⟨some 14, .mv, [.t 49], none⟩,
  ⟨some 15, .mv, [.t 50], none⟩]
def a10r12 : List IOp := [⟨some 51, .mv, [.t 15], none⟩,
  ⟨some 52, .bin .neq, [.t 51, .c (.int .i64 0)], none⟩]
def a10r13 : List IOp := [⟨some 53, .mv, [.t 15], none⟩,
  ⟨some 10, .mv, [.c (.nils)], none⟩,
  ⟨some 11, .mv, [.t 53], none⟩]
def a10r14 : List IOp := [⟨some 16, .mv, [.c (.nils)], none⟩]
def a10r15 : List IOp := [⟨some 54, .fieldAddr 0, [.t 6], none⟩,
  ⟨some 55, .load1, [.t 54], none⟩,
  ⟨some 56, .bin .neq, [.t 55, .c (.int .i64 0)], none⟩]
def a10r16 : List IOp := [⟨some 57, .mv, [.t 16], none⟩,
  ⟨some 58, .loadA 4, [.t 6], none⟩,
  ⟨some 59, .mv, [.t 2], none⟩,
  ⟨some 60, .mv, [.t 3], none⟩,
  ⟨some 61, .mv, [.t 4], none⟩,
  ⟨some 62, .call 18, [.t 58, .t 59, .t 60, .t 61], none⟩,
  ⟨some 63, .append 40 3 24, [.t 57, .t 62], none⟩,
  ⟨some 16, .mv, [.t 63], none⟩]
def a10r17 : List IOp := [⟨some 64, .mv, [.t 3], none⟩,
  ⟨some 65, .mv, [.t 4], none⟩,
  ⟨some 66, .call 19, [.t 64, .t 65], none⟩,
  ⟨some 17, .mv, [.t 66], none⟩]
def a10r18 : List IOp := [⟨some 67, .fieldAddr 1, [.t 6], none⟩,
  ⟨some 68, .load1, [.t 67], none⟩,
  ⟨some 69, .bin .neq, [.t 68, .c (.int .i64 0)], none⟩]
def a10r19 : List IOp := [⟨some 70, .mv, [.t 16], none⟩,
  ⟨some 71, .loadA 2, [.t 5], none⟩,
  ⟨some 72, .loadA 4, [.t 6], none⟩,
  ⟨some 73, .mv, [.t 2], none⟩,
  ⟨some 74, .mv, [.t 17], none⟩,
  ⟨some 75, .call 20, [.t 71, .t 72, .t 73, .t 74], none⟩,
  ⟨some 76, .append 40 3 24, [.t 70, .t 75], none⟩,
  ⟨some 16, .mv, [.t 76], none⟩]
def a10r20 : List IOp := [⟨some 77, .fieldAddr 2, [.t 6], none⟩,
  ⟨some 78, .load1, [.t 77], none⟩,
  ⟨some 79, .bin .neq, [.t 78, .c (.int .i64 0)], none⟩]
def a10r21 : List IOp := [⟨some 80, .mv, [.t 16], none⟩,
  ⟨some 81, .loadA 4, [.t 6], none⟩,
  ⟨some 82, .mv, [.t 2], none⟩,
  ⟨some 83, .mv, [.t 17], none⟩,
  ⟨some 84, .call 21, [.t 81, .t 82, .t 83], none⟩,
  ⟨some 85, .append 40 3 24, [.t 80, .t 84], none⟩,
  ⟨some 16, .mv, [.t 85], none⟩]
def a10r22 : List IOp := [⟨some 86, .mv, [.t 16], none⟩,
  ⟨some 10, .mv, [.t 86], none⟩,
  ⟨some 11, .mv, [.c (.int .i64 0)], none⟩]
def a10 : AFunc := ⟨87, [.tmp 10, .tmp 11], (.seq (.region a10r0 [2, 3, 4, 5, 6]) (.seq (.seq (.region a10r1 [2, 3, 4, 5, 6, 12]) (.seq (.region a10r2 [2, 3, 4, 5, 6, 12, 21]) (.cond (.t 21) (.seq (.region a10r3 [10, 11]) .ret) .skip))) (.seq (.seq (.region a10r4 [2, 3, 4, 5, 6, 13]) (.seq (.region a10r5 [2, 3, 4, 5, 6, 13, 26]) (.cond (.t 26) (.seq (.region a10r6 [10, 11]) .ret) .skip))) (.seq (.seq (.region a10r7 [2, 3, 4, 5, 6, 41]) (.cond (.t 41) (.seq (.region a10r8 [10, 11]) .ret) .skip)) (.seq (.seq (.region a10r9 [2, 3, 4, 5, 6, 44]) (.cond (.t 44) (.seq (.region a10r10 [10, 11]) .ret) .skip)) (.seq (.seq (.region a10r11 [2, 3, 4, 5, 6, 15]) (.seq (.region a10r12 [2, 3, 4, 5, 6, 15, 52]) (.cond (.t 52) (.seq (.region a10r13 [10, 11]) .ret) .skip))) (.seq (.region a10r14 [2, 3, 4, 5, 6, 16]) (.seq (.seq (.region a10r15 [2, 3, 4, 5, 6, 16, 56]) (.cond (.t 56) (.region a10r16 [2, 3, 4, 5, 6, 16]) .skip)) (.seq (.region a10r17 [2, 5, 6, 16, 17]) (.seq (.seq (.region a10r18 [2, 5, 6, 16, 17, 69]) (.cond (.t 69) (.region a10r19 [2, 6, 16, 17]) .skip)) (.seq (.seq (.region a10r20 [2, 6, 16, 17, 79]) (.cond (.t 79) (.region a10r21 [16]) .skip)) (.seq (.region a10r22 [10, 11]) .ret))))))))))))⟩
theorem a10_ok : compileF Tryz.prog (lk [(0, ⟨[2, 3, 4, 5, 6], [], []⟩), (1, ⟨[2, 3, 4, 5, 6, 12], [], []⟩), (2, ⟨[2, 3, 4, 5, 6, 12, 21], [], []⟩), (3, ⟨[10, 11], [], []⟩), (4, ⟨[2, 3, 4, 5, 6, 13], [], []⟩), (5, ⟨[2, 3, 4, 5, 6, 13, 26], [], []⟩), (6, ⟨[10, 11], [], []⟩), (7, ⟨[2, 3, 4, 5, 6, 41], [], []⟩), (8, ⟨[10, 11], [], []⟩), (9, ⟨[2, 3, 4, 5, 6, 44], [], []⟩), (10, ⟨[10, 11], [], []⟩), (11, ⟨[2, 3, 4, 5, 6, 15], [], []⟩), (12, ⟨[2, 3, 4, 5, 6, 15, 52], [], []⟩), (13, ⟨[10, 11], [], []⟩), (14, ⟨[2, 3, 4, 5, 6, 16], [], []⟩), (15, ⟨[2, 3, 4, 5, 6, 16, 56], [], []⟩), (16, ⟨[2, 3, 4, 5, 6, 16], [], []⟩), (17, ⟨[2, 5, 6, 16, 17], [], []⟩), (18, ⟨[2, 5, 6, 16, 17, 69], [], []⟩), (19, ⟨[2, 6, 16, 17], [], []⟩), (20, ⟨[2, 6, 16, 17, 79], [], []⟩), (21, ⟨[16], [], []⟩), (22, ⟨[10, 11], [], []⟩)]) Tryz.f10 = some a10 := by kernel_rfl

/- payroll/payrolllaw14.sane -/
def a11r0 : List IOp := [⟨some 0, .mv, [.c (.bool false)], none⟩]
def a11r1 : List IOp := [⟨some 6, .build [.int .i64 0, .int .i64 0] [(0, 1), (1, 1)], [.c (.int .i64 6660), .c (.int .i64 7080)], none⟩,
  ⟨some 7, .bslice 53 2 [.int .i64 0, .int .i64 0] 1 [0], [.t 6], none⟩,
  ⟨some 8, .build [.int .i64 0, .nils] [(0, 1), (1, 1)], [.c (.int .i64 4), .t 7], none⟩,
  ⟨some 9, .build [.int .i64 0, .int .i64 0] [(0, 1), (1, 1)], [.c (.int .i64 7500), .c (.int .i64 7600)], none⟩,
  ⟨some 10, .bslice 53 2 [.int .i64 0, .int .i64 0] 1 [0], [.t 9], none⟩,
  ⟨some 11, .build [.int .i64 0, .nils] [(0, 1), (1, 1)], [.c (.int .i64 5), .t 10], none⟩,
  ⟨some 12, .bslice 45 2 [.int .i64 0, .nils] 2 [0, 1], [.t 8, .t 11], none⟩,
  ⟨some 1, .mv, [.t 12], none⟩]
def a11r2 : List IOp := [⟨some 14, .build [.int .i64 0, .nils] [], [], none⟩,
  ⟨some 15, .build [.int .i64 0, .int .i64 0, .int .i64 0, .int .i64 0] [(0, 1)], [.c (.int .i64 660)], none⟩,
  ⟨some 16, .mv, [.t 1], none⟩,
  ⟨some 17, .call 10, [.t 14, .t 15, .t 16, .c (.int .i64 0), .c (.int .i64 10)], none⟩,
  ⟨some 13, .mv, [.t 17], none⟩,
  ⟨some 18, .extract 0, [.t 13], none⟩,
  ⟨some 19, .extract 1, [.t 13], none⟩,
  ⟨some 2, .mv, [.t 18], none⟩,
  ⟨some 3, .mv, [.t 19], none⟩]
def a11r3 : List IOp := [⟨some 21, .build [.int .i64 0, .nils] [], [], none⟩,
  ⟨some 22, .build [.int .i64 0, .int .i64 0, .int .i64 0, .int .i64 0] [(2, 1), (3, 1)], [.c (.int .i64 100), .c (.int .i64 1)], none⟩,
  ⟨some 23, .mv, [.t 1], none⟩,
  ⟨some 24, .call 10, [.t 21, .t 22, .t 23, .c (.int .i64 4), .c (.int .i64 10)], none⟩,
  ⟨some 20, .mv, [.t 24], none⟩,
  ⟨some 25, .extract 0, [.t 20], none⟩,
  ⟨some 26, .extract 1, [.t 20], none⟩,
  ⟨some 4, .mv, [.t 25], none⟩,
  ⟨some 5, .mv, [.t 26], none⟩]
def a11r4 : List IOp := [⟨some 27, .mv, [.t 3], none⟩,
  ⟨some 28, .bin .eql, [.t 27, .c (.int .i64 0)], none⟩,
  ⟨some 29, .mv, [.t 28], none⟩,
  ⟨some 30, .mv, [.t 2], some (29, true)⟩,
  ⟨some 31, .len, [.t 30], some (29, true)⟩,
  ⟨some 32, .bin .eql, [.t 31, .c (.int .i64 1)], some (29, true)⟩,
  ⟨some 33, .pick, [.t 29, .t 32, .c (.bool false)], none⟩,
  ⟨some 34, .mv, [.t 33], none⟩,
  ⟨some 35, .mv, [.t 2], some (34, true)⟩,
  ⟨some 36, .indexAddr 3, [.t 35, .c (.int .i64 0)], some (34, true)⟩,
  ⟨some 37, .loadA 3, [.t 36], some (34, true)⟩,
  ⟨some 38, .build [.int .i64 0, .int .i64 0, .int .i64 0] [(0, 1), (1, 1), (2, 1)], [.c (.int .i64 1), .c (.int .i64 5), .c (.int .i64 420)], some (34, true)⟩,
  ⟨some 39, .eqA false [.int .i64, .int .i64, .int .i64], [.t 37, .t 38], some (34, true)⟩,
  ⟨some 40, .pick, [.t 34, .t 39, .c (.bool false)], none⟩,
  ⟨some 41, .mv, [.t 40], none⟩,
  ⟨some 42, .mv, [.t 5], some (41, true)⟩,
  ⟨some 43, .bin .eql, [.t 42, .c (.int .i64 0)], some (41, true)⟩,
  ⟨some 44, .pick, [.t 41, .t 43, .c (.bool false)], none⟩,
  ⟨some 45, .mv, [.t 44], none⟩,
  ⟨some 46, .mv, [.t 4], some (45, true)⟩,
  ⟨some 47, .len, [.t 46], some (45, true)⟩,
  ⟨some 48, .bin .eql, [.t 47, .c (.int .i64 1)], some (45, true)⟩,
  ⟨some 49, .pick, [.t 45, .t 48, .c (.bool false)], none⟩,
  ⟨some 50, .mv, [.t 49], none⟩,
  ⟨some 51, .mv, [.t 4], some (50, true)⟩,
  ⟨some 52, .indexAddr 3, [.t 51, .c (.int .i64 0)], some (50, true)⟩,
  ⟨some 53, .loadA 3, [.t 52], some (50, true)⟩,
  ⟨some 54, .build [.int .i64 0, .int .i64 0, .int .i64 0] [(0, 1), (1, 1), (2, 1)], [.c (.int .i64 3), .c (.int .i64 4), .c (.int .i64 520)], some (50, true)⟩,
  ⟨some 55, .eqA false [.int .i64, .int .i64, .int .i64], [.t 53, .t 54], some (50, true)⟩,
  ⟨some 56, .pick, [.t 50, .t 55, .c (.bool false)], none⟩,
  ⟨some 57, .mv, [.t 56], none⟩,
  ⟨some 58, .build [.int .i64 0, .int .i64 0, .int .i64 0, .int .i64 0] [(3, 1)], [.c (.int .i64 1)], some (57, true)⟩,
  ⟨some 59, .call 16, [.t 58], some (57, true)⟩,
  ⟨some 60, .bin .eql, [.t 59, .c (.int .i64 1)], some (57, true)⟩,
  ⟨some 61, .pick, [.t 57, .t 60, .c (.bool false)], none⟩,
  ⟨some 0, .mv, [.t 61], none⟩]
def a11 : AFunc := ⟨62, [.tmp 0], (.seq (.region a11r0 []) (.seq (.region a11r1 [1]) (.seq (.region a11r2 [1, 2, 3]) (.seq (.region a11r3 [2, 3, 4, 5]) (.seq (.region a11r4 [0]) .ret)))))⟩
theorem a11_ok : compileF Tryz.prog (lk [(0, ⟨[], [], []⟩), (1, ⟨[1], [], []⟩), (2, ⟨[1, 2, 3], [], []⟩), (3, ⟨[2, 3, 4, 5], [], []⟩), (4, ⟨[0], [], []⟩)]) Tryz.f11 = some a11 := by kernel_rfl

/- payroll/payrollref12.Monday -/
def a12r0 : List IOp := [⟨some 2, .mv, [.c (.int .i64 0)], none⟩]
def a12r1 : List IOp := [⟨some 3, .mv, [.t 0], none⟩,
  ⟨some 4, .mv, [.t 0], none⟩,
  ⟨some 5, .bin .add, [.t 4, .c (.int .i64 3)], none⟩,
  ⟨some 6, .bin .rem, [.t 5, .c (.int .i64 7)], none⟩,
  ⟨some 7, .bin .sub, [.t 3, .t 6], none⟩,
  ⟨some 2, .mv, [.t 7], none⟩]
def a12 : AFunc := ⟨8, [.tmp 2], (.seq (.region a12r0 [0]) (.seq (.region a12r1 [2]) .ret))⟩
theorem a12_ok : compileF Tryz.prog (lk [(0, ⟨[0], [], []⟩), (1, ⟨[2], [], []⟩)]) Tryz.f12 = some a12 := by kernel_rfl

/- payroll/payrollgen.Minutes -/
def a13r0 : List IOp := [⟨some 2, .mv, [.c (.int .i64 0)], none⟩]
def a13r1 : List IOp := [⟨some 3, .mv, [.c (.int .i64 0)], none⟩]
def a13r2 : List IOp := [⟨some 4, .mv, [.c (.int .i64 0)], none⟩]
def a13r3 : List IOp := [⟨some 5, .mv, [.t 4], none⟩,
  ⟨some 6, .mv, [.t 0], none⟩,
  ⟨some 7, .len, [.t 6], none⟩,
  ⟨some 8, .bin .lss, [.t 5, .t 7], none⟩]
def a13r4 : List IOp := [⟨some 11, .mv, [.t 0], none⟩,
  ⟨some 12, .mv, [.t 4], none⟩,
  ⟨some 13, .indexAddr 2, [.t 11, .t 12], none⟩,
  ⟨some 14, .loadA 2, [.t 13], none⟩,
  ⟨some 15, .call 22, [.t 14], none⟩]
def a13r5 : List (Nat × DOp) := [(0, ⟨⟨some 16, .mv, [.t 3], none⟩, none, [1, 2, 3, 4, 5, 6, 7, 8, 9, 10, 11]⟩),
  (1, ⟨⟨some 17, .mv, [.t 0], none⟩, none, [0, 2, 6, 7, 8, 9, 10]⟩),
  (2, ⟨⟨some 18, .mv, [.t 4], none⟩, none, [0, 1, 6, 7, 8, 9, 10]⟩),
  (3, ⟨⟨some 19, .indexAddr 2, [.t 17, .t 18], none⟩, none, [0, 6, 7, 8, 9, 10]⟩),
  (4, ⟨⟨some 20, .fieldAddr 1, [.t 19], none⟩, none, [0, 6, 7, 8, 9, 10]⟩),
  (5, ⟨⟨some 21, .load1, [.t 20], none⟩, none, [0, 6, 7, 8, 9, 10]⟩),
  (6, ⟨⟨some 22, .mv, [.t 0], none⟩, none, [0, 1, 2, 3, 4, 5, 7]⟩),
  (7, ⟨⟨some 23, .mv, [.t 4], none⟩, none, [0, 1, 2, 3, 4, 5, 6]⟩),
  (8, ⟨⟨some 24, .indexAddr 2, [.t 22, .t 23], none⟩, none, [0, 1, 2, 3, 4, 5]⟩),
  (9, ⟨⟨some 25, .fieldAddr 0, [.t 24], none⟩, none, [0, 1, 2, 3, 4, 5]⟩),
  (10, ⟨⟨some 26, .load1, [.t 25], none⟩, none, [0, 1, 2, 3, 4, 5]⟩),
  (11, ⟨⟨some 27, .bin .sub, [.t 21, .t 26], none⟩, none, [0]⟩),
  (12, ⟨⟨some 28, .bin .add, [.t 16, .t 27], none⟩, none, []⟩),
  (13, ⟨⟨some 3, .mv, [.t 28], none⟩, none, []⟩)]
def a13r6 : List IOp := [⟨some 9, .mv, [.t 4], none⟩,
  ⟨some 10, .bin .add, [.t 9, .c (.int .i64 1)], none⟩,
  ⟨some 4, .mv, [.t 10], none⟩]
def a13r7 : List IOp := [⟨some 29, .mv, [.t 3], none⟩,
  ⟨some 2, .mv, [.t 29], none⟩]
def a13 : AFunc := ⟨30, [.tmp 2], (.seq (.region a13r0 [0]) (.seq (.region a13r1 [0, 3]) (.seq (.seq (.region a13r2 [0, 3, 4]) (.block 0 (.loop (.seq (.seq (.region a13r3 [0, 3, 4, 8]) (.cond (.t 8) .skip (.exit 0))) (.seq (.block 1 (.seq (.region a13r4 [0, 3, 4, 15]) (.cond (.t 15) (.draw a13r5 [] [0, 3, 4]) .skip))) (.region a13r6 [0, 3, 4])))))) (.seq (.region a13r7 [2]) .ret))))⟩
theorem a13_ok : compileF Tryz.prog (lk [(0, ⟨[0], [], []⟩), (1, ⟨[0, 3], [], []⟩), (2, ⟨[0, 3, 4], [], []⟩), (3, ⟨[0, 3, 4, 8], [], []⟩), (4, ⟨[0, 3, 4], [], []⟩), (5, ⟨[0, 3, 4, 15], [], []⟩), (6, ⟨[0, 3, 4], [[], [], [], [1, 2], [3, 1, 2], [4, 3, 1, 2], [], [], [6, 7], [8, 6, 7], [9, 8, 6, 7], [5, 10, 4, 3, 1, 2, 9, 8, 6, 7], [0, 11, 5, 10, 4, 3, 1, 2, 9, 8, 6, 7], [12, 0, 1, 2, 3, 4, 5, 6, 7, 8, 9, 10, 11]], [0, 1, 2, 3, 4, 5, 6, 7, 8, 9, 10, 11, 12, 13]⟩), (7, ⟨[2], [], []⟩)]) Tryz.f13 = some a13 := by kernel_rfl

/- (*payroll/payrollgen.Tape).Pick -/
def a14r0 : List IOp := [⟨some 4, .mv, [.c (.int .i64 0)], none⟩]
def a14r1 : List IOp := [⟨some 5, .mv, [.t 1], none⟩,
  ⟨some 6, .mv, [.t 0], none⟩,
  ⟨some 7, .mv, [.t 1], none⟩,
  ⟨some 8, .len, [.t 7], none⟩,
  ⟨some 9, .call 8, [.t 6, .t 8], none⟩,
  ⟨some 10, .indexAddr 1, [.t 5, .t 9], none⟩,
  ⟨some 11, .load1, [.t 10], none⟩,
  ⟨some 4, .mv, [.t 11], none⟩]
def a14 : AFunc := ⟨12, [.tmp 4], (.seq (.region a14r0 [0, 1]) (.seq (.region a14r1 [4]) .ret))⟩
theorem a14_ok : compileF Tryz.prog (lk [(0, ⟨[0, 1], [], []⟩), (1, ⟨[4], [], []⟩)]) Tryz.f14 = some a14 := by kernel_rfl

/- payroll/clock.Valid -/
def a15r0 : List IOp := [⟨some 1, .box 27 2, [.t 0], none⟩,
  ⟨some 2, .mv, [.c (.int .i64 0)], none⟩]
def a15r1 : List IOp := [⟨some 5, .fieldAddr 1, [.t 1], none⟩,
  ⟨some 6, .load1, [.t 5], none⟩,
  ⟨some 7, .len, [.t 6], none⟩,
  ⟨some 8, .bin .gtr, [.t 7, .c (.int .i64 64)], none⟩]
def a15r2 : List IOp := [⟨some 2, .mv, [.c (.int .i64 3)], none⟩]
def a15r3 : List IOp := [⟨some 9, .fieldAddr 0, [.t 1], none⟩,
  ⟨some 10, .load1, [.t 9], none⟩,
  ⟨some 11, .call 23, [.t 10], none⟩,
  ⟨some 12, .not, [.t 11], none⟩]
def a15r4 : List IOp := [⟨some 2, .mv, [.c (.int .i64 2)], none⟩]
def a15r5 : List IOp := [⟨some 13, .fieldAddr 1, [.t 1], none⟩,
  ⟨some 14, .load1, [.t 13], none⟩,
  ⟨some 15, .len, [.t 14], none⟩,
  ⟨some 16, .mv, [.c (.int .i64 0)], none⟩]
def a15r6 : List IOp := [⟨some 17, .bin .lss, [.t 16, .t 15], none⟩]
def a15r7 : List IOp := [⟨some 18, .mv, [.t 16], none⟩,
  ⟨some 19, .indexAddr 2, [.t 14, .t 16], none⟩,
  ⟨some 20, .loadA 2, [.t 19], none⟩,
  ⟨some 4, .alloc 51 [.int .i64 0, .int .i64 0], [], none⟩,
  ⟨some 3, .mv, [.t 18], none⟩,
  ⟨none, .store 2, [.t 4, .t 20], none⟩]
def a15r8 : List IOp := [⟨some 21, .fieldAddr 0, [.t 4], none⟩,
  ⟨some 22, .load1, [.t 21], none⟩,
  ⟨some 23, .bin .lss, [.t 22, .c (.int .i64 0)], none⟩,
  ⟨some 24, .mv, [.t 23], none⟩,
  ⟨some 25, .fieldAddr 0, [.t 4], some (24, false)⟩,
  ⟨some 26, .load1, [.t 25], some (24, false)⟩,
  ⟨some 27, .bin .gtr, [.t 26, .c (.int .i64 120968639)], some (24, false)⟩,
  ⟨some 28, .pick, [.t 24, .c (.bool true), .t 27], none⟩,
  ⟨some 29, .mv, [.t 28], none⟩,
  ⟨some 30, .fieldAddr 1, [.t 4], some (29, false)⟩,
  ⟨some 31, .load1, [.t 30], some (29, false)⟩,
  ⟨some 32, .call 23, [.t 31], some (29, false)⟩,
  ⟨some 33, .not, [.t 32], some (29, false)⟩,
  ⟨some 34, .pick, [.t 29, .c (.bool true), .t 33], none⟩]
def a15r9 : List IOp := [⟨some 2, .mv, [.c (.int .i64 2)], none⟩]
def a15r10 : List (Nat × DOp) := [(0, ⟨⟨some 35, .mv, [.t 3], none⟩, none, []⟩),
  (1, ⟨⟨some 36, .bin .gtr, [.t 35, .c (.int .i64 0)], none⟩, none, []⟩),
  (2, ⟨⟨some 37, .mv, [.t 36], none⟩, none, []⟩),
  (3, ⟨⟨some 38, .fieldAddr 0, [.t 4], some (37, true)⟩, none, [5, 6, 7, 8, 9, 10, 11]⟩),
  (4, ⟨⟨some 39, .load1, [.t 38], some (37, true)⟩, none, [5, 6, 7, 8, 9, 10, 11]⟩),
  (5, ⟨⟨some 40, .fieldAddr 1, [.t 1], some (37, true)⟩, none, [3, 4, 7, 8]⟩),
  (6, ⟨⟨some 41, .load1, [.t 40], some (37, true)⟩, none, [3, 4, 7, 8]⟩),
  (7, ⟨⟨some 42, .mv, [.t 3], some (37, true)⟩, none, [3, 4, 5, 6]⟩),
  (8, ⟨⟨some 43, .bin .sub, [.t 42, .c (.int .i64 1)], some (37, true)⟩, none, [3, 4, 5, 6]⟩),
  (9, ⟨⟨some 44, .indexAddr 2, [.t 41, .t 43], some (37, true)⟩, none, [3, 4]⟩),
  (10, ⟨⟨some 45, .fieldAddr 0, [.t 44], some (37, true)⟩, none, [3, 4]⟩),
  (11, ⟨⟨some 46, .load1, [.t 45], some (37, true)⟩, none, [3, 4]⟩),
  (12, ⟨⟨some 47, .bin .leq, [.t 39, .t 46], some (37, true)⟩, none, []⟩),
  (13, ⟨⟨some 48, .pick, [.t 37, .t 47, .c (.bool false)], none⟩, none, []⟩)]
def a15r11 : List IOp := [⟨some 2, .mv, [.c (.int .i64 1)], none⟩]
def a15r12 : List IOp := [⟨some 49, .bin .add, [.t 16, .c (.int .i64 1)], none⟩,
  ⟨some 16, .mv, [.t 49], none⟩]
def a15r13 : List IOp := [⟨some 2, .mv, [.c (.int .i64 0)], none⟩]
def a15 : AFunc := ⟨50, [.tmp 2], (.seq (.region a15r0 [1]) (.seq (.seq (.region a15r1 [1, 8]) (.cond (.t 8) (.seq (.region a15r2 [2]) .ret) .skip)) (.seq (.seq (.region a15r3 [1, 12]) (.cond (.t 12) (.seq (.region a15r4 [2]) .ret) .skip)) (.seq (.seq (.region a15r5 [1, 14, 15, 16]) (.block 0 (.loop (.seq (.region a15r6 [1, 14, 15, 16, 17]) (.seq (.cond (.t 17) .skip (.exit 0)) (.seq (.block 1 (.seq (.region a15r7 [1, 3, 4, 14, 15, 16]) (.seq (.seq (.region a15r8 [1, 3, 4, 14, 15, 16, 34]) (.cond (.t 34) (.seq (.region a15r9 [2]) .ret) .skip)) (.seq (.draw a15r10 [] [1, 14, 15, 16, 48]) (.cond (.t 48) (.seq (.region a15r11 [2]) .ret) .skip))))) (.region a15r12 [1, 14, 15, 16]))))))) (.seq (.region a15r13 [2]) .ret)))))⟩
theorem a15_ok : compileF Tryz.prog (lk [(0, ⟨[1], [], []⟩), (1, ⟨[1, 8], [], []⟩), (2, ⟨[2], [], []⟩), (3, ⟨[1, 12], [], []⟩), (4, ⟨[2], [], []⟩), (5, ⟨[1, 14, 15, 16], [], []⟩), (6, ⟨[1, 14, 15, 16, 17], [], []⟩), (7, ⟨[1, 3, 4, 14, 15, 16], [], []⟩), (8, ⟨[1, 3, 4, 14, 15, 16, 34], [], []⟩), (9, ⟨[2], [], []⟩), (10, ⟨[1, 14, 15, 16, 48], [[], [0], [1, 0], [2, 1, 0], [3, 2, 1, 0], [2, 1, 0], [5, 2, 1, 0], [2, 1, 0], [7, 2, 1, 0], [6, 8, 2, 5, 1, 0, 7], [9, 2, 6, 8, 5, 1, 0, 7], [10, 2, 9, 6, 8, 5, 1, 0, 7], [4, 11, 2, 3, 1, 0, 10, 9, 6, 8, 5, 7], [2, 12, 1, 0, 4, 11, 3, 10, 9, 6, 8, 5, 7]], [0, 1, 2, 3, 4, 5, 6, 7, 8, 9, 10, 11, 12, 13]⟩), (11, ⟨[2], [], []⟩), (12, ⟨[1, 14, 15, 16], [], []⟩), (13, ⟨[2], [], []⟩)]) Tryz.f15 = some a15 := by kernel_rfl

/- payroll/rest.Valid -/
def a16r0 : List IOp := [⟨some 1, .box 33 4, [.t 0], none⟩,
  ⟨some 2, .mv, [.c (.int .i64 0)], none⟩]
def a16r1 : List IOp := [⟨some 3, .fieldAddr 0, [.t 1], none⟩,
  ⟨some 4, .load1, [.t 3], none⟩,
  ⟨some 5, .bin .lss, [.t 4, .c (.int .i64 0)], none⟩,
  ⟨some 6, .mv, [.t 5], none⟩,
  ⟨some 7, .fieldAddr 0, [.t 1], some (6, false)⟩,
  ⟨some 8, .load1, [.t 7], some (6, false)⟩,
  ⟨some 9, .bin .gtr, [.t 8, .c (.int .i64 1440)], some (6, false)⟩,
  ⟨some 10, .pick, [.t 6, .c (.bool true), .t 9], none⟩,
  ⟨some 11, .mv, [.t 10], none⟩,
  ⟨some 12, .fieldAddr 1, [.t 1], some (11, false)⟩,
  ⟨some 13, .load1, [.t 12], some (11, false)⟩,
  ⟨some 14, .bin .lss, [.t 13, .c (.int .i64 0)], some (11, false)⟩,
  ⟨some 15, .pick, [.t 11, .c (.bool true), .t 14], none⟩,
  ⟨some 16, .mv, [.t 15], none⟩,
  ⟨some 17, .fieldAddr 1, [.t 1], some (16, false)⟩,
  ⟨some 18, .load1, [.t 17], some (16, false)⟩,
  ⟨some 19, .bin .gtr, [.t 18, .c (.int .i64 10080)], some (16, false)⟩,
  ⟨some 20, .pick, [.t 16, .c (.bool true), .t 19], none⟩,
  ⟨some 21, .mv, [.t 20], none⟩,
  ⟨some 22, .fieldAddr 2, [.t 1], some (21, false)⟩,
  ⟨some 23, .load1, [.t 22], some (21, false)⟩,
  ⟨some 24, .bin .lss, [.t 23, .c (.int .i64 0)], some (21, false)⟩,
  ⟨some 25, .pick, [.t 21, .c (.bool true), .t 24], none⟩,
  ⟨some 26, .mv, [.t 25], none⟩,
  ⟨some 27, .fieldAddr 2, [.t 1], some (26, false)⟩,
  ⟨some 28, .load1, [.t 27], some (26, false)⟩,
  ⟨some 29, .bin .gtr, [.t 28, .c (.int .i64 10080)], some (26, false)⟩,
  ⟨some 30, .pick, [.t 26, .c (.bool true), .t 29], none⟩,
  ⟨some 31, .mv, [.t 30], none⟩,
  ⟨some 32, .fieldAddr 3, [.t 1], some (31, false)⟩,
  ⟨some 33, .load1, [.t 32], some (31, false)⟩,
  ⟨some 34, .bin .lss, [.t 33, .c (.int .i64 0)], some (31, false)⟩,
  ⟨some 35, .pick, [.t 31, .c (.bool true), .t 34], none⟩,
  ⟨some 36, .mv, [.t 35], none⟩,
  ⟨some 37, .fieldAddr 3, [.t 1], some (36, false)⟩,
  ⟨some 38, .load1, [.t 37], some (36, false)⟩,
  ⟨some 39, .bin .gtr, [.t 38, .c (.int .i64 52)], some (36, false)⟩,
  ⟨some 40, .pick, [.t 36, .c (.bool true), .t 39], none⟩,
  ⟨some 41, .mv, [.t 40], none⟩,
  ⟨some 42, .fieldAddr 3, [.t 1], some (41, false)⟩,
  ⟨some 43, .load1, [.t 42], some (41, false)⟩,
  ⟨some 44, .bin .eql, [.t 43, .c (.int .i64 0)], some (41, false)⟩,
  ⟨some 45, .fieldAddr 2, [.t 1], some (41, false)⟩,
  ⟨some 46, .load1, [.t 45], some (41, false)⟩,
  ⟨some 47, .bin .eql, [.t 46, .c (.int .i64 0)], some (41, false)⟩,
  ⟨some 48, .eqB true, [.t 44, .t 47], some (41, false)⟩,
  ⟨some 49, .pick, [.t 41, .c (.bool true), .t 48], none⟩]
def a16r2 : List IOp := [⟨some 2, .mv, [.c (.int .i64 1)], none⟩]
def a16r3 : List IOp := [⟨some 2, .mv, [.c (.int .i64 0)], none⟩]
def a16 : AFunc := ⟨50, [.tmp 2], (.seq (.region a16r0 [1]) (.seq (.seq (.region a16r1 [49]) (.cond (.t 49) (.seq (.region a16r2 [2]) .ret) .skip)) (.seq (.region a16r3 [2]) .ret)))⟩
theorem a16_ok : compileF Tryz.prog (lk [(0, ⟨[1], [], []⟩), (1, ⟨[49], [], []⟩), (2, ⟨[2], [], []⟩), (3, ⟨[2], [], []⟩)]) Tryz.f16 = some a16 := by kernel_rfl

/- payroll/overtime.Divide -/
def a17r0 : List IOp := [⟨some 2, .box 61 3, [.t 0], none⟩,
  ⟨some 4, .mv, [.c (.nils)], none⟩,
  ⟨some 5, .mv, [.c (.int .i64 0)], none⟩]
def a17r1 : List IOp := [⟨some 15, .loadA 3, [.t 2], none⟩,
  ⟨some 16, .call 24, [.t 15], none⟩,
  ⟨some 6, .mv, [.t 16], none⟩]
def a17r2 : List IOp := [⟨some 17, .mv, [.t 6], none⟩,
  ⟨some 18, .bin .neq, [.t 17, .c (.int .i64 0)], none⟩]
def a17r3 : List IOp := [⟨some 19, .mv, [.t 6], none⟩,
  ⟨some 4, .mv, [.c (.nils)], none⟩,
  ⟨some 5, .mv, [.t 19], none⟩]
def a17r4 : List IOp := [⟨some 21, .mv, [.t 1], none⟩,
  ⟨some 22, .call 25, [.t 21], none⟩,
  ⟨some 20, .mv, [.t 22], none⟩,
  ⟨some 23, .extract 0, [.t 20], none⟩,
  ⟨some 24, .extract 1, [.t 20], none⟩,
  ⟨some 7, .mv, [.t 23], none⟩,
  ⟨some 8, .mv, [.t 24], none⟩]
def a17r5 : List IOp := [⟨some 25, .mv, [.t 8], none⟩,
  ⟨some 26, .bin .neq, [.t 25, .c (.int .i64 0)], none⟩]
def a17r6 : List IOp := [⟨some 27, .mv, [.t 8], none⟩,
  ⟨some 4, .mv, [.c (.nils)], none⟩,
  ⟨some 5, .mv, [.t 27], none⟩]
def a17r7 : List IOp := [⟨some 28, .loadA 3, [.t 2], none⟩,
  ⟨some 29, .mkmap false [.int .i64], [], none⟩,
  ⟨some 30, .mkmap false [.int .i64], [], none⟩,
  ⟨some 31, .build [.str ⟨#[]⟩, .nils, .nils, .nilm, .nilm, .nils] [(0, 3), (3, 1), (4, 1)], [.t 28, .t 29, .t 30], none⟩,
  ⟨some 9, .alloc 74 [.str ⟨#[]⟩, .nils, .nils, .nilm, .nilm, .nils], [], none⟩,
  ⟨none, .store 6, [.t 9, .t 31], none⟩]
def a17r8 : List IOp := [⟨some 32, .mv, [.t 7], none⟩,
  ⟨some 33, .len, [.t 32], none⟩,
  ⟨some 34, .mv, [.c (.int .i64 0)], none⟩]
def a17r9 : List IOp := [⟨some 35, .bin .lss, [.t 34, .t 33], none⟩]
def a17r10 : List IOp := [⟨some 36, .indexAddr 3, [.t 32, .t 34], none⟩,
  ⟨some 37, .loadA 3, [.t 36], none⟩,
  ⟨some 11, .alloc 76 [.int .i64 0, .int .i64 0, .int .i64 0], [], none⟩,
  ⟨none, .store 3, [.t 11, .t 37], none⟩]
def a17r11 : List IOp := [⟨some 38, .fieldAddr 1, [.t 11], none⟩,
  ⟨some 39, .fieldAddr 0, [.t 38], none⟩,
  ⟨some 40, .load1, [.t 39], none⟩,
  ⟨some 12, .mv, [.t 40], none⟩]
def a17r12 : List IOp := [⟨some 41, .mv, [.t 12], none⟩,
  ⟨some 42, .fieldAddr 1, [.t 11], none⟩,
  ⟨some 43, .fieldAddr 1, [.t 42], none⟩,
  ⟨some 44, .load1, [.t 43], none⟩,
  ⟨some 45, .bin .lss, [.t 41, .t 44], none⟩]
def a17r13 : List IOp := [⟨some 47, .fieldAddr 0, [.t 11], none⟩,
  ⟨some 48, .load1, [.t 47], none⟩,
  ⟨some 49, .fieldAddr 1, [.t 11], none⟩,
  ⟨some 50, .fieldAddr 1, [.t 49], none⟩,
  ⟨some 51, .load1, [.t 50], none⟩,
  ⟨some 52, .mv, [.t 12], none⟩,
  ⟨some 53, .bin .sub, [.t 51, .t 52], none⟩,
  ⟨some 54, .call 26, [.t 9, .t 48, .t 53], none⟩,
  ⟨some 46, .mv, [.t 54], none⟩,
  ⟨some 55, .extract 0, [.t 46], none⟩,
  ⟨some 56, .extract 1, [.t 46], none⟩,
  ⟨some 13, .mv, [.t 55], none⟩,
  ⟨some 14, .mv, [.t 56], none⟩]
def a17r14 : List IOp := [⟨some 57, .fieldAddr 0, [.t 11], none⟩,
  ⟨some 58, .load1, [.t 57], none⟩,
  ⟨some 59, .mv, [.t 12], none⟩,
  ⟨some 60, .mv, [.t 12], none⟩,
  ⟨some 61, .mv, [.t 14], none⟩,
  ⟨some 62, .bin .add, [.t 60, .t 61], none⟩,
  ⟨some 63, .build [.int .i64 0, .int .i64 0] [(0, 1), (1, 1)], [.t 59, .t 62], none⟩,
  ⟨some 64, .mv, [.t 13], none⟩,
  ⟨some 65, .build [.int .i64 0, .int .i64 0, .int .i64 0, .str ⟨#[]⟩] [(0, 1), (1, 2), (3, 1)], [.t 58, .t 63, .t 64], none⟩,
  ⟨some 66, .call 27, [.t 9, .t 65], none⟩]
def a17r15 : List IOp := [⟨some 67, .mv, [.t 12], none⟩,
  ⟨some 68, .mv, [.t 14], none⟩,
  ⟨some 69, .bin .add, [.t 67, .t 68], none⟩,
  ⟨some 12, .mv, [.t 69], none⟩]
def a17r16 : List IOp := [⟨some 70, .bin .add, [.t 34, .c (.int .i64 1)], none⟩,
  ⟨some 34, .mv, [.t 70], none⟩]
def a17r17 : List IOp := [⟨some 71, .fieldAddr 5, [.t 9], none⟩,
  ⟨some 72, .load1, [.t 71], none⟩,
  ⟨some 4, .mv, [.t 72], none⟩,
  ⟨some 5, .mv, [.c (.int .i64 0)], none⟩]
def a17 : AFunc := ⟨73, [.tmp 4, .tmp 5], (.seq (.region a17r0 [1, 2]) (.seq (.seq (.region a17r1 [1, 2, 6]) (.seq (.region a17r2 [1, 2, 6, 18]) (.cond (.t 18) (.seq (.region a17r3 [4, 5]) .ret) .skip))) (.seq (.region a17r4 [2, 7, 8]) (.seq (.seq (.region a17r5 [2, 7, 8, 26]) (.cond (.t 26) (.seq (.region a17r6 [4, 5]) .ret) .skip)) (.seq (.region a17r7 [7, 9]) (.seq (.seq (.region a17r8 [9, 32, 33, 34]) (.block 0 (.loop (.seq (.region a17r9 [9, 32, 33, 34, 35]) (.seq (.cond (.t 35) .skip (.exit 0)) (.seq (.block 1 (.seq (.region a17r10 [9, 11, 32, 33, 34]) (.seq (.region a17r11 [9, 11, 12, 32, 33, 34]) (.block 2 (.loop (.seq (.seq (.region a17r12 [9, 11, 12, 32, 33, 34, 45]) (.cond (.t 45) .skip (.exit 2))) (.block 3 (.seq (.region a17r13 [9, 11, 12, 13, 14, 32, 33, 34]) (.seq (.region a17r14 [9, 11, 12, 14, 32, 33, 34]) (.region a17r15 [9, 11, 12, 32, 33, 34])))))))))) (.region a17r16 [9, 32, 33, 34]))))))) (.seq (.region a17r17 [4, 5]) .ret)))))))⟩
theorem a17_ok : compileF Tryz.prog (lk [(0, ⟨[1, 2], [], []⟩), (1, ⟨[1, 2, 6], [], []⟩), (2, ⟨[1, 2, 6, 18], [], []⟩), (3, ⟨[4, 5], [], []⟩), (4, ⟨[2, 7, 8], [], []⟩), (5, ⟨[2, 7, 8, 26], [], []⟩), (6, ⟨[4, 5], [], []⟩), (7, ⟨[7, 9], [], []⟩), (8, ⟨[9, 32, 33, 34], [], []⟩), (9, ⟨[9, 32, 33, 34, 35], [], []⟩), (10, ⟨[9, 11, 32, 33, 34], [], []⟩), (11, ⟨[9, 11, 12, 32, 33, 34], [], []⟩), (12, ⟨[9, 11, 12, 32, 33, 34, 45], [], []⟩), (13, ⟨[9, 11, 12, 13, 14, 32, 33, 34], [], []⟩), (14, ⟨[9, 11, 12, 14, 32, 33, 34], [], []⟩), (15, ⟨[9, 11, 12, 32, 33, 34], [], []⟩), (16, ⟨[9, 32, 33, 34], [], []⟩), (17, ⟨[4, 5], [], []⟩)]) Tryz.f17 = some a17 := by kernel_rfl

/- payroll/rest.daily -/
def a18r0 : List IOp := [⟨some 4, .box 33 4, [.t 0], none⟩,
  ⟨some 8, .mv, [.c (.nils)], none⟩]
def a18r1 : List IOp := [⟨some 9, .mv, [.c (.nils)], none⟩]
def a18r2 : List IOp := [⟨some 10, .mv, [.c (.int .i64 0)], none⟩]
def a18r3 : List IOp := [⟨some 14, .mv, [.t 1], none⟩,
  ⟨some 15, .call 28, [.t 14], none⟩,
  ⟨some 16, .len, [.t 15], none⟩,
  ⟨some 17, .mv, [.c (.int .i64 0)], none⟩]
def a18r4 : List IOp := [⟨some 18, .bin .lss, [.t 17, .t 16], none⟩]
def a18r5 : List IOp := [⟨some 19, .mv, [.t 17], none⟩,
  ⟨some 20, .indexAddr 3, [.t 15, .t 17], none⟩,
  ⟨some 21, .loadA 3, [.t 20], none⟩,
  ⟨some 12, .alloc 85 [.int .i64 0, .int .i64 0, .int .i64 0], [], none⟩,
  ⟨some 11, .mv, [.t 19], none⟩,
  ⟨none, .store 3, [.t 12, .t 21], none⟩]
def a18r6 : List IOp := [⟨some 22, .fieldAddr 1, [.t 12], none⟩,
  ⟨some 23, .fieldAddr 0, [.t 22], none⟩,
  ⟨some 24, .load1, [.t 23], none⟩,
  ⟨some 25, .mv, [.t 10], none⟩,
  ⟨some 26, .bin .sub, [.t 24, .t 25], none⟩,
  ⟨some 27, .minmax true, [.t 26, .c (.int .i64 0)], none⟩,
  ⟨some 13, .mv, [.t 27], none⟩]
def a18r7 : List IOp := [⟨some 28, .mv, [.t 11], none⟩,
  ⟨some 29, .bin .gtr, [.t 28, .c (.int .i64 0)], none⟩,
  ⟨some 30, .mv, [.t 29], none⟩,
  ⟨some 31, .fieldAddr 0, [.t 12], some (30, true)⟩,
  ⟨some 32, .load1, [.t 31], some (30, true)⟩,
  ⟨some 33, .mv, [.t 2], some (30, true)⟩,
  ⟨some 34, .bin .geq, [.t 32, .t 33], some (30, true)⟩,
  ⟨some 35, .pick, [.t 30, .t 34, .c (.bool false)], none⟩,
  ⟨some 36, .mv, [.t 35], none⟩,
  ⟨some 37, .fieldAddr 0, [.t 12], some (36, true)⟩,
  ⟨some 38, .load1, [.t 37], some (36, true)⟩,
  ⟨some 39, .mv, [.t 3], some (36, true)⟩,
  ⟨some 40, .bin .leq, [.t 38, .t 39], some (36, true)⟩,
  ⟨some 41, .pick, [.t 36, .t 40, .c (.bool false)], none⟩,
  ⟨some 42, .mv, [.t 41], none⟩,
  ⟨some 43, .mv, [.t 13], some (42, true)⟩,
  ⟨some 44, .fieldAddr 0, [.t 4], some (42, true)⟩,
  ⟨some 45, .load1, [.t 44], some (42, true)⟩,
  ⟨some 46, .bin .lss, [.t 43, .t 45], some (42, true)⟩,
  ⟨some 47, .pick, [.t 42, .t 46, .c (.bool false)], none⟩]
def a18r8 : List IOp := [⟨some 48, .mv, [.t 9], none⟩,
  ⟨some 49, .fieldAddr 0, [.t 12], none⟩,
  ⟨some 50, .load1, [.t 49], none⟩,
  ⟨some 51, .mv, [.t 13], none⟩,
  ⟨some 52, .build [.int .i64 0, .int .i64 0, .int .i64 0] [(0, 1), (1, 1), (2, 1)], [.c (.int .i64 1), .t 50, .t 51], none⟩,
  ⟨some 53, .bslice 40 3 [.int .i64 0, .int .i64 0, .int .i64 0] 1 [0], [.t 52], none⟩,
  ⟨some 54, .append 40 3 24, [.t 48, .t 53], none⟩,
  ⟨some 9, .mv, [.t 54], none⟩]
def a18r9 : List IOp := [⟨some 55, .mv, [.t 10], none⟩,
  ⟨some 56, .fieldAddr 1, [.t 12], none⟩,
  ⟨some 57, .fieldAddr 1, [.t 56], none⟩,
  ⟨some 58, .load1, [.t 57], none⟩,
  ⟨some 59, .minmax true, [.t 55, .t 58], none⟩,
  ⟨some 10, .mv, [.t 59], none⟩]
def a18r10 : List IOp := [⟨some 60, .bin .add, [.t 17, .c (.int .i64 1)], none⟩,
  ⟨some 17, .mv, [.t 60], none⟩]
def a18r11 : List IOp := [⟨some 61, .mv, [.t 9], none⟩,
  ⟨some 62, .call 29, [.t 61, .c (.fn 30 [])], none⟩]
def a18r12 : List IOp := [⟨some 63, .mv, [.t 9], none⟩,
  ⟨some 8, .mv, [.t 63], none⟩]
def a18 : AFunc := ⟨64, [.tmp 8], (.seq (.region a18r0 [1, 2, 3, 4]) (.seq (.region a18r1 [1, 2, 3, 4, 9]) (.seq (.region a18r2 [1, 2, 3, 4, 9, 10]) (.seq (.seq (.region a18r3 [2, 3, 4, 9, 10, 15, 16, 17]) (.block 0 (.loop (.seq (.region a18r4 [2, 3, 4, 9, 10, 15, 16, 17, 18]) (.seq (.cond (.t 18) .skip (.exit 0)) (.seq (.block 1 (.seq (.region a18r5 [2, 3, 4, 9, 10, 11, 12, 15, 16, 17]) (.seq (.region a18r6 [2, 3, 4, 9, 10, 11, 12, 13, 15, 16, 17]) (.seq (.seq (.region a18r7 [2, 3, 4, 9, 10, 12, 13, 15, 16, 17, 47]) (.cond (.t 47) (.region a18r8 [2, 3, 4, 9, 10, 12, 15, 16, 17]) .skip)) (.region a18r9 [2, 3, 4, 9, 10, 15, 16, 17]))))) (.region a18r10 [2, 3, 4, 9, 10, 15, 16, 17]))))))) (.seq (.region a18r11 [9]) (.seq (.region a18r12 [8]) .ret))))))⟩
theorem a18_ok : compileF Tryz.prog (lk [(0, ⟨[1, 2, 3, 4], [], []⟩), (1, ⟨[1, 2, 3, 4, 9], [], []⟩), (2, ⟨[1, 2, 3, 4, 9, 10], [], []⟩), (3, ⟨[2, 3, 4, 9, 10, 15, 16, 17], [], []⟩), (4, ⟨[2, 3, 4, 9, 10, 15, 16, 17, 18], [], []⟩), (5, ⟨[2, 3, 4, 9, 10, 11, 12, 15, 16, 17], [], []⟩), (6, ⟨[2, 3, 4, 9, 10, 11, 12, 13, 15, 16, 17], [], []⟩), (7, ⟨[2, 3, 4, 9, 10, 12, 13, 15, 16, 17, 47], [], []⟩), (8, ⟨[2, 3, 4, 9, 10, 12, 15, 16, 17], [], []⟩), (9, ⟨[2, 3, 4, 9, 10, 15, 16, 17], [], []⟩), (10, ⟨[2, 3, 4, 9, 10, 15, 16, 17], [], []⟩), (11, ⟨[9], [], []⟩), (12, ⟨[8], [], []⟩)]) Tryz.f18 = some a18 := by kernel_rfl

/- payroll/rest.mondays -/
def a19r0 : List IOp := [⟨some 4, .mv, [.c (.nils)], none⟩]
def a19r1 : List IOp := [⟨some 5, .mv, [.c (.nils)], none⟩]
def a19r2 : List IOp := [⟨some 7, .mv, [.t 0], none⟩,
  ⟨some 8, .mv, [.t 0], none⟩,
  ⟨some 9, .call 32, [.t 8], none⟩,
  ⟨some 10, .bin .sub, [.c (.int .i64 7), .t 9], none⟩,
  ⟨some 11, .bin .rem, [.t 10, .c (.int .i64 7)], none⟩,
  ⟨some 12, .bin .add, [.t 7, .t 11], none⟩,
  ⟨some 6, .mv, [.t 12], none⟩]
def a19r3 : List IOp := [⟨some 13, .mv, [.t 6], none⟩,
  ⟨some 14, .bin .add, [.t 13, .c (.int .i64 6)], none⟩,
  ⟨some 15, .mv, [.t 1], none⟩,
  ⟨some 16, .bin .leq, [.t 14, .t 15], none⟩]
def a19r4 : List IOp := [⟨some 19, .mv, [.t 5], none⟩,
  ⟨some 20, .mv, [.t 6], none⟩,
  ⟨some 21, .bslice 3 1 [.int .i64 0] 1 [0], [.t 20], none⟩,
  ⟨some 22, .append 3 1 8, [.t 19, .t 21], none⟩,
  ⟨some 5, .mv, [.t 22], none⟩]
def a19r5 : List IOp := [⟨some 17, .mv, [.t 6], none⟩,
  ⟨some 18, .bin .add, [.t 17, .c (.int .i64 7)], none⟩,
  ⟨some 6, .mv, [.t 18], none⟩]
def a19r6 : List IOp := [⟨some 23, .mv, [.t 5], none⟩,
  ⟨some 4, .mv, [.t 23], none⟩]
def a19 : AFunc := ⟨24, [.tmp 4], (.seq (.region a19r0 [0, 1]) (.seq (.region a19r1 [0, 1, 5]) (.seq (.seq (.region a19r2 [1, 5, 6]) (.block 0 (.loop (.seq (.seq (.region a19r3 [1, 5, 6, 16]) (.cond (.t 16) .skip (.exit 0))) (.seq (.block 1 (.region a19r4 [1, 5, 6])) (.region a19r5 [1, 5, 6])))))) (.seq (.region a19r6 [4]) .ret))))⟩
theorem a19_ok : compileF Tryz.prog (lk [(0, ⟨[0, 1], [], []⟩), (1, ⟨[0, 1, 5], [], []⟩), (2, ⟨[1, 5, 6], [], []⟩), (3, ⟨[1, 5, 6, 16], [], []⟩), (4, ⟨[1, 5, 6], [], []⟩), (5, ⟨[1, 5, 6], [], []⟩), (6, ⟨[4], [], []⟩)]) Tryz.f19 = some a19 := by kernel_rfl

/- payroll/rest.weekly -/
def a20r0 : List IOp := [⟨some 4, .box 27 2, [.t 0], none⟩,
  ⟨some 5, .box 33 4, [.t 1], none⟩,
  ⟨some 8, .mv, [.c (.nils)], none⟩]
def a20r1 : List IOp := [⟨some 9, .mv, [.c (.nils)], none⟩]
def a20r2 : List IOp := [⟨some 21, .mv, [.t 2], none⟩,
  ⟨some 22, .len, [.t 21], none⟩,
  ⟨some 23, .mv, [.c (.int .i64 0)], none⟩]
def a20r3 : List IOp := [⟨some 24, .bin .lss, [.t 23, .t 22], none⟩]
def a20r4 : List IOp := [⟨some 25, .indexAddr 2, [.t 21, .t 23], none⟩,
  ⟨some 26, .loadA 2, [.t 25], none⟩,
  ⟨some 11, .alloc 45 [.int .i64 0, .nils], [], none⟩,
  ⟨none, .store 2, [.t 11, .t 26], none⟩]
def a20r5 : List IOp := [⟨some 27, .mv, [.t 9], none⟩,
  ⟨some 28, .fieldAddr 1, [.t 11], none⟩,
  ⟨some 29, .load1, [.t 28], none⟩,
  ⟨some 30, .append 53 2 16, [.t 27, .t 29], none⟩,
  ⟨some 9, .mv, [.t 30], none⟩]
def a20r6 : List IOp := [⟨some 31, .bin .add, [.t 23, .c (.int .i64 1)], none⟩,
  ⟨some 23, .mv, [.t 31], none⟩]
def a20r7 : List IOp := [⟨some 32, .mv, [.t 9], none⟩,
  ⟨some 33, .call 33, [.t 32, .c (.fn 34 [])], none⟩]
def a20r8 : List IOp := [⟨some 12, .mv, [.c (.nils)], none⟩]
def a20r9 : List IOp := [⟨some 13, .mv, [.c (.int .i64 0)], none⟩]
def a20r10 : List IOp := [⟨some 34, .mv, [.t 3], none⟩,
  ⟨some 35, .len, [.t 34], none⟩,
  ⟨some 36, .mv, [.c (.int .i64 0)], none⟩]
def a20r11 : List IOp := [⟨some 37, .bin .lss, [.t 36, .t 35], none⟩]
def a20r12 : List IOp := [⟨some 38, .indexAddr 1, [.t 34, .t 36], none⟩,
  ⟨some 39, .load1, [.t 38], none⟩,
  ⟨some 15, .mv, [.t 39], none⟩]
def a20r13 : List IOp := [⟨some 41, .loadA 2, [.t 4], none⟩,
  ⟨some 42, .mv, [.t 15], none⟩,
  ⟨some 43, .call 35, [.t 41, .t 42], none⟩,
  ⟨some 40, .mv, [.t 43], none⟩,
  ⟨some 44, .extract 0, [.t 40], none⟩,
  ⟨some 45, .extract 1, [.t 40], none⟩,
  ⟨some 16, .mv, [.t 44], none⟩,
  ⟨some 17, .mv, [.t 45], none⟩]
def a20r14 : List IOp := [⟨some 47, .loadA 2, [.t 4], none⟩,
  ⟨some 48, .mv, [.t 15], none⟩,
  ⟨some 49, .bin .add, [.t 48, .c (.int .i64 7)], none⟩,
  ⟨some 50, .call 35, [.t 47, .t 49], none⟩,
  ⟨some 46, .mv, [.t 50], none⟩,
  ⟨some 51, .extract 0, [.t 46], none⟩,
  ⟨some 52, .extract 1, [.t 46], none⟩,
  ⟨some 18, .mv, [.t 51], none⟩,
  ⟨some 19, .mv, [.t 52], none⟩]
def a20r15 : List IOp := [⟨some 53, .mv, [.t 13], none⟩,
  ⟨some 54, .mv, [.t 9], none⟩,
  ⟨some 55, .len, [.t 54], none⟩,
  ⟨some 56, .bin .lss, [.t 53, .t 55], none⟩,
  ⟨some 57, .mv, [.t 56], none⟩,
  ⟨some 58, .mv, [.t 9], some (57, true)⟩,
  ⟨some 59, .mv, [.t 13], some (57, true)⟩,
  ⟨some 60, .indexAddr 2, [.t 58, .t 59], some (57, true)⟩,
  ⟨some 61, .fieldAddr 1, [.t 60], some (57, true)⟩,
  ⟨some 62, .load1, [.t 61], some (57, true)⟩,
  ⟨some 63, .mv, [.t 16], some (57, true)⟩,
  ⟨some 64, .bin .leq, [.t 62, .t 63], some (57, true)⟩,
  ⟨some 65, .pick, [.t 57, .t 64, .c (.bool false)], none⟩]
def a20r16 : List IOp := [⟨some 66, .mv, [.t 13], none⟩,
  ⟨some 67, .bin .add, [.t 66, .c (.int .i64 1)], none⟩,
  ⟨some 13, .mv, [.t 67], none⟩]
def a20r17 : List IOp := [⟨some 68, .mv, [.t 9], none⟩,
  ⟨some 69, .mv, [.t 13], none⟩,
  ⟨some 70, .slice true false 2, [.t 68, .t 69], none⟩,
  ⟨some 71, .mv, [.t 16], none⟩,
  ⟨some 72, .mv, [.t 18], none⟩,
  ⟨some 73, .call 36, [.t 70, .t 71, .t 72], none⟩,
  ⟨some 20, .mv, [.t 73], none⟩]
def a20r18 : List IOp := [⟨some 74, .mv, [.t 20], none⟩,
  ⟨some 75, .fieldAddr 1, [.t 5], none⟩,
  ⟨some 76, .load1, [.t 75], none⟩,
  ⟨some 77, .bin .lss, [.t 74, .t 76], none⟩]
def a20r19 : List IOp := [⟨some 78, .mv, [.t 12], none⟩,
  ⟨some 79, .mv, [.t 15], none⟩,
  ⟨some 80, .mv, [.t 20], none⟩,
  ⟨some 81, .build [.int .i64 0, .int .i64 0, .int .i64 0] [(0, 1), (1, 1), (2, 1)], [.c (.int .i64 2), .t 79, .t 80], none⟩,
  ⟨some 82, .bslice 40 3 [.int .i64 0, .int .i64 0, .int .i64 0] 1 [0], [.t 81], none⟩,
  ⟨some 83, .append 40 3 24, [.t 78, .t 82], none⟩,
  ⟨some 12, .mv, [.t 83], none⟩]
def a20r20 : List IOp := [⟨some 84, .bin .add, [.t 36, .c (.int .i64 1)], none⟩,
  ⟨some 36, .mv, [.t 84], none⟩]
def a20r21 : List IOp := [⟨some 85, .mv, [.t 12], none⟩,
  ⟨some 8, .mv, [.t 85], none⟩]
def a20 : AFunc := ⟨86, [.tmp 8], (.seq (.region a20r0 [2, 3, 4, 5]) (.seq (.region a20r1 [2, 3, 4, 5, 9]) (.seq (.seq (.region a20r2 [3, 4, 5, 9, 21, 22, 23]) (.block 0 (.loop (.seq (.region a20r3 [3, 4, 5, 9, 21, 22, 23, 24]) (.seq (.cond (.t 24) .skip (.exit 0)) (.seq (.block 1 (.seq (.region a20r4 [3, 4, 5, 9, 11, 21, 22, 23]) (.region a20r5 [3, 4, 5, 9, 21, 22, 23]))) (.region a20r6 [3, 4, 5, 9, 21, 22, 23]))))))) (.seq (.region a20r7 [3, 4, 5, 9]) (.seq (.region a20r8 [3, 4, 5, 9, 12]) (.seq (.region a20r9 [3, 4, 5, 9, 12, 13]) (.seq (.seq (.region a20r10 [4, 5, 9, 12, 13, 34, 35, 36]) (.block 2 (.loop (.seq (.region a20r11 [4, 5, 9, 12, 13, 34, 35, 36, 37]) (.seq (.cond (.t 37) .skip (.exit 2)) (.seq (.block 3 (.seq (.region a20r12 [4, 5, 9, 12, 13, 15, 34, 35, 36]) (.seq (.region a20r13 [4, 5, 9, 12, 13, 15, 16, 34, 35, 36]) (.seq (.region a20r14 [4, 5, 9, 12, 13, 15, 16, 18, 34, 35, 36]) (.seq (.block 4 (.loop (.seq (.seq (.region a20r15 [4, 5, 9, 12, 13, 15, 16, 18, 34, 35, 36, 65]) (.cond (.t 65) .skip (.exit 4))) (.block 5 (.region a20r16 [4, 5, 9, 12, 13, 15, 16, 18, 34, 35, 36]))))) (.seq (.region a20r17 [4, 5, 9, 12, 13, 15, 20, 34, 35, 36]) (.seq (.region a20r18 [4, 5, 9, 12, 13, 15, 20, 34, 35, 36, 77]) (.cond (.t 77) (.region a20r19 [4, 5, 9, 12, 13, 34, 35, 36]) .skip)))))))) (.region a20r20 [4, 5, 9, 12, 13, 34, 35, 36]))))))) (.seq (.region a20r21 [8]) .ret))))))))⟩
theorem a20_ok : compileF Tryz.prog (lk [(0, ⟨[2, 3, 4, 5], [], []⟩), (1, ⟨[2, 3, 4, 5, 9], [], []⟩), (2, ⟨[3, 4, 5, 9, 21, 22, 23], [], []⟩), (3, ⟨[3, 4, 5, 9, 21, 22, 23, 24], [], []⟩), (4, ⟨[3, 4, 5, 9, 11, 21, 22, 23], [], []⟩), (5, ⟨[3, 4, 5, 9, 21, 22, 23], [], []⟩), (6, ⟨[3, 4, 5, 9, 21, 22, 23], [], []⟩), (7, ⟨[3, 4, 5, 9], [], []⟩), (8, ⟨[3, 4, 5, 9, 12], [], []⟩), (9, ⟨[3, 4, 5, 9, 12, 13], [], []⟩), (10, ⟨[4, 5, 9, 12, 13, 34, 35, 36], [], []⟩), (11, ⟨[4, 5, 9, 12, 13, 34, 35, 36, 37], [], []⟩), (12, ⟨[4, 5, 9, 12, 13, 15, 34, 35, 36], [], []⟩), (13, ⟨[4, 5, 9, 12, 13, 15, 16, 34, 35, 36], [], []⟩), (14, ⟨[4, 5, 9, 12, 13, 15, 16, 18, 34, 35, 36], [], []⟩), (15, ⟨[4, 5, 9, 12, 13, 15, 16, 18, 34, 35, 36, 65], [], []⟩), (16, ⟨[4, 5, 9, 12, 13, 15, 16, 18, 34, 35, 36], [], []⟩), (17, ⟨[4, 5, 9, 12, 13, 15, 20, 34, 35, 36], [], []⟩), (18, ⟨[4, 5, 9, 12, 13, 15, 20, 34, 35, 36, 77], [], []⟩), (19, ⟨[4, 5, 9, 12, 13, 34, 35, 36], [], []⟩), (20, ⟨[4, 5, 9, 12, 13, 34, 35, 36], [], []⟩), (21, ⟨[8], [], []⟩)]) Tryz.f20 = some a20 := by kernel_rfl

/- payroll/rest.average -/
def a21r0 : List IOp := [⟨some 3, .box 33 4, [.t 0], none⟩,
  ⟨some 6, .mv, [.c (.nils)], none⟩]
def a21r1 : List IOp := [⟨some 17, .mkmap false [.int .i64], [], none⟩,
  ⟨some 7, .mv, [.t 17], none⟩]
def a21r2 : List IOp := [⟨some 18, .mv, [.t 1], none⟩,
  ⟨some 19, .len, [.t 18], none⟩,
  ⟨some 20, .mv, [.c (.int .i64 0)], none⟩]
def a21r3 : List IOp := [⟨some 21, .bin .lss, [.t 20, .t 19], none⟩]
def a21r4 : List IOp := [⟨some 22, .indexAddr 2, [.t 18, .t 20], none⟩,
  ⟨some 23, .loadA 2, [.t 22], none⟩,
  ⟨some 9, .alloc 45 [.int .i64 0, .nils], [], none⟩,
  ⟨none, .store 2, [.t 9, .t 23], none⟩]
def a21r5 : List (Nat × DOp) := [(0, ⟨⟨some 24, .fieldAddr 0, [.t 9], none⟩, none, [2, 3, 4]⟩),
  (1, ⟨⟨some 25, .load1, [.t 24], none⟩, none, [2, 3, 4]⟩),
  (2, ⟨⟨some 26, .fieldAddr 0, [.t 9], none⟩, none, [0, 1]⟩),
  (3, ⟨⟨some 27, .load1, [.t 26], none⟩, none, [0, 1]⟩),
  (4, ⟨⟨some 28, .call 32, [.t 27], none⟩, none, [0, 1]⟩),
  (5, ⟨⟨some 29, .bin .sub, [.t 25, .t 28], none⟩, none, []⟩),
  (6, ⟨⟨some 10, .mv, [.t 29], none⟩, none, []⟩)]
def a21r6 : List IOp := [⟨some 30, .fieldAddr 1, [.t 9], none⟩,
  ⟨some 31, .load1, [.t 30], none⟩,
  ⟨some 32, .len, [.t 31], none⟩,
  ⟨some 33, .mv, [.c (.int .i64 0)], none⟩]
def a21r7 : List IOp := [⟨some 34, .bin .lss, [.t 33, .t 32], none⟩]
def a21r8 : List IOp := [⟨some 35, .indexAddr 2, [.t 31, .t 33], none⟩,
  ⟨some 36, .loadA 2, [.t 35], none⟩,
  ⟨some 12, .alloc 53 [.int .i64 0, .int .i64 0], [], none⟩,
  ⟨none, .store 2, [.t 12, .t 36], none⟩]
def a21r9 : List IOp := [⟨some 37, .mv, [.t 7], none⟩,
  ⟨some 38, .mv, [.t 10], none⟩,
  ⟨some 39, .look false false [.int .i64] (.int .i64 0), [.t 37, .t 38], none⟩,
  ⟨some 40, .fieldAddr 1, [.t 12], none⟩,
  ⟨some 41, .load1, [.t 40], none⟩,
  ⟨some 42, .fieldAddr 0, [.t 12], none⟩,
  ⟨some 43, .load1, [.t 42], none⟩,
  ⟨some 44, .bin .sub, [.t 41, .t 43], none⟩,
  ⟨some 45, .bin .add, [.t 39, .t 44], none⟩,
  ⟨none, .mset false [.int .i64], [.t 37, .t 38, .t 45], none⟩]
def a21r10 : List IOp := [⟨some 46, .bin .add, [.t 33, .c (.int .i64 1)], none⟩,
  ⟨some 33, .mv, [.t 46], none⟩]
def a21r11 : List IOp := [⟨some 47, .bin .add, [.t 20, .c (.int .i64 1)], none⟩,
  ⟨some 20, .mv, [.t 47], none⟩]
def a21r12 : List IOp := [⟨some 13, .mv, [.c (.nils)], none⟩]
def a21r13 : List IOp := [⟨some 14, .mv, [.c (.int .i64 0)], none⟩]
def a21r14 : List IOp := [⟨some 48, .mv, [.t 2], none⟩,
  ⟨some 49, .len, [.t 48], none⟩,
  ⟨some 50, .mv, [.c (.int .i64 0)], none⟩]
def a21r15 : List IOp := [⟨some 51, .bin .lss, [.t 50, .t 49], none⟩]
def a21r16 : List IOp := [⟨some 52, .mv, [.t 50], none⟩,
  ⟨some 53, .indexAddr 1, [.t 48, .t 50], none⟩,
  ⟨some 54, .load1, [.t 53], none⟩,
  ⟨some 15, .mv, [.t 52], none⟩,
  ⟨some 16, .mv, [.t 54], none⟩]
def a21r17 : List IOp := [⟨some 55, .mv, [.t 14], none⟩,
  ⟨some 56, .mv, [.t 7], none⟩,
  ⟨some 57, .mv, [.t 16], none⟩,
  ⟨some 58, .look false false [.int .i64] (.int .i64 0), [.t 56, .t 57], none⟩,
  ⟨some 59, .bin .add, [.t 55, .t 58], none⟩,
  ⟨some 14, .mv, [.t 59], none⟩]
def a21r18 : List IOp := [⟨some 60, .mv, [.t 15], none⟩,
  ⟨some 61, .fieldAddr 3, [.t 3], none⟩,
  ⟨some 62, .load1, [.t 61], none⟩,
  ⟨some 63, .bin .geq, [.t 60, .t 62], none⟩]
def a21r19 : List IOp := [⟨some 64, .mv, [.t 14], none⟩,
  ⟨some 65, .mv, [.t 7], none⟩,
  ⟨some 66, .mv, [.t 2], none⟩,
  ⟨some 67, .mv, [.t 15], none⟩,
  ⟨some 68, .fieldAddr 3, [.t 3], none⟩,
  ⟨some 69, .load1, [.t 68], none⟩,
  ⟨some 70, .bin .sub, [.t 67, .t 69], none⟩,
  ⟨some 71, .indexAddr 1, [.t 66, .t 70], none⟩,
  ⟨some 72, .load1, [.t 71], none⟩,
  ⟨some 73, .look false false [.int .i64] (.int .i64 0), [.t 65, .t 72], none⟩,
  ⟨some 74, .bin .sub, [.t 64, .t 73], none⟩,
  ⟨some 14, .mv, [.t 74], none⟩]
def a21r20 : List IOp := [⟨some 75, .mv, [.t 15], none⟩,
  ⟨some 76, .fieldAddr 3, [.t 3], none⟩,
  ⟨some 77, .load1, [.t 76], none⟩,
  ⟨some 78, .bin .sub, [.t 77, .c (.int .i64 1)], none⟩,
  ⟨some 79, .bin .geq, [.t 75, .t 78], none⟩,
  ⟨some 80, .mv, [.t 79], none⟩,
  ⟨some 81, .mv, [.t 14], some (80, true)⟩,
  ⟨some 82, .fieldAddr 2, [.t 3], some (80, true)⟩,
  ⟨some 83, .load1, [.t 82], some (80, true)⟩,
  ⟨some 84, .fieldAddr 3, [.t 3], some (80, true)⟩,
  ⟨some 85, .load1, [.t 84], some (80, true)⟩,
  ⟨some 86, .bin .mul, [.t 83, .t 85], some (80, true)⟩,
  ⟨some 87, .bin .gtr, [.t 81, .t 86], some (80, true)⟩,
  ⟨some 88, .pick, [.t 80, .t 87, .c (.bool false)], none⟩]
def a21r21 : List IOp := [⟨some 89, .mv, [.t 13], none⟩,
  ⟨some 90, .mv, [.t 16], none⟩,
  ⟨some 91, .mv, [.t 14], none⟩,
  ⟨some 92, .build [.int .i64 0, .int .i64 0, .int .i64 0] [(0, 1), (1, 1), (2, 1)], [.c (.int .i64 3), .t 90, .t 91], none⟩,
  ⟨some 93, .bslice 40 3 [.int .i64 0, .int .i64 0, .int .i64 0] 1 [0], [.t 92], none⟩,
  ⟨some 94, .append 40 3 24, [.t 89, .t 93], none⟩,
  ⟨some 13, .mv, [.t 94], none⟩]
def a21r22 : List IOp := [⟨some 95, .bin .add, [.t 50, .c (.int .i64 1)], none⟩,
  ⟨some 50, .mv, [.t 95], none⟩]
def a21r23 : List IOp := [⟨some 96, .mv, [.t 13], none⟩,
  ⟨some 6, .mv, [.t 96], none⟩]
def a21 : AFunc := ⟨97, [.tmp 6], (.seq (.region a21r0 [1, 2, 3]) (.seq (.region a21r1 [1, 2, 3, 7]) (.seq (.seq (.region a21r2 [2, 3, 7, 18, 19, 20]) (.block 0 (.loop (.seq (.region a21r3 [2, 3, 7, 18, 19, 20, 21]) (.seq (.cond (.t 21) .skip (.exit 0)) (.seq (.block 1 (.seq (.region a21r4 [2, 3, 7, 9, 18, 19, 20]) (.seq (.draw a21r5 [] [2, 3, 7, 9, 10, 18, 19, 20]) (.seq (.region a21r6 [2, 3, 7, 10, 18, 19, 20, 31, 32, 33]) (.block 2 (.loop (.seq (.region a21r7 [2, 3, 7, 10, 18, 19, 20, 31, 32, 33, 34]) (.seq (.cond (.t 34) .skip (.exit 2)) (.seq (.block 3 (.seq (.region a21r8 [2, 3, 7, 10, 12, 18, 19, 20, 31, 32, 33]) (.region a21r9 [2, 3, 7, 10, 18, 19, 20, 31, 32, 33]))) (.region a21r10 [2, 3, 7, 10, 18, 19, 20, 31, 32, 33])))))))))) (.region a21r11 [2, 3, 7, 18, 19, 20]))))))) (.seq (.region a21r12 [2, 3, 7, 13]) (.seq (.region a21r13 [2, 3, 7, 13, 14]) (.seq (.seq (.region a21r14 [2, 3, 7, 13, 14, 48, 49, 50]) (.block 4 (.loop (.seq (.region a21r15 [2, 3, 7, 13, 14, 48, 49, 50, 51]) (.seq (.cond (.t 51) .skip (.exit 4)) (.seq (.block 5 (.seq (.region a21r16 [2, 3, 7, 13, 14, 15, 16, 48, 49, 50]) (.seq (.region a21r17 [2, 3, 7, 13, 14, 15, 16, 48, 49, 50]) (.seq (.seq (.region a21r18 [2, 3, 7, 13, 14, 15, 16, 48, 49, 50, 63]) (.cond (.t 63) (.region a21r19 [2, 3, 7, 13, 14, 15, 16, 48, 49, 50]) .skip)) (.seq (.region a21r20 [2, 3, 7, 13, 14, 16, 48, 49, 50, 88]) (.cond (.t 88) (.region a21r21 [2, 3, 7, 13, 14, 48, 49, 50]) .skip)))))) (.region a21r22 [2, 3, 7, 13, 14, 48, 49, 50]))))))) (.seq (.region a21r23 [6]) .ret)))))))⟩
theorem a21_ok : compileF Tryz.prog (lk [(0, ⟨[1, 2, 3], [], []⟩), (1, ⟨[1, 2, 3, 7], [], []⟩), (2, ⟨[2, 3, 7, 18, 19, 20], [], []⟩), (3, ⟨[2, 3, 7, 18, 19, 20, 21], [], []⟩), (4, ⟨[2, 3, 7, 9, 18, 19, 20], [], []⟩), (5, ⟨[2, 3, 7, 9, 10, 18, 19, 20], [[], [0], [], [2], [3, 2], [1, 4, 0, 3, 2], [5, 4, 0, 1, 2, 3]], [0, 1, 2, 3, 4, 5, 6]⟩), (6, ⟨[2, 3, 7, 10, 18, 19, 20, 31, 32, 33], [], []⟩), (7, ⟨[2, 3, 7, 10, 18, 19, 20, 31, 32, 33, 34], [], []⟩), (8, ⟨[2, 3, 7, 10, 12, 18, 19, 20, 31, 32, 33], [], []⟩), (9, ⟨[2, 3, 7, 10, 18, 19, 20, 31, 32, 33], [], []⟩), (10, ⟨[2, 3, 7, 10, 18, 19, 20, 31, 32, 33], [], []⟩), (11, ⟨[2, 3, 7, 18, 19, 20], [], []⟩), (12, ⟨[2, 3, 7, 13], [], []⟩), (13, ⟨[2, 3, 7, 13, 14], [], []⟩), (14, ⟨[2, 3, 7, 13, 14, 48, 49, 50], [], []⟩), (15, ⟨[2, 3, 7, 13, 14, 48, 49, 50, 51], [], []⟩), (16, ⟨[2, 3, 7, 13, 14, 15, 16, 48, 49, 50], [], []⟩), (17, ⟨[2, 3, 7, 13, 14, 15, 16, 48, 49, 50], [], []⟩), (18, ⟨[2, 3, 7, 13, 14, 15, 16, 48, 49, 50, 63], [], []⟩), (19, ⟨[2, 3, 7, 13, 14, 15, 16, 48, 49, 50], [], []⟩), (20, ⟨[2, 3, 7, 13, 14, 16, 48, 49, 50, 88], [], []⟩), (21, ⟨[2, 3, 7, 13, 14, 48, 49, 50], [], []⟩), (22, ⟨[2, 3, 7, 13, 14, 48, 49, 50], [], []⟩), (23, ⟨[6], [], []⟩)]) Tryz.f21 = some a21 := by kernel_rfl

/- payroll/payrollref9.IsInterval -/
def a22r0 : List IOp := [⟨some 1, .box 53 2, [.t 0], none⟩,
  ⟨some 2, .mv, [.c (.bool false)], none⟩]
def a22r1 : List IOp := [⟨some 3, .fieldAddr 0, [.t 1], none⟩,
  ⟨some 4, .load1, [.t 3], none⟩,
  ⟨some 5, .bin .geq, [.t 4, .c (.int .i64 0)], none⟩,
  ⟨some 6, .mv, [.t 5], none⟩,
  ⟨some 7, .fieldAddr 0, [.t 1], some (6, true)⟩,
  ⟨some 8, .load1, [.t 7], some (6, true)⟩,
  ⟨some 9, .fieldAddr 1, [.t 1], some (6, true)⟩,
  ⟨some 10, .load1, [.t 9], some (6, true)⟩,
  ⟨some 11, .bin .lss, [.t 8, .t 10], some (6, true)⟩,
  ⟨some 12, .pick, [.t 6, .t 11, .c (.bool false)], none⟩,
  ⟨some 13, .mv, [.t 12], none⟩,
  ⟨some 14, .fieldAddr 1, [.t 1], some (13, true)⟩,
  ⟨some 15, .load1, [.t 14], some (13, true)⟩,
  ⟨some 16, .bin .leq, [.t 15, .c (.int .i64 120968640)], some (13, true)⟩,
  ⟨some 17, .pick, [.t 13, .t 16, .c (.bool false)], none⟩,
  ⟨some 2, .mv, [.t 17], none⟩]
def a22 : AFunc := ⟨18, [.tmp 2], (.seq (.region a22r0 [1]) (.seq (.region a22r1 [2]) .ret))⟩
theorem a22_ok : compileF Tryz.prog (lk [(0, ⟨[1], [], []⟩), (1, ⟨[2], [], []⟩)]) Tryz.f22 = some a22 := by kernel_rfl

/- payroll/clock.validOffset -/
def a23r0 : List IOp := [⟨some 2, .mv, [.c (.bool false)], none⟩]
def a23r1 : List IOp := [⟨some 3, .mv, [.t 0], none⟩,
  ⟨some 4, .bin .geq, [.t 3, .c (.int .i64 (-840))], none⟩,
  ⟨some 5, .mv, [.t 4], none⟩,
  ⟨some 6, .mv, [.t 0], some (5, true)⟩,
  ⟨some 7, .bin .leq, [.t 6, .c (.int .i64 840)], some (5, true)⟩,
  ⟨some 8, .pick, [.t 5, .t 7, .c (.bool false)], none⟩,
  ⟨some 2, .mv, [.t 8], none⟩]
def a23 : AFunc := ⟨9, [.tmp 2], (.seq (.region a23r0 [0]) (.seq (.region a23r1 [2]) .ret))⟩
theorem a23_ok : compileF Tryz.prog (lk [(0, ⟨[0], [], []⟩), (1, ⟨[2], [], []⟩)]) Tryz.f23 = some a23 := by kernel_rfl

/- payroll/overtime.Valid -/
def a24r0 : List IOp := [⟨some 1, .box 61 3, [.t 0], none⟩,
  ⟨some 2, .mv, [.c (.int .i64 0)], none⟩]
def a24r1 : List IOp := [⟨some 3, .fieldAddr 1, [.t 1], none⟩,
  ⟨some 4, .load1, [.t 3], none⟩,
  ⟨some 5, .len, [.t 4], none⟩,
  ⟨some 6, .bin .gtr, [.t 5, .c (.int .i64 16)], none⟩,
  ⟨some 7, .mv, [.t 6], none⟩,
  ⟨some 8, .fieldAddr 2, [.t 1], some (7, false)⟩,
  ⟨some 9, .load1, [.t 8], some (7, false)⟩,
  ⟨some 10, .len, [.t 9], some (7, false)⟩,
  ⟨some 11, .bin .gtr, [.t 10, .c (.int .i64 16)], some (7, false)⟩,
  ⟨some 12, .pick, [.t 7, .c (.bool true), .t 11], none⟩]
def a24r2 : List IOp := [⟨some 2, .mv, [.c (.int .i64 3)], none⟩]
def a24r3 : List IOp := [⟨some 13, .fieldAddr 0, [.t 1], none⟩,
  ⟨some 14, .load1, [.t 13], none⟩,
  ⟨some 15, .call 37, [.t 14], none⟩,
  ⟨some 16, .not, [.t 15], none⟩,
  ⟨some 17, .mv, [.t 16], none⟩,
  ⟨some 18, .fieldAddr 1, [.t 1], some (17, false)⟩,
  ⟨some 19, .load1, [.t 18], some (17, false)⟩,
  ⟨some 20, .call 38, [.t 19], some (17, false)⟩,
  ⟨some 21, .not, [.t 20], some (17, false)⟩,
  ⟨some 22, .pick, [.t 17, .c (.bool true), .t 21], none⟩,
  ⟨some 23, .mv, [.t 22], none⟩,
  ⟨some 24, .fieldAddr 2, [.t 1], some (23, false)⟩,
  ⟨some 25, .load1, [.t 24], some (23, false)⟩,
  ⟨some 26, .call 38, [.t 25], some (23, false)⟩,
  ⟨some 27, .not, [.t 26], some (23, false)⟩,
  ⟨some 28, .pick, [.t 23, .c (.bool true), .t 27], none⟩]
def a24r4 : List IOp := [⟨some 2, .mv, [.c (.int .i64 1)], none⟩]
def a24r5 : List IOp := [⟨some 2, .mv, [.c (.int .i64 0)], none⟩]
def a24 : AFunc := ⟨29, [.tmp 2], (.seq (.region a24r0 [1]) (.seq (.seq (.region a24r1 [1, 12]) (.cond (.t 12) (.seq (.region a24r2 [2]) .ret) .skip)) (.seq (.seq (.region a24r3 [28]) (.cond (.t 28) (.seq (.region a24r4 [2]) .ret) .skip)) (.seq (.region a24r5 [2]) .ret))))⟩
theorem a24_ok : compileF Tryz.prog (lk [(0, ⟨[1], [], []⟩), (1, ⟨[1, 12], [], []⟩), (2, ⟨[2], [], []⟩), (3, ⟨[28], [], []⟩), (4, ⟨[2], [], []⟩), (5, ⟨[2], [], []⟩)]) Tryz.f24 = some a24 := by kernel_rfl

/- payroll/overtime.spans -/
def a25r0 : List IOp := [⟨some 2, .mv, [.c (.nils)], none⟩,
  ⟨some 3, .mv, [.c (.int .i64 0)], none⟩]
def a25r1 : List IOp := [⟨some 14, .mv, [.t 0], none⟩,
  ⟨some 15, .len, [.t 14], none⟩,
  ⟨some 16, .bin .gtr, [.t 15, .c (.int .i64 1024)], none⟩]
def a25r2 : List IOp := [⟨some 2, .mv, [.c (.nils)], none⟩,
  ⟨some 3, .mv, [.c (.int .i64 3)], none⟩]
def a25r3 : List IOp := [⟨some 17, .mv, [.t 0], none⟩,
  ⟨some 18, .len, [.t 17], none⟩,
  ⟨some 19, .mv, [.c (.int .i64 0)], none⟩]
def a25r4 : List IOp := [⟨some 20, .bin .lss, [.t 19, .t 18], none⟩]
def a25r5 : List IOp := [⟨some 21, .indexAddr 2, [.t 17, .t 19], none⟩,
  ⟨some 22, .loadA 2, [.t 21], none⟩,
  ⟨some 5, .alloc 45 [.int .i64 0, .nils], [], none⟩,
  ⟨none, .store 2, [.t 5, .t 22], none⟩]
def a25r6 : List IOp := [⟨some 23, .fieldAddr 1, [.t 5], none⟩,
  ⟨some 24, .load1, [.t 23], none⟩,
  ⟨some 25, .len, [.t 24], none⟩,
  ⟨some 26, .bin .gtr, [.t 25, .c (.int .i64 1024)], none⟩]
def a25r7 : List IOp := [⟨some 2, .mv, [.c (.nils)], none⟩,
  ⟨some 3, .mv, [.c (.int .i64 3)], none⟩]
def a25r8 : List IOp := [⟨some 27, .bin .add, [.t 19, .c (.int .i64 1)], none⟩,
  ⟨some 19, .mv, [.t 27], none⟩]
def a25r9 : List IOp := [⟨some 6, .mv, [.c (.nils)], none⟩]
def a25r10 : List IOp := [⟨some 28, .mv, [.t 0], none⟩,
  ⟨some 29, .len, [.t 28], none⟩,
  ⟨some 30, .mv, [.c (.int .i64 0)], none⟩]
def a25r11 : List IOp := [⟨some 31, .bin .lss, [.t 30, .t 29], none⟩]
def a25r12 : List IOp := [⟨some 32, .indexAddr 2, [.t 28, .t 30], none⟩,
  ⟨some 33, .loadA 2, [.t 32], none⟩,
  ⟨some 8, .alloc 45 [.int .i64 0, .nils], [], none⟩,
  ⟨none, .store 2, [.t 8, .t 33], none⟩]
def a25r13 : List IOp := [⟨some 34, .fieldAddr 0, [.t 8], none⟩,
  ⟨some 35, .load1, [.t 34], none⟩,
  ⟨some 36, .bin .lss, [.t 35, .c (.int .i64 0)], none⟩,
  ⟨some 37, .mv, [.t 36], none⟩,
  ⟨some 38, .fieldAddr 0, [.t 8], some (37, false)⟩,
  ⟨some 39, .load1, [.t 38], some (37, false)⟩,
  ⟨some 40, .bin .gtr, [.t 39, .c (.int .i64 84005)], some (37, false)⟩,
  ⟨some 41, .pick, [.t 37, .c (.bool true), .t 40], none⟩]
def a25r14 : List IOp := [⟨some 2, .mv, [.c (.nils)], none⟩,
  ⟨some 3, .mv, [.c (.int .i64 1)], none⟩]
def a25r15 : List IOp := [⟨some 42, .fieldAddr 1, [.t 8], none⟩,
  ⟨some 43, .load1, [.t 42], none⟩,
  ⟨some 44, .len, [.t 43], none⟩,
  ⟨some 45, .mv, [.c (.int .i64 0)], none⟩]
def a25r16 : List IOp := [⟨some 46, .bin .lss, [.t 45, .t 44], none⟩]
def a25r17 : List IOp := [⟨some 47, .indexAddr 2, [.t 43, .t 45], none⟩,
  ⟨some 48, .loadA 2, [.t 47], none⟩,
  ⟨some 10, .alloc 53 [.int .i64 0, .int .i64 0], [], none⟩,
  ⟨none, .store 2, [.t 10, .t 48], none⟩]
def a25r18 : List IOp := [⟨some 49, .loadA 2, [.t 10], none⟩,
  ⟨some 50, .call 39, [.t 49], none⟩,
  ⟨some 51, .not, [.t 50], none⟩]
def a25r19 : List IOp := [⟨some 2, .mv, [.c (.nils)], none⟩,
  ⟨some 3, .mv, [.c (.int .i64 1)], none⟩]
def a25r20 : List IOp := [⟨some 52, .mv, [.t 6], none⟩,
  ⟨some 53, .fieldAddr 0, [.t 8], none⟩,
  ⟨some 54, .load1, [.t 53], none⟩,
  ⟨some 55, .loadA 2, [.t 10], none⟩,
  ⟨some 56, .build [.int .i64 0, .int .i64 0, .int .i64 0] [(0, 1), (1, 2)], [.t 54, .t 55], none⟩,
  ⟨some 57, .bslice 76 3 [.int .i64 0, .int .i64 0, .int .i64 0] 1 [0], [.t 56], none⟩,
  ⟨some 58, .append 76 3 24, [.t 52, .t 57], none⟩,
  ⟨some 6, .mv, [.t 58], none⟩]
def a25r21 : List IOp := [⟨some 59, .bin .add, [.t 45, .c (.int .i64 1)], none⟩,
  ⟨some 45, .mv, [.t 59], none⟩]
def a25r22 : List IOp := [⟨some 60, .bin .add, [.t 30, .c (.int .i64 1)], none⟩,
  ⟨some 30, .mv, [.t 60], none⟩]
def a25r23 : List IOp := [⟨some 61, .mv, [.t 6], none⟩,
  ⟨some 62, .call 40, [.t 61, .c (.fn 41 [])], none⟩]
def a25r24 : List IOp := [⟨some 11, .mv, [.c (.int .i64 0)], none⟩]
def a25r25 : List IOp := [⟨some 63, .mv, [.t 6], none⟩,
  ⟨some 64, .len, [.t 63], none⟩,
  ⟨some 65, .mv, [.c (.int .i64 0)], none⟩]
def a25r26 : List IOp := [⟨some 66, .bin .lss, [.t 65, .t 64], none⟩]
def a25r27 : List IOp := [⟨some 67, .mv, [.t 65], none⟩,
  ⟨some 68, .indexAddr 3, [.t 63, .t 65], none⟩,
  ⟨some 69, .loadA 3, [.t 68], none⟩,
  ⟨some 13, .alloc 76 [.int .i64 0, .int .i64 0, .int .i64 0], [], none⟩,
  ⟨some 12, .mv, [.t 67], none⟩,
  ⟨none, .store 3, [.t 13, .t 69], none⟩]
def a25r28 : List (Nat × DOp) := [(0, ⟨⟨some 70, .mv, [.t 12], none⟩, none, []⟩),
  (1, ⟨⟨some 71, .bin .gtr, [.t 70, .c (.int .i64 0)], none⟩, none, []⟩),
  (2, ⟨⟨some 72, .mv, [.t 71], none⟩, none, []⟩),
  (3, ⟨⟨some 73, .fieldAddr 1, [.t 13], some (72, true)⟩, none, [6, 7, 8, 9, 10, 11, 12]⟩),
  (4, ⟨⟨some 74, .fieldAddr 0, [.t 73], some (72, true)⟩, none, [6, 7, 8, 9, 10, 11, 12]⟩),
  (5, ⟨⟨some 75, .load1, [.t 74], some (72, true)⟩, none, [6, 7, 8, 9, 10, 11, 12]⟩),
  (6, ⟨⟨some 76, .mv, [.t 6], some (72, true)⟩, none, [3, 4, 5, 7, 8]⟩),
  (7, ⟨⟨some 77, .mv, [.t 12], some (72, true)⟩, none, [3, 4, 5, 6]⟩),
  (8, ⟨⟨some 78, .bin .sub, [.t 77, .c (.int .i64 1)], some (72, true)⟩, none, [3, 4, 5, 6]⟩),
  (9, ⟨⟨some 79, .indexAddr 3, [.t 76, .t 78], some (72, true)⟩, none, [3, 4, 5]⟩),
  (10, ⟨⟨some 80, .fieldAddr 1, [.t 79], some (72, true)⟩, none, [3, 4, 5]⟩),
  (11, ⟨⟨some 81, .fieldAddr 1, [.t 80], some (72, true)⟩, none, [3, 4, 5]⟩),
  (12, ⟨⟨some 82, .load1, [.t 81], some (72, true)⟩, none, [3, 4, 5]⟩),
  (13, ⟨⟨some 83, .bin .lss, [.t 75, .t 82], some (72, true)⟩, none, []⟩),
  (14, ⟨⟨some 84, .pick, [.t 72, .t 83, .c (.bool false)], none⟩, none, []⟩)]
def a25r29 : List IOp := [⟨some 2, .mv, [.c (.nils)], none⟩,
  ⟨some 3, .mv, [.c (.int .i64 1)], none⟩]
def a25r30 : List IOp := [⟨some 85, .mv, [.t 11], none⟩,
  ⟨some 86, .fieldAddr 1, [.t 13], none⟩,
  ⟨some 87, .fieldAddr 1, [.t 86], none⟩,
  ⟨some 88, .load1, [.t 87], none⟩,
  ⟨some 89, .fieldAddr 1, [.t 13], none⟩,
  ⟨some 90, .fieldAddr 0, [.t 89], none⟩,
  ⟨some 91, .load1, [.t 90], none⟩,
  ⟨some 92, .bin .sub, [.t 88, .t 91], none⟩,
  ⟨some 93, .bin .add, [.t 85, .t 92], none⟩,
  ⟨some 11, .mv, [.t 93], none⟩]
def a25r31 : List IOp := [⟨some 94, .bin .add, [.t 65, .c (.int .i64 1)], none⟩,
  ⟨some 65, .mv, [.t 94], none⟩]
def a25r32 : List IOp := [⟨some 95, .mv, [.t 11], none⟩,
  ⟨some 96, .bin .gtr, [.t 95, .c (.int .i64 100000)], none⟩]
def a25r33 : List IOp := [⟨some 2, .mv, [.c (.nils)], none⟩,
  ⟨some 3, .mv, [.c (.int .i64 3)], none⟩]
def a25r34 : List IOp := [⟨some 97, .mv, [.t 6], none⟩,
  ⟨some 2, .mv, [.t 97], none⟩,
  ⟨some 3, .mv, [.c (.int .i64 0)], none⟩]
def a25 : AFunc := ⟨98, [.tmp 2, .tmp 3], (.seq (.region a25r0 [0]) (.seq (.seq (.region a25r1 [0, 16]) (.cond (.t 16) (.seq (.region a25r2 [2, 3]) .ret) .skip)) (.seq (.seq (.region a25r3 [0, 17, 18, 19]) (.block 0 (.loop (.seq (.region a25r4 [0, 17, 18, 19, 20]) (.seq (.cond (.t 20) .skip (.exit 0)) (.seq (.block 1 (.seq (.region a25r5 [0, 5, 17, 18, 19]) (.seq (.region a25r6 [0, 17, 18, 19, 26]) (.cond (.t 26) (.seq (.region a25r7 [2, 3]) .ret) .skip)))) (.region a25r8 [0, 17, 18, 19]))))))) (.seq (.region a25r9 [0, 6]) (.seq (.seq (.region a25r10 [6, 28, 29, 30]) (.block 2 (.loop (.seq (.region a25r11 [6, 28, 29, 30, 31]) (.seq (.cond (.t 31) .skip (.exit 2)) (.seq (.block 3 (.seq (.region a25r12 [6, 8, 28, 29, 30]) (.seq (.seq (.region a25r13 [6, 8, 28, 29, 30, 41]) (.cond (.t 41) (.seq (.region a25r14 [2, 3]) .ret) .skip)) (.seq (.region a25r15 [6, 8, 28, 29, 30, 43, 44, 45]) (.block 4 (.loop (.seq (.region a25r16 [6, 8, 28, 29, 30, 43, 44, 45, 46]) (.seq (.cond (.t 46) .skip (.exit 4)) (.seq (.block 5 (.seq (.region a25r17 [6, 8, 10, 28, 29, 30, 43, 44, 45]) (.seq (.seq (.region a25r18 [6, 8, 10, 28, 29, 30, 43, 44, 45, 51]) (.cond (.t 51) (.seq (.region a25r19 [2, 3]) .ret) .skip)) (.region a25r20 [6, 8, 28, 29, 30, 43, 44, 45])))) (.region a25r21 [6, 8, 28, 29, 30, 43, 44, 45])))))))))) (.region a25r22 [6, 28, 29, 30]))))))) (.seq (.region a25r23 [6]) (.seq (.region a25r24 [6, 11]) (.seq (.seq (.region a25r25 [6, 11, 63, 64, 65]) (.block 6 (.loop (.seq (.region a25r26 [6, 11, 63, 64, 65, 66]) (.seq (.cond (.t 66) .skip (.exit 6)) (.seq (.block 7 (.seq (.region a25r27 [6, 11, 12, 13, 63, 64, 65]) (.seq (.seq (.draw a25r28 [] [6, 11, 13, 63, 64, 65, 84]) (.cond (.t 84) (.seq (.region a25r29 [2, 3]) .ret) .skip)) (.region a25r30 [6, 11, 63, 64, 65])))) (.region a25r31 [6, 11, 63, 64, 65]))))))) (.seq (.seq (.region a25r32 [6, 96]) (.cond (.t 96) (.seq (.region a25r33 [2, 3]) .ret) .skip)) (.seq (.region a25r34 [2, 3]) .ret))))))))))⟩
theorem a25_ok : compileF Tryz.prog (lk [(0, ⟨[0], [], []⟩), (1, ⟨[0, 16], [], []⟩), (2, ⟨[2, 3], [], []⟩), (3, ⟨[0, 17, 18, 19], [], []⟩), (4, ⟨[0, 17, 18, 19, 20], [], []⟩), (5, ⟨[0, 5, 17, 18, 19], [], []⟩), (6, ⟨[0, 17, 18, 19, 26], [], []⟩), (7, ⟨[2, 3], [], []⟩), (8, ⟨[0, 17, 18, 19], [], []⟩), (9, ⟨[0, 6], [], []⟩), (10, ⟨[6, 28, 29, 30], [], []⟩), (11, ⟨[6, 28, 29, 30, 31], [], []⟩), (12, ⟨[6, 8, 28, 29, 30], [], []⟩), (13, ⟨[6, 8, 28, 29, 30, 41], [], []⟩), (14, ⟨[2, 3], [], []⟩), (15, ⟨[6, 8, 28, 29, 30, 43, 44, 45], [], []⟩), (16, ⟨[6, 8, 28, 29, 30, 43, 44, 45, 46], [], []⟩), (17, ⟨[6, 8, 10, 28, 29, 30, 43, 44, 45], [], []⟩), (18, ⟨[6, 8, 10, 28, 29, 30, 43, 44, 45, 51], [], []⟩), (19, ⟨[2, 3], [], []⟩), (20, ⟨[6, 8, 28, 29, 30, 43, 44, 45], [], []⟩), (21, ⟨[6, 8, 28, 29, 30, 43, 44, 45], [], []⟩), (22, ⟨[6, 28, 29, 30], [], []⟩), (23, ⟨[6], [], []⟩), (24, ⟨[6, 11], [], []⟩), (25, ⟨[6, 11, 63, 64, 65], [], []⟩), (26, ⟨[6, 11, 63, 64, 65, 66], [], []⟩), (27, ⟨[6, 11, 12, 13, 63, 64, 65], [], []⟩), (28, ⟨[6, 11, 13, 63, 64, 65, 84], [[], [0], [1, 0], [2, 1, 0], [3, 2, 1, 0], [4, 2, 3, 1, 0], [2, 1, 0], [2, 1, 0], [7, 2, 1, 0], [6, 8, 2, 1, 0, 7], [9, 2, 6, 8, 1, 0, 7], [10, 2, 9, 6, 8, 1, 0, 7], [11, 2, 10, 9, 6, 8, 1, 0, 7], [5, 12, 2, 4, 3, 1, 0, 11, 10, 9, 6, 8, 7], [2, 13, 1, 0, 5, 12, 4, 3, 11, 10, 9, 6, 8, 7]], [0, 1, 2, 3, 4, 5, 6, 7, 8, 9, 10, 11, 12, 13, 14]⟩), (29, ⟨[2, 3], [], []⟩), (30, ⟨[6, 11, 63, 64, 65], [], []⟩), (31, ⟨[6, 11, 63, 64, 65], [], []⟩), (32, ⟨[6, 96], [], []⟩), (33, ⟨[2, 3], [], []⟩), (34, ⟨[2, 3], [], []⟩)]) Tryz.f25 = some a25 := by kernel_rfl

/- (*payroll/overtime.division).next -/
def a26r0 : List IOp := [⟨some 6, .mv, [.c (.str ⟨#[]⟩)], none⟩,
  ⟨some 7, .mv, [.c (.int .i64 0)], none⟩]
def a26r1 : List (Nat × DOp) := [(0, ⟨⟨some 13, .mv, [.t 0], none⟩, none, [5, 6, 7, 8, 9, 10]⟩),
  (1, ⟨⟨some 14, .nilchk, [.t 13], none⟩, none, [5, 6, 7, 8, 9, 10]⟩),
  (2, ⟨⟨some 15, .fieldAddr 0, [.t 14], none⟩, none, [5, 6, 7, 8, 9, 10]⟩),
  (3, ⟨⟨some 16, .fieldAddr 1, [.t 15], none⟩, none, [5, 6, 7, 8, 9, 10]⟩),
  (4, ⟨⟨some 17, .load1, [.t 16], none⟩, none, [5, 6, 7, 8, 9, 10]⟩),
  (5, ⟨⟨some 18, .mv, [.t 0], none⟩, none, [0, 1, 2, 3, 4, 9]⟩),
  (6, ⟨⟨some 19, .nilchk, [.t 18], none⟩, none, [0, 1, 2, 3, 4, 9]⟩),
  (7, ⟨⟨some 20, .fieldAddr 3, [.t 19], none⟩, none, [0, 1, 2, 3, 4, 9]⟩),
  (8, ⟨⟨some 21, .load1, [.t 20], none⟩, none, [0, 1, 2, 3, 4, 9]⟩),
  (9, ⟨⟨some 22, .mv, [.t 1], none⟩, none, [0, 1, 2, 3, 4, 5, 6, 7, 8]⟩),
  (10, ⟨⟨some 23, .look false false [.int .i64] (.int .i64 0), [.t 21, .t 22], none⟩, none, [0, 1, 2, 3, 4]⟩),
  (11, ⟨⟨some 24, .call 42, [.t 17, .t 23], none⟩, none, []⟩),
  (12, ⟨⟨some 12, .mv, [.t 24], none⟩, none, []⟩),
  (13, ⟨⟨some 25, .extract 0, [.t 12], none⟩, none, [14]⟩),
  (14, ⟨⟨some 26, .extract 1, [.t 12], none⟩, none, [13, 15]⟩),
  (15, ⟨⟨some 8, .mv, [.t 25], none⟩, none, [14]⟩),
  (16, ⟨⟨some 9, .mv, [.t 26], none⟩, none, []⟩)]
def a26r2 : List IOp := [⟨some 27, .mv, [.t 9], none⟩,
  ⟨some 28, .mv, [.t 2], none⟩,
  ⟨some 29, .minmax false, [.t 27, .t 28], none⟩,
  ⟨some 9, .mv, [.t 29], none⟩]
def a26r3 : List IOp := [⟨some 30, .mv, [.t 8], none⟩,
  ⟨some 31, .bin .geq, [.t 30, .c (.int .i64 0)], none⟩]
def a26r4 : List IOp := [⟨some 32, .mv, [.t 0], none⟩,
  ⟨some 33, .nilchk, [.t 32], none⟩,
  ⟨some 34, .fieldAddr 3, [.t 33], none⟩,
  ⟨some 35, .load1, [.t 34], none⟩,
  ⟨some 36, .mv, [.t 1], none⟩,
  ⟨some 37, .look false false [.int .i64] (.int .i64 0), [.t 35, .t 36], none⟩,
  ⟨some 38, .mv, [.t 9], none⟩,
  ⟨some 39, .bin .add, [.t 37, .t 38], none⟩,
  ⟨none, .mset false [.int .i64], [.t 35, .t 36, .t 39], none⟩]
def a26r5 : List IOp := [⟨some 40, .mv, [.t 0], none⟩,
  ⟨some 41, .nilchk, [.t 40], none⟩,
  ⟨some 42, .fieldAddr 0, [.t 41], none⟩,
  ⟨some 43, .fieldAddr 1, [.t 42], none⟩,
  ⟨some 44, .load1, [.t 43], none⟩,
  ⟨some 45, .mv, [.t 8], none⟩,
  ⟨some 46, .indexAddr 2, [.t 44, .t 45], none⟩,
  ⟨some 47, .fieldAddr 0, [.t 46], none⟩,
  ⟨some 48, .load1, [.t 47], none⟩,
  ⟨some 49, .mv, [.t 9], none⟩,
  ⟨some 6, .mv, [.t 48], none⟩,
  ⟨some 7, .mv, [.t 49], none⟩]
def a26r6 : List IOp := [⟨some 50, .mv, [.t 1], none⟩,
  ⟨some 51, .mv, [.t 1], none⟩,
  ⟨some 52, .bin .add, [.t 51, .c (.int .i64 3)], none⟩,
  ⟨some 53, .bin .rem, [.t 52, .c (.int .i64 7)], none⟩,
  ⟨some 54, .bin .sub, [.t 50, .t 53], none⟩,
  ⟨some 10, .mv, [.t 54], none⟩]
def a26r7 : List (Nat × DOp) := [(0, ⟨⟨some 56, .mv, [.t 0], none⟩, none, [5, 6, 7, 8, 9, 10]⟩),
  (1, ⟨⟨some 57, .nilchk, [.t 56], none⟩, none, [5, 6, 7, 8, 9, 10]⟩),
  (2, ⟨⟨some 58, .fieldAddr 0, [.t 57], none⟩, none, [5, 6, 7, 8, 9, 10]⟩),
  (3, ⟨⟨some 59, .fieldAddr 2, [.t 58], none⟩, none, [5, 6, 7, 8, 9, 10]⟩),
  (4, ⟨⟨some 60, .load1, [.t 59], none⟩, none, [5, 6, 7, 8, 9, 10]⟩),
  (5, ⟨⟨some 61, .mv, [.t 0], none⟩, none, [0, 1, 2, 3, 4, 9]⟩),
  (6, ⟨⟨some 62, .nilchk, [.t 61], none⟩, none, [0, 1, 2, 3, 4, 9]⟩),
  (7, ⟨⟨some 63, .fieldAddr 4, [.t 62], none⟩, none, [0, 1, 2, 3, 4, 9]⟩),
  (8, ⟨⟨some 64, .load1, [.t 63], none⟩, none, [0, 1, 2, 3, 4, 9]⟩),
  (9, ⟨⟨some 65, .mv, [.t 10], none⟩, none, [0, 1, 2, 3, 4, 5, 6, 7, 8]⟩),
  (10, ⟨⟨some 66, .look false false [.int .i64] (.int .i64 0), [.t 64, .t 65], none⟩, none, [0, 1, 2, 3, 4]⟩),
  (11, ⟨⟨some 67, .call 42, [.t 60, .t 66], none⟩, none, []⟩),
  (12, ⟨⟨some 55, .mv, [.t 67], none⟩, none, []⟩),
  (13, ⟨⟨some 68, .extract 0, [.t 55], none⟩, none, [14]⟩),
  (14, ⟨⟨some 69, .extract 1, [.t 55], none⟩, none, [13, 15]⟩),
  (15, ⟨⟨some 8, .mv, [.t 68], none⟩, none, [14]⟩),
  (16, ⟨⟨some 11, .mv, [.t 69], none⟩, none, []⟩)]
def a26r8 : List IOp := [⟨some 70, .mv, [.t 9], none⟩,
  ⟨some 71, .mv, [.t 11], none⟩,
  ⟨some 72, .minmax false, [.t 70, .t 71], none⟩,
  ⟨some 9, .mv, [.t 72], none⟩]
def a26r9 : List IOp := [⟨some 73, .mv, [.t 0], none⟩,
  ⟨some 74, .nilchk, [.t 73], none⟩,
  ⟨some 75, .fieldAddr 3, [.t 74], none⟩,
  ⟨some 76, .load1, [.t 75], none⟩,
  ⟨some 77, .mv, [.t 1], none⟩,
  ⟨some 78, .look false false [.int .i64] (.int .i64 0), [.t 76, .t 77], none⟩,
  ⟨some 79, .mv, [.t 9], none⟩,
  ⟨some 80, .bin .add, [.t 78, .t 79], none⟩,
  ⟨none, .mset false [.int .i64], [.t 76, .t 77, .t 80], none⟩]
def a26r10 : List IOp := [⟨some 81, .mv, [.t 0], none⟩,
  ⟨some 82, .nilchk, [.t 81], none⟩,
  ⟨some 83, .fieldAddr 4, [.t 82], none⟩,
  ⟨some 84, .load1, [.t 83], none⟩,
  ⟨some 85, .mv, [.t 10], none⟩,
  ⟨some 86, .look false false [.int .i64] (.int .i64 0), [.t 84, .t 85], none⟩,
  ⟨some 87, .mv, [.t 9], none⟩,
  ⟨some 88, .bin .add, [.t 86, .t 87], none⟩,
  ⟨none, .mset false [.int .i64], [.t 84, .t 85, .t 88], none⟩]
def a26r11 : List IOp := [⟨some 89, .mv, [.t 8], none⟩,
  ⟨some 90, .bin .geq, [.t 89, .c (.int .i64 0)], none⟩]
def a26r12 : List IOp := [⟨some 91, .mv, [.t 0], none⟩,
  ⟨some 92, .nilchk, [.t 91], none⟩,
  ⟨some 93, .fieldAddr 0, [.t 92], none⟩,
  ⟨some 94, .fieldAddr 2, [.t 93], none⟩,
  ⟨some 95, .load1, [.t 94], none⟩,
  ⟨some 96, .mv, [.t 8], none⟩,
  ⟨some 97, .indexAddr 2, [.t 95, .t 96], none⟩,
  ⟨some 98, .fieldAddr 0, [.t 97], none⟩,
  ⟨some 99, .load1, [.t 98], none⟩,
  ⟨some 100, .mv, [.t 9], none⟩,
  ⟨some 6, .mv, [.t 99], none⟩,
  ⟨some 7, .mv, [.t 100], none⟩]
def a26r13 : List IOp := [⟨some 101, .mv, [.t 0], none⟩,
  ⟨some 102, .nilchk, [.t 101], none⟩,
  ⟨some 103, .fieldAddr 0, [.t 102], none⟩,
  ⟨some 104, .fieldAddr 0, [.t 103], none⟩,
  ⟨some 105, .load1, [.t 104], none⟩,
  ⟨some 106, .mv, [.t 9], none⟩,
  ⟨some 6, .mv, [.t 105], none⟩,
  ⟨some 7, .mv, [.t 106], none⟩]
def a26 : AFunc := ⟨107, [.tmp 6, .tmp 7], (.seq (.region a26r0 [0, 1, 2]) (.seq (.draw a26r1 [] [0, 1, 2, 8, 9]) (.seq (.region a26r2 [0, 1, 8, 9]) (.seq (.seq (.region a26r3 [0, 1, 8, 9, 31]) (.cond (.t 31) (.seq (.region a26r4 [0, 8, 9]) (.seq (.region a26r5 [6, 7]) .ret)) .skip)) (.seq (.region a26r6 [0, 1, 9, 10]) (.seq (.draw a26r7 [] [0, 1, 8, 9, 10, 11]) (.seq (.region a26r8 [0, 1, 8, 9, 10]) (.seq (.region a26r9 [0, 8, 9, 10]) (.seq (.region a26r10 [0, 8, 9]) (.seq (.seq (.region a26r11 [0, 8, 9, 90]) (.cond (.t 90) (.seq (.region a26r12 [6, 7]) .ret) .skip)) (.seq (.region a26r13 [6, 7]) .ret)))))))))))⟩
theorem a26_ok : compileF Tryz.prog (lk [(0, ⟨[0, 1, 2], [], []⟩), (1, ⟨[0, 1, 2, 8, 9], [[], [0], [1, 0], [2, 1, 0], [3, 2, 1, 0], [], [5], [6, 5], [7, 6, 5], [], [8, 9, 7, 6, 5], [4, 10, 3, 2, 1, 0, 8, 9, 7, 6, 5], [11, 4, 10, 3, 2, 1, 0, 8, 9, 7, 6, 5], [12, 11, 4, 10, 3, 2, 1, 0, 8, 9, 7, 6, 5], [12, 11, 4, 10, 3, 2, 1, 0, 8, 9, 7, 6, 5], [13, 11, 0, 1, 2, 3, 4, 5, 6, 7, 8, 9, 10, 12], [14, 15, 0, 1, 2, 3, 4, 5, 6, 7, 8, 9, 10, 11, 12, 13]], [0, 1, 2, 3, 4, 5, 6, 7, 8, 9, 10, 11, 12, 13, 14, 15, 16]⟩), (2, ⟨[0, 1, 8, 9], [], []⟩), (3, ⟨[0, 1, 8, 9, 31], [], []⟩), (4, ⟨[0, 8, 9], [], []⟩), (5, ⟨[6, 7], [], []⟩), (6, ⟨[0, 1, 9, 10], [], []⟩), (7, ⟨[0, 1, 8, 9, 10, 11], [[], [0], [1, 0], [2, 1, 0], [3, 2, 1, 0], [], [5], [6, 5], [7, 6, 5], [], [8, 9, 7, 6, 5], [4, 10, 3, 2, 1, 0, 8, 9, 7, 6, 5], [11, 4, 10, 3, 2, 1, 0, 8, 9, 7, 6, 5], [12, 11, 4, 10, 3, 2, 1, 0, 8, 9, 7, 6, 5], [12, 11, 4, 10, 3, 2, 1, 0, 8, 9, 7, 6, 5], [13, 11, 0, 1, 2, 3, 4, 5, 6, 7, 8, 9, 10, 12], [14, 15, 0, 1, 2, 3, 4, 5, 6, 7, 8, 9, 10, 11, 12, 13]], [0, 1, 2, 3, 4, 5, 6, 7, 8, 9, 10, 11, 12, 13, 14, 15, 16]⟩), (8, ⟨[0, 1, 8, 9, 10], [], []⟩), (9, ⟨[0, 8, 9, 10], [], []⟩), (10, ⟨[0, 8, 9], [], []⟩), (11, ⟨[0, 8, 9, 90], [], []⟩), (12, ⟨[6, 7], [], []⟩), (13, ⟨[6, 7], [], []⟩)]) Tryz.f26 = some a26 := by kernel_rfl

/- (*payroll/overtime.division).add -/
def a27r0 : List IOp := [⟨some 3, .box 81 4, [.t 1], none⟩]
def a27r1 : List IOp := [⟨some 6, .mv, [.t 0], none⟩,
  ⟨some 7, .nilchk, [.t 6], none⟩,
  ⟨some 8, .fieldAddr 5, [.t 7], none⟩,
  ⟨some 9, .load1, [.t 8], none⟩,
  ⟨some 10, .len, [.t 9], none⟩,
  ⟨some 4, .mv, [.t 10], none⟩]
def a27r2 : List IOp := [⟨some 11, .mv, [.t 4], none⟩,
  ⟨some 12, .bin .gtr, [.t 11, .c (.int .i64 0)], none⟩]
def a27r3 : List IOp := [⟨some 13, .mv, [.t 0], none⟩,
  ⟨some 14, .nilchk, [.t 13], none⟩,
  ⟨some 15, .fieldAddr 5, [.t 14], none⟩,
  ⟨some 16, .load1, [.t 15], none⟩,
  ⟨some 17, .mv, [.t 4], none⟩,
  ⟨some 18, .bin .sub, [.t 17, .c (.int .i64 1)], none⟩,
  ⟨some 19, .indexAddr 4, [.t 16, .t 18], none⟩,
  ⟨some 5, .mv, [.t 19], none⟩]
def a27r4 : List (Nat × DOp) := [(0, ⟨⟨some 20, .mv, [.t 5], none⟩, none, [4, 5]⟩),
  (1, ⟨⟨some 21, .nilchk, [.t 20], none⟩, none, [4, 5]⟩),
  (2, ⟨⟨some 22, .fieldAddr 0, [.t 21], none⟩, none, [4, 5]⟩),
  (3, ⟨⟨some 23, .load1, [.t 22], none⟩, none, [4, 5]⟩),
  (4, ⟨⟨some 24, .fieldAddr 0, [.t 3], none⟩, none, [0, 1, 2, 3]⟩),
  (5, ⟨⟨some 25, .load1, [.t 24], none⟩, none, [0, 1, 2, 3]⟩),
  (6, ⟨⟨some 26, .bin .eql, [.t 23, .t 25], none⟩, none, []⟩),
  (7, ⟨⟨some 27, .mv, [.t 26], none⟩, none, []⟩),
  (8, ⟨⟨some 28, .mv, [.t 5], some (27, true)⟩, none, [12, 13]⟩),
  (9, ⟨⟨some 29, .nilchk, [.t 28], some (27, true)⟩, none, [12, 13]⟩),
  (10, ⟨⟨some 30, .fieldAddr 3, [.t 29], some (27, true)⟩, none, [12, 13]⟩),
  (11, ⟨⟨some 31, .load1, [.t 30], some (27, true)⟩, none, [12, 13]⟩),
  (12, ⟨⟨some 32, .fieldAddr 3, [.t 3], some (27, true)⟩, none, [8, 9, 10, 11]⟩),
  (13, ⟨⟨some 33, .load1, [.t 32], some (27, true)⟩, none, [8, 9, 10, 11]⟩),
  (14, ⟨⟨some 34, .bin .eql, [.t 31, .t 33], some (27, true)⟩, none, []⟩),
  (15, ⟨⟨some 35, .pick, [.t 27, .t 34, .c (.bool false)], none⟩, none, []⟩),
  (16, ⟨⟨some 36, .mv, [.t 35], none⟩, none, []⟩),
  (17, ⟨⟨some 37, .mv, [.t 5], some (36, true)⟩, none, [22, 23, 24]⟩),
  (18, ⟨⟨some 38, .nilchk, [.t 37], some (36, true)⟩, none, [22, 23, 24]⟩),
  (19, ⟨⟨some 39, .fieldAddr 1, [.t 38], some (36, true)⟩, none, [22, 23, 24]⟩),
  (20, ⟨⟨some 40, .fieldAddr 1, [.t 39], some (36, true)⟩, none, [22, 23, 24]⟩),
  (21, ⟨⟨some 41, .load1, [.t 40], some (36, true)⟩, none, [22, 23, 24]⟩),
  (22, ⟨⟨some 42, .fieldAddr 1, [.t 3], some (36, true)⟩, none, [17, 18, 19, 20, 21]⟩),
  (23, ⟨⟨some 43, .fieldAddr 0, [.t 42], some (36, true)⟩, none, [17, 18, 19, 20, 21]⟩),
  (24, ⟨⟨some 44, .load1, [.t 43], some (36, true)⟩, none, [17, 18, 19, 20, 21]⟩),
  (25, ⟨⟨some 45, .bin .eql, [.t 41, .t 44], some (36, true)⟩, none, []⟩),
  (26, ⟨⟨some 46, .pick, [.t 36, .t 45, .c (.bool false)], none⟩, none, []⟩)]
def a27r5 : List IOp := [⟨some 47, .mv, [.t 5], none⟩,
  ⟨some 48, .fieldAddr 1, [.t 3], none⟩,
  ⟨some 49, .fieldAddr 1, [.t 48], none⟩,
  ⟨some 50, .load1, [.t 49], none⟩,
  ⟨some 51, .nilchk, [.t 47], none⟩,
  ⟨some 52, .fieldAddr 1, [.t 51], none⟩,
  ⟨some 53, .fieldAddr 1, [.t 52], none⟩,
  ⟨none, .store 1, [.t 53, .t 50], none⟩]
def a27r6 : List (Nat × DOp) := [(0, ⟨⟨some 54, .mv, [.t 0], none⟩, none, [1, 2, 3, 4, 5, 6, 7]⟩),
  (1, ⟨⟨some 55, .mv, [.t 0], none⟩, none, [0, 5, 6]⟩),
  (2, ⟨⟨some 56, .nilchk, [.t 55], none⟩, none, [0, 5, 6]⟩),
  (3, ⟨⟨some 57, .fieldAddr 5, [.t 56], none⟩, none, [0, 5, 6]⟩),
  (4, ⟨⟨some 58, .load1, [.t 57], none⟩, none, [0, 5, 6]⟩),
  (5, ⟨⟨some 59, .loadA 4, [.t 3], none⟩, none, [0, 1, 2, 3, 4]⟩),
  (6, ⟨⟨some 60, .bslice 81 4 [.int .i64 0, .int .i64 0, .int .i64 0, .str ⟨#[]⟩] 1 [0], [.t 59], none⟩, some 0, [0, 1, 2, 3, 4]⟩),
  (7, ⟨⟨some 61, .append 81 4 40, [.t 58, .t 60], none⟩, none, [0]⟩),
  (8, ⟨⟨some 62, .nilchk, [.t 54], none⟩, none, []⟩),
  (9, ⟨⟨some 63, .fieldAddr 5, [.t 62], none⟩, none, []⟩),
  (10, ⟨⟨none, .store 1, [.t 63, .t 61], none⟩, none, []⟩)]
def a27 : AFunc := ⟨64, [], (.seq (.region a27r0 [0, 3]) (.seq (.seq (.region a27r1 [0, 3, 4]) (.seq (.region a27r2 [0, 3, 4, 12]) (.cond (.t 12) (.seq (.region a27r3 [0, 3, 5]) (.seq (.draw a27r4 [] [0, 3, 5, 46]) (.cond (.t 46) (.seq (.region a27r5 []) .ret) .skip))) .skip))) (.draw a27r6 [(81, 4)] [])))⟩
theorem a27_ok : compileF Tryz.prog (lk [(0, ⟨[0, 3], [], []⟩), (1, ⟨[0, 3, 4], [], []⟩), (2, ⟨[0, 3, 4, 12], [], []⟩), (3, ⟨[0, 3, 5], [], []⟩), (4, ⟨[0, 3, 5, 46], [[], [0], [1, 0], [2, 1, 0], [], [4], [3, 5, 2, 1, 0, 4], [6, 3, 5, 2, 1, 0, 4], [7, 6, 3, 5, 2, 1, 0, 4], [8, 7, 6, 3, 5, 2, 1, 0, 4], [9, 7, 8, 6, 3, 5, 2, 1, 0, 4], [10, 7, 9, 8, 6, 3, 5, 2, 1, 0, 4], [7, 6, 3, 5, 2, 1, 0, 4], [12, 7, 6, 3, 5, 2, 1, 0, 4], [11, 13, 7, 10, 9, 8, 6, 3, 5, 2, 1, 0, 4, 12], [7, 14, 6, 3, 5, 2, 1, 0, 4, 11, 13, 10, 9, 8, 12], [15, 7, 14, 6, 3, 5, 2, 1, 0, 4, 11, 13, 10, 9, 8, 12], [16, 15, 7, 14, 6, 3, 5, 2, 1, 0, 4, 11, 13, 10, 9, 8, 12], [17, 16, 15, 7, 14, 6, 3, 5, 2, 1, 0, 4, 11, 13, 10, 9, 8, 12], [18, 16, 17, 15, 7, 14, 6, 3, 5, 2, 1, 0, 4, 11, 13, 10, 9, 8, 12], [19, 16, 18, 17, 15, 7, 14, 6, 3, 5, 2, 1, 0, 4, 11, 13, 10, 9, 8, 12], [20, 16, 19, 18, 17, 15, 7, 14, 6, 3, 5, 2, 1, 0, 4, 11, 13, 10, 9, 8, 12], [16, 15, 7, 14, 6, 3, 5, 2, 1, 0, 4, 11, 13, 10, 9, 8, 12], [22, 16, 15, 7, 14, 6, 3, 5, 2, 1, 0, 4, 11, 13, 10, 9, 8, 12], [23, 16, 22, 15, 7, 14, 6, 3, 5, 2, 1, 0, 4, 11, 13, 10, 9, 8, 12], [21, 24, 16, 20, 19, 18, 17, 15, 7, 14, 6, 3, 5, 2, 1, 0, 4, 11, 13, 10, 9, 8, 12, 23, 22], [16, 25, 15, 7, 14, 6, 3, 5, 2, 1, 0, 4, 11, 13, 10, 9, 8, 12, 21, 24, 20, 19, 18, 17, 23, 22]], [0, 1, 2, 3, 4, 5, 6, 7, 8, 9, 10, 11, 12, 13, 14, 15, 16, 17, 18, 19, 20, 21, 22, 23, 24, 25, 26]⟩), (5, ⟨[], [], []⟩), (6, ⟨[], [[], [], [1], [2, 1], [3, 2, 1], [], [5], [4, 6, 3, 2, 1, 5], [0, 1, 2, 3, 4, 5, 6, 7], [8, 0, 1, 2, 3, 4, 5, 6, 7], [9, 7, 0, 1, 2, 3, 4, 5, 6, 8]], [0, 1, 2, 3, 4, 5, 6, 7, 8, 9, 10]⟩)]) Tryz.f27 = some a27 := by kernel_rfl

/- payroll/rest.blocks -/
def a28r0 : List IOp := [⟨some 2, .mv, [.c (.nils)], none⟩]
def a28r1 : List IOp := [⟨some 13, .mkmap false [.int .i64], [], none⟩,
  ⟨some 3, .mv, [.t 13], none⟩]
def a28r2 : List IOp := [⟨some 14, .mv, [.t 0], none⟩,
  ⟨some 15, .len, [.t 14], none⟩,
  ⟨some 16, .mv, [.c (.int .i64 0)], none⟩]
def a28r3 : List IOp := [⟨some 17, .bin .lss, [.t 16, .t 15], none⟩]
def a28r4 : List IOp := [⟨some 18, .indexAddr 2, [.t 14, .t 16], none⟩,
  ⟨some 19, .loadA 2, [.t 18], none⟩,
  ⟨some 5, .alloc 45 [.int .i64 0, .nils], [], none⟩,
  ⟨none, .store 2, [.t 5, .t 19], none⟩]
def a28r5 : List IOp := [⟨some 20, .fieldAddr 1, [.t 5], none⟩,
  ⟨some 21, .load1, [.t 20], none⟩,
  ⟨some 22, .len, [.t 21], none⟩,
  ⟨some 23, .mv, [.c (.int .i64 0)], none⟩]
def a28r6 : List IOp := [⟨some 24, .bin .lss, [.t 23, .t 22], none⟩]
def a28r7 : List IOp := [⟨some 25, .indexAddr 2, [.t 21, .t 23], none⟩,
  ⟨some 26, .loadA 2, [.t 25], none⟩,
  ⟨some 7, .alloc 53 [.int .i64 0, .int .i64 0], [], none⟩,
  ⟨none, .store 2, [.t 7, .t 26], none⟩]
def a28r8 : List IOp := [⟨some 28, .mv, [.t 3], none⟩,
  ⟨some 29, .fieldAddr 0, [.t 5], none⟩,
  ⟨some 30, .load1, [.t 29], none⟩,
  ⟨some 31, .look true false [.int .i64] (.agg [.int .i64 0, .int .i64 0]), [.t 28, .t 30], none⟩,
  ⟨some 27, .mv, [.t 31], none⟩,
  ⟨some 32, .extract 0, [.t 27], none⟩,
  ⟨some 33, .extract 1, [.t 27], none⟩,
  ⟨some 8, .alloc 53 [.int .i64 0, .int .i64 0], [], none⟩,
  ⟨none, .store 2, [.t 8, .t 32], none⟩,
  ⟨some 9, .mv, [.t 33], none⟩]
def a28r9 : List IOp := [⟨some 34, .mv, [.t 9], none⟩,
  ⟨some 35, .not, [.t 34], none⟩]
def a28r10 : List IOp := [⟨some 36, .loadA 2, [.t 7], none⟩,
  ⟨none, .store 2, [.t 8, .t 36], none⟩]
def a28r11 : List IOp := [⟨some 37, .mv, [.t 3], none⟩,
  ⟨some 38, .fieldAddr 0, [.t 5], none⟩,
  ⟨some 39, .load1, [.t 38], none⟩,
  ⟨some 40, .fieldAddr 0, [.t 8], none⟩,
  ⟨some 41, .load1, [.t 40], none⟩,
  ⟨some 42, .fieldAddr 0, [.t 7], none⟩,
  ⟨some 43, .load1, [.t 42], none⟩,
  ⟨some 44, .minmax false, [.t 41, .t 43], none⟩,
  ⟨some 45, .fieldAddr 1, [.t 8], none⟩,
  ⟨some 46, .load1, [.t 45], none⟩,
  ⟨some 47, .fieldAddr 1, [.t 7], none⟩,
  ⟨some 48, .load1, [.t 47], none⟩,
  ⟨some 49, .minmax true, [.t 46, .t 48], none⟩,
  ⟨some 50, .build [.int .i64 0, .int .i64 0] [(0, 1), (1, 1)], [.t 44, .t 49], none⟩,
  ⟨none, .mset false [.int .i64], [.t 37, .t 39, .t 50], none⟩]
def a28r12 : List IOp := [⟨some 51, .bin .add, [.t 23, .c (.int .i64 1)], none⟩,
  ⟨some 23, .mv, [.t 51], none⟩]
def a28r13 : List IOp := [⟨some 52, .bin .add, [.t 16, .c (.int .i64 1)], none⟩,
  ⟨some 16, .mv, [.t 52], none⟩]
def a28r14 : List IOp := [⟨some 10, .mv, [.c (.nils)], none⟩]
def a28r15 : List IOp := [⟨some 53, .mv, [.t 3], none⟩,
  ⟨some 54, .iter, [.t 53], none⟩]
def a28r16 : List IOp := [⟨some 55, .next, [.t 54], none⟩,
  ⟨some 56, .extract 0, [.t 55], none⟩]
def a28r17 : List IOp := [⟨some 57, .entry, [.t 54], none⟩,
  ⟨some 58, .extract 0, [.t 57], none⟩,
  ⟨some 59, .extract 1, [.t 57], none⟩,
  ⟨some 12, .alloc 53 [.int .i64 0, .int .i64 0], [], none⟩,
  ⟨some 11, .mv, [.t 58], none⟩,
  ⟨none, .store 2, [.t 12, .t 59], none⟩]
def a28r18 : List IOp := [⟨some 60, .mv, [.t 10], none⟩,
  ⟨some 61, .mv, [.t 11], none⟩,
  ⟨some 62, .loadA 2, [.t 12], none⟩,
  ⟨some 63, .build [.int .i64 0, .int .i64 0, .int .i64 0] [(0, 1), (1, 2)], [.t 61, .t 62], none⟩,
  ⟨some 64, .bslice 85 3 [.int .i64 0, .int .i64 0, .int .i64 0] 1 [0], [.t 63], none⟩,
  ⟨some 65, .append 85 3 24, [.t 60, .t 64], none⟩,
  ⟨some 10, .mv, [.t 65], none⟩]
def a28r19 : List IOp := [⟨some 66, .mv, [.t 10], none⟩,
  ⟨some 67, .call 43, [.t 66, .c (.fn 44 [])], none⟩]
def a28r20 : List IOp := [⟨some 68, .mv, [.t 10], none⟩,
  ⟨some 2, .mv, [.t 68], none⟩]
def a28 : AFunc := ⟨69, [.tmp 2], (.seq (.region a28r0 [0]) (.seq (.region a28r1 [0, 3]) (.seq (.seq (.region a28r2 [3, 14, 15, 16]) (.block 0 (.loop (.seq (.region a28r3 [3, 14, 15, 16, 17]) (.seq (.cond (.t 17) .skip (.exit 0)) (.seq (.block 1 (.seq (.region a28r4 [3, 5, 14, 15, 16]) (.seq (.region a28r5 [3, 5, 14, 15, 16, 21, 22, 23]) (.block 2 (.loop (.seq (.region a28r6 [3, 5, 14, 15, 16, 21, 22, 23, 24]) (.seq (.cond (.t 24) .skip (.exit 2)) (.seq (.block 3 (.seq (.region a28r7 [3, 5, 7, 14, 15, 16, 21, 22, 23]) (.seq (.region a28r8 [3, 5, 7, 8, 9, 14, 15, 16, 21, 22, 23]) (.seq (.seq (.region a28r9 [3, 5, 7, 8, 14, 15, 16, 21, 22, 23, 35]) (.cond (.t 35) (.region a28r10 [3, 5, 7, 8, 14, 15, 16, 21, 22, 23]) .skip)) (.region a28r11 [3, 5, 14, 15, 16, 21, 22, 23]))))) (.region a28r12 [3, 5, 14, 15, 16, 21, 22, 23]))))))))) (.region a28r13 [3, 14, 15, 16]))))))) (.seq (.region a28r14 [3, 10]) (.seq (.seq (.region a28r15 [10, 54]) (.block 4 (.loop (.seq (.region a28r16 [10, 54, 56]) (.seq (.cond (.t 56) .skip (.exit 4)) (.block 5 (.seq (.region a28r17 [10, 11, 12, 54]) (.region a28r18 [10, 54])))))))) (.seq (.region a28r19 [10]) (.seq (.region a28r20 [2]) .ret)))))))⟩
theorem a28_ok : compileF Tryz.prog (lk [(0, ⟨[0], [], []⟩), (1, ⟨[0, 3], [], []⟩), (2, ⟨[3, 14, 15, 16], [], []⟩), (3, ⟨[3, 14, 15, 16, 17], [], []⟩), (4, ⟨[3, 5, 14, 15, 16], [], []⟩), (5, ⟨[3, 5, 14, 15, 16, 21, 22, 23], [], []⟩), (6, ⟨[3, 5, 14, 15, 16, 21, 22, 23, 24], [], []⟩), (7, ⟨[3, 5, 7, 14, 15, 16, 21, 22, 23], [], []⟩), (8, ⟨[3, 5, 7, 8, 9, 14, 15, 16, 21, 22, 23], [], []⟩), (9, ⟨[3, 5, 7, 8, 14, 15, 16, 21, 22, 23, 35], [], []⟩), (10, ⟨[3, 5, 7, 8, 14, 15, 16, 21, 22, 23], [], []⟩), (11, ⟨[3, 5, 14, 15, 16, 21, 22, 23], [], []⟩), (12, ⟨[3, 5, 14, 15, 16, 21, 22, 23], [], []⟩), (13, ⟨[3, 14, 15, 16], [], []⟩), (14, ⟨[3, 10], [], []⟩), (15, ⟨[10, 54], [], []⟩), (16, ⟨[10, 54, 56], [], []⟩), (17, ⟨[10, 11, 12, 54], [], []⟩), (18, ⟨[10, 54], [], []⟩), (19, ⟨[10], [], []⟩), (20, ⟨[2], [], []⟩)]) Tryz.f28 = some a28 := by kernel_rfl

/- payroll/rest.daily$1 -/
def a30r0 : List IOp := [⟨some 2, .box 40 3, [.t 0], none⟩,
  ⟨some 3, .box 40 3, [.t 1], none⟩,
  ⟨some 4, .mv, [.c (.int .i64 0)], none⟩]
def a30r1 : List IOp := [⟨some 5, .fieldAddr 1, [.t 2], none⟩,
  ⟨some 6, .load1, [.t 5], none⟩,
  ⟨some 7, .fieldAddr 1, [.t 3], none⟩,
  ⟨some 8, .load1, [.t 7], none⟩,
  ⟨some 9, .call 31, [.t 6, .t 8], none⟩,
  ⟨some 4, .mv, [.t 9], none⟩]
def a30 : AFunc := ⟨10, [.tmp 4], (.seq (.region a30r0 [2, 3]) (.seq (.region a30r1 [4]) .ret))⟩
theorem a30_ok : compileF Tryz.prog (lk [(0, ⟨[2, 3], [], []⟩), (1, ⟨[4], [], []⟩)]) Tryz.f30 = some a30 := by kernel_rfl

/- cmp.Compare[int] -/
def a31r0 : List IOp := [⟨some 4, .mv, [.c (.int .i64 0)], none⟩]
def a31r1 : List IOp := [⟨some 7, .mv, [.t 0], none⟩,
  ⟨some 8, .call 48, [.t 7], none⟩,
  ⟨some 5, .mv, [.t 8], none⟩]
def a31r2 : List IOp := [⟨some 9, .mv, [.t 1], none⟩,
  ⟨some 10, .call 48, [.t 9], none⟩,
  ⟨some 6, .mv, [.t 10], none⟩]
def a31r3 : List IOp := [⟨some 11, .mv, [.t 5], none⟩]
def a31r4 : List IOp := [⟨some 12, .mv, [.t 6], none⟩]
def a31r5 : List IOp := [⟨some 4, .mv, [.c (.int .i64 0)], none⟩]
def a31r6 : List IOp := [⟨some 4, .mv, [.c (.int .i64 (-1))], none⟩]
def a31r7 : List IOp := [⟨some 13, .mv, [.t 6], none⟩]
def a31r8 : List IOp := [⟨some 4, .mv, [.c (.int .i64 1)], none⟩]
def a31r9 : List IOp := [⟨some 14, .mv, [.t 0], none⟩,
  ⟨some 15, .mv, [.t 1], none⟩,
  ⟨some 16, .bin .lss, [.t 14, .t 15], none⟩]
def a31r10 : List IOp := [⟨some 4, .mv, [.c (.int .i64 (-1))], none⟩]
def a31r11 : List IOp := [⟨some 17, .mv, [.t 0], none⟩,
  ⟨some 18, .mv, [.t 1], none⟩,
  ⟨some 19, .bin .gtr, [.t 17, .t 18], none⟩]
def a31r12 : List IOp := [⟨some 4, .mv, [.c (.int .i64 1)], none⟩]
def a31r13 : List IOp := [⟨some 4, .mv, [.c (.int .i64 0)], none⟩]
def a31 : AFunc := ⟨20, [.tmp 4], (.seq (.region a31r0 [0, 1]) (.seq (.region a31r1 [0, 1, 5]) (.seq (.region a31r2 [0, 1, 5, 6]) (.seq (.seq (.region a31r3 [0, 1, 6, 11]) (.cond (.t 11) (.seq (.seq (.region a31r4 [12]) (.cond (.t 12) (.seq (.region a31r5 [4]) .ret) .skip)) (.seq (.region a31r6 [4]) .ret)) .skip)) (.seq (.seq (.region a31r7 [0, 1, 13]) (.cond (.t 13) (.seq (.region a31r8 [4]) .ret) .skip)) (.seq (.seq (.region a31r9 [0, 1, 16]) (.cond (.t 16) (.seq (.region a31r10 [4]) .ret) .skip)) (.seq (.seq (.region a31r11 [19]) (.cond (.t 19) (.seq (.region a31r12 [4]) .ret) .skip)) (.seq (.region a31r13 [4]) .ret))))))))⟩
theorem a31_ok : compileF Tryz.prog (lk [(0, ⟨[0, 1], [], []⟩), (1, ⟨[0, 1, 5], [], []⟩), (2, ⟨[0, 1, 5, 6], [], []⟩), (3, ⟨[0, 1, 6, 11], [], []⟩), (4, ⟨[12], [], []⟩), (5, ⟨[4], [], []⟩), (6, ⟨[4], [], []⟩), (7, ⟨[0, 1, 13], [], []⟩), (8, ⟨[4], [], []⟩), (9, ⟨[0, 1, 16], [], []⟩), (10, ⟨[4], [], []⟩), (11, ⟨[19], [], []⟩), (12, ⟨[4], [], []⟩), (13, ⟨[4], [], []⟩)]) Tryz.f31 = some a31 := by kernel_rfl

/- payroll/calendar.Weekday -/
def a32r0 : List IOp := [⟨some 2, .mv, [.c (.int .i64 0)], none⟩]
def a32r1 : List IOp := [⟨some 3, .mv, [.t 0], none⟩,
  ⟨some 4, .call 49, [.t 3], none⟩,
  ⟨some 5, .not, [.t 4], none⟩]
def a32r2 : List IOp := [⟨some 2, .mv, [.c (.int .i64 (-1))], none⟩]
def a32r3 : List IOp := [⟨some 6, .mv, [.t 0], none⟩,
  ⟨some 7, .call 50, [.t 6], none⟩,
  ⟨some 2, .mv, [.t 7], none⟩]
def a32 : AFunc := ⟨8, [.tmp 2], (.seq (.region a32r0 [0]) (.seq (.seq (.region a32r1 [0, 5]) (.cond (.t 5) (.seq (.region a32r2 [2]) .ret) .skip)) (.seq (.region a32r3 [2]) .ret)))⟩
theorem a32_ok : compileF Tryz.prog (lk [(0, ⟨[0], [], []⟩), (1, ⟨[0, 5], [], []⟩), (2, ⟨[2], [], []⟩), (3, ⟨[2], [], []⟩)]) Tryz.f32 = some a32 := by kernel_rfl

/- payroll/rest.weekly$1 -/
def a34r0 : List IOp := [⟨some 2, .box 53 2, [.t 0], none⟩,
  ⟨some 3, .box 53 2, [.t 1], none⟩,
  ⟨some 4, .mv, [.c (.int .i64 0)], none⟩]
def a34r1 : List IOp := [⟨some 5, .fieldAddr 0, [.t 2], none⟩,
  ⟨some 6, .load1, [.t 5], none⟩,
  ⟨some 7, .fieldAddr 0, [.t 3], none⟩,
  ⟨some 8, .load1, [.t 7], none⟩,
  ⟨some 9, .call 31, [.t 6, .t 8], none⟩,
  ⟨some 4, .mv, [.t 9], none⟩]
def a34 : AFunc := ⟨10, [.tmp 4], (.seq (.region a34r0 [2, 3]) (.seq (.region a34r1 [4]) .ret))⟩
theorem a34_ok : compileF Tryz.prog (lk [(0, ⟨[2, 3], [], []⟩), (1, ⟨[4], [], []⟩)]) Tryz.f34 = some a34 := by kernel_rfl

/- payroll/clock.Begin -/
def a35r0 : List IOp := [⟨some 2, .box 27 2, [.t 0], none⟩,
  ⟨some 4, .mv, [.c (.int .i64 0)], none⟩,
  ⟨some 5, .mv, [.c (.int .i64 0)], none⟩]
def a35r1 : List IOp := [⟨some 7, .loadA 2, [.t 2], none⟩,
  ⟨some 8, .call 15, [.t 7], none⟩,
  ⟨some 6, .mv, [.t 8], none⟩]
def a35r2 : List IOp := [⟨some 9, .mv, [.t 6], none⟩,
  ⟨some 10, .bin .neq, [.t 9, .c (.int .i64 0)], none⟩]
def a35r3 : List IOp := [⟨some 11, .mv, [.t 6], none⟩,
  ⟨some 4, .mv, [.c (.int .i64 0)], none⟩,
  ⟨some 5, .mv, [.t 11], none⟩]
def a35r4 : List IOp := [⟨some 12, .mv, [.t 1], none⟩,
  ⟨some 13, .bin .lss, [.t 12, .c (.int .i64 0)], none⟩,
  ⟨some 14, .mv, [.t 13], none⟩,
  ⟨some 15, .mv, [.t 1], some (14, false)⟩,
  ⟨some 16, .bin .gtr, [.t 15, .c (.int .i64 84006)], some (14, false)⟩,
  ⟨some 17, .pick, [.t 14, .c (.bool true), .t 16], none⟩]
def a35r5 : List IOp := [⟨some 4, .mv, [.c (.int .i64 0)], none⟩,
  ⟨some 5, .mv, [.c (.int .i64 2)], none⟩]
def a35r6 : List IOp := [⟨some 18, .mv, [.t 1], none⟩]
def a35r7 : List IOp := [⟨some 20, .bin .eql, [.t 18, .c (.int .i64 0)], none⟩,
  ⟨some 19, .mv, [.t 20], none⟩]
def a35r8 : List IOp := [⟨some 4, .mv, [.c (.int .i64 0)], none⟩,
  ⟨some 5, .mv, [.c (.int .i64 0)], none⟩]
def a35r9 : List IOp := [⟨some 22, .bin .eql, [.t 18, .c (.int .i64 84006)], none⟩,
  ⟨some 21, .mv, [.t 22], none⟩]
def a35r10 : List IOp := [⟨some 4, .mv, [.c (.int .i64 120968640)], none⟩,
  ⟨some 5, .mv, [.c (.int .i64 0)], none⟩]
def a35r11 : List IOp := [⟨some 23, .loadA 2, [.t 2], none⟩,
  ⟨some 24, .mv, [.t 1], none⟩,
  ⟨some 25, .bin .mul, [.t 24, .c (.int .i64 1440)], none⟩,
  ⟨some 26, .call 52, [.t 23, .t 25], none⟩,
  ⟨some 4, .mv, [.t 26], none⟩,
  ⟨some 5, .mv, [.c (.int .i64 0)], none⟩]
def a35 : AFunc := ⟨27, [.tmp 4, .tmp 5], (.seq (.region a35r0 [1, 2]) (.seq (.seq (.region a35r1 [1, 2, 6]) (.seq (.region a35r2 [1, 2, 6, 10]) (.cond (.t 10) (.seq (.region a35r3 [4, 5]) .ret) .skip))) (.seq (.seq (.region a35r4 [1, 2, 17]) (.cond (.t 17) (.seq (.region a35r5 [4, 5]) .ret) .skip)) (.seq (.seq (.region a35r6 [1, 2, 18]) (.block 0 (.seq (.region a35r7 [1, 2, 18, 19]) (.cond (.t 19) (.seq (.region a35r8 [4, 5]) .ret) (.seq (.region a35r9 [1, 2, 21]) (.cond (.t 21) (.seq (.region a35r10 [4, 5]) .ret) .skip)))))) (.seq (.region a35r11 [4, 5]) .ret)))))⟩
theorem a35_ok : compileF Tryz.prog (lk [(0, ⟨[1, 2], [], []⟩), (1, ⟨[1, 2, 6], [], []⟩), (2, ⟨[1, 2, 6, 10], [], []⟩), (3, ⟨[4, 5], [], []⟩), (4, ⟨[1, 2, 17], [], []⟩), (5, ⟨[4, 5], [], []⟩), (6, ⟨[1, 2, 18], [], []⟩), (7, ⟨[1, 2, 18, 19], [], []⟩), (8, ⟨[4, 5], [], []⟩), (9, ⟨[1, 2, 21], [], []⟩), (10, ⟨[4, 5], [], []⟩), (11, ⟨[4, 5], [], []⟩)]) Tryz.f35 = some a35 := by kernel_rfl

/- payroll/rest.longest -/
def a36r0 : List IOp := [⟨some 6, .mv, [.c (.int .i64 0)], none⟩]
def a36r1 : List IOp := [⟨some 11, .mv, [.t 1], none⟩,
  ⟨some 7, .mv, [.c (.int .i64 0)], none⟩,
  ⟨some 8, .mv, [.t 11], none⟩]
def a36r2 : List IOp := [⟨some 12, .mv, [.t 0], none⟩,
  ⟨some 13, .len, [.t 12], none⟩,
  ⟨some 14, .mv, [.c (.int .i64 0)], none⟩]
def a36r3 : List IOp := [⟨some 15, .bin .lss, [.t 14, .t 13], none⟩]
def a36r4 : List IOp := [⟨some 16, .indexAddr 2, [.t 12, .t 14], none⟩,
  ⟨some 17, .loadA 2, [.t 16], none⟩,
  ⟨some 10, .alloc 53 [.int .i64 0, .int .i64 0], [], none⟩,
  ⟨none, .store 2, [.t 10, .t 17], none⟩]
def a36r5 : List IOp := [⟨some 18, .fieldAddr 0, [.t 10], none⟩,
  ⟨some 19, .load1, [.t 18], none⟩,
  ⟨some 20, .mv, [.t 2], none⟩,
  ⟨some 21, .bin .geq, [.t 19, .t 20], none⟩]
def a36r6 : List IOp := [⟨some 22, .mv, [.t 7], none⟩,
  ⟨some 23, .fieldAddr 0, [.t 10], none⟩,
  ⟨some 24, .load1, [.t 23], none⟩,
  ⟨some 25, .mv, [.t 8], none⟩,
  ⟨some 26, .bin .sub, [.t 24, .t 25], none⟩,
  ⟨some 27, .minmax true, [.t 22, .t 26], none⟩,
  ⟨some 7, .mv, [.t 27], none⟩]
def a36r7 : List IOp := [⟨some 28, .mv, [.t 8], none⟩,
  ⟨some 29, .fieldAddr 1, [.t 10], none⟩,
  ⟨some 30, .load1, [.t 29], none⟩,
  ⟨some 31, .minmax true, [.t 28, .t 30], none⟩,
  ⟨some 8, .mv, [.t 31], none⟩]
def a36r8 : List IOp := [⟨some 32, .bin .add, [.t 14, .c (.int .i64 1)], none⟩,
  ⟨some 14, .mv, [.t 32], none⟩]
def a36r9 : List IOp := [⟨some 33, .mv, [.t 7], none⟩,
  ⟨some 34, .mv, [.t 2], none⟩,
  ⟨some 35, .mv, [.t 8], none⟩,
  ⟨some 36, .bin .sub, [.t 34, .t 35], none⟩,
  ⟨some 37, .minmax true, [.t 33, .t 36], none⟩,
  ⟨some 6, .mv, [.t 37], none⟩]
def a36 : AFunc := ⟨38, [.tmp 6], (.seq (.region a36r0 [0, 1, 2]) (.seq (.region a36r1 [0, 2, 7, 8]) (.seq (.seq (.region a36r2 [2, 7, 8, 12, 13, 14]) (.block 0 (.loop (.seq (.region a36r3 [2, 7, 8, 12, 13, 14, 15]) (.seq (.cond (.t 15) .skip (.exit 0)) (.seq (.block 1 (.seq (.region a36r4 [2, 7, 8, 10, 12, 13, 14]) (.seq (.seq (.region a36r5 [2, 7, 8, 10, 12, 13, 14, 21]) (.cond (.t 21) (.exit 0) .skip)) (.seq (.region a36r6 [2, 7, 8, 10, 12, 13, 14]) (.region a36r7 [2, 7, 8, 12, 13, 14]))))) (.region a36r8 [2, 7, 8, 12, 13, 14]))))))) (.seq (.region a36r9 [6]) .ret))))⟩
theorem a36_ok : compileF Tryz.prog (lk [(0, ⟨[0, 1, 2], [], []⟩), (1, ⟨[0, 2, 7, 8], [], []⟩), (2, ⟨[2, 7, 8, 12, 13, 14], [], []⟩), (3, ⟨[2, 7, 8, 12, 13, 14, 15], [], []⟩), (4, ⟨[2, 7, 8, 10, 12, 13, 14], [], []⟩), (5, ⟨[2, 7, 8, 10, 12, 13, 14, 21], [], []⟩), (6, ⟨[2, 7, 8, 10, 12, 13, 14], [], []⟩), (7, ⟨[2, 7, 8, 12, 13, 14], [], []⟩), (8, ⟨[2, 7, 8, 12, 13, 14], [], []⟩), (9, ⟨[6], [], []⟩)]) Tryz.f36 = some a36 := by kernel_rfl

/- payroll/overtime.isName -/
def a37r0 : List IOp := [⟨some 2, .mv, [.c (.bool false)], none⟩]
def a37r1 : List IOp := [⟨some 7, .mv, [.t 0], none⟩,
  ⟨some 8, .lenS, [.t 7], none⟩,
  ⟨some 9, .bin .lss, [.t 8, .c (.int .i64 1)], none⟩,
  ⟨some 10, .mv, [.t 9], none⟩,
  ⟨some 11, .mv, [.t 0], some (10, false)⟩,
  ⟨some 12, .lenS, [.t 11], some (10, false)⟩,
  ⟨some 13, .bin .gtr, [.t 12, .c (.int .i64 24)], some (10, false)⟩,
  ⟨some 14, .pick, [.t 10, .c (.bool true), .t 13], none⟩]
def a37r2 : List IOp := [⟨some 2, .mv, [.c (.bool false)], none⟩]
def a37r3 : List IOp := [⟨some 15, .mv, [.t 0], none⟩,
  ⟨some 16, .lenS, [.t 15], none⟩,
  ⟨some 17, .mv, [.c (.int .i64 0)], none⟩]
def a37r4 : List IOp := [⟨some 18, .bin .lss, [.t 17, .t 16], none⟩]
def a37r5 : List IOp := [⟨some 19, .mv, [.t 17], none⟩,
  ⟨some 3, .mv, [.t 19], none⟩]
def a37r6 : List IOp := [⟨some 20, .mv, [.t 0], none⟩,
  ⟨some 21, .mv, [.t 3], none⟩,
  ⟨some 22, .index, [.t 20, .t 21], none⟩,
  ⟨some 4, .mv, [.t 22], none⟩]
def a37r7 : List IOp := [⟨some 23, .mv, [.t 4], none⟩,
  ⟨some 24, .bin .geq, [.t 23, .c (.int .u8 97)], none⟩,
  ⟨some 25, .mv, [.t 24], none⟩,
  ⟨some 26, .mv, [.t 4], some (25, true)⟩,
  ⟨some 27, .bin .leq, [.t 26, .c (.int .u8 122)], some (25, true)⟩,
  ⟨some 28, .pick, [.t 25, .t 27, .c (.bool false)], none⟩,
  ⟨some 5, .mv, [.t 28], none⟩]
def a37r8 : List IOp := [⟨some 29, .mv, [.t 4], none⟩,
  ⟨some 30, .bin .geq, [.t 29, .c (.int .u8 48)], none⟩,
  ⟨some 31, .mv, [.t 30], none⟩,
  ⟨some 32, .mv, [.t 4], some (31, true)⟩,
  ⟨some 33, .bin .leq, [.t 32, .c (.int .u8 57)], some (31, true)⟩,
  ⟨some 34, .pick, [.t 31, .t 33, .c (.bool false)], none⟩,
  ⟨some 35, .mv, [.t 34], none⟩,
  ⟨some 36, .mv, [.t 4], some (35, false)⟩,
  ⟨some 37, .bin .eql, [.t 36, .c (.int .u8 95)], some (35, false)⟩,
  ⟨some 38, .pick, [.t 35, .c (.bool true), .t 37], none⟩,
  ⟨some 6, .mv, [.t 38], none⟩]
def a37r9 : List IOp := [⟨some 39, .mv, [.t 5], none⟩,
  ⟨some 40, .not, [.t 39], none⟩,
  ⟨some 41, .mv, [.t 40], none⟩,
  ⟨some 42, .mv, [.t 3], some (41, true)⟩,
  ⟨some 43, .bin .eql, [.t 42, .c (.int .i64 0)], some (41, true)⟩,
  ⟨some 44, .mv, [.t 43], some (41, true)⟩,
  ⟨some 45, .mv, [.t 6], some (44, false)⟩,
  ⟨some 46, .not, [.t 45], some (44, false)⟩,
  ⟨some 47, .pick, [.t 44, .c (.bool true), .t 46], some (41, true)⟩,
  ⟨some 48, .pick, [.t 41, .t 47, .c (.bool false)], none⟩]
def a37r10 : List IOp := [⟨some 2, .mv, [.c (.bool false)], none⟩]
def a37r11 : List IOp := [⟨some 49, .bin .add, [.t 17, .c (.int .i64 1)], none⟩,
  ⟨some 17, .mv, [.t 49], none⟩]
def a37r12 : List IOp := [⟨some 2, .mv, [.c (.bool true)], none⟩]
def a37 : AFunc := ⟨50, [.tmp 2], (.seq (.region a37r0 [0]) (.seq (.seq (.region a37r1 [0, 14]) (.cond (.t 14) (.seq (.region a37r2 [2]) .ret) .skip)) (.seq (.seq (.region a37r3 [0, 16, 17]) (.block 0 (.loop (.seq (.region a37r4 [0, 16, 17, 18]) (.seq (.cond (.t 18) .skip (.exit 0)) (.seq (.block 1 (.seq (.region a37r5 [0, 3, 16, 17]) (.seq (.region a37r6 [0, 3, 4, 16, 17]) (.seq (.region a37r7 [0, 3, 4, 5, 16, 17]) (.seq (.region a37r8 [0, 3, 5, 6, 16, 17]) (.seq (.region a37r9 [0, 16, 17, 48]) (.cond (.t 48) (.seq (.region a37r10 [2]) .ret) .skip))))))) (.region a37r11 [0, 16, 17]))))))) (.seq (.region a37r12 [2]) .ret))))⟩
theorem a37_ok : compileF Tryz.prog (lk [(0, ⟨[0], [], []⟩), (1, ⟨[0, 14], [], []⟩), (2, ⟨[2], [], []⟩), (3, ⟨[0, 16, 17], [], []⟩), (4, ⟨[0, 16, 17, 18], [], []⟩), (5, ⟨[0, 3, 16, 17], [], []⟩), (6, ⟨[0, 3, 4, 16, 17], [], []⟩), (7, ⟨[0, 3, 4, 5, 16, 17], [], []⟩), (8, ⟨[0, 3, 5, 6, 16, 17], [], []⟩), (9, ⟨[0, 16, 17, 48], [], []⟩), (10, ⟨[2], [], []⟩), (11, ⟨[0, 16, 17], [], []⟩), (12, ⟨[2], [], []⟩)]) Tryz.f37 = some a37 := by kernel_rfl

/- payroll/overtime.validBands -/
def a38r0 : List IOp := [⟨some 2, .mv, [.c (.bool false)], none⟩]
def a38r1 : List IOp := [⟨some 3, .mv, [.c (.int .i64 (-1))], none⟩]
def a38r2 : List IOp := [⟨some 6, .mv, [.t 0], none⟩,
  ⟨some 7, .len, [.t 6], none⟩,
  ⟨some 8, .mv, [.c (.int .i64 0)], none⟩]
def a38r3 : List IOp := [⟨some 9, .bin .lss, [.t 8, .t 7], none⟩]
def a38r4 : List IOp := [⟨some 10, .indexAddr 2, [.t 6, .t 8], none⟩,
  ⟨some 11, .loadA 2, [.t 10], none⟩,
  ⟨some 5, .alloc 101 [.str ⟨#[]⟩, .int .i64 0], [], none⟩,
  ⟨none, .store 2, [.t 5, .t 11], none⟩]
def a38r5 : List IOp := [⟨some 12, .fieldAddr 0, [.t 5], none⟩,
  ⟨some 13, .load1, [.t 12], none⟩,
  ⟨some 14, .call 37, [.t 13], none⟩,
  ⟨some 15, .not, [.t 14], none⟩,
  ⟨some 16, .mv, [.t 15], none⟩,
  ⟨some 17, .fieldAddr 1, [.t 5], some (16, false)⟩,
  ⟨some 18, .load1, [.t 17], some (16, false)⟩,
  ⟨some 19, .mv, [.t 3], some (16, false)⟩,
  ⟨some 20, .bin .leq, [.t 18, .t 19], some (16, false)⟩,
  ⟨some 21, .pick, [.t 16, .c (.bool true), .t 20], none⟩,
  ⟨some 22, .mv, [.t 21], none⟩,
  ⟨some 23, .fieldAddr 1, [.t 5], some (22, false)⟩,
  ⟨some 24, .load1, [.t 23], some (22, false)⟩,
  ⟨some 25, .bin .gtr, [.t 24, .c (.int .i64 10080)], some (22, false)⟩,
  ⟨some 26, .pick, [.t 22, .c (.bool true), .t 25], none⟩]
def a38r6 : List IOp := [⟨some 2, .mv, [.c (.bool false)], none⟩]
def a38r7 : List IOp := [⟨some 27, .fieldAddr 1, [.t 5], none⟩,
  ⟨some 28, .load1, [.t 27], none⟩,
  ⟨some 3, .mv, [.t 28], none⟩]
def a38r8 : List IOp := [⟨some 29, .bin .add, [.t 8, .c (.int .i64 1)], none⟩,
  ⟨some 8, .mv, [.t 29], none⟩]
def a38r9 : List IOp := [⟨some 2, .mv, [.c (.bool true)], none⟩]
def a38 : AFunc := ⟨30, [.tmp 2], (.seq (.region a38r0 [0]) (.seq (.region a38r1 [0, 3]) (.seq (.seq (.region a38r2 [3, 6, 7, 8]) (.block 0 (.loop (.seq (.region a38r3 [3, 6, 7, 8, 9]) (.seq (.cond (.t 9) .skip (.exit 0)) (.seq (.block 1 (.seq (.region a38r4 [3, 5, 6, 7, 8]) (.seq (.seq (.region a38r5 [5, 6, 7, 8, 26]) (.cond (.t 26) (.seq (.region a38r6 [2]) .ret) .skip)) (.region a38r7 [3, 6, 7, 8])))) (.region a38r8 [3, 6, 7, 8]))))))) (.seq (.region a38r9 [2]) .ret))))⟩
theorem a38_ok : compileF Tryz.prog (lk [(0, ⟨[0], [], []⟩), (1, ⟨[0, 3], [], []⟩), (2, ⟨[3, 6, 7, 8], [], []⟩), (3, ⟨[3, 6, 7, 8, 9], [], []⟩), (4, ⟨[3, 5, 6, 7, 8], [], []⟩), (5, ⟨[5, 6, 7, 8, 26], [], []⟩), (6, ⟨[2], [], []⟩), (7, ⟨[3, 6, 7, 8], [], []⟩), (8, ⟨[3, 6, 7, 8], [], []⟩), (9, ⟨[2], [], []⟩)]) Tryz.f38 = some a38 := by kernel_rfl

/- payroll/overtime.validInterval -/
def a39r0 : List IOp := [⟨some 1, .box 53 2, [.t 0], none⟩,
  ⟨some 2, .mv, [.c (.bool false)], none⟩]
def a39r1 : List IOp := [⟨some 3, .fieldAddr 0, [.t 1], none⟩,
  ⟨some 4, .load1, [.t 3], none⟩,
  ⟨some 5, .bin .geq, [.t 4, .c (.int .i64 0)], none⟩,
  ⟨some 6, .mv, [.t 5], none⟩,
  ⟨some 7, .fieldAddr 1, [.t 1], some (6, true)⟩,
  ⟨some 8, .load1, [.t 7], some (6, true)⟩,
  ⟨some 9, .fieldAddr 0, [.t 1], some (6, true)⟩,
  ⟨some 10, .load1, [.t 9], some (6, true)⟩,
  ⟨some 11, .bin .gtr, [.t 8, .t 10], some (6, true)⟩,
  ⟨some 12, .pick, [.t 6, .t 11, .c (.bool false)], none⟩,
  ⟨some 13, .mv, [.t 12], none⟩,
  ⟨some 14, .fieldAddr 1, [.t 1], some (13, true)⟩,
  ⟨some 15, .load1, [.t 14], some (13, true)⟩,
  ⟨some 16, .bin .leq, [.t 15, .c (.int .i64 120968640)], some (13, true)⟩,
  ⟨some 17, .pick, [.t 13, .t 16, .c (.bool false)], none⟩,
  ⟨some 2, .mv, [.t 17], none⟩]
def a39 : AFunc := ⟨18, [.tmp 2], (.seq (.region a39r0 [1]) (.seq (.region a39r1 [2]) .ret))⟩
theorem a39_ok : compileF Tryz.prog (lk [(0, ⟨[1], [], []⟩), (1, ⟨[2], [], []⟩)]) Tryz.f39 = some a39 := by kernel_rfl

/- payroll/overtime.spans$1 -/
def a41r0 : List IOp := [⟨some 2, .box 76 3, [.t 0], none⟩,
  ⟨some 3, .box 76 3, [.t 1], none⟩,
  ⟨some 4, .mv, [.c (.int .i64 0)], none⟩]
def a41r1 : List IOp := [⟨some 5, .fieldAddr 1, [.t 2], none⟩,
  ⟨some 6, .fieldAddr 0, [.t 5], none⟩,
  ⟨some 7, .load1, [.t 6], none⟩,
  ⟨some 8, .fieldAddr 1, [.t 3], none⟩,
  ⟨some 9, .fieldAddr 0, [.t 8], none⟩,
  ⟨some 10, .load1, [.t 9], none⟩,
  ⟨some 11, .call 31, [.t 7, .t 10], none⟩,
  ⟨some 4, .mv, [.t 11], none⟩]
def a41 : AFunc := ⟨12, [.tmp 4], (.seq (.region a41r0 [2, 3]) (.seq (.region a41r1 [4]) .ret))⟩
theorem a41_ok : compileF Tryz.prog (lk [(0, ⟨[2, 3], [], []⟩), (1, ⟨[4], [], []⟩)]) Tryz.f41 = some a41 := by kernel_rfl

/- payroll/overtime.find -/
def a42r0 : List IOp := [⟨some 4, .mv, [.c (.int .i64 0)], none⟩,
  ⟨some 5, .mv, [.c (.int .i64 0)], none⟩]
def a42r1 : List IOp := [⟨some 8, .mv, [.t 0], none⟩,
  ⟨some 9, .len, [.t 8], none⟩,
  ⟨some 10, .mv, [.c (.int .i64 0)], none⟩]
def a42r2 : List IOp := [⟨some 11, .bin .lss, [.t 10, .t 9], none⟩]
def a42r3 : List IOp := [⟨some 12, .mv, [.t 10], none⟩,
  ⟨some 13, .indexAddr 2, [.t 8, .t 10], none⟩,
  ⟨some 14, .loadA 2, [.t 13], none⟩,
  ⟨some 7, .alloc 101 [.str ⟨#[]⟩, .int .i64 0], [], none⟩,
  ⟨some 6, .mv, [.t 12], none⟩,
  ⟨none, .store 2, [.t 7, .t 14], none⟩]
def a42r4 : List IOp := [⟨some 15, .fieldAddr 1, [.t 7], none⟩,
  ⟨some 16, .load1, [.t 15], none⟩,
  ⟨some 17, .mv, [.t 1], none⟩,
  ⟨some 18, .bin .gtr, [.t 16, .t 17], none⟩]
def a42r5 : List (Nat × DOp) := [(0, ⟨⟨some 19, .mv, [.t 6], none⟩, none, [2, 3, 4, 5]⟩),
  (1, ⟨⟨some 20, .bin .sub, [.t 19, .c (.int .i64 1)], none⟩, none, [2, 3, 4, 5]⟩),
  (2, ⟨⟨some 21, .fieldAddr 1, [.t 7], none⟩, none, [0, 1, 4, 6]⟩),
  (3, ⟨⟨some 22, .load1, [.t 21], none⟩, none, [0, 1, 4, 6]⟩),
  (4, ⟨⟨some 23, .mv, [.t 1], none⟩, none, [0, 1, 2, 3, 6]⟩),
  (5, ⟨⟨some 24, .bin .sub, [.t 22, .t 23], none⟩, none, [0, 1, 6]⟩),
  (6, ⟨⟨some 4, .mv, [.t 20], none⟩, none, [2, 3, 4, 5]⟩),
  (7, ⟨⟨some 5, .mv, [.t 24], none⟩, none, []⟩)]
def a42r6 : List IOp := [⟨some 25, .bin .add, [.t 10, .c (.int .i64 1)], none⟩,
  ⟨some 10, .mv, [.t 25], none⟩]
def a42r7 : List IOp := [⟨some 26, .mv, [.t 0], none⟩,
  ⟨some 27, .len, [.t 26], none⟩,
  ⟨some 28, .bin .sub, [.t 27, .c (.int .i64 1)], none⟩,
  ⟨some 4, .mv, [.t 28], none⟩,
  ⟨some 5, .mv, [.c (.int .i64 100000)], none⟩]
def a42 : AFunc := ⟨29, [.tmp 4, .tmp 5], (.seq (.region a42r0 [0, 1]) (.seq (.seq (.region a42r1 [0, 1, 8, 9, 10]) (.block 0 (.loop (.seq (.region a42r2 [0, 1, 8, 9, 10, 11]) (.seq (.cond (.t 11) .skip (.exit 0)) (.seq (.block 1 (.seq (.region a42r3 [0, 1, 6, 7, 8, 9, 10]) (.seq (.region a42r4 [0, 1, 6, 7, 8, 9, 10, 18]) (.cond (.t 18) (.seq (.draw a42r5 [] [4, 5]) .ret) .skip)))) (.region a42r6 [0, 1, 8, 9, 10]))))))) (.seq (.region a42r7 [4, 5]) .ret)))⟩
theorem a42_ok : compileF Tryz.prog (lk [(0, ⟨[0, 1], [], []⟩), (1, ⟨[0, 1, 8, 9, 10], [], []⟩), (2, ⟨[0, 1, 8, 9, 10, 11], [], []⟩), (3, ⟨[0, 1, 6, 7, 8, 9, 10], [], []⟩), (4, ⟨[0, 1, 6, 7, 8, 9, 10, 18], [], []⟩), (5, ⟨[4, 5], [[], [0], [], [2], [], [3, 4, 2], [1, 0], [5, 6, 0, 1, 2, 3, 4]], [0, 1, 2, 3, 4, 5, 6, 7]⟩), (6, ⟨[0, 1, 8, 9, 10], [], []⟩), (7, ⟨[4, 5], [], []⟩)]) Tryz.f42 = some a42 := by kernel_rfl

/- payroll/rest.blocks$1 -/
def a44r0 : List IOp := [⟨some 2, .box 85 3, [.t 0], none⟩,
  ⟨some 3, .box 85 3, [.t 1], none⟩,
  ⟨some 4, .mv, [.c (.int .i64 0)], none⟩]
def a44r1 : List (Nat × DOp) := [(0, ⟨⟨some 5, .fieldAddr 1, [.t 2], none⟩, none, [3, 4, 5, 7, 8, 9, 10]⟩),
  (1, ⟨⟨some 6, .fieldAddr 0, [.t 5], none⟩, none, [3, 4, 5, 7, 8, 9, 10]⟩),
  (2, ⟨⟨some 7, .load1, [.t 6], none⟩, none, [3, 4, 5, 7, 8, 9, 10]⟩),
  (3, ⟨⟨some 8, .fieldAddr 1, [.t 3], none⟩, none, [0, 1, 2, 7, 8, 9, 10]⟩),
  (4, ⟨⟨some 9, .fieldAddr 0, [.t 8], none⟩, none, [0, 1, 2, 7, 8, 9, 10]⟩),
  (5, ⟨⟨some 10, .load1, [.t 9], none⟩, none, [0, 1, 2, 7, 8, 9, 10]⟩),
  (7, ⟨⟨some 12, .fieldAddr 0, [.t 2], none⟩, none, [0, 1, 2, 3, 4, 5, 6, 9, 10]⟩),
  (8, ⟨⟨some 13, .load1, [.t 12], none⟩, none, [0, 1, 2, 3, 4, 5, 6, 9, 10]⟩),
  (9, ⟨⟨some 14, .fieldAddr 0, [.t 3], none⟩, none, [0, 1, 2, 3, 4, 5, 6, 7, 8]⟩),
  (10, ⟨⟨some 15, .load1, [.t 14], none⟩, none, [0, 1, 2, 3, 4, 5, 6, 7, 8]⟩),
  (6, ⟨⟨some 11, .call 31, [.t 7, .t 10], none⟩, none, [7, 8, 9, 10]⟩),
  (11, ⟨⟨some 16, .call 31, [.t 13, .t 15], none⟩, none, []⟩),
  (12, ⟨⟨some 17, .bslice 3 1 [.int .i64 0] 2 [0, 1], [.t 11, .t 16], none⟩, some 0, []⟩),
  (13, ⟨⟨some 18, .call 45, [.t 17], none⟩, none, []⟩),
  (14, ⟨⟨some 4, .mv, [.t 18], none⟩, none, []⟩)]
def a44 : AFunc := ⟨19, [.tmp 4], (.seq (.region a44r0 [2, 3]) (.seq (.draw a44r1 [(3, 1)] [4]) .ret))⟩
theorem a44_ok : compileF Tryz.prog (lk [(0, ⟨[2, 3], [], []⟩), (1, ⟨[4], [[], [0], [1, 0], [], [3], [4, 3], [2, 5, 1, 0, 4, 3], [], [7], [], [9], [8, 10, 6, 7, 9, 2, 5, 1, 0, 4, 3], [6, 11, 2, 5, 1, 0, 4, 3, 8, 10, 7, 9], [12, 11, 6, 2, 5, 1, 0, 4, 3, 8, 10, 7, 9], [13, 0, 1, 2, 3, 4, 5, 6, 7, 8, 9, 10, 11, 12]], [0, 1, 2, 3, 4, 5, 7, 8, 9, 10, 6, 11, 12, 13, 14]⟩)]) Tryz.f44 = some a44 := by kernel_rfl

/- cmp.Or[int] -/
def a45r0 : List IOp := [⟨some 2, .mv, [.c (.int .i64 0)], none⟩]
def a45r1 : List IOp := [⟨some 3, .mv, [.c (.int .i64 0)], none⟩]
def a45r2 : List IOp := [⟨some 6, .mv, [.t 0], none⟩,
  ⟨some 7, .len, [.t 6], none⟩,
  ⟨some 8, .mv, [.c (.int .i64 0)], none⟩]
def a45r3 : List IOp := [⟨some 9, .bin .lss, [.t 8, .t 7], none⟩]
def a45r4 : List IOp := [⟨some 10, .indexAddr 1, [.t 6, .t 8], none⟩,
  ⟨some 11, .load1, [.t 10], none⟩,
  ⟨some 5, .mv, [.t 11], none⟩]
def a45r5 : List IOp := [⟨some 12, .mv, [.t 5], none⟩,
  ⟨some 13, .mv, [.t 3], none⟩,
  ⟨some 14, .bin .neq, [.t 12, .t 13], none⟩]
def a45r6 : List IOp := [⟨some 15, .mv, [.t 5], none⟩,
  ⟨some 2, .mv, [.t 15], none⟩]
def a45r7 : List IOp := [⟨some 16, .bin .add, [.t 8, .c (.int .i64 1)], none⟩,
  ⟨some 8, .mv, [.t 16], none⟩]
def a45r8 : List IOp := [⟨some 17, .mv, [.t 3], none⟩,
  ⟨some 2, .mv, [.t 17], none⟩]
def a45 : AFunc := ⟨18, [.tmp 2], (.seq (.region a45r0 [0]) (.seq (.region a45r1 [0, 3]) (.seq (.seq (.region a45r2 [3, 6, 7, 8]) (.block 0 (.loop (.seq (.region a45r3 [3, 6, 7, 8, 9]) (.seq (.cond (.t 9) .skip (.exit 0)) (.seq (.block 1 (.seq (.region a45r4 [3, 5, 6, 7, 8]) (.seq (.region a45r5 [3, 5, 6, 7, 8, 14]) (.cond (.t 14) (.seq (.region a45r6 [2]) .ret) .skip)))) (.region a45r7 [3, 6, 7, 8]))))))) (.seq (.region a45r8 [2]) .ret))))⟩
theorem a45_ok : compileF Tryz.prog (lk [(0, ⟨[0], [], []⟩), (1, ⟨[0, 3], [], []⟩), (2, ⟨[3, 6, 7, 8], [], []⟩), (3, ⟨[3, 6, 7, 8, 9], [], []⟩), (4, ⟨[3, 5, 6, 7, 8], [], []⟩), (5, ⟨[3, 5, 6, 7, 8, 14], [], []⟩), (6, ⟨[2], [], []⟩), (7, ⟨[3, 6, 7, 8], [], []⟩), (8, ⟨[2], [], []⟩)]) Tryz.f45 = some a45 := by kernel_rfl

/- cmp.isNaN[int] -/
def a48r0 : List IOp := [⟨some 2, .mv, [.c (.bool false)], none⟩]
def a48r1 : List IOp := [⟨some 3, .mv, [.t 0], none⟩,
  ⟨some 4, .mv, [.t 0], none⟩,
  ⟨some 5, .bin .neq, [.t 3, .t 4], none⟩,
  ⟨some 2, .mv, [.t 5], none⟩]
def a48 : AFunc := ⟨6, [.tmp 2], (.seq (.region a48r0 [0]) (.seq (.region a48r1 [2]) .ret))⟩
theorem a48_ok : compileF Tryz.prog (lk [(0, ⟨[0], [], []⟩), (1, ⟨[2], [], []⟩)]) Tryz.f48 = some a48 := by kernel_rfl

/- payroll/calendar.valid -/
def a49r0 : List IOp := [⟨some 2, .mv, [.c (.bool false)], none⟩]
def a49r1 : List IOp := [⟨some 3, .mv, [.t 0], none⟩,
  ⟨some 4, .bin .geq, [.t 3, .c (.int .i64 0)], none⟩,
  ⟨some 5, .mv, [.t 4], none⟩,
  ⟨some 6, .mv, [.t 0], some (5, true)⟩,
  ⟨some 7, .bin .leq, [.t 6, .c (.int .i64 84005)], some (5, true)⟩,
  ⟨some 8, .pick, [.t 5, .t 7, .c (.bool false)], none⟩,
  ⟨some 2, .mv, [.t 8], none⟩]
def a49 : AFunc := ⟨9, [.tmp 2], (.seq (.region a49r0 [0]) (.seq (.region a49r1 [2]) .ret))⟩
theorem a49_ok : compileF Tryz.prog (lk [(0, ⟨[0], [], []⟩), (1, ⟨[2], [], []⟩)]) Tryz.f49 = some a49 := by kernel_rfl

/- payroll/calendar.weekday -/
def a50r0 : List IOp := [⟨some 2, .mv, [.c (.int .i64 0)], none⟩]
def a50r1 : List IOp := [⟨some 3, .mv, [.t 0], none⟩,
  ⟨some 4, .bin .add, [.t 3, .c (.int .i64 3)], none⟩,
  ⟨some 5, .bin .rem, [.t 4, .c (.int .i64 7)], none⟩,
  ⟨some 6, .bin .add, [.t 5, .c (.int .i64 7)], none⟩,
  ⟨some 7, .bin .rem, [.t 6, .c (.int .i64 7)], none⟩,
  ⟨some 2, .mv, [.t 7], none⟩]
def a50 : AFunc := ⟨8, [.tmp 2], (.seq (.region a50r0 [0]) (.seq (.region a50r1 [2]) .ret))⟩
theorem a50_ok : compileF Tryz.prog (lk [(0, ⟨[0], [], []⟩), (1, ⟨[2], [], []⟩)]) Tryz.f50 = some a50 := by kernel_rfl

/- payroll/clock.first -/
def a52r0 : List IOp := [⟨some 2, .box 27 2, [.t 0], none⟩,
  ⟨some 4, .mv, [.c (.int .i64 0)], none⟩]
def a52r1 : List IOp := [⟨some 8, .mv, [.t 1], none⟩,
  ⟨some 9, .bin .gtr, [.t 8, .c (.int .i64 120969479)], none⟩]
def a52r2 : List IOp := [⟨some 4, .mv, [.c (.int .i64 120968640)], none⟩]
def a52r3 : List IOp := [⟨some 10, .mv, [.t 1], none⟩,
  ⟨some 11, .minmax true, [.t 10, .c (.int .i64 (-840))], none⟩,
  ⟨some 1, .mv, [.t 11], none⟩]
def a52r4 : List IOp := [⟨some 12, .loadA 2, [.t 2], none⟩,
  ⟨some 13, .call 73, [.t 12], none⟩,
  ⟨some 14, .len, [.t 13], none⟩,
  ⟨some 15, .mv, [.c (.int .i64 0)], none⟩]
def a52r5 : List IOp := [⟨some 16, .bin .lss, [.t 15, .t 14], none⟩]
def a52r6 : List IOp := [⟨some 17, .indexAddr 3, [.t 13, .t 15], none⟩,
  ⟨some 18, .loadA 3, [.t 17], none⟩,
  ⟨some 6, .alloc 134 [.int .i64 0, .int .i64 0, .int .i64 0], [], none⟩,
  ⟨none, .store 3, [.t 6, .t 18], none⟩]
def a52r7 : List IOp := [⟨some 19, .fieldAddr 0, [.t 6], none⟩,
  ⟨some 20, .load1, [.t 19], none⟩,
  ⟨some 21, .mv, [.t 1], none⟩,
  ⟨some 22, .fieldAddr 2, [.t 6], none⟩,
  ⟨some 23, .load1, [.t 22], none⟩,
  ⟨some 24, .bin .sub, [.t 21, .t 23], none⟩,
  ⟨some 25, .minmax true, [.t 20, .t 24], none⟩,
  ⟨some 7, .mv, [.t 25], none⟩]
def a52r8 : List IOp := [⟨some 26, .mv, [.t 7], none⟩,
  ⟨some 27, .fieldAddr 1, [.t 6], none⟩,
  ⟨some 28, .load1, [.t 27], none⟩,
  ⟨some 29, .bin .lss, [.t 26, .t 28], none⟩]
def a52r9 : List IOp := [⟨some 30, .mv, [.t 7], none⟩,
  ⟨some 4, .mv, [.t 30], none⟩]
def a52r10 : List IOp := [⟨some 31, .bin .add, [.t 15, .c (.int .i64 1)], none⟩,
  ⟨some 15, .mv, [.t 31], none⟩]
def a52r11 : List IOp := [⟨some 4, .mv, [.c (.int .i64 120968640)], none⟩]
def a52 : AFunc := ⟨32, [.tmp 4], (.seq (.region a52r0 [1, 2]) (.seq (.seq (.region a52r1 [1, 2, 9]) (.cond (.t 9) (.seq (.region a52r2 [4]) .ret) .skip)) (.seq (.region a52r3 [1, 2]) (.seq (.seq (.region a52r4 [1, 13, 14, 15]) (.block 0 (.loop (.seq (.region a52r5 [1, 13, 14, 15, 16]) (.seq (.cond (.t 16) .skip (.exit 0)) (.seq (.block 1 (.seq (.region a52r6 [1, 6, 13, 14, 15]) (.seq (.region a52r7 [1, 6, 7, 13, 14, 15]) (.seq (.region a52r8 [1, 7, 13, 14, 15, 29]) (.cond (.t 29) (.seq (.region a52r9 [4]) .ret) .skip))))) (.region a52r10 [1, 13, 14, 15]))))))) (.seq (.region a52r11 [4]) .ret)))))⟩
theorem a52_ok : compileF Tryz.prog (lk [(0, ⟨[1, 2], [], []⟩), (1, ⟨[1, 2, 9], [], []⟩), (2, ⟨[4], [], []⟩), (3, ⟨[1, 2], [], []⟩), (4, ⟨[1, 13, 14, 15], [], []⟩), (5, ⟨[1, 13, 14, 15, 16], [], []⟩), (6, ⟨[1, 6, 13, 14, 15], [], []⟩), (7, ⟨[1, 6, 7, 13, 14, 15], [], []⟩), (8, ⟨[1, 7, 13, 14, 15, 29], [], []⟩), (9, ⟨[4], [], []⟩), (10, ⟨[1, 13, 14, 15], [], []⟩), (11, ⟨[4], [], []⟩)]) Tryz.f52 = some a52 := by kernel_rfl

/- payroll/clock.segments -/
def a73r0 : List IOp := [⟨some 1, .box 27 2, [.t 0], none⟩,
  ⟨some 2, .mv, [.c (.nils)], none⟩]
def a73r1 : List IOp := [⟨some 3, .mv, [.c (.nils)], none⟩]
def a73r2 : List IOp := [⟨some 7, .fieldAddr 0, [.t 1], none⟩,
  ⟨some 8, .load1, [.t 7], none⟩,
  ⟨some 9, .build [.int .i64 0, .int .i64 0, .int .i64 0] [(0, 1), (2, 1)], [.c (.int .i64 0), .t 8], none⟩,
  ⟨some 4, .alloc 134 [.int .i64 0, .int .i64 0, .int .i64 0], [], none⟩,
  ⟨none, .store 3, [.t 4, .t 9], none⟩]
def a73r3 : List IOp := [⟨some 10, .fieldAddr 1, [.t 1], none⟩,
  ⟨some 11, .load1, [.t 10], none⟩,
  ⟨some 12, .len, [.t 11], none⟩,
  ⟨some 13, .mv, [.c (.int .i64 0)], none⟩]
def a73r4 : List IOp := [⟨some 14, .bin .lss, [.t 13, .t 12], none⟩]
def a73r5 : List IOp := [⟨some 15, .indexAddr 2, [.t 11, .t 13], none⟩,
  ⟨some 16, .loadA 2, [.t 15], none⟩,
  ⟨some 6, .alloc 51 [.int .i64 0, .int .i64 0], [], none⟩,
  ⟨none, .store 2, [.t 6, .t 16], none⟩]
def a73r6 : List IOp := [⟨some 17, .fieldAddr 0, [.t 6], none⟩,
  ⟨some 18, .load1, [.t 17], none⟩,
  ⟨some 19, .fieldAddr 1, [.t 4], none⟩,
  ⟨none, .store 1, [.t 19, .t 18], none⟩]
def a73r7 : List IOp := [⟨some 20, .fieldAddr 1, [.t 4], none⟩,
  ⟨some 21, .load1, [.t 20], none⟩,
  ⟨some 22, .fieldAddr 0, [.t 4], none⟩,
  ⟨some 23, .load1, [.t 22], none⟩,
  ⟨some 24, .bin .gtr, [.t 21, .t 23], none⟩]
def a73r8 : List IOp := [⟨some 25, .mv, [.t 3], none⟩,
  ⟨some 26, .loadA 3, [.t 4], none⟩,
  ⟨some 27, .bslice 134 3 [.int .i64 0, .int .i64 0, .int .i64 0] 1 [0], [.t 26], none⟩,
  ⟨some 28, .append 134 3 24, [.t 25, .t 27], none⟩,
  ⟨some 3, .mv, [.t 28], none⟩]
def a73r9 : List IOp := [⟨some 29, .fieldAddr 0, [.t 6], none⟩,
  ⟨some 30, .load1, [.t 29], none⟩,
  ⟨some 31, .fieldAddr 1, [.t 6], none⟩,
  ⟨some 32, .load1, [.t 31], none⟩,
  ⟨some 33, .build [.int .i64 0, .int .i64 0, .int .i64 0] [(0, 1), (2, 1)], [.t 30, .t 32], none⟩,
  ⟨none, .store 3, [.t 4, .t 33], none⟩]
def a73r10 : List IOp := [⟨some 34, .bin .add, [.t 13, .c (.int .i64 1)], none⟩,
  ⟨some 13, .mv, [.t 34], none⟩]
def a73r11 : List IOp := [⟨some 35, .fieldAddr 1, [.t 4], none⟩,
  ⟨none, .store 1, [.t 35, .c (.int .i64 120968640)], none⟩]
def a73r12 : List IOp := [⟨some 36, .mv, [.t 3], none⟩,
  ⟨some 37, .loadA 3, [.t 4], none⟩,
  ⟨some 38, .bslice 134 3 [.int .i64 0, .int .i64 0, .int .i64 0] 1 [0], [.t 37], none⟩,
  ⟨some 39, .append 134 3 24, [.t 36, .t 38], none⟩,
  ⟨some 2, .mv, [.t 39], none⟩]
def a73 : AFunc := ⟨40, [.tmp 2], (.seq (.region a73r0 [1]) (.seq (.region a73r1 [1, 3]) (.seq (.region a73r2 [1, 3, 4]) (.seq (.seq (.region a73r3 [3, 4, 11, 12, 13]) (.block 0 (.loop (.seq (.region a73r4 [3, 4, 11, 12, 13, 14]) (.seq (.cond (.t 14) .skip (.exit 0)) (.seq (.block 1 (.seq (.region a73r5 [3, 4, 6, 11, 12, 13]) (.seq (.region a73r6 [3, 4, 6, 11, 12, 13]) (.seq (.seq (.region a73r7 [3, 4, 6, 11, 12, 13, 24]) (.cond (.t 24) (.region a73r8 [3, 4, 6, 11, 12, 13]) .skip)) (.region a73r9 [3, 4, 11, 12, 13]))))) (.region a73r10 [3, 4, 11, 12, 13]))))))) (.seq (.region a73r11 [3, 4]) (.seq (.region a73r12 [2]) .ret))))))⟩
theorem a73_ok : compileF Tryz.prog (lk [(0, ⟨[1], [], []⟩), (1, ⟨[1, 3], [], []⟩), (2, ⟨[1, 3, 4], [], []⟩), (3, ⟨[3, 4, 11, 12, 13], [], []⟩), (4, ⟨[3, 4, 11, 12, 13, 14], [], []⟩), (5, ⟨[3, 4, 6, 11, 12, 13], [], []⟩), (6, ⟨[3, 4, 6, 11, 12, 13], [], []⟩), (7, ⟨[3, 4, 6, 11, 12, 13, 24], [], []⟩), (8, ⟨[3, 4, 6, 11, 12, 13], [], []⟩), (9, ⟨[3, 4, 11, 12, 13], [], []⟩), (10, ⟨[3, 4, 11, 12, 13], [], []⟩), (11, ⟨[3, 4], [], []⟩), (12, ⟨[2], [], []⟩)]) Tryz.f73 = some a73 := by kernel_rfl

end Go.Proofs.YtaloobgfgehhdaaGreat
