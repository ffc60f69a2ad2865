/- The abstract forms of the functions, printed by a program, and that the given program has these forms. -/
import Derived.Test.YtodbafiepdcfbaaAbsMd
import Derived.Test.YtodbafiepdcfbaaProg
import Derived.KernelRfl
set_option linter.unusedSimpArgs false
set_option linter.unusedVariables false
set_option linter.unusedSectionVars false
namespace Go.Proofs.Ytodbafiepdcfbaa
open Go Go.Abs
/- payroll/payrolllaw8.InboxMerges -/
def a7r0 : List IOp := [⟨some 6, .mv, [.c (.bool false)], none⟩]
def a7r1 : List IOp := [⟨some 11, .mv, [.t 0], none⟩,
  ⟨some 12, .call 12, [.t 11], none⟩,
  ⟨some 7, .mv, [.t 12], none⟩]
def a7r2 : List IOp := [⟨some 8, .mv, [.c (.int .i64 0)], none⟩]
def a7r3 : List IOp := [⟨some 13, .mv, [.t 8], none⟩,
  ⟨some 14, .bin .lss, [.t 13, .c (.int .i64 3)], none⟩]
def a7r4 : List IOp := [⟨some 17, .mv, [.t 7], none⟩,
  ⟨some 18, .mv, [.t 7], none⟩,
  ⟨some 19, .call 28, [.t 18, .c (.int .i64 8)], none⟩,
  ⟨some 20, .call 27, [.t 17, .t 19], none⟩,
  ⟨some 21, .mv, [.t 7], none⟩,
  ⟨some 22, .mv, [.t 7], none⟩,
  ⟨some 23, .call 28, [.t 22, .c (.int .i64 8)], none⟩,
  ⟨some 24, .call 27, [.t 21, .t 23], none⟩,
  ⟨some 25, .call 26, [.t 20, .t 24], none⟩,
  ⟨some 26, .not, [.t 25], none⟩]
def a7r5 : List IOp := [⟨some 6, .mv, [.c (.bool false)], none⟩]
def a7r6 : List IOp := [⟨some 15, .mv, [.t 8], none⟩,
  ⟨some 16, .bin .add, [.t 15, .c (.int .i64 1)], none⟩,
  ⟨some 8, .mv, [.t 16], none⟩]
def a7r7 : List IOp := [⟨some 27, .mv, [.t 7], none⟩,
  ⟨some 28, .call 29, [.t 27], none⟩,
  ⟨some 29, .mv, [.t 7], none⟩,
  ⟨some 30, .call 29, [.t 29], none⟩,
  ⟨some 9, .alloc 64 [.int .i64 0, .int .i64 0, .int .i64 0, .int .i64 0, .int .i64 0, .int .i64 0, .int .i64 0], [], none⟩,
  ⟨some 10, .alloc 64 [.int .i64 0, .int .i64 0, .int .i64 0, .int .i64 0, .int .i64 0, .int .i64 0, .int .i64 0], [], none⟩,
  ⟨none, .store 7, [.t 9, .t 28], none⟩,
  ⟨none, .store 7, [.t 10, .t 30], none⟩]
def a7r8 : List (Nat × DOp) := [(0, ⟨⟨some 31, .mv, [.t 1], none⟩, none, []⟩),
  (1, ⟨⟨some 32, .len, [.t 31], none⟩, none, []⟩),
  (2, ⟨⟨some 33, .bin .gtr, [.t 32, .c (.int .i64 0)], none⟩, none, []⟩),
  (3, ⟨⟨some 34, .mv, [.t 33], none⟩, none, []⟩),
  (4, ⟨⟨some 35, .mv, [.t 2], some (34, true)⟩, none, []⟩),
  (5, ⟨⟨some 36, .len, [.t 35], some (34, true)⟩, none, []⟩),
  (6, ⟨⟨some 37, .bin .gtr, [.t 36, .c (.int .i64 0)], some (34, true)⟩, none, []⟩),
  (7, ⟨⟨some 38, .pick, [.t 34, .t 37, .c (.bool false)], none⟩, none, []⟩),
  (8, ⟨⟨some 39, .mv, [.t 38], none⟩, none, []⟩),
  (9, ⟨⟨some 40, .mv, [.t 1], some (39, true)⟩, none, [12, 13, 14, 16, 17, 18, 19, 20, 21]⟩),
  (10, ⟨⟨some 41, .indexAddr 7, [.t 40, .c (.int .i64 0)], some (39, true)⟩, none, [12, 13, 14, 16, 17, 18, 19, 20, 21]⟩),
  (11, ⟨⟨some 42, .loadA 7, [.t 41], some (39, true)⟩, none, [12, 13, 14, 16, 17, 18, 19, 20, 21]⟩),
  (12, ⟨⟨some 43, .mv, [.t 2], some (39, true)⟩, none, [9, 10, 11, 16, 17, 18, 19, 20, 21]⟩),
  (13, ⟨⟨some 44, .indexAddr 7, [.t 43, .c (.int .i64 0)], some (39, true)⟩, none, [9, 10, 11, 16, 17, 18, 19, 20, 21]⟩),
  (14, ⟨⟨some 45, .loadA 7, [.t 44], some (39, true)⟩, none, [9, 10, 11, 16, 17, 18, 19, 20, 21]⟩),
  (16, ⟨⟨some 47, .mv, [.t 1], some (39, true)⟩, none, [9, 10, 11, 12, 13, 14, 15, 19, 20, 21]⟩),
  (17, ⟨⟨some 48, .indexAddr 7, [.t 47, .c (.int .i64 0)], some (39, true)⟩, none, [9, 10, 11, 12, 13, 14, 15, 19, 20, 21]⟩),
  (18, ⟨⟨some 49, .loadA 7, [.t 48], some (39, true)⟩, none, [9, 10, 11, 12, 13, 14, 15, 19, 20, 21]⟩),
  (19, ⟨⟨some 50, .mv, [.t 2], some (39, true)⟩, none, [9, 10, 11, 12, 13, 14, 15, 16, 17, 18]⟩),
  (20, ⟨⟨some 51, .indexAddr 7, [.t 50, .c (.int .i64 0)], some (39, true)⟩, none, [9, 10, 11, 12, 13, 14, 15, 16, 17, 18]⟩),
  (21, ⟨⟨some 52, .loadA 7, [.t 51], some (39, true)⟩, none, [9, 10, 11, 12, 13, 14, 15, 16, 17, 18]⟩),
  (15, ⟨⟨some 46, .call 30, [.t 42, .t 45], some (39, true)⟩, none, [16, 17, 18, 19, 20, 21]⟩),
  (22, ⟨⟨some 53, .call 31, [.t 49, .t 52], some (39, true)⟩, none, []⟩),
  (23, ⟨⟨some 54, .bin .neq, [.t 46, .t 53], some (39, true)⟩, none, []⟩),
  (24, ⟨⟨some 55, .pick, [.t 39, .t 54, .c (.bool false)], none⟩, none, []⟩)]
def a7r9 : List IOp := [⟨some 6, .mv, [.c (.bool false)], none⟩]
def a7r10 : List (Nat × DOp) := [(0, ⟨⟨some 56, .loadA 7, [.t 9], none⟩, none, [1, 3, 4]⟩),
  (1, ⟨⟨some 57, .loadA 7, [.t 10], none⟩, none, [0, 3, 4]⟩),
  (3, ⟨⟨some 59, .loadA 7, [.t 9], none⟩, none, [0, 1, 2, 4]⟩),
  (4, ⟨⟨some 60, .loadA 7, [.t 10], none⟩, none, [0, 1, 2, 3]⟩),
  (2, ⟨⟨some 58, .call 30, [.t 56, .t 57], none⟩, none, [3, 4]⟩),
  (5, ⟨⟨some 61, .call 31, [.t 59, .t 60], none⟩, none, []⟩),
  (6, ⟨⟨some 62, .bin .eql, [.t 58, .t 61], none⟩, none, []⟩),
  (7, ⟨⟨some 63, .mv, [.t 62], none⟩, none, []⟩),
  (8, ⟨⟨some 64, .mv, [.t 1], some (63, true)⟩, none, []⟩),
  (9, ⟨⟨some 65, .len, [.t 64], some (63, true)⟩, none, []⟩),
  (10, ⟨⟨some 66, .bin .gtr, [.t 65, .c (.int .i64 40)], some (63, true)⟩, none, []⟩),
  (11, ⟨⟨some 67, .mv, [.t 66], some (63, true)⟩, none, []⟩),
  (12, ⟨⟨some 68, .mv, [.t 2], some (67, false)⟩, none, []⟩),
  (13, ⟨⟨some 69, .len, [.t 68], some (67, false)⟩, none, []⟩),
  (14, ⟨⟨some 70, .bin .gtr, [.t 69, .c (.int .i64 40)], some (67, false)⟩, none, []⟩),
  (15, ⟨⟨some 71, .pick, [.t 67, .c (.bool true), .t 70], some (63, true)⟩, none, []⟩),
  (16, ⟨⟨some 72, .mv, [.t 71], some (63, true)⟩, none, []⟩),
  (17, ⟨⟨some 73, .mv, [.t 1], some (72, false)⟩, none, [18]⟩),
  (18, ⟨⟨some 74, .mv, [.t 2], some (72, false)⟩, none, [17]⟩),
  (19, ⟨⟨some 75, .call 26, [.t 73, .t 74], some (72, false)⟩, none, []⟩),
  (20, ⟨⟨some 76, .pick, [.t 72, .c (.bool true), .t 75], some (63, true)⟩, none, []⟩),
  (21, ⟨⟨some 77, .pick, [.t 63, .t 76, .c (.bool false)], none⟩, none, []⟩),
  (22, ⟨⟨some 78, .mv, [.t 77], none⟩, none, []⟩),
  (23, ⟨⟨some 79, .call 32, [], some (78, true)⟩, none, []⟩),
  (24, ⟨⟨some 80, .pick, [.t 78, .t 79, .c (.bool false)], none⟩, none, []⟩),
  (25, ⟨⟨some 6, .mv, [.t 80], none⟩, none, []⟩)]
def a7 : AFunc := ⟨81, [.tmp 6], (.seq (.region a7r0 [0, 1, 2]) (.seq (.region a7r1 [1, 2, 7]) (.seq (.seq (.region a7r2 [1, 2, 7, 8]) (.block 0 (.loop (.seq (.seq (.region a7r3 [1, 2, 7, 8, 14]) (.cond (.t 14) .skip (.exit 0))) (.seq (.block 1 (.seq (.region a7r4 [1, 2, 7, 8, 26]) (.cond (.t 26) (.seq (.region a7r5 [6]) .ret) .skip))) (.region a7r6 [1, 2, 7, 8])))))) (.seq (.region a7r7 [1, 2, 9, 10]) (.seq (.seq (.draw a7r8 [] [1, 2, 9, 10, 55]) (.cond (.t 55) (.seq (.region a7r9 [6]) .ret) .skip)) (.seq (.draw a7r10 [] [6]) .ret))))))⟩
theorem a7_ok : compileF Try.prog (lk [(0, ⟨[0, 1, 2], [], []⟩), (1, ⟨[1, 2, 7], [], []⟩), (2, ⟨[1, 2, 7, 8], [], []⟩), (3, ⟨[1, 2, 7, 8, 14], [], []⟩), (4, ⟨[1, 2, 7, 8], [], []⟩), (5, ⟨[1, 2, 7, 8, 26], [], []⟩), (6, ⟨[6], [], []⟩), (7, ⟨[1, 2, 9, 10], [], []⟩), (8, ⟨[1, 2, 9, 10, 55], [[], [0], [1, 0], [2, 1, 0], [3, 2, 1, 0], [4, 3, 2, 1, 0], [5, 3, 4, 2, 1, 0], [3, 6, 2, 1, 0, 5, 4], [7, 3, 6, 2, 1, 0, 5, 4], [8, 7, 3, 6, 2, 1, 0, 5, 4], [9, 8, 7, 3, 6, 2, 1, 0, 5, 4], [10, 8, 9, 7, 3, 6, 2, 1, 0, 5, 4], [8, 7, 3, 6, 2, 1, 0, 5, 4], [12, 8, 7, 3, 6, 2, 1, 0, 5, 4], [13, 8, 12, 7, 3, 6, 2, 1, 0, 5, 4], [11, 14, 8, 10, 9, 7, 3, 6, 2, 1, 0, 5, 4, 13, 12], [8, 7, 3, 6, 2, 1, 0, 5, 4], [16, 8, 7, 3, 6, 2, 1, 0, 5, 4], [17, 8, 16, 7, 3, 6, 2, 1, 0, 5, 4], [8, 7, 3, 6, 2, 1, 0, 5, 4], [19, 8, 7, 3, 6, 2, 1, 0, 5, 4], [20, 8, 19, 7, 3, 6, 2, 1, 0, 5, 4], [18, 21, 15, 8, 17, 16, 7, 3, 6, 2, 1, 0, 5, 4, 20, 19, 11, 14, 10, 9, 13, 12], [15, 22, 8, 11, 14, 10, 9, 7, 3, 6, 2, 1, 0, 5, 4, 13, 12, 18, 21, 17, 16, 20, 19], [8, 23, 7, 3, 6, 2, 1, 0, 5, 4, 15, 22, 11, 14, 10, 9, 13, 12, 18, 21, 17, 16, 20, 19]], [0, 1, 2, 3, 4, 5, 6, 7, 8, 9, 10, 11, 12, 13, 14, 16, 17, 18, 19, 20, 21, 15, 22, 23, 24]⟩), (9, ⟨[6], [], []⟩), (10, ⟨[6], [[], [], [0, 1], [], [], [3, 4, 2, 0, 1], [2, 5, 0, 1, 3, 4], [6, 5, 2, 0, 1, 3, 4], [7, 6, 5, 2, 0, 1, 3, 4], [8, 7, 6, 5, 2, 0, 1, 3, 4], [9, 7, 8, 6, 5, 2, 0, 1, 3, 4], [10, 7, 9, 8, 6, 5, 2, 0, 1, 3, 4], [11, 10, 7, 9, 8, 6, 5, 2, 0, 1, 3, 4], [12, 11, 10, 7, 9, 8, 6, 5, 2, 0, 1, 3, 4], [13, 11, 12, 10, 7, 9, 8, 6, 5, 2, 0, 1, 3, 4], [11, 14, 7, 10, 9, 8, 6, 5, 2, 0, 1, 3, 4, 13, 12], [15, 11, 7, 14, 10, 9, 8, 6, 5, 2, 0, 1, 3, 4, 13, 12], [16, 15, 11, 7, 14, 10, 9, 8, 6, 5, 2, 0, 1, 3, 4, 13, 12], [16, 15, 11, 7, 14, 10, 9, 8, 6, 5, 2, 0, 1, 3, 4, 13, 12], [17, 18, 16, 15, 11, 7, 14, 10, 9, 8, 6, 5, 2, 0, 1, 3, 4, 13, 12], [16, 19, 7, 15, 11, 14, 10, 9, 8, 6, 5, 2, 0, 1, 3, 4, 13, 12, 17, 18], [7, 20, 6, 5, 2, 0, 1, 3, 4, 16, 19, 15, 11, 14, 10, 9, 8, 13, 12, 17, 18], [21, 19, 7, 20, 6, 5, 2, 0, 1, 3, 4, 16, 15, 11, 14, 10, 9, 8, 13, 12, 17, 18], [22, 21, 19, 7, 20, 6, 5, 2, 0, 1, 3, 4, 16, 15, 11, 14, 10, 9, 8, 13, 12, 17, 18], [22, 23, 21, 19, 7, 20, 6, 5, 2, 0, 1, 3, 4, 16, 15, 11, 14, 10, 9, 8, 13, 12, 17, 18], [24, 23, 0, 1, 2, 3, 4, 5, 6, 7, 8, 9, 10, 11, 12, 13, 14, 15, 16, 17, 18, 19, 20, 21, 22]], [0, 1, 3, 4, 2, 5, 6, 7, 8, 9, 10, 11, 12, 13, 14, 15, 16, 17, 18, 19, 20, 21, 22, 23, 24, 25]⟩)]) Try.f7 = some a7 := by kernel_rfl

/- payroll/payrolllaw8.InboxReads -/
def a8r0 : List IOp := [⟨some 6, .mv, [.c (.bool false)], none⟩]
def a8r1 : List IOp := [⟨some 9, .mv, [.t 0], none⟩,
  ⟨some 10, .call 12, [.t 9], none⟩,
  ⟨some 7, .mv, [.t 10], none⟩]
def a8r2 : List IOp := [⟨some 8, .mv, [.c (.int .i64 0)], none⟩]
def a8r3 : List IOp := [⟨some 11, .mv, [.t 8], none⟩,
  ⟨some 12, .bin .lss, [.t 11, .c (.int .i64 3)], none⟩]
def a8r4 : List IOp := [⟨some 15, .mv, [.t 7], none⟩,
  ⟨some 16, .mv, [.t 7], none⟩,
  ⟨some 17, .call 28, [.t 16, .c (.int .i64 12)], none⟩,
  ⟨some 18, .call 27, [.t 15, .t 17], none⟩,
  ⟨some 19, .mv, [.t 7], none⟩,
  ⟨some 20, .call 14, [.t 19, .c (.int .i64 2)], none⟩,
  ⟨some 21, .bin .add, [.c (.int .i64 1), .t 20], none⟩,
  ⟨some 22, .call 33, [.t 18, .t 21], none⟩,
  ⟨some 23, .not, [.t 22], none⟩,
  ⟨some 24, .mv, [.t 23], none⟩,
  ⟨some 25, .mv, [.t 7], some (24, false)⟩,
  ⟨some 26, .call 34, [.t 25, .c (.int .i64 3)], some (24, false)⟩,
  ⟨some 27, .call 33, [.t 26, .c (.int .i64 1)], some (24, false)⟩,
  ⟨some 28, .not, [.t 27], some (24, false)⟩,
  ⟨some 29, .pick, [.t 24, .c (.bool true), .t 28], none⟩]
def a8r5 : List IOp := [⟨some 6, .mv, [.c (.bool false)], none⟩]
def a8r6 : List IOp := [⟨some 13, .mv, [.t 8], none⟩,
  ⟨some 14, .bin .add, [.t 13, .c (.int .i64 1)], none⟩,
  ⟨some 8, .mv, [.t 14], none⟩]
def a8r7 : List IOp := [⟨some 30, .mv, [.t 1], none⟩,
  ⟨some 31, .len, [.t 30], none⟩,
  ⟨some 32, .bin .gtr, [.t 31, .c (.int .i64 40)], none⟩,
  ⟨some 33, .mv, [.t 32], none⟩,
  ⟨some 34, .mv, [.t 1], some (33, false)⟩,
  ⟨some 35, .mv, [.t 2], some (33, false)⟩,
  ⟨some 36, .call 33, [.t 34, .t 35], some (33, false)⟩,
  ⟨some 37, .mv, [.t 36], some (33, false)⟩,
  ⟨some 38, .call 32, [], some (37, true)⟩,
  ⟨some 39, .pick, [.t 37, .t 38, .c (.bool false)], some (33, false)⟩,
  ⟨some 40, .pick, [.t 33, .c (.bool true), .t 39], none⟩,
  ⟨some 6, .mv, [.t 40], none⟩]
def a8 : AFunc := ⟨41, [.tmp 6], (.seq (.region a8r0 [0, 1, 2]) (.seq (.region a8r1 [1, 2, 7]) (.seq (.seq (.region a8r2 [1, 2, 7, 8]) (.block 0 (.loop (.seq (.seq (.region a8r3 [1, 2, 7, 8, 12]) (.cond (.t 12) .skip (.exit 0))) (.seq (.block 1 (.seq (.region a8r4 [1, 2, 7, 8, 29]) (.cond (.t 29) (.seq (.region a8r5 [6]) .ret) .skip))) (.region a8r6 [1, 2, 7, 8])))))) (.seq (.region a8r7 [6]) .ret))))⟩
theorem a8_ok : compileF Try.prog (lk [(0, ⟨[0, 1, 2], [], []⟩), (1, ⟨[1, 2, 7], [], []⟩), (2, ⟨[1, 2, 7, 8], [], []⟩), (3, ⟨[1, 2, 7, 8, 12], [], []⟩), (4, ⟨[1, 2, 7, 8], [], []⟩), (5, ⟨[1, 2, 7, 8, 29], [], []⟩), (6, ⟨[6], [], []⟩), (7, ⟨[6], [], []⟩)]) Try.f8 = some a8 := by kernel_rfl

/- payroll/payrolllaw8.InboxOrderless -/
def a9r0 : List IOp := [⟨some 4, .mv, [.c (.bool false)], none⟩]
def a9r1 : List IOp := [⟨some 26, .mv, [.t 0], none⟩,
  ⟨some 27, .call 12, [.t 26], none⟩,
  ⟨some 5, .mv, [.t 27], none⟩]
def a9r2 : List IOp := [⟨some 28, .mv, [.t 5], none⟩,
  ⟨some 29, .call 28, [.t 28, .c (.int .i64 6)], none⟩,
  ⟨some 30, .mv, [.t 5], none⟩,
  ⟨some 31, .call 28, [.t 30, .c (.int .i64 6)], none⟩,
  ⟨some 32, .mv, [.t 5], none⟩,
  ⟨some 33, .call 34, [.t 32, .c (.int .i64 2)], none⟩,
  ⟨some 6, .mv, [.t 29], none⟩,
  ⟨some 7, .mv, [.t 31], none⟩,
  ⟨some 8, .mv, [.t 33], none⟩]
def a9r3 : List IOp := [⟨some 35, .mv, [.t 6], none⟩,
  ⟨some 36, .mv, [.t 7], none⟩,
  ⟨some 37, .call 35, [.t 35, .t 36], none⟩,
  ⟨some 34, .mv, [.t 37], none⟩,
  ⟨some 38, .extract 0, [.t 34], none⟩,
  ⟨some 39, .extract 1, [.t 34], none⟩,
  ⟨some 9, .mv, [.t 38], none⟩,
  ⟨some 10, .mv, [.t 39], none⟩]
def a9r4 : List IOp := [⟨some 41, .mv, [.t 7], none⟩,
  ⟨some 42, .mv, [.t 6], none⟩,
  ⟨some 43, .call 35, [.t 41, .t 42], none⟩,
  ⟨some 40, .mv, [.t 43], none⟩,
  ⟨some 44, .extract 0, [.t 40], none⟩,
  ⟨some 45, .extract 1, [.t 40], none⟩,
  ⟨some 11, .mv, [.t 44], none⟩,
  ⟨some 12, .mv, [.t 45], none⟩]
def a9r5 : List IOp := [⟨some 47, .mv, [.t 9], none⟩,
  ⟨some 48, .mv, [.t 8], none⟩,
  ⟨some 49, .call 35, [.t 47, .t 48], none⟩,
  ⟨some 46, .mv, [.t 49], none⟩,
  ⟨some 50, .extract 0, [.t 46], none⟩,
  ⟨some 51, .extract 1, [.t 46], none⟩,
  ⟨some 13, .mv, [.t 50], none⟩,
  ⟨some 14, .mv, [.t 51], none⟩]
def a9r6 : List IOp := [⟨some 53, .mv, [.t 8], none⟩,
  ⟨some 54, .mv, [.t 7], none⟩,
  ⟨some 55, .call 35, [.t 53, .t 54], none⟩,
  ⟨some 52, .mv, [.t 55], none⟩,
  ⟨some 56, .extract 0, [.t 52], none⟩,
  ⟨some 57, .extract 1, [.t 52], none⟩,
  ⟨some 15, .mv, [.t 56], none⟩,
  ⟨some 16, .mv, [.t 57], none⟩]
def a9r7 : List IOp := [⟨some 59, .mv, [.t 6], none⟩,
  ⟨some 60, .mv, [.t 15], none⟩,
  ⟨some 61, .call 35, [.t 59, .t 60], none⟩,
  ⟨some 58, .mv, [.t 61], none⟩,
  ⟨some 62, .extract 0, [.t 58], none⟩,
  ⟨some 63, .extract 1, [.t 58], none⟩,
  ⟨some 17, .mv, [.t 62], none⟩,
  ⟨some 18, .mv, [.t 63], none⟩]
def a9r8 : List IOp := [⟨some 65, .mv, [.t 13], none⟩,
  ⟨some 66, .mv, [.t 13], none⟩,
  ⟨some 67, .call 35, [.t 65, .t 66], none⟩,
  ⟨some 64, .mv, [.t 67], none⟩,
  ⟨some 68, .extract 0, [.t 64], none⟩,
  ⟨some 69, .extract 1, [.t 64], none⟩,
  ⟨some 19, .mv, [.t 68], none⟩,
  ⟨some 20, .mv, [.t 69], none⟩]
def a9r9 : List IOp := [⟨some 70, .mv, [.t 10], none⟩,
  ⟨some 71, .bin .neq, [.t 70, .c (.int .i64 0)], none⟩,
  ⟨some 72, .mv, [.t 71], none⟩,
  ⟨some 73, .mv, [.t 12], some (72, false)⟩,
  ⟨some 74, .bin .neq, [.t 73, .c (.int .i64 0)], some (72, false)⟩,
  ⟨some 75, .pick, [.t 72, .c (.bool true), .t 74], none⟩,
  ⟨some 76, .mv, [.t 75], none⟩,
  ⟨some 77, .mv, [.t 14], some (76, false)⟩,
  ⟨some 78, .bin .neq, [.t 77, .c (.int .i64 0)], some (76, false)⟩,
  ⟨some 79, .pick, [.t 76, .c (.bool true), .t 78], none⟩,
  ⟨some 80, .mv, [.t 79], none⟩,
  ⟨some 81, .mv, [.t 16], some (80, false)⟩,
  ⟨some 82, .bin .neq, [.t 81, .c (.int .i64 0)], some (80, false)⟩,
  ⟨some 83, .pick, [.t 80, .c (.bool true), .t 82], none⟩,
  ⟨some 84, .mv, [.t 83], none⟩,
  ⟨some 85, .mv, [.t 18], some (84, false)⟩,
  ⟨some 86, .bin .neq, [.t 85, .c (.int .i64 0)], some (84, false)⟩,
  ⟨some 87, .pick, [.t 84, .c (.bool true), .t 86], none⟩,
  ⟨some 88, .mv, [.t 87], none⟩,
  ⟨some 89, .mv, [.t 20], some (88, false)⟩,
  ⟨some 90, .bin .neq, [.t 89, .c (.int .i64 0)], some (88, false)⟩,
  ⟨some 91, .pick, [.t 88, .c (.bool true), .t 90], none⟩,
  ⟨some 92, .mv, [.t 91], none⟩,
  ⟨some 93, .mv, [.t 9], some (92, false)⟩,
  ⟨some 94, .mv, [.t 11], some (92, false)⟩,
  ⟨some 95, .call 36, [.t 93, .t 94], some (92, false)⟩,
  ⟨some 96, .not, [.t 95], some (92, false)⟩,
  ⟨some 97, .pick, [.t 92, .c (.bool true), .t 96], none⟩,
  ⟨some 98, .mv, [.t 97], none⟩,
  ⟨some 99, .mv, [.t 13], some (98, false)⟩,
  ⟨some 100, .mv, [.t 17], some (98, false)⟩,
  ⟨some 101, .call 36, [.t 99, .t 100], some (98, false)⟩,
  ⟨some 102, .not, [.t 101], some (98, false)⟩,
  ⟨some 103, .pick, [.t 98, .c (.bool true), .t 102], none⟩,
  ⟨some 104, .mv, [.t 103], none⟩,
  ⟨some 105, .mv, [.t 13], some (104, false)⟩,
  ⟨some 106, .mv, [.t 19], some (104, false)⟩,
  ⟨some 107, .call 36, [.t 105, .t 106], some (104, false)⟩,
  ⟨some 108, .not, [.t 107], some (104, false)⟩,
  ⟨some 109, .pick, [.t 104, .c (.bool true), .t 108], none⟩]
def a9r10 : List IOp := [⟨some 4, .mv, [.c (.bool false)], none⟩]
def a9r11 : List IOp := [⟨some 110, .mv, [.t 1], none⟩,
  ⟨some 111, .call 22, [.t 110, .c (.int .i64 2)], none⟩,
  ⟨some 112, .bin .add, [.c (.int .i64 1), .t 111], none⟩,
  ⟨some 21, .mv, [.t 112], none⟩]
def a9r12 : List IOp := [⟨some 114, .nilsl, [], none⟩,
  ⟨some 115, .mv, [.t 8], none⟩,
  ⟨some 116, .append 64 7 56, [.t 114, .t 115], none⟩,
  ⟨some 117, .mv, [.t 6], none⟩,
  ⟨some 118, .append 64 7 56, [.t 116, .t 117], none⟩,
  ⟨some 119, .mv, [.t 7], none⟩,
  ⟨some 120, .append 64 7 56, [.t 118, .t 119], none⟩,
  ⟨some 121, .mv, [.t 21], none⟩,
  ⟨some 122, .call 37, [.t 120, .t 121], none⟩,
  ⟨some 113, .mv, [.t 122], none⟩,
  ⟨some 123, .extract 0, [.t 113], none⟩,
  ⟨some 124, .extract 1, [.t 113], none⟩,
  ⟨some 22, .mv, [.t 123], none⟩,
  ⟨some 23, .mv, [.t 124], none⟩]
def a9r13 : List IOp := [⟨some 126, .mv, [.t 13], none⟩,
  ⟨some 127, .mv, [.t 21], none⟩,
  ⟨some 128, .call 37, [.t 126, .t 127], none⟩,
  ⟨some 125, .mv, [.t 128], none⟩,
  ⟨some 129, .extract 0, [.t 125], none⟩,
  ⟨some 130, .extract 1, [.t 125], none⟩,
  ⟨some 24, .mv, [.t 129], none⟩,
  ⟨some 25, .mv, [.t 130], none⟩]
def a9r14 : List IOp := [⟨some 131, .mv, [.t 23], none⟩,
  ⟨some 132, .bin .eql, [.t 131, .c (.int .i64 0)], none⟩,
  ⟨some 133, .mv, [.t 132], none⟩,
  ⟨some 134, .mv, [.t 25], some (133, true)⟩,
  ⟨some 135, .bin .eql, [.t 134, .c (.int .i64 0)], some (133, true)⟩,
  ⟨some 136, .pick, [.t 133, .t 135, .c (.bool false)], none⟩,
  ⟨some 137, .mv, [.t 136], none⟩,
  ⟨some 138, .mv, [.t 22], some (137, true)⟩,
  ⟨some 139, .mv, [.t 24], some (137, true)⟩,
  ⟨some 140, .call 38, [.t 138, .t 139], some (137, true)⟩,
  ⟨some 141, .pick, [.t 137, .t 140, .c (.bool false)], none⟩,
  ⟨some 142, .mv, [.t 141], none⟩,
  ⟨some 143, .call 32, [], some (142, true)⟩,
  ⟨some 144, .pick, [.t 142, .t 143, .c (.bool false)], none⟩,
  ⟨some 4, .mv, [.t 144], none⟩]
def a9 : AFunc := ⟨145, [.tmp 4], (.seq (.region a9r0 [0, 1]) (.seq (.region a9r1 [1, 5]) (.seq (.region a9r2 [1, 6, 7, 8]) (.seq (.region a9r3 [1, 6, 7, 8, 9, 10]) (.seq (.region a9r4 [1, 6, 7, 8, 9, 10, 11, 12]) (.seq (.region a9r5 [1, 6, 7, 8, 9, 10, 11, 12, 13, 14]) (.seq (.region a9r6 [1, 6, 7, 8, 9, 10, 11, 12, 13, 14, 15, 16]) (.seq (.region a9r7 [1, 6, 7, 8, 9, 10, 11, 12, 13, 14, 16, 17, 18]) (.seq (.region a9r8 [1, 6, 7, 8, 9, 10, 11, 12, 13, 14, 16, 17, 18, 19, 20]) (.seq (.seq (.region a9r9 [1, 6, 7, 8, 13, 109]) (.cond (.t 109) (.seq (.region a9r10 [4]) .ret) .skip)) (.seq (.region a9r11 [6, 7, 8, 13, 21]) (.seq (.region a9r12 [13, 21, 22, 23]) (.seq (.region a9r13 [22, 23, 24, 25]) (.seq (.region a9r14 [4]) .ret))))))))))))))⟩
theorem a9_ok : compileF Try.prog (lk [(0, ⟨[0, 1], [], []⟩), (1, ⟨[1, 5], [], []⟩), (2, ⟨[1, 6, 7, 8], [], []⟩), (3, ⟨[1, 6, 7, 8, 9, 10], [], []⟩), (4, ⟨[1, 6, 7, 8, 9, 10, 11, 12], [], []⟩), (5, ⟨[1, 6, 7, 8, 9, 10, 11, 12, 13, 14], [], []⟩), (6, ⟨[1, 6, 7, 8, 9, 10, 11, 12, 13, 14, 15, 16], [], []⟩), (7, ⟨[1, 6, 7, 8, 9, 10, 11, 12, 13, 14, 16, 17, 18], [], []⟩), (8, ⟨[1, 6, 7, 8, 9, 10, 11, 12, 13, 14, 16, 17, 18, 19, 20], [], []⟩), (9, ⟨[1, 6, 7, 8, 13, 109], [], []⟩), (10, ⟨[4], [], []⟩), (11, ⟨[6, 7, 8, 13, 21], [], []⟩), (12, ⟨[13, 21, 22, 23], [], []⟩), (13, ⟨[22, 23, 24, 25], [], []⟩), (14, ⟨[4], [], []⟩)]) Try.f9 = some a9 := by kernel_rfl

/- payroll/payrolllaw8.InboxCancels -/
def a10r0 : List IOp := [⟨some 4, .mv, [.c (.bool false)], none⟩]
def a10r1 : List IOp := [⟨some 18, .mv, [.t 0], none⟩,
  ⟨some 19, .call 12, [.t 18], none⟩,
  ⟨some 5, .mv, [.t 19], none⟩]
def a10r2 : List IOp := [⟨some 20, .mv, [.t 5], none⟩,
  ⟨some 21, .call 28, [.t 20, .c (.int .i64 8)], none⟩,
  ⟨some 22, .mv, [.t 5], none⟩,
  ⟨some 23, .call 34, [.t 22, .c (.int .i64 1)], none⟩,
  ⟨some 24, .append 64 7 56, [.t 21, .t 23], none⟩,
  ⟨some 6, .mv, [.t 24], none⟩]
def a10r3 : List IOp := [⟨some 26, .mv, [.t 6], none⟩,
  ⟨some 27, .call 37, [.t 26, .c (.int .i64 1)], none⟩,
  ⟨some 25, .mv, [.t 27], none⟩,
  ⟨some 28, .extract 0, [.t 25], none⟩,
  ⟨some 29, .extract 1, [.t 25], none⟩,
  ⟨some 7, .mv, [.t 28], none⟩,
  ⟨some 8, .mv, [.t 29], none⟩]
def a10r4 : List IOp := [⟨some 30, .mv, [.t 8], none⟩,
  ⟨some 31, .bin .neq, [.t 30, .c (.int .i64 0)], none⟩]
def a10r5 : List IOp := [⟨some 4, .mv, [.c (.bool false)], none⟩]
def a10r6 : List IOp := [⟨some 32, .mv, [.t 7], none⟩,
  ⟨some 33, .len, [.t 32], none⟩,
  ⟨some 34, .bin .eql, [.t 33, .c (.int .i64 0)], none⟩]
def a10r7 : List IOp := [⟨some 35, .call 32, [], none⟩,
  ⟨some 4, .mv, [.t 35], none⟩]
def a10r8 : List IOp := [⟨some 36, .mv, [.t 7], none⟩,
  ⟨some 37, .mv, [.t 1], none⟩,
  ⟨some 38, .mv, [.t 7], none⟩,
  ⟨some 39, .len, [.t 38], none⟩,
  ⟨some 40, .call 22, [.t 37, .t 39], none⟩,
  ⟨some 41, .indexAddr 4, [.t 36, .t 40], none⟩,
  ⟨some 42, .loadA 4, [.t 41], none⟩,
  ⟨some 9, .alloc 77 [.int .i64 0, .int .i64 0, .int .i64 0, .int .i64 0], [], none⟩,
  ⟨none, .store 4, [.t 9, .t 42], none⟩]
def a10r9 : List IOp := [⟨some 43, .build [.int .i64 0, .int .i64 0] [(0, 1), (1, 1)], [.c (.int .i64 60000), .c (.int .i64 1)], none⟩,
  ⟨some 10, .alloc 62 [.int .i64 0, .int .i64 0], [], none⟩,
  ⟨none, .store 2, [.t 10, .t 43], none⟩]
def a10r10 : List (Nat × DOp) := [(0, ⟨⟨some 45, .nilsl, [], none⟩, none, [1, 3, 4, 5, 6, 7]⟩),
  (1, ⟨⟨some 46, .mv, [.t 6], none⟩, none, [0, 3, 4, 5, 6, 7]⟩),
  (3, ⟨⟨some 48, .loadA 2, [.t 10], none⟩, none, [0, 1, 2, 4, 5]⟩),
  (4, ⟨⟨some 49, .fieldAddr 2, [.t 9], none⟩, none, [0, 1, 2, 3]⟩),
  (5, ⟨⟨some 50, .loadA 2, [.t 49], none⟩, none, [0, 1, 2, 3]⟩),
  (6, ⟨⟨some 51, .build [.int .i64 0, .int .i64 0, .int .i64 0, .int .i64 0, .int .i64 0, .int .i64 0, .int .i64 0] [(0, 2), (2, 1), (4, 1), (5, 2)], [.t 48, .c (.int .i64 1), .c (.int .i64 5), .t 50], none⟩, none, [0, 1, 2]⟩),
  (7, ⟨⟨some 52, .bslice 64 7 [.int .i64 0, .int .i64 0, .int .i64 0, .int .i64 0, .int .i64 0, .int .i64 0, .int .i64 0] 1 [0], [.t 51], none⟩, some 0, [0, 1, 2]⟩),
  (2, ⟨⟨some 47, .append 64 7 56, [.t 45, .t 46], none⟩, none, [3, 4, 5, 6, 7]⟩),
  (8, ⟨⟨some 53, .append 64 7 56, [.t 47, .t 52], none⟩, none, []⟩),
  (9, ⟨⟨some 54, .call 37, [.t 53, .c (.int .i64 1)], none⟩, none, []⟩),
  (10, ⟨⟨some 44, .mv, [.t 54], none⟩, none, []⟩),
  (11, ⟨⟨some 55, .extract 0, [.t 44], none⟩, none, [12]⟩),
  (12, ⟨⟨some 56, .extract 1, [.t 44], none⟩, none, [11, 13]⟩),
  (13, ⟨⟨some 11, .mv, [.t 55], none⟩, none, [12]⟩),
  (14, ⟨⟨some 12, .mv, [.t 56], none⟩, none, []⟩)]
def a10r11 : List (Nat × DOp) := [(0, ⟨⟨some 58, .nilsl, [], none⟩, none, [1, 3, 4, 5, 6, 7]⟩),
  (1, ⟨⟨some 59, .mv, [.t 6], none⟩, none, [0, 3, 4, 5, 6, 7]⟩),
  (3, ⟨⟨some 61, .loadA 2, [.t 10], none⟩, none, [0, 1, 2, 4, 5]⟩),
  (4, ⟨⟨some 62, .fieldAddr 2, [.t 9], none⟩, none, [0, 1, 2, 3]⟩),
  (5, ⟨⟨some 63, .loadA 2, [.t 62], none⟩, none, [0, 1, 2, 3]⟩),
  (6, ⟨⟨some 64, .build [.int .i64 0, .int .i64 0, .int .i64 0, .int .i64 0, .int .i64 0, .int .i64 0, .int .i64 0] [(0, 2), (2, 1), (4, 1), (5, 2)], [.t 61, .c (.int .i64 2), .c (.int .i64 5), .t 63], none⟩, none, [0, 1, 2]⟩),
  (7, ⟨⟨some 65, .bslice 64 7 [.int .i64 0, .int .i64 0, .int .i64 0, .int .i64 0, .int .i64 0, .int .i64 0, .int .i64 0] 1 [0], [.t 64], none⟩, some 0, [0, 1, 2]⟩),
  (2, ⟨⟨some 60, .append 64 7 56, [.t 58, .t 59], none⟩, none, [3, 4, 5, 6, 7]⟩),
  (8, ⟨⟨some 66, .append 64 7 56, [.t 60, .t 65], none⟩, none, []⟩),
  (9, ⟨⟨some 67, .call 37, [.t 66, .c (.int .i64 1)], none⟩, none, []⟩),
  (10, ⟨⟨some 57, .mv, [.t 67], none⟩, none, []⟩),
  (11, ⟨⟨some 68, .extract 0, [.t 57], none⟩, none, [12]⟩),
  (12, ⟨⟨some 69, .extract 1, [.t 57], none⟩, none, [11, 13]⟩),
  (13, ⟨⟨some 13, .mv, [.t 68], none⟩, none, [12]⟩),
  (14, ⟨⟨some 14, .mv, [.t 69], none⟩, none, []⟩)]
def a10r12 : List (Nat × DOp) := [(0, ⟨⟨some 71, .nilsl, [], none⟩, none, [1, 3, 4, 5, 6, 7]⟩),
  (1, ⟨⟨some 72, .mv, [.t 6], none⟩, none, [0, 3, 4, 5, 6, 7]⟩),
  (3, ⟨⟨some 74, .loadA 2, [.t 10], none⟩, none, [0, 1, 2, 4, 5]⟩),
  (4, ⟨⟨some 75, .fieldAddr 2, [.t 9], none⟩, none, [0, 1, 2, 3]⟩),
  (5, ⟨⟨some 76, .loadA 2, [.t 75], none⟩, none, [0, 1, 2, 3]⟩),
  (6, ⟨⟨some 77, .build [.int .i64 0, .int .i64 0, .int .i64 0, .int .i64 0, .int .i64 0, .int .i64 0, .int .i64 0] [(0, 2), (2, 1), (3, 1), (4, 1), (5, 2)], [.t 74, .c (.int .i64 1), .c (.int .i64 7), .c (.int .i64 6), .t 76], none⟩, none, [0, 1, 2]⟩),
  (7, ⟨⟨some 78, .bslice 64 7 [.int .i64 0, .int .i64 0, .int .i64 0, .int .i64 0, .int .i64 0, .int .i64 0, .int .i64 0] 1 [0], [.t 77], none⟩, some 0, [0, 1, 2]⟩),
  (2, ⟨⟨some 73, .append 64 7 56, [.t 71, .t 72], none⟩, none, [3, 4, 5, 6, 7]⟩),
  (8, ⟨⟨some 79, .append 64 7 56, [.t 73, .t 78], none⟩, none, []⟩),
  (9, ⟨⟨some 80, .call 37, [.t 79, .c (.int .i64 1)], none⟩, none, []⟩),
  (10, ⟨⟨some 70, .mv, [.t 80], none⟩, none, []⟩),
  (11, ⟨⟨some 81, .extract 0, [.t 70], none⟩, none, [12]⟩),
  (12, ⟨⟨some 82, .extract 1, [.t 70], none⟩, none, [11, 13]⟩),
  (13, ⟨⟨some 15, .mv, [.t 81], none⟩, none, [12]⟩),
  (14, ⟨⟨some 16, .mv, [.t 82], none⟩, none, []⟩)]
def a10r13 : List IOp := [⟨some 83, .mv, [.t 12], none⟩,
  ⟨some 84, .bin .neq, [.t 83, .c (.int .i64 0)], none⟩,
  ⟨some 85, .mv, [.t 84], none⟩,
  ⟨some 86, .mv, [.t 14], some (85, false)⟩,
  ⟨some 87, .bin .neq, [.t 86, .c (.int .i64 0)], some (85, false)⟩,
  ⟨some 88, .pick, [.t 85, .c (.bool true), .t 87], none⟩,
  ⟨some 89, .mv, [.t 88], none⟩,
  ⟨some 90, .mv, [.t 16], some (89, false)⟩,
  ⟨some 91, .bin .neq, [.t 90, .c (.int .i64 0)], some (89, false)⟩,
  ⟨some 92, .pick, [.t 89, .c (.bool true), .t 91], none⟩,
  ⟨some 93, .mv, [.t 92], none⟩,
  ⟨some 94, .mv, [.t 11], some (93, false)⟩,
  ⟨some 95, .len, [.t 94], some (93, false)⟩,
  ⟨some 96, .mv, [.t 7], some (93, false)⟩,
  ⟨some 97, .len, [.t 96], some (93, false)⟩,
  ⟨some 98, .bin .sub, [.t 97, .c (.int .i64 1)], some (93, false)⟩,
  ⟨some 99, .bin .neq, [.t 95, .t 98], some (93, false)⟩,
  ⟨some 100, .pick, [.t 93, .c (.bool true), .t 99], none⟩,
  ⟨some 101, .mv, [.t 100], none⟩,
  ⟨some 102, .mv, [.t 13], some (101, false)⟩,
  ⟨some 103, .mv, [.t 7], some (101, false)⟩,
  ⟨some 104, .call 38, [.t 102, .t 103], some (101, false)⟩,
  ⟨some 105, .not, [.t 104], some (101, false)⟩,
  ⟨some 106, .pick, [.t 101, .c (.bool true), .t 105], none⟩,
  ⟨some 107, .mv, [.t 106], none⟩,
  ⟨some 108, .mv, [.t 15], some (107, false)⟩,
  ⟨some 109, .len, [.t 108], some (107, false)⟩,
  ⟨some 110, .mv, [.t 7], some (107, false)⟩,
  ⟨some 111, .len, [.t 110], some (107, false)⟩,
  ⟨some 112, .bin .neq, [.t 109, .t 111], some (107, false)⟩,
  ⟨some 113, .pick, [.t 107, .c (.bool true), .t 112], none⟩]
def a10r14 : List IOp := [⟨some 4, .mv, [.c (.bool false)], none⟩]
def a10r15 : List IOp := [⟨some 17, .mv, [.c (.int .i64 0)], none⟩]
def a10r16 : List IOp := [⟨some 114, .mv, [.t 17], none⟩,
  ⟨some 115, .mv, [.t 11], none⟩,
  ⟨some 116, .len, [.t 115], none⟩,
  ⟨some 117, .bin .lss, [.t 114, .t 116], none⟩]
def a10r17 : List (Nat × DOp) := [(0, ⟨⟨some 120, .mv, [.t 11], none⟩, none, [1, 5, 6]⟩),
  (1, ⟨⟨some 121, .mv, [.t 17], none⟩, none, [0, 5, 6]⟩),
  (2, ⟨⟨some 122, .indexAddr 4, [.t 120, .t 121], none⟩, none, [5, 6]⟩),
  (3, ⟨⟨some 123, .fieldAddr 2, [.t 122], none⟩, none, [5, 6]⟩),
  (4, ⟨⟨some 124, .loadA 2, [.t 123], none⟩, none, [5, 6]⟩),
  (5, ⟨⟨some 125, .fieldAddr 2, [.t 9], none⟩, none, [0, 1, 2, 3, 4]⟩),
  (6, ⟨⟨some 126, .loadA 2, [.t 125], none⟩, none, [0, 1, 2, 3, 4]⟩),
  (7, ⟨⟨some 127, .eqA false [.int .i64, .int .i64], [.t 124, .t 126], none⟩, none, []⟩)]
def a10r18 : List IOp := [⟨some 4, .mv, [.c (.bool false)], none⟩]
def a10r19 : List IOp := [⟨some 118, .mv, [.t 17], none⟩,
  ⟨some 119, .bin .add, [.t 118, .c (.int .i64 1)], none⟩,
  ⟨some 17, .mv, [.t 119], none⟩]
def a10r20 : List (Nat × DOp) := [(0, ⟨⟨some 128, .mv, [.t 15], none⟩, none, [3, 4, 5, 6, 7]⟩),
  (1, ⟨⟨some 129, .indexAddr 4, [.t 128, .c (.int .i64 0)], none⟩, none, [3, 4, 5, 6, 7]⟩),
  (2, ⟨⟨some 130, .loadA 4, [.t 129], none⟩, none, [3, 4, 5, 6, 7]⟩),
  (3, ⟨⟨some 131, .fieldAddr 1, [.t 9], none⟩, none, [0, 1, 2, 5, 6]⟩),
  (4, ⟨⟨some 132, .load1, [.t 131], none⟩, none, [0, 1, 2, 5, 6]⟩),
  (5, ⟨⟨some 133, .fieldAddr 2, [.t 9], none⟩, none, [0, 1, 2, 3, 4]⟩),
  (6, ⟨⟨some 134, .loadA 2, [.t 133], none⟩, none, [0, 1, 2, 3, 4]⟩),
  (7, ⟨⟨some 135, .build [.int .i64 0, .int .i64 0, .int .i64 0, .int .i64 0] [(0, 1), (1, 1), (2, 2)], [.c (.int .i64 7), .t 132, .t 134], none⟩, none, [0, 1, 2]⟩),
  (8, ⟨⟨some 136, .eqA false [.int .i64, .int .i64, .int .i64, .int .i64], [.t 130, .t 135], none⟩, none, []⟩),
  (9, ⟨⟨some 137, .mv, [.t 136], none⟩, none, []⟩),
  (10, ⟨⟨some 138, .call 32, [], some (137, true)⟩, none, []⟩),
  (11, ⟨⟨some 139, .pick, [.t 137, .t 138, .c (.bool false)], none⟩, none, []⟩),
  (12, ⟨⟨some 4, .mv, [.t 139], none⟩, none, []⟩)]
def a10 : AFunc := ⟨140, [.tmp 4], (.seq (.region a10r0 [0, 1]) (.seq (.region a10r1 [1, 5]) (.seq (.region a10r2 [1, 6]) (.seq (.region a10r3 [1, 6, 7, 8]) (.seq (.seq (.region a10r4 [1, 6, 7, 31]) (.cond (.t 31) (.seq (.region a10r5 [4]) .ret) .skip)) (.seq (.seq (.region a10r6 [1, 6, 7, 34]) (.cond (.t 34) (.seq (.region a10r7 [4]) .ret) .skip)) (.seq (.region a10r8 [6, 7, 9]) (.seq (.region a10r9 [6, 7, 9, 10]) (.seq (.draw a10r10 [(64, 7)] [6, 7, 9, 10, 11, 12]) (.seq (.draw a10r11 [(64, 7)] [6, 7, 9, 10, 11, 12, 13, 14]) (.seq (.draw a10r12 [(64, 7)] [7, 9, 11, 12, 13, 14, 15, 16]) (.seq (.seq (.region a10r13 [9, 11, 15, 113]) (.cond (.t 113) (.seq (.region a10r14 [4]) .ret) .skip)) (.seq (.seq (.region a10r15 [9, 11, 15, 17]) (.block 0 (.loop (.seq (.seq (.region a10r16 [9, 11, 15, 17, 117]) (.cond (.t 117) .skip (.exit 0))) (.seq (.block 1 (.seq (.draw a10r17 [] [9, 11, 15, 17, 127]) (.cond (.t 127) (.seq (.region a10r18 [4]) .ret) .skip))) (.region a10r19 [9, 11, 15, 17])))))) (.seq (.draw a10r20 [] [4]) .ret))))))))))))))⟩
theorem a10_ok : compileF Try.prog (lk [(0, ⟨[0, 1], [], []⟩), (1, ⟨[1, 5], [], []⟩), (2, ⟨[1, 6], [], []⟩), (3, ⟨[1, 6, 7, 8], [], []⟩), (4, ⟨[1, 6, 7, 31], [], []⟩), (5, ⟨[4], [], []⟩), (6, ⟨[1, 6, 7, 34], [], []⟩), (7, ⟨[4], [], []⟩), (8, ⟨[6, 7, 9], [], []⟩), (9, ⟨[6, 7, 9, 10], [], []⟩), (10, ⟨[6, 7, 9, 10, 11, 12], [[], [], [0, 1], [], [], [4], [3, 5, 4], [6, 3, 5, 4], [2, 7, 0, 1, 6, 3, 5, 4], [8, 2, 7, 0, 1, 6, 3, 5, 4], [9, 8, 2, 7, 0, 1, 6, 3, 5, 4], [10, 9, 8, 2, 7, 0, 1, 6, 3, 5, 4], [10, 9, 8, 2, 7, 0, 1, 6, 3, 5, 4], [11, 9, 0, 1, 2, 3, 4, 5, 6, 7, 8, 10], [12, 13, 0, 1, 2, 3, 4, 5, 6, 7, 8, 9, 10, 11]], [0, 1, 3, 4, 5, 6, 7, 2, 8, 9, 10, 11, 12, 13, 14]⟩), (11, ⟨[6, 7, 9, 10, 11, 12, 13, 14], [[], [], [0, 1], [], [], [4], [3, 5, 4], [6, 3, 5, 4], [2, 7, 0, 1, 6, 3, 5, 4], [8, 2, 7, 0, 1, 6, 3, 5, 4], [9, 8, 2, 7, 0, 1, 6, 3, 5, 4], [10, 9, 8, 2, 7, 0, 1, 6, 3, 5, 4], [10, 9, 8, 2, 7, 0, 1, 6, 3, 5, 4], [11, 9, 0, 1, 2, 3, 4, 5, 6, 7, 8, 10], [12, 13, 0, 1, 2, 3, 4, 5, 6, 7, 8, 9, 10, 11]], [0, 1, 3, 4, 5, 6, 7, 2, 8, 9, 10, 11, 12, 13, 14]⟩), (12, ⟨[7, 9, 11, 12, 13, 14, 15, 16], [[], [], [0, 1], [], [], [4], [3, 5, 4], [6, 3, 5, 4], [2, 7, 0, 1, 6, 3, 5, 4], [8, 2, 7, 0, 1, 6, 3, 5, 4], [9, 8, 2, 7, 0, 1, 6, 3, 5, 4], [10, 9, 8, 2, 7, 0, 1, 6, 3, 5, 4], [10, 9, 8, 2, 7, 0, 1, 6, 3, 5, 4], [11, 9, 0, 1, 2, 3, 4, 5, 6, 7, 8, 10], [12, 13, 0, 1, 2, 3, 4, 5, 6, 7, 8, 9, 10, 11]], [0, 1, 3, 4, 5, 6, 7, 2, 8, 9, 10, 11, 12, 13, 14]⟩), (13, ⟨[9, 11, 15, 113], [], []⟩), (14, ⟨[4], [], []⟩), (15, ⟨[9, 11, 15, 17], [], []⟩), (16, ⟨[9, 11, 15, 17, 117], [], []⟩), (17, ⟨[9, 11, 15, 17], [], []⟩), (18, ⟨[9, 11, 15, 17, 127], [[], [], [0, 1], [2, 0, 1], [3, 2, 0, 1], [], [5], [4, 6, 3, 2, 0, 1, 5]], [0, 1, 2, 3, 4, 5, 6, 7]⟩), (19, ⟨[4], [], []⟩), (20, ⟨[4], [[], [0], [1, 0], [], [3], [], [5], [4, 6, 3, 5], [2, 7, 1, 0, 4, 6, 3, 5], [8, 2, 7, 1, 0, 4, 6, 3, 5], [9, 8, 2, 7, 1, 0, 4, 6, 3, 5], [9, 10, 8, 2, 7, 1, 0, 4, 6, 3, 5], [11, 10, 0, 1, 2, 3, 4, 5, 6, 7, 8, 9]], [0, 1, 2, 3, 4, 5, 6, 7, 8, 9, 10, 11, 12]⟩)]) Try.f10 = some a10 := by kernel_rfl

/- payroll/payrolllaw8.InboxStamps -/
def a11r0 : List IOp := [⟨some 2, .mv, [.c (.bool false)], none⟩]
def a11r1 : List IOp := [⟨some 12, .mv, [.t 0], none⟩,
  ⟨some 13, .call 12, [.t 12], none⟩,
  ⟨some 3, .mv, [.t 13], none⟩]
def a11r2 : List IOp := [⟨some 14, .mv, [.t 3], none⟩,
  ⟨some 15, .call 28, [.t 14, .c (.int .i64 10)], none⟩,
  ⟨some 16, .mv, [.t 3], none⟩,
  ⟨some 17, .call 34, [.t 16, .c (.int .i64 2)], none⟩,
  ⟨some 18, .append 64 7 56, [.t 15, .t 17], none⟩,
  ⟨some 4, .mv, [.t 18], none⟩]
def a11r3 : List IOp := [⟨some 19, .mv, [.t 3], none⟩,
  ⟨some 20, .call 14, [.t 19, .c (.int .i64 2)], none⟩,
  ⟨some 21, .bin .add, [.c (.int .i64 1), .t 20], none⟩,
  ⟨some 5, .mv, [.t 21], none⟩]
def a11r4 : List IOp := [⟨some 23, .mv, [.t 4], none⟩,
  ⟨some 24, .mv, [.t 5], none⟩,
  ⟨some 25, .call 37, [.t 23, .t 24], none⟩,
  ⟨some 22, .mv, [.t 25], none⟩,
  ⟨some 26, .extract 0, [.t 22], none⟩,
  ⟨some 27, .extract 1, [.t 22], none⟩,
  ⟨some 6, .mv, [.t 26], none⟩,
  ⟨some 7, .mv, [.t 27], none⟩]
def a11r5 : List IOp := [⟨some 28, .mv, [.t 7], none⟩,
  ⟨some 29, .bin .neq, [.t 28, .c (.int .i64 0)], none⟩]
def a11r6 : List IOp := [⟨some 2, .mv, [.c (.bool false)], none⟩]
def a11r7 : List IOp := [⟨some 8, .mv, [.c (.int .i64 0)], none⟩]
def a11r8 : List IOp := [⟨some 30, .mv, [.t 8], none⟩,
  ⟨some 31, .mv, [.t 6], none⟩,
  ⟨some 32, .len, [.t 31], none⟩,
  ⟨some 33, .bin .lss, [.t 30, .t 32], none⟩]
def a11r9 : List (Nat × DOp) := [(0, ⟨⟨some 36, .mv, [.t 8], none⟩, none, []⟩),
  (1, ⟨⟨some 37, .bin .gtr, [.t 36, .c (.int .i64 0)], none⟩, none, []⟩),
  (2, ⟨⟨some 38, .mv, [.t 37], none⟩, none, []⟩),
  (3, ⟨⟨some 39, .mv, [.t 6], some (38, true)⟩, none, [4, 8, 9, 10, 11, 12, 13]⟩),
  (4, ⟨⟨some 40, .mv, [.t 8], some (38, true)⟩, none, [3, 8, 9, 10, 11, 12, 13]⟩),
  (5, ⟨⟨some 41, .indexAddr 4, [.t 39, .t 40], some (38, true)⟩, none, [8, 9, 10, 11, 12, 13]⟩),
  (6, ⟨⟨some 42, .fieldAddr 0, [.t 41], some (38, true)⟩, none, [8, 9, 10, 11, 12, 13]⟩),
  (7, ⟨⟨some 43, .load1, [.t 42], some (38, true)⟩, none, [8, 9, 10, 11, 12, 13]⟩),
  (8, ⟨⟨some 44, .mv, [.t 6], some (38, true)⟩, none, [3, 4, 5, 6, 7, 9, 10]⟩),
  (9, ⟨⟨some 45, .mv, [.t 8], some (38, true)⟩, none, [3, 4, 5, 6, 7, 8]⟩),
  (10, ⟨⟨some 46, .bin .sub, [.t 45, .c (.int .i64 1)], some (38, true)⟩, none, [3, 4, 5, 6, 7, 8]⟩),
  (11, ⟨⟨some 47, .indexAddr 4, [.t 44, .t 46], some (38, true)⟩, none, [3, 4, 5, 6, 7]⟩),
  (12, ⟨⟨some 48, .fieldAddr 0, [.t 47], some (38, true)⟩, none, [3, 4, 5, 6, 7]⟩),
  (13, ⟨⟨some 49, .load1, [.t 48], some (38, true)⟩, none, [3, 4, 5, 6, 7]⟩),
  (14, ⟨⟨some 50, .bin .lss, [.t 43, .t 49], some (38, true)⟩, none, []⟩),
  (15, ⟨⟨some 51, .mv, [.t 50], some (38, true)⟩, none, []⟩),
  (16, ⟨⟨some 52, .mv, [.t 6], some (51, false)⟩, none, [17, 21, 22, 23, 24, 25, 26]⟩),
  (17, ⟨⟨some 53, .mv, [.t 8], some (51, false)⟩, none, [16, 21, 22, 23, 24, 25, 26]⟩),
  (18, ⟨⟨some 54, .indexAddr 4, [.t 52, .t 53], some (51, false)⟩, none, [21, 22, 23, 24, 25, 26]⟩),
  (19, ⟨⟨some 55, .fieldAddr 0, [.t 54], some (51, false)⟩, none, [21, 22, 23, 24, 25, 26]⟩),
  (20, ⟨⟨some 56, .load1, [.t 55], some (51, false)⟩, none, [21, 22, 23, 24, 25, 26]⟩),
  (21, ⟨⟨some 57, .mv, [.t 6], some (51, false)⟩, none, [16, 17, 18, 19, 20, 22, 23]⟩),
  (22, ⟨⟨some 58, .mv, [.t 8], some (51, false)⟩, none, [16, 17, 18, 19, 20, 21]⟩),
  (23, ⟨⟨some 59, .bin .sub, [.t 58, .c (.int .i64 1)], some (51, false)⟩, none, [16, 17, 18, 19, 20, 21]⟩),
  (24, ⟨⟨some 60, .indexAddr 4, [.t 57, .t 59], some (51, false)⟩, none, [16, 17, 18, 19, 20]⟩),
  (25, ⟨⟨some 61, .fieldAddr 0, [.t 60], some (51, false)⟩, none, [16, 17, 18, 19, 20]⟩),
  (26, ⟨⟨some 62, .load1, [.t 61], some (51, false)⟩, none, [16, 17, 18, 19, 20]⟩),
  (27, ⟨⟨some 63, .bin .eql, [.t 56, .t 62], some (51, false)⟩, none, []⟩),
  (28, ⟨⟨some 64, .mv, [.t 63], some (51, false)⟩, none, []⟩),
  (29, ⟨⟨some 65, .mv, [.t 6], some (64, true)⟩, none, [30, 31, 35, 36, 37, 38, 39]⟩),
  (30, ⟨⟨some 66, .mv, [.t 8], some (64, true)⟩, none, [29, 35, 36, 37, 38, 39]⟩),
  (31, ⟨⟨some 67, .bin .sub, [.t 66, .c (.int .i64 1)], some (64, true)⟩, none, [29, 35, 36, 37, 38, 39]⟩),
  (32, ⟨⟨some 68, .indexAddr 4, [.t 65, .t 67], some (64, true)⟩, none, [35, 36, 37, 38, 39]⟩),
  (33, ⟨⟨some 69, .fieldAddr 2, [.t 68], some (64, true)⟩, none, [35, 36, 37, 38, 39]⟩),
  (34, ⟨⟨some 70, .loadA 2, [.t 69], some (64, true)⟩, none, [35, 36, 37, 38, 39]⟩),
  (35, ⟨⟨some 71, .mv, [.t 6], some (64, true)⟩, none, [29, 30, 31, 32, 33, 34, 36]⟩),
  (36, ⟨⟨some 72, .mv, [.t 8], some (64, true)⟩, none, [29, 30, 31, 32, 33, 34, 35]⟩),
  (37, ⟨⟨some 73, .indexAddr 4, [.t 71, .t 72], some (64, true)⟩, none, [29, 30, 31, 32, 33, 34]⟩),
  (38, ⟨⟨some 74, .fieldAddr 2, [.t 73], some (64, true)⟩, none, [29, 30, 31, 32, 33, 34]⟩),
  (39, ⟨⟨some 75, .loadA 2, [.t 74], some (64, true)⟩, none, [29, 30, 31, 32, 33, 34]⟩),
  (40, ⟨⟨some 76, .call 39, [.t 70, .t 75], some (64, true)⟩, none, []⟩),
  (41, ⟨⟨some 77, .not, [.t 76], some (64, true)⟩, none, []⟩),
  (42, ⟨⟨some 78, .pick, [.t 64, .t 77, .c (.bool false)], some (51, false)⟩, none, []⟩),
  (43, ⟨⟨some 79, .pick, [.t 51, .c (.bool true), .t 78], some (38, true)⟩, none, []⟩),
  (44, ⟨⟨some 80, .pick, [.t 38, .t 79, .c (.bool false)], none⟩, none, []⟩)]
def a11r10 : List IOp := [⟨some 2, .mv, [.c (.bool false)], none⟩]
def a11r11 : List IOp := [⟨some 9, .mv, [.c (.bool false)], none⟩]
def a11r12 : List IOp := [⟨some 10, .mv, [.c (.int .i64 0)], none⟩]
def a11r13 : List IOp := [⟨some 81, .mv, [.t 10], none⟩,
  ⟨some 82, .mv, [.t 4], none⟩,
  ⟨some 83, .len, [.t 82], none⟩,
  ⟨some 84, .bin .lss, [.t 81, .t 83], none⟩]
def a11r14 : List (Nat × DOp) := [(0, ⟨⟨some 87, .mv, [.t 9], none⟩, none, []⟩),
  (1, ⟨⟨some 88, .mv, [.t 87], none⟩, none, []⟩),
  (2, ⟨⟨some 89, .mv, [.t 4], some (88, false)⟩, none, [3, 7, 8, 9, 10, 11]⟩),
  (3, ⟨⟨some 90, .mv, [.t 10], some (88, false)⟩, none, [2, 7, 8, 9, 10, 11]⟩),
  (4, ⟨⟨some 91, .indexAddr 7, [.t 89, .t 90], some (88, false)⟩, none, [7, 8, 9, 10, 11]⟩),
  (5, ⟨⟨some 92, .fieldAddr 0, [.t 91], some (88, false)⟩, none, [7, 8, 9, 10, 11]⟩),
  (6, ⟨⟨some 93, .loadA 2, [.t 92], some (88, false)⟩, none, [7, 8, 9, 10, 11]⟩),
  (7, ⟨⟨some 94, .mv, [.t 6], some (88, false)⟩, none, [2, 3, 4, 5, 6, 8]⟩),
  (8, ⟨⟨some 95, .mv, [.t 8], some (88, false)⟩, none, [2, 3, 4, 5, 6, 7]⟩),
  (9, ⟨⟨some 96, .indexAddr 4, [.t 94, .t 95], some (88, false)⟩, none, [2, 3, 4, 5, 6]⟩),
  (10, ⟨⟨some 97, .fieldAddr 2, [.t 96], some (88, false)⟩, none, [2, 3, 4, 5, 6]⟩),
  (11, ⟨⟨some 98, .loadA 2, [.t 97], some (88, false)⟩, none, [2, 3, 4, 5, 6]⟩),
  (12, ⟨⟨some 99, .eqA false [.int .i64, .int .i64], [.t 93, .t 98], some (88, false)⟩, none, []⟩),
  (13, ⟨⟨some 100, .mv, [.t 99], some (88, false)⟩, none, []⟩),
  (14, ⟨⟨some 101, .mv, [.t 4], some (100, true)⟩, none, [15, 19]⟩),
  (15, ⟨⟨some 102, .mv, [.t 10], some (100, true)⟩, none, [14, 19]⟩),
  (16, ⟨⟨some 103, .indexAddr 7, [.t 101, .t 102], some (100, true)⟩, none, [19]⟩),
  (17, ⟨⟨some 104, .fieldAddr 2, [.t 103], some (100, true)⟩, none, [19]⟩),
  (18, ⟨⟨some 105, .load1, [.t 104], some (100, true)⟩, none, [19]⟩),
  (19, ⟨⟨some 106, .mv, [.t 5], some (100, true)⟩, none, [14, 15, 16, 17, 18]⟩),
  (20, ⟨⟨some 107, .bin .eql, [.t 105, .t 106], some (100, true)⟩, none, []⟩),
  (21, ⟨⟨some 108, .pick, [.t 100, .t 107, .c (.bool false)], some (88, false)⟩, none, []⟩),
  (22, ⟨⟨some 109, .mv, [.t 108], some (88, false)⟩, none, []⟩),
  (23, ⟨⟨some 110, .mv, [.t 4], some (109, true)⟩, none, [24, 28, 29, 30, 31, 32]⟩),
  (24, ⟨⟨some 111, .mv, [.t 10], some (109, true)⟩, none, [23, 28, 29, 30, 31, 32]⟩),
  (25, ⟨⟨some 112, .indexAddr 7, [.t 110, .t 111], some (109, true)⟩, none, [28, 29, 30, 31, 32]⟩),
  (26, ⟨⟨some 113, .fieldAddr 4, [.t 112], some (109, true)⟩, none, [28, 29, 30, 31, 32]⟩),
  (27, ⟨⟨some 114, .load1, [.t 113], some (109, true)⟩, none, [28, 29, 30, 31, 32]⟩),
  (28, ⟨⟨some 115, .mv, [.t 6], some (109, true)⟩, none, [23, 24, 25, 26, 27, 29]⟩),
  (29, ⟨⟨some 116, .mv, [.t 8], some (109, true)⟩, none, [23, 24, 25, 26, 27, 28]⟩),
  (30, ⟨⟨some 117, .indexAddr 4, [.t 115, .t 116], some (109, true)⟩, none, [23, 24, 25, 26, 27]⟩),
  (31, ⟨⟨some 118, .fieldAddr 1, [.t 117], some (109, true)⟩, none, [23, 24, 25, 26, 27]⟩),
  (32, ⟨⟨some 119, .load1, [.t 118], some (109, true)⟩, none, [23, 24, 25, 26, 27]⟩),
  (33, ⟨⟨some 120, .bin .eql, [.t 114, .t 119], some (109, true)⟩, none, []⟩),
  (34, ⟨⟨some 121, .pick, [.t 109, .t 120, .c (.bool false)], some (88, false)⟩, none, []⟩),
  (35, ⟨⟨some 122, .pick, [.t 88, .c (.bool true), .t 121], none⟩, none, []⟩),
  (36, ⟨⟨some 9, .mv, [.t 122], none⟩, none, []⟩)]
def a11r15 : List IOp := [⟨some 85, .mv, [.t 10], none⟩,
  ⟨some 86, .bin .add, [.t 85, .c (.int .i64 1)], none⟩,
  ⟨some 10, .mv, [.t 86], none⟩]
def a11r16 : List IOp := [⟨some 11, .mv, [.c (.int .i64 0)], none⟩]
def a11r17 : List IOp := [⟨some 123, .mv, [.t 11], none⟩,
  ⟨some 124, .mv, [.t 8], none⟩,
  ⟨some 125, .bin .lss, [.t 123, .t 124], none⟩]
def a11r18 : List (Nat × DOp) := [(0, ⟨⟨some 128, .mv, [.t 9], none⟩, none, []⟩),
  (1, ⟨⟨some 129, .mv, [.t 128], none⟩, none, []⟩),
  (2, ⟨⟨some 130, .mv, [.t 6], some (129, true)⟩, none, [3, 7, 8, 9, 10, 11]⟩),
  (3, ⟨⟨some 131, .mv, [.t 11], some (129, true)⟩, none, [2, 7, 8, 9, 10, 11]⟩),
  (4, ⟨⟨some 132, .indexAddr 4, [.t 130, .t 131], some (129, true)⟩, none, [7, 8, 9, 10, 11]⟩),
  (5, ⟨⟨some 133, .fieldAddr 2, [.t 132], some (129, true)⟩, none, [7, 8, 9, 10, 11]⟩),
  (6, ⟨⟨some 134, .loadA 2, [.t 133], some (129, true)⟩, none, [7, 8, 9, 10, 11]⟩),
  (7, ⟨⟨some 135, .mv, [.t 6], some (129, true)⟩, none, [2, 3, 4, 5, 6, 8]⟩),
  (8, ⟨⟨some 136, .mv, [.t 8], some (129, true)⟩, none, [2, 3, 4, 5, 6, 7]⟩),
  (9, ⟨⟨some 137, .indexAddr 4, [.t 135, .t 136], some (129, true)⟩, none, [2, 3, 4, 5, 6]⟩),
  (10, ⟨⟨some 138, .fieldAddr 2, [.t 137], some (129, true)⟩, none, [2, 3, 4, 5, 6]⟩),
  (11, ⟨⟨some 139, .loadA 2, [.t 138], some (129, true)⟩, none, [2, 3, 4, 5, 6]⟩),
  (12, ⟨⟨some 140, .eqA true [.int .i64, .int .i64], [.t 134, .t 139], some (129, true)⟩, none, []⟩),
  (13, ⟨⟨some 141, .pick, [.t 129, .t 140, .c (.bool false)], none⟩, none, []⟩),
  (14, ⟨⟨some 9, .mv, [.t 141], none⟩, none, []⟩)]
def a11r19 : List IOp := [⟨some 126, .mv, [.t 11], none⟩,
  ⟨some 127, .bin .add, [.t 126, .c (.int .i64 1)], none⟩,
  ⟨some 11, .mv, [.t 127], none⟩]
def a11r20 : List IOp := [⟨some 142, .mv, [.t 9], none⟩,
  ⟨some 143, .not, [.t 142], none⟩]
def a11r21 : List IOp := [⟨some 2, .mv, [.c (.bool false)], none⟩]
def a11r22 : List IOp := [⟨some 34, .mv, [.t 8], none⟩,
  ⟨some 35, .bin .add, [.t 34, .c (.int .i64 1)], none⟩,
  ⟨some 8, .mv, [.t 35], none⟩]
def a11r23 : List IOp := [⟨some 144, .call 32, [], none⟩,
  ⟨some 2, .mv, [.t 144], none⟩]
def a11 : AFunc := ⟨145, [.tmp 2], (.seq (.region a11r0 [0]) (.seq (.region a11r1 [3]) (.seq (.region a11r2 [3, 4]) (.seq (.region a11r3 [4, 5]) (.seq (.region a11r4 [4, 5, 6, 7]) (.seq (.seq (.region a11r5 [4, 5, 6, 29]) (.cond (.t 29) (.seq (.region a11r6 [2]) .ret) .skip)) (.seq (.seq (.region a11r7 [4, 5, 6, 8]) (.block 0 (.loop (.seq (.seq (.region a11r8 [4, 5, 6, 8, 33]) (.cond (.t 33) .skip (.exit 0))) (.seq (.block 1 (.seq (.seq (.draw a11r9 [] [4, 5, 6, 8, 80]) (.cond (.t 80) (.seq (.region a11r10 [2]) .ret) .skip)) (.seq (.region a11r11 [4, 5, 6, 8, 9]) (.seq (.seq (.region a11r12 [4, 5, 6, 8, 9, 10]) (.block 2 (.loop (.seq (.seq (.region a11r13 [4, 5, 6, 8, 9, 10, 84]) (.cond (.t 84) .skip (.exit 2))) (.seq (.block 3 (.draw a11r14 [] [4, 5, 6, 8, 9, 10])) (.region a11r15 [4, 5, 6, 8, 9, 10])))))) (.seq (.seq (.region a11r16 [4, 5, 6, 8, 9, 11]) (.block 4 (.loop (.seq (.seq (.region a11r17 [4, 5, 6, 8, 9, 11, 125]) (.cond (.t 125) .skip (.exit 4))) (.seq (.block 5 (.draw a11r18 [] [4, 5, 6, 8, 9, 11])) (.region a11r19 [4, 5, 6, 8, 9, 11])))))) (.seq (.region a11r20 [4, 5, 6, 8, 143]) (.cond (.t 143) (.seq (.region a11r21 [2]) .ret) .skip))))))) (.region a11r22 [4, 5, 6, 8])))))) (.seq (.region a11r23 [2]) .ret))))))))⟩
theorem a11_ok : compileF Try.prog (lk [(0, ⟨[0], [], []⟩), (1, ⟨[3], [], []⟩), (2, ⟨[3, 4], [], []⟩), (3, ⟨[4, 5], [], []⟩), (4, ⟨[4, 5, 6, 7], [], []⟩), (5, ⟨[4, 5, 6, 29], [], []⟩), (6, ⟨[2], [], []⟩), (7, ⟨[4, 5, 6, 8], [], []⟩), (8, ⟨[4, 5, 6, 8, 33], [], []⟩), (9, ⟨[4, 5, 6, 8], [], []⟩), (10, ⟨[4, 5, 6, 8, 80], [[], [0], [1, 0], [2, 1, 0], [2, 1, 0], [3, 4, 2, 1, 0], [5, 2, 3, 4, 1, 0], [6, 2, 5, 3, 4, 1, 0], [2, 1, 0], [2, 1, 0], [9, 2, 1, 0], [8, 10, 2, 1, 0, 9], [11, 2, 8, 10, 1, 0, 9], [12, 2, 11, 8, 10, 1, 0, 9], [7, 13, 2, 6, 5, 3, 4, 1, 0, 12, 11, 8, 10, 9], [14, 2, 7, 13, 6, 5, 3, 4, 1, 0, 12, 11, 8, 10, 9], [15, 14, 2, 7, 13, 6, 5, 3, 4, 1, 0, 12, 11, 8, 10, 9], [15, 14, 2, 7, 13, 6, 5, 3, 4, 1, 0, 12, 11, 8, 10, 9], [16, 17, 15, 14, 2, 7, 13, 6, 5, 3, 4, 1, 0, 12, 11, 8, 10, 9], [18, 15, 16, 17, 14, 2, 7, 13, 6, 5, 3, 4, 1, 0, 12, 11, 8, 10, 9], [19, 15, 18, 16, 17, 14, 2, 7, 13, 6, 5, 3, 4, 1, 0, 12, 11, 8, 10, 9], [15, 14, 2, 7, 13, 6, 5, 3, 4, 1, 0, 12, 11, 8, 10, 9], [15, 14, 2, 7, 13, 6, 5, 3, 4, 1, 0, 12, 11, 8, 10, 9], [22, 15, 14, 2, 7, 13, 6, 5, 3, 4, 1, 0, 12, 11, 8, 10, 9], [21, 23, 15, 14, 2, 7, 13, 6, 5, 3, 4, 1, 0, 12, 11, 8, 10, 9, 22], [24, 15, 21, 23, 14, 2, 7, 13, 6, 5, 3, 4, 1, 0, 12, 11, 8, 10, 9, 22], [25, 15, 24, 21, 23, 14, 2, 7, 13, 6, 5, 3, 4, 1, 0, 12, 11, 8, 10, 9, 22], [20, 26, 15, 19, 18, 16, 17, 14, 2, 7, 13, 6, 5, 3, 4, 1, 0, 12, 11, 8, 10, 9, 25, 24, 21, 23, 22], [27, 15, 20, 26, 19, 18, 16, 17, 14, 2, 7, 13, 6, 5, 3, 4, 1, 0, 12, 11, 8, 10, 9, 25, 24, 21, 23, 22], [28, 27, 15, 20, 26, 19, 18, 16, 17, 14, 2, 7, 13, 6, 5, 3, 4, 1, 0, 12, 11, 8, 10, 9, 25, 24, 21, 23, 22], [28, 27, 15, 20, 26, 19, 18, 16, 17, 14, 2, 7, 13, 6, 5, 3, 4, 1, 0, 12, 11, 8, 10, 9, 25, 24, 21, 23, 22], [30, 28, 27, 15, 20, 26, 19, 18, 16, 17, 14, 2, 7, 13, 6, 5, 3, 4, 1, 0, 12, 11, 8, 10, 9, 25, 24, 21, 23, 22], [29, 31, 28, 27, 15, 20, 26, 19, 18, 16, 17, 14, 2, 7, 13, 6, 5, 3, 4, 1, 0, 12, 11, 8, 10, 9, 25, 24, 21, 23, 22, 30], [32, 28, 29, 31, 27, 15, 20, 26, 19, 18, 16, 17, 14, 2, 7, 13, 6, 5, 3, 4, 1, 0, 12, 11, 8, 10, 9, 25, 24, 21, 23, 22, 30], [33, 28, 32, 29, 31, 27, 15, 20, 26, 19, 18, 16, 17, 14, 2, 7, 13, 6, 5, 3, 4, 1, 0, 12, 11, 8, 10, 9, 25, 24, 21, 23, 22, 30], [28, 27, 15, 20, 26, 19, 18, 16, 17, 14, 2, 7, 13, 6, 5, 3, 4, 1, 0, 12, 11, 8, 10, 9, 25, 24, 21, 23, 22], [28, 27, 15, 20, 26, 19, 18, 16, 17, 14, 2, 7, 13, 6, 5, 3, 4, 1, 0, 12, 11, 8, 10, 9, 25, 24, 21, 23, 22], [35, 36, 28, 27, 15, 20, 26, 19, 18, 16, 17, 14, 2, 7, 13, 6, 5, 3, 4, 1, 0, 12, 11, 8, 10, 9, 25, 24, 21, 23, 22], [37, 28, 35, 36, 27, 15, 20, 26, 19, 18, 16, 17, 14, 2, 7, 13, 6, 5, 3, 4, 1, 0, 12, 11, 8, 10, 9, 25, 24, 21, 23, 22], [38, 28, 37, 35, 36, 27, 15, 20, 26, 19, 18, 16, 17, 14, 2, 7, 13, 6, 5, 3, 4, 1, 0, 12, 11, 8, 10, 9, 25, 24, 21, 23, 22], [34, 39, 28, 33, 32, 29, 31, 27, 15, 20, 26, 19, 18, 16, 17, 14, 2, 7, 13, 6, 5, 3, 4, 1, 0, 12, 11, 8, 10, 9, 25, 24, 21, 23, 22, 30, 38, 37, 35, 36], [40, 28, 34, 39, 33, 32, 29, 31, 27, 15, 20, 26, 19, 18, 16, 17, 14, 2, 7, 13, 6, 5, 3, 4, 1, 0, 12, 11, 8, 10, 9, 25, 24, 21, 23, 22, 30, 38, 37, 35, 36], [28, 41, 15, 27, 20, 26, 19, 18, 16, 17, 14, 2, 7, 13, 6, 5, 3, 4, 1, 0, 12, 11, 8, 10, 9, 25, 24, 21, 23, 22, 40, 34, 39, 33, 32, 29, 31, 30, 38, 37, 35, 36], [15, 42, 2, 14, 7, 13, 6, 5, 3, 4, 1, 0, 12, 11, 8, 10, 9, 28, 41, 27, 20, 26, 19, 18, 16, 17, 25, 24, 21, 23, 22, 40, 34, 39, 33, 32, 29, 31, 30, 38, 37, 35, 36], [2, 43, 1, 0, 15, 42, 14, 7, 13, 6, 5, 3, 4, 12, 11, 8, 10, 9, 28, 41, 27, 20, 26, 19, 18, 16, 17, 25, 24, 21, 23, 22, 40, 34, 39, 33, 32, 29, 31, 30, 38, 37, 35, 36]], [0, 1, 2, 3, 4, 5, 6, 7, 8, 9, 10, 11, 12, 13, 14, 15, 16, 17, 18, 19, 20, 21, 22, 23, 24, 25, 26, 27, 28, 29, 30, 31, 32, 33, 34, 35, 36, 37, 38, 39, 40, 41, 42, 43, 44]⟩), (11, ⟨[2], [], []⟩), (12, ⟨[4, 5, 6, 8, 9], [], []⟩), (13, ⟨[4, 5, 6, 8, 9, 10], [], []⟩), (14, ⟨[4, 5, 6, 8, 9, 10, 84], [], []⟩), (15, ⟨[4, 5, 6, 8, 9, 10], [], []⟩), (16, ⟨[4, 5, 6, 8, 9, 10], [[], [0], [1, 0], [1, 0], [2, 3, 1, 0], [4, 1, 2, 3, 0], [5, 1, 4, 2, 3, 0], [1, 0], [1, 0], [7, 8, 1, 0], [9, 1, 7, 8, 0], [10, 1, 9, 7, 8, 0], [6, 11, 1, 5, 4, 2, 3, 0, 10, 9, 7, 8], [12, 1, 6, 11, 5, 4, 2, 3, 0, 10, 9, 7, 8], [13, 12, 1, 6, 11, 5, 4, 2, 3, 0, 10, 9, 7, 8], [13, 12, 1, 6, 11, 5, 4, 2, 3, 0, 10, 9, 7, 8], [14, 15, 13, 12, 1, 6, 11, 5, 4, 2, 3, 0, 10, 9, 7, 8], [16, 13, 14, 15, 12, 1, 6, 11, 5, 4, 2, 3, 0, 10, 9, 7, 8], [17, 13, 16, 14, 15, 12, 1, 6, 11, 5, 4, 2, 3, 0, 10, 9, 7, 8], [13, 12, 1, 6, 11, 5, 4, 2, 3, 0, 10, 9, 7, 8], [18, 19, 13, 17, 16, 14, 15, 12, 1, 6, 11, 5, 4, 2, 3, 0, 10, 9, 7, 8], [13, 20, 1, 12, 6, 11, 5, 4, 2, 3, 0, 10, 9, 7, 8, 18, 19, 17, 16, 14, 15], [21, 13, 1, 20, 12, 6, 11, 5, 4, 2, 3, 0, 10, 9, 7, 8, 18, 19, 17, 16, 14, 15], [22, 21, 13, 1, 20, 12, 6, 11, 5, 4, 2, 3, 0, 10, 9, 7, 8, 18, 19, 17, 16, 14, 15], [22, 21, 13, 1, 20, 12, 6, 11, 5, 4, 2, 3, 0, 10, 9, 7, 8, 18, 19, 17, 16, 14, 15], [23, 24, 22, 21, 13, 1, 20, 12, 6, 11, 5, 4, 2, 3, 0, 10, 9, 7, 8, 18, 19, 17, 16, 14, 15], [25, 22, 23, 24, 21, 13, 1, 20, 12, 6, 11, 5, 4, 2, 3, 0, 10, 9, 7, 8, 18, 19, 17, 16, 14, 15], [26, 22, 25, 23, 24, 21, 13, 1, 20, 12, 6, 11, 5, 4, 2, 3, 0, 10, 9, 7, 8, 18, 19, 17, 16, 14, 15], [22, 21, 13, 1, 20, 12, 6, 11, 5, 4, 2, 3, 0, 10, 9, 7, 8, 18, 19, 17, 16, 14, 15], [22, 21, 13, 1, 20, 12, 6, 11, 5, 4, 2, 3, 0, 10, 9, 7, 8, 18, 19, 17, 16, 14, 15], [28, 29, 22, 21, 13, 1, 20, 12, 6, 11, 5, 4, 2, 3, 0, 10, 9, 7, 8, 18, 19, 17, 16, 14, 15], [30, 22, 28, 29, 21, 13, 1, 20, 12, 6, 11, 5, 4, 2, 3, 0, 10, 9, 7, 8, 18, 19, 17, 16, 14, 15], [31, 22, 30, 28, 29, 21, 13, 1, 20, 12, 6, 11, 5, 4, 2, 3, 0, 10, 9, 7, 8, 18, 19, 17, 16, 14, 15], [27, 32, 22, 26, 25, 23, 24, 21, 13, 1, 20, 12, 6, 11, 5, 4, 2, 3, 0, 10, 9, 7, 8, 18, 19, 17, 16, 14, 15, 31, 30, 28, 29], [22, 33, 1, 21, 13, 20, 12, 6, 11, 5, 4, 2, 3, 0, 10, 9, 7, 8, 18, 19, 17, 16, 14, 15, 27, 32, 26, 25, 23, 24, 31, 30, 28, 29], [1, 34, 0, 22, 33, 21, 13, 20, 12, 6, 11, 5, 4, 2, 3, 10, 9, 7, 8, 18, 19, 17, 16, 14, 15, 27, 32, 26, 25, 23, 24, 31, 30, 28, 29], [35, 22, 0, 1, 2, 3, 4, 5, 6, 7, 8, 9, 10, 11, 12, 13, 14, 15, 16, 17, 18, 19, 20, 21, 23, 24, 25, 26, 27, 28, 29, 30, 31, 32, 33, 34]], [0, 1, 2, 3, 4, 5, 6, 7, 8, 9, 10, 11, 12, 13, 14, 15, 16, 17, 18, 19, 20, 21, 22, 23, 24, 25, 26, 27, 28, 29, 30, 31, 32, 33, 34, 35, 36]⟩), (17, ⟨[4, 5, 6, 8, 9, 11], [], []⟩), (18, ⟨[4, 5, 6, 8, 9, 11, 125], [], []⟩), (19, ⟨[4, 5, 6, 8, 9, 11], [], []⟩), (20, ⟨[4, 5, 6, 8, 9, 11], [[], [0], [1, 0], [1, 0], [2, 3, 1, 0], [4, 1, 2, 3, 0], [5, 1, 4, 2, 3, 0], [1, 0], [1, 0], [7, 8, 1, 0], [9, 1, 7, 8, 0], [10, 1, 9, 7, 8, 0], [6, 11, 1, 5, 4, 2, 3, 0, 10, 9, 7, 8], [1, 12, 0, 6, 11, 5, 4, 2, 3, 10, 9, 7, 8], [13, 1, 0, 2, 3, 4, 5, 6, 7, 8, 9, 10, 11, 12]], [0, 1, 2, 3, 4, 5, 6, 7, 8, 9, 10, 11, 12, 13, 14]⟩), (21, ⟨[4, 5, 6, 8, 143], [], []⟩), (22, ⟨[2], [], []⟩), (23, ⟨[2], [], []⟩)]) Try.f11 = some a11 := by kernel_rfl

/- payroll/payrolllaw8.merges -/
def a26r0 : List IOp := [⟨some 4, .mv, [.c (.bool false)], none⟩]
def a26r1 : List IOp := [⟨some 10, .mv, [.t 0], none⟩,
  ⟨some 11, .mv, [.t 1], none⟩,
  ⟨some 12, .call 35, [.t 10, .t 11], none⟩,
  ⟨some 9, .mv, [.t 12], none⟩,
  ⟨some 13, .extract 0, [.t 9], none⟩,
  ⟨some 14, .extract 1, [.t 9], none⟩,
  ⟨some 5, .mv, [.t 13], none⟩,
  ⟨some 6, .mv, [.t 14], none⟩]
def a26r2 : List IOp := [⟨some 16, .mv, [.t 0], none⟩,
  ⟨some 17, .mv, [.t 1], none⟩,
  ⟨some 18, .call 48, [.t 16, .t 17], none⟩,
  ⟨some 15, .mv, [.t 18], none⟩,
  ⟨some 19, .extract 0, [.t 15], none⟩,
  ⟨some 20, .extract 1, [.t 15], none⟩,
  ⟨some 7, .mv, [.t 19], none⟩,
  ⟨some 8, .mv, [.t 20], none⟩]
def a26r3 : List IOp := [⟨some 21, .mv, [.t 5], none⟩,
  ⟨some 22, .mv, [.t 7], none⟩,
  ⟨some 23, .call 36, [.t 21, .t 22], none⟩,
  ⟨some 24, .mv, [.t 23], none⟩,
  ⟨some 25, .mv, [.t 6], some (24, true)⟩,
  ⟨some 26, .mv, [.t 8], some (24, true)⟩,
  ⟨some 27, .bin .eql, [.t 25, .t 26], some (24, true)⟩,
  ⟨some 28, .pick, [.t 24, .t 27, .c (.bool false)], none⟩,
  ⟨some 4, .mv, [.t 28], none⟩]
def a26 : AFunc := ⟨29, [.tmp 4], (.seq (.region a26r0 [0, 1]) (.seq (.region a26r1 [0, 1, 5, 6]) (.seq (.region a26r2 [5, 6, 7, 8]) (.seq (.region a26r3 [4]) .ret))))⟩
theorem a26_ok : compileF Try.prog (lk [(0, ⟨[0, 1], [], []⟩), (1, ⟨[0, 1, 5, 6], [], []⟩), (2, ⟨[5, 6, 7, 8], [], []⟩), (3, ⟨[4], [], []⟩)]) Try.f26 = some a26 := by kernel_rfl

/- payroll/payrolllaw8.spoilt -/
def a27r0 : List IOp := [⟨some 4, .mv, [.c (.nils)], none⟩]
def a27r1 : List IOp := [⟨some 5, .mv, [.t 1], none⟩,
  ⟨some 6, .len, [.t 5], none⟩,
  ⟨some 7, .bin .gtr, [.t 6, .c (.int .i64 0)], none⟩,
  ⟨some 8, .mv, [.t 7], none⟩,
  ⟨some 9, .mv, [.t 0], some (8, true)⟩,
  ⟨some 10, .call 14, [.t 9, .c (.int .i64 8)], some (8, true)⟩,
  ⟨some 11, .bin .eql, [.t 10, .c (.int .i64 7)], some (8, true)⟩,
  ⟨some 12, .pick, [.t 8, .t 11, .c (.bool false)], none⟩]
def a27r2 : List IOp := [⟨some 13, .mv, [.t 1], none⟩,
  ⟨some 14, .mv, [.t 0], none⟩,
  ⟨some 15, .mv, [.t 1], none⟩,
  ⟨some 16, .indexAddr 7, [.t 15, .c (.int .i64 0)], none⟩,
  ⟨some 17, .loadA 7, [.t 16], none⟩,
  ⟨some 18, .call 49, [.t 14, .t 17], none⟩,
  ⟨some 19, .indexAddr 7, [.t 13, .c (.int .i64 0)], none⟩,
  ⟨none, .store 7, [.t 19, .t 18], none⟩]
def a27r3 : List IOp := [⟨some 20, .mv, [.t 1], none⟩,
  ⟨some 4, .mv, [.t 20], none⟩]
def a27 : AFunc := ⟨21, [.tmp 4], (.seq (.region a27r0 [0, 1]) (.seq (.seq (.region a27r1 [0, 1, 12]) (.cond (.t 12) (.region a27r2 [1]) .skip)) (.seq (.region a27r3 [4]) .ret)))⟩
theorem a27_ok : compileF Try.prog (lk [(0, ⟨[0, 1], [], []⟩), (1, ⟨[0, 1, 12], [], []⟩), (2, ⟨[1], [], []⟩), (3, ⟨[4], [], []⟩)]) Try.f27 = some a27 := by kernel_rfl

/- (*payroll/payrollgen.Tape).Events -/
def a28r0 : List IOp := [⟨some 4, .mv, [.c (.nils)], none⟩]
def a28r1 : List IOp := [⟨some 5, .mv, [.c (.nils)], none⟩]
def a28r2 : List IOp := [⟨some 7, .mv, [.t 0], none⟩,
  ⟨some 8, .mv, [.t 1], none⟩,
  ⟨some 9, .bin .add, [.t 8, .c (.int .i64 1)], none⟩,
  ⟨some 10, .call 14, [.t 7, .t 9], none⟩,
  ⟨some 6, .mv, [.t 10], none⟩]
def a28r3 : List IOp := [⟨some 11, .mv, [.t 6], none⟩,
  ⟨some 12, .bin .gtr, [.t 11, .c (.int .i64 0)], none⟩]
def a28r4 : List IOp := [⟨some 15, .mv, [.t 5], none⟩,
  ⟨some 16, .len, [.t 15], none⟩,
  ⟨some 17, .bin .gtr, [.t 16, .c (.int .i64 0)], none⟩,
  ⟨some 18, .mv, [.t 17], none⟩,
  ⟨some 19, .mv, [.t 0], some (18, true)⟩,
  ⟨some 20, .call 14, [.t 19, .c (.int .i64 8)], some (18, true)⟩,
  ⟨some 21, .bin .eql, [.t 20, .c (.int .i64 7)], some (18, true)⟩,
  ⟨some 22, .pick, [.t 18, .t 21, .c (.bool false)], none⟩]
def a28r5 : List IOp := [⟨some 23, .mv, [.t 5], none⟩,
  ⟨some 24, .mv, [.t 5], none⟩,
  ⟨some 25, .mv, [.t 0], none⟩,
  ⟨some 26, .mv, [.t 5], none⟩,
  ⟨some 27, .len, [.t 26], none⟩,
  ⟨some 28, .call 14, [.t 25, .t 27], none⟩,
  ⟨some 29, .indexAddr 7, [.t 24, .t 28], none⟩,
  ⟨some 30, .loadA 7, [.t 29], none⟩,
  ⟨some 31, .bslice 64 7 [.int .i64 0, .int .i64 0, .int .i64 0, .int .i64 0, .int .i64 0, .int .i64 0, .int .i64 0] 1 [0], [.t 30], none⟩,
  ⟨some 32, .append 64 7 56, [.t 23, .t 31], none⟩,
  ⟨some 5, .mv, [.t 32], none⟩]
def a28r6 : List IOp := [⟨some 33, .mv, [.t 5], none⟩,
  ⟨some 34, .mv, [.t 0], none⟩,
  ⟨some 35, .call 29, [.t 34], none⟩,
  ⟨some 36, .bslice 64 7 [.int .i64 0, .int .i64 0, .int .i64 0, .int .i64 0, .int .i64 0, .int .i64 0, .int .i64 0] 1 [0], [.t 35], none⟩,
  ⟨some 37, .append 64 7 56, [.t 33, .t 36], none⟩,
  ⟨some 5, .mv, [.t 37], none⟩]
def a28r7 : List IOp := [⟨some 13, .mv, [.t 6], none⟩,
  ⟨some 14, .bin .sub, [.t 13, .c (.int .i64 1)], none⟩,
  ⟨some 6, .mv, [.t 14], none⟩]
def a28r8 : List IOp := [⟨some 38, .mv, [.t 5], none⟩,
  ⟨some 4, .mv, [.t 38], none⟩]
def a28 : AFunc := ⟨39, [.tmp 4], (.seq (.region a28r0 [0, 1]) (.seq (.region a28r1 [0, 1, 5]) (.seq (.seq (.region a28r2 [0, 5, 6]) (.block 0 (.loop (.seq (.seq (.region a28r3 [0, 5, 6, 12]) (.cond (.t 12) .skip (.exit 0))) (.seq (.block 1 (.seq (.seq (.region a28r4 [0, 5, 6, 22]) (.cond (.t 22) (.seq (.region a28r5 [0, 5, 6]) (.exit 1)) .skip)) (.region a28r6 [0, 5, 6]))) (.region a28r7 [0, 5, 6])))))) (.seq (.region a28r8 [4]) .ret))))⟩
theorem a28_ok : compileF Try.prog (lk [(0, ⟨[0, 1], [], []⟩), (1, ⟨[0, 1, 5], [], []⟩), (2, ⟨[0, 5, 6], [], []⟩), (3, ⟨[0, 5, 6, 12], [], []⟩), (4, ⟨[0, 5, 6], [], []⟩), (5, ⟨[0, 5, 6, 22], [], []⟩), (6, ⟨[0, 5, 6], [], []⟩), (7, ⟨[0, 5, 6], [], []⟩), (8, ⟨[4], [], []⟩)]) Try.f28 = some a28 := by kernel_rfl

/- (*payroll/payrollgen.Tape).Event -/
def a29r0 : List IOp := [⟨some 2, .alloc 64 [.int .i64 0, .int .i64 0, .int .i64 0, .int .i64 0, .int .i64 0, .int .i64 0, .int .i64 0], [], none⟩]
def a29r1 : List IOp := [⟨some 4, .mv, [.t 0], none⟩,
  ⟨some 5, .call 50, [.t 4], none⟩,
  ⟨some 6, .mv, [.t 0], none⟩,
  ⟨some 7, .call 14, [.t 6, .c (.int .i64 6)], none⟩,
  ⟨some 8, .bin .quo, [.t 7, .c (.int .i64 5)], none⟩,
  ⟨some 9, .bin .add, [.c (.int .i64 1), .t 8], none⟩,
  ⟨some 10, .mv, [.t 0], none⟩,
  ⟨some 11, .call 51, [.t 10], none⟩,
  ⟨some 12, .mv, [.t 0], none⟩,
  ⟨some 13, .bslice 3 1 [.int .i64 0] 8 [0, 1, 2, 3, 4, 5, 6, 7], [.c (.int .i64 1), .c (.int .i64 2), .c (.int .i64 3), .c (.int .i64 4), .c (.int .i64 1), .c (.int .i64 2), .c (.int .i64 5), .c (.int .i64 6)], none⟩,
  ⟨some 14, .call 40, [.t 12, .t 13], none⟩,
  ⟨some 15, .build [.int .i64 0, .int .i64 0, .int .i64 0, .int .i64 0, .int .i64 0, .int .i64 0, .int .i64 0] [(0, 2), (2, 1), (3, 1), (4, 1)], [.t 5, .t 9, .t 11, .t 14], none⟩,
  ⟨some 3, .alloc 64 [.int .i64 0, .int .i64 0, .int .i64 0, .int .i64 0, .int .i64 0, .int .i64 0, .int .i64 0], [], none⟩,
  ⟨none, .store 7, [.t 3, .t 15], none⟩]
def a29r2 : List IOp := [⟨some 16, .fieldAddr 4, [.t 3], none⟩,
  ⟨some 17, .load1, [.t 16], none⟩,
  ⟨some 18, .bin .geq, [.t 17, .c (.int .i64 5)], none⟩]
def a29r3 : List IOp := [⟨some 19, .mv, [.t 0], none⟩,
  ⟨some 20, .call 50, [.t 19], none⟩,
  ⟨some 21, .fieldAddr 5, [.t 3], none⟩,
  ⟨none, .store 2, [.t 21, .t 20], none⟩]
def a29r4 : List IOp := [⟨some 22, .loadA 7, [.t 3], none⟩,
  ⟨none, .store 7, [.t 2, .t 22], none⟩]
def a29 : AFunc := ⟨23, [.cellA 2 7], (.seq (.region a29r0 [0, 2]) (.seq (.region a29r1 [0, 2, 3]) (.seq (.seq (.region a29r2 [0, 2, 3, 18]) (.cond (.t 18) (.region a29r3 [2, 3]) .skip)) (.seq (.region a29r4 [2]) .ret))))⟩
theorem a29_ok : compileF Try.prog (lk [(0, ⟨[0, 2], [], []⟩), (1, ⟨[0, 2, 3], [], []⟩), (2, ⟨[0, 2, 3, 18], [], []⟩), (3, ⟨[2, 3], [], []⟩), (4, ⟨[2], [], []⟩)]) Try.f29 = some a29 := by kernel_rfl

/- payroll/payrollref8.Compare -/
def a31r0 : List IOp := [⟨some 2, .box 64 7, [.t 0], none⟩,
  ⟨some 3, .box 64 7, [.t 1], none⟩,
  ⟨some 4, .mv, [.c (.int .i64 0)], none⟩]
def a31r1 : List IOp := [⟨some 8, .fieldAddr 0, [.t 2], none⟩,
  ⟨some 9, .fieldAddr 0, [.t 8], none⟩,
  ⟨some 10, .load1, [.t 9], none⟩,
  ⟨some 11, .fieldAddr 0, [.t 2], none⟩,
  ⟨some 12, .fieldAddr 1, [.t 11], none⟩,
  ⟨some 13, .load1, [.t 12], none⟩,
  ⟨some 14, .fieldAddr 2, [.t 2], none⟩,
  ⟨some 15, .load1, [.t 14], none⟩,
  ⟨some 16, .fieldAddr 3, [.t 2], none⟩,
  ⟨some 17, .load1, [.t 16], none⟩,
  ⟨some 18, .fieldAddr 4, [.t 2], none⟩,
  ⟨some 19, .load1, [.t 18], none⟩,
  ⟨some 20, .fieldAddr 5, [.t 2], none⟩,
  ⟨some 21, .fieldAddr 0, [.t 20], none⟩,
  ⟨some 22, .load1, [.t 21], none⟩,
  ⟨some 23, .fieldAddr 5, [.t 2], none⟩,
  ⟨some 24, .fieldAddr 1, [.t 23], none⟩,
  ⟨some 25, .load1, [.t 24], none⟩,
  ⟨some 26, .build [.int .i64 0, .int .i64 0, .int .i64 0, .int .i64 0, .int .i64 0, .int .i64 0, .int .i64 0] [(0, 1), (1, 1), (2, 1), (3, 1), (4, 1), (5, 1), (6, 1)], [.t 10, .t 13, .t 15, .t 17, .t 19, .t 22, .t 25], none⟩,
  ⟨some 5, .alloc 104 [.int .i64 0, .int .i64 0, .int .i64 0, .int .i64 0, .int .i64 0, .int .i64 0, .int .i64 0], [], none⟩,
  ⟨none, .store 7, [.t 5, .t 26], none⟩]
def a31r2 : List IOp := [⟨some 27, .fieldAddr 0, [.t 3], none⟩,
  ⟨some 28, .fieldAddr 0, [.t 27], none⟩,
  ⟨some 29, .load1, [.t 28], none⟩,
  ⟨some 30, .fieldAddr 0, [.t 3], none⟩,
  ⟨some 31, .fieldAddr 1, [.t 30], none⟩,
  ⟨some 32, .load1, [.t 31], none⟩,
  ⟨some 33, .fieldAddr 2, [.t 3], none⟩,
  ⟨some 34, .load1, [.t 33], none⟩,
  ⟨some 35, .fieldAddr 3, [.t 3], none⟩,
  ⟨some 36, .load1, [.t 35], none⟩,
  ⟨some 37, .fieldAddr 4, [.t 3], none⟩,
  ⟨some 38, .load1, [.t 37], none⟩,
  ⟨some 39, .fieldAddr 5, [.t 3], none⟩,
  ⟨some 40, .fieldAddr 0, [.t 39], none⟩,
  ⟨some 41, .load1, [.t 40], none⟩,
  ⟨some 42, .fieldAddr 5, [.t 3], none⟩,
  ⟨some 43, .fieldAddr 1, [.t 42], none⟩,
  ⟨some 44, .load1, [.t 43], none⟩,
  ⟨some 45, .build [.int .i64 0, .int .i64 0, .int .i64 0, .int .i64 0, .int .i64 0, .int .i64 0, .int .i64 0] [(0, 1), (1, 1), (2, 1), (3, 1), (4, 1), (5, 1), (6, 1)], [.t 29, .t 32, .t 34, .t 36, .t 38, .t 41, .t 44], none⟩,
  ⟨some 6, .alloc 104 [.int .i64 0, .int .i64 0, .int .i64 0, .int .i64 0, .int .i64 0, .int .i64 0, .int .i64 0], [], none⟩,
  ⟨none, .store 7, [.t 6, .t 45], none⟩]
def a31r3 : List IOp := [⟨some 7, .mv, [.c (.int .i64 0)], none⟩]
def a31r4 : List IOp := [⟨some 46, .mv, [.t 7], none⟩,
  ⟨some 47, .bin .lss, [.t 46, .c (.int .i64 7)], none⟩]
def a31r5 : List (Nat × DOp) := [(0, ⟨⟨some 50, .mv, [.t 7], none⟩, none, [3, 4, 5]⟩),
  (1, ⟨⟨some 51, .indexArr 7 1, [.t 5, .t 50], none⟩, none, [3, 4, 5]⟩),
  (2, ⟨⟨some 52, .load1, [.t 51], none⟩, none, [3, 4, 5]⟩),
  (3, ⟨⟨some 53, .mv, [.t 7], none⟩, none, [0, 1, 2]⟩),
  (4, ⟨⟨some 54, .indexArr 7 1, [.t 6, .t 53], none⟩, none, [0, 1, 2]⟩),
  (5, ⟨⟨some 55, .load1, [.t 54], none⟩, none, [0, 1, 2]⟩),
  (6, ⟨⟨some 56, .bin .lss, [.t 52, .t 55], none⟩, none, []⟩)]
def a31r6 : List IOp := [⟨some 4, .mv, [.c (.int .i64 (-1))], none⟩]
def a31r7 : List (Nat × DOp) := [(0, ⟨⟨some 57, .mv, [.t 7], none⟩, none, [3, 4, 5]⟩),
  (1, ⟨⟨some 58, .indexArr 7 1, [.t 5, .t 57], none⟩, none, [3, 4, 5]⟩),
  (2, ⟨⟨some 59, .load1, [.t 58], none⟩, none, [3, 4, 5]⟩),
  (3, ⟨⟨some 60, .mv, [.t 7], none⟩, none, [0, 1, 2]⟩),
  (4, ⟨⟨some 61, .indexArr 7 1, [.t 6, .t 60], none⟩, none, [0, 1, 2]⟩),
  (5, ⟨⟨some 62, .load1, [.t 61], none⟩, none, [0, 1, 2]⟩),
  (6, ⟨⟨some 63, .bin .gtr, [.t 59, .t 62], none⟩, none, []⟩)]
def a31r8 : List IOp := [⟨some 4, .mv, [.c (.int .i64 1)], none⟩]
def a31r9 : List IOp := [⟨some 48, .mv, [.t 7], none⟩,
  ⟨some 49, .bin .add, [.t 48, .c (.int .i64 1)], none⟩,
  ⟨some 7, .mv, [.t 49], none⟩]
def a31r10 : List IOp := [⟨some 4, .mv, [.c (.int .i64 0)], none⟩]
def a31 : AFunc := ⟨64, [.tmp 4], (.seq (.region a31r0 [2, 3]) (.seq (.region a31r1 [3, 5]) (.seq (.region a31r2 [5, 6]) (.seq (.seq (.region a31r3 [5, 6, 7]) (.block 0 (.loop (.seq (.seq (.region a31r4 [5, 6, 7, 47]) (.cond (.t 47) .skip (.exit 0))) (.seq (.block 1 (.seq (.seq (.draw a31r5 [] [5, 6, 7, 56]) (.cond (.t 56) (.seq (.region a31r6 [4]) .ret) .skip)) (.seq (.draw a31r7 [] [5, 6, 7, 63]) (.cond (.t 63) (.seq (.region a31r8 [4]) .ret) .skip)))) (.region a31r9 [5, 6, 7])))))) (.seq (.region a31r10 [4]) .ret)))))⟩
theorem a31_ok : compileF Try.prog (lk [(0, ⟨[2, 3], [], []⟩), (1, ⟨[3, 5], [], []⟩), (2, ⟨[5, 6], [], []⟩), (3, ⟨[5, 6, 7], [], []⟩), (4, ⟨[5, 6, 7, 47], [], []⟩), (5, ⟨[5, 6, 7], [], []⟩), (6, ⟨[5, 6, 7, 56], [[], [0], [1, 0], [], [3], [4, 3], [2, 5, 1, 0, 4, 3]], [0, 1, 2, 3, 4, 5, 6]⟩), (7, ⟨[4], [], []⟩), (8, ⟨[5, 6, 7, 63], [[], [0], [1, 0], [], [3], [4, 3], [2, 5, 1, 0, 4, 3]], [0, 1, 2, 3, 4, 5, 6]⟩), (9, ⟨[4], [], []⟩), (10, ⟨[4], [], []⟩)]) Try.f31 = some a31 := by kernel_rfl

/- payroll/payrolllaw8.sane -/
def a32r0 : List IOp := [⟨some 0, .mv, [.c (.bool false)], none⟩]
def a32r1 : List IOp := [⟨some 11, .build [.int .i64 0, .int .i64 0] [(0, 1), (1, 1)], [.c (.int .i64 1), .c (.int .i64 5)], none⟩,
  ⟨some 12, .build [.int .i64 0, .int .i64 0, .int .i64 0, .int .i64 0, .int .i64 0, .int .i64 0, .int .i64 0] [(0, 2), (2, 1), (3, 1), (4, 1)], [.t 11, .c (.int .i64 1), .c (.int .i64 480), .c (.int .i64 1)], none⟩,
  ⟨some 1, .alloc 64 [.int .i64 0, .int .i64 0, .int .i64 0, .int .i64 0, .int .i64 0, .int .i64 0, .int .i64 0], [], none⟩,
  ⟨none, .store 7, [.t 1, .t 12], none⟩]
def a32r2 : List IOp := [⟨some 13, .build [.int .i64 0, .int .i64 0] [(0, 1), (1, 1)], [.c (.int .i64 1), .c (.int .i64 6)], none⟩,
  ⟨some 14, .fieldAddr 0, [.t 1], none⟩,
  ⟨some 15, .loadA 2, [.t 14], none⟩,
  ⟨some 16, .build [.int .i64 0, .int .i64 0, .int .i64 0, .int .i64 0, .int .i64 0, .int .i64 0, .int .i64 0] [(0, 2), (2, 1), (3, 1), (4, 1), (5, 2)], [.t 13, .c (.int .i64 1), .c (.int .i64 470), .c (.int .i64 6), .t 15], none⟩,
  ⟨some 2, .alloc 64 [.int .i64 0, .int .i64 0, .int .i64 0, .int .i64 0, .int .i64 0, .int .i64 0, .int .i64 0], [], none⟩,
  ⟨none, .store 7, [.t 2, .t 16], none⟩]
def a32r3 : List IOp := [⟨some 17, .build [.int .i64 0, .int .i64 0] [(0, 1), (1, 1)], [.c (.int .i64 2), .c (.int .i64 1)], none⟩,
  ⟨some 18, .fieldAddr 0, [.t 1], none⟩,
  ⟨some 19, .loadA 2, [.t 18], none⟩,
  ⟨some 20, .build [.int .i64 0, .int .i64 0, .int .i64 0, .int .i64 0, .int .i64 0, .int .i64 0, .int .i64 0] [(0, 2), (2, 1), (3, 1), (4, 1), (5, 2)], [.t 17, .c (.int .i64 1), .c (.int .i64 475), .c (.int .i64 6), .t 19], none⟩,
  ⟨some 3, .alloc 64 [.int .i64 0, .int .i64 0, .int .i64 0, .int .i64 0, .int .i64 0, .int .i64 0, .int .i64 0], [], none⟩,
  ⟨none, .store 7, [.t 3, .t 20], none⟩]
def a32r4 : List IOp := [⟨some 21, .loadA 7, [.t 1], none⟩,
  ⟨some 4, .alloc 64 [.int .i64 0, .int .i64 0, .int .i64 0, .int .i64 0, .int .i64 0, .int .i64 0, .int .i64 0], [], none⟩,
  ⟨none, .store 7, [.t 4, .t 21], none⟩]
def a32r5 : List IOp := [⟨some 22, .fieldAddr 3, [.t 4], none⟩,
  ⟨none, .store 1, [.t 22, .c (.int .i64 481)], none⟩]
def a32r6 : List IOp := [⟨some 24, .loadA 7, [.t 3], none⟩,
  ⟨some 25, .loadA 7, [.t 2], none⟩,
  ⟨some 26, .loadA 7, [.t 1], none⟩,
  ⟨some 27, .loadA 7, [.t 4], none⟩,
  ⟨some 28, .bslice 64 7 [.int .i64 0, .int .i64 0, .int .i64 0, .int .i64 0, .int .i64 0, .int .i64 0, .int .i64 0] 4 [0, 1, 2, 3], [.t 24, .t 25, .t 26, .t 27], none⟩,
  ⟨some 29, .call 37, [.t 28, .c (.int .i64 1)], none⟩,
  ⟨some 23, .mv, [.t 29], none⟩,
  ⟨some 30, .extract 0, [.t 23], none⟩,
  ⟨some 31, .extract 1, [.t 23], none⟩,
  ⟨some 5, .mv, [.t 30], none⟩,
  ⟨some 6, .mv, [.t 31], none⟩]
def a32r7 : List IOp := [⟨some 33, .loadA 7, [.t 4], none⟩,
  ⟨some 34, .loadA 7, [.t 1], none⟩,
  ⟨some 35, .bslice 64 7 [.int .i64 0, .int .i64 0, .int .i64 0, .int .i64 0, .int .i64 0, .int .i64 0, .int .i64 0] 2 [0, 1], [.t 33, .t 34], none⟩,
  ⟨some 36, .call 55, [.t 35], none⟩,
  ⟨some 32, .mv, [.t 36], none⟩,
  ⟨some 37, .extract 0, [.t 32], none⟩,
  ⟨some 38, .extract 1, [.t 32], none⟩,
  ⟨some 7, .mv, [.t 37], none⟩,
  ⟨some 8, .mv, [.t 38], none⟩]
def a32r8 : List IOp := [⟨some 40, .loadA 7, [.t 3], none⟩,
  ⟨some 41, .loadA 7, [.t 1], none⟩,
  ⟨some 42, .bslice 64 7 [.int .i64 0, .int .i64 0, .int .i64 0, .int .i64 0, .int .i64 0, .int .i64 0, .int .i64 0] 2 [0, 1], [.t 40, .t 41], none⟩,
  ⟨some 43, .loadA 7, [.t 1], none⟩,
  ⟨some 44, .bslice 64 7 [.int .i64 0, .int .i64 0, .int .i64 0, .int .i64 0, .int .i64 0, .int .i64 0, .int .i64 0] 1 [0], [.t 43], none⟩,
  ⟨some 45, .call 35, [.t 42, .t 44], none⟩,
  ⟨some 39, .mv, [.t 45], none⟩,
  ⟨some 46, .extract 0, [.t 39], none⟩,
  ⟨some 47, .extract 1, [.t 39], none⟩,
  ⟨some 9, .mv, [.t 46], none⟩,
  ⟨some 10, .mv, [.t 47], none⟩]
def a32r9 : List (Nat × DOp) := [(0, ⟨⟨some 48, .mv, [.t 6], none⟩, none, []⟩),
  (1, ⟨⟨some 49, .bin .eql, [.t 48, .c (.int .i64 0)], none⟩, none, []⟩),
  (2, ⟨⟨some 50, .mv, [.t 49], none⟩, none, []⟩),
  (3, ⟨⟨some 51, .mv, [.t 5], some (50, true)⟩, none, []⟩),
  (4, ⟨⟨some 52, .len, [.t 51], some (50, true)⟩, none, []⟩),
  (5, ⟨⟨some 53, .bin .eql, [.t 52, .c (.int .i64 1)], some (50, true)⟩, none, []⟩),
  (6, ⟨⟨some 54, .pick, [.t 50, .t 53, .c (.bool false)], none⟩, none, []⟩),
  (7, ⟨⟨some 55, .mv, [.t 54], none⟩, none, []⟩),
  (8, ⟨⟨some 56, .mv, [.t 5], some (55, true)⟩, none, [11, 12, 13]⟩),
  (9, ⟨⟨some 57, .indexAddr 4, [.t 56, .c (.int .i64 0)], some (55, true)⟩, none, [11, 12, 13]⟩),
  (10, ⟨⟨some 58, .loadA 4, [.t 57], some (55, true)⟩, none, [11, 12, 13]⟩),
  (11, ⟨⟨some 59, .fieldAddr 0, [.t 1], some (55, true)⟩, none, [8, 9, 10]⟩),
  (12, ⟨⟨some 60, .loadA 2, [.t 59], some (55, true)⟩, none, [8, 9, 10]⟩),
  (13, ⟨⟨some 61, .build [.int .i64 0, .int .i64 0, .int .i64 0, .int .i64 0] [(0, 1), (1, 1), (2, 2)], [.c (.int .i64 475), .c (.int .i64 1), .t 60], some (55, true)⟩, none, [8, 9, 10]⟩),
  (14, ⟨⟨some 62, .eqA false [.int .i64, .int .i64, .int .i64, .int .i64], [.t 58, .t 61], some (55, true)⟩, none, []⟩),
  (15, ⟨⟨some 63, .pick, [.t 55, .t 62, .c (.bool false)], none⟩, none, []⟩),
  (16, ⟨⟨some 64, .mv, [.t 63], none⟩, none, []⟩),
  (17, ⟨⟨some 65, .mv, [.t 8], some (64, true)⟩, none, []⟩),
  (18, ⟨⟨some 66, .bin .eql, [.t 65, .c (.int .i64 0)], some (64, true)⟩, none, []⟩),
  (19, ⟨⟨some 67, .pick, [.t 64, .t 66, .c (.bool false)], none⟩, none, []⟩),
  (20, ⟨⟨some 68, .mv, [.t 67], none⟩, none, []⟩),
  (21, ⟨⟨some 69, .mv, [.t 7], some (68, true)⟩, none, []⟩),
  (22, ⟨⟨some 70, .len, [.t 69], some (68, true)⟩, none, []⟩),
  (23, ⟨⟨some 71, .bin .eql, [.t 70, .c (.int .i64 1)], some (68, true)⟩, none, []⟩),
  (24, ⟨⟨some 72, .pick, [.t 68, .t 71, .c (.bool false)], none⟩, none, []⟩),
  (25, ⟨⟨some 73, .mv, [.t 72], none⟩, none, []⟩),
  (26, ⟨⟨some 74, .mv, [.t 7], some (73, true)⟩, none, [29, 30]⟩),
  (27, ⟨⟨some 75, .indexAddr 2, [.t 74, .c (.int .i64 0)], some (73, true)⟩, none, [29, 30]⟩),
  (28, ⟨⟨some 76, .loadA 2, [.t 75], some (73, true)⟩, none, [29, 30]⟩),
  (29, ⟨⟨some 77, .fieldAddr 0, [.t 1], some (73, true)⟩, none, [26, 27, 28]⟩),
  (30, ⟨⟨some 78, .loadA 2, [.t 77], some (73, true)⟩, none, [26, 27, 28]⟩),
  (31, ⟨⟨some 79, .eqA false [.int .i64, .int .i64], [.t 76, .t 78], some (73, true)⟩, none, []⟩),
  (32, ⟨⟨some 80, .pick, [.t 73, .t 79, .c (.bool false)], none⟩, none, []⟩),
  (33, ⟨⟨some 81, .mv, [.t 80], none⟩, none, []⟩),
  (34, ⟨⟨some 82, .mv, [.t 10], some (81, true)⟩, none, []⟩),
  (35, ⟨⟨some 83, .bin .eql, [.t 82, .c (.int .i64 0)], some (81, true)⟩, none, []⟩),
  (36, ⟨⟨some 84, .pick, [.t 81, .t 83, .c (.bool false)], none⟩, none, []⟩),
  (37, ⟨⟨some 85, .mv, [.t 84], none⟩, none, []⟩),
  (38, ⟨⟨some 86, .mv, [.t 9], some (85, true)⟩, none, []⟩),
  (39, ⟨⟨some 87, .len, [.t 86], some (85, true)⟩, none, []⟩),
  (40, ⟨⟨some 88, .bin .eql, [.t 87, .c (.int .i64 2)], some (85, true)⟩, none, []⟩),
  (41, ⟨⟨some 89, .pick, [.t 85, .t 88, .c (.bool false)], none⟩, none, []⟩),
  (42, ⟨⟨some 90, .mv, [.t 89], none⟩, none, []⟩),
  (43, ⟨⟨some 91, .mv, [.t 9], some (90, true)⟩, none, [46]⟩),
  (44, ⟨⟨some 92, .indexAddr 7, [.t 91, .c (.int .i64 0)], some (90, true)⟩, none, [46]⟩),
  (45, ⟨⟨some 93, .loadA 7, [.t 92], some (90, true)⟩, none, [46]⟩),
  (46, ⟨⟨some 94, .loadA 7, [.t 1], some (90, true)⟩, none, [43, 44, 45]⟩),
  (47, ⟨⟨some 95, .eqA false [.int .i64, .int .i64, .int .i64, .int .i64, .int .i64, .int .i64, .int .i64], [.t 93, .t 94], some (90, true)⟩, none, []⟩),
  (48, ⟨⟨some 96, .pick, [.t 90, .t 95, .c (.bool false)], none⟩, none, []⟩),
  (49, ⟨⟨some 97, .mv, [.t 96], none⟩, none, []⟩),
  (50, ⟨⟨some 98, .loadA 7, [.t 1], some (97, true)⟩, none, [51]⟩),
  (51, ⟨⟨some 99, .loadA 7, [.t 4], some (97, true)⟩, none, [50]⟩),
  (52, ⟨⟨some 100, .call 30, [.t 98, .t 99], some (97, true)⟩, none, []⟩),
  (53, ⟨⟨some 101, .bin .eql, [.t 100, .c (.int .i64 (-1))], some (97, true)⟩, none, []⟩),
  (54, ⟨⟨some 102, .pick, [.t 97, .t 101, .c (.bool false)], none⟩, none, []⟩),
  (55, ⟨⟨some 0, .mv, [.t 102], none⟩, none, []⟩)]
def a32 : AFunc := ⟨103, [.tmp 0], (.seq (.region a32r0 []) (.seq (.region a32r1 [1]) (.seq (.region a32r2 [1, 2]) (.seq (.region a32r3 [1, 2, 3]) (.seq (.region a32r4 [1, 2, 3, 4]) (.seq (.region a32r5 [1, 2, 3, 4]) (.seq (.region a32r6 [1, 3, 4, 5, 6]) (.seq (.region a32r7 [1, 3, 4, 5, 6, 7, 8]) (.seq (.region a32r8 [1, 4, 5, 6, 7, 8, 9, 10]) (.seq (.draw a32r9 [] [0]) .ret))))))))))⟩
theorem a32_ok : compileF Try.prog (lk [(0, ⟨[], [], []⟩), (1, ⟨[1], [], []⟩), (2, ⟨[1, 2], [], []⟩), (3, ⟨[1, 2, 3], [], []⟩), (4, ⟨[1, 2, 3, 4], [], []⟩), (5, ⟨[1, 2, 3, 4], [], []⟩), (6, ⟨[1, 3, 4, 5, 6], [], []⟩), (7, ⟨[1, 3, 4, 5, 6, 7, 8], [], []⟩), (8, ⟨[1, 4, 5, 6, 7, 8, 9, 10], [], []⟩), (9, ⟨[0], [[], [0], [1, 0], [2, 1, 0], [3, 2, 1, 0], [4, 2, 3, 1, 0], [2, 5, 1, 0, 4, 3], [6, 2, 5, 1, 0, 4, 3], [7, 6, 2, 5, 1, 0, 4, 3], [8, 7, 6, 2, 5, 1, 0, 4, 3], [9, 7, 8, 6, 2, 5, 1, 0, 4, 3], [7, 6, 2, 5, 1, 0, 4, 3], [11, 7, 6, 2, 5, 1, 0, 4, 3], [12, 7, 11, 6, 2, 5, 1, 0, 4, 3], [10, 13, 7, 9, 8, 6, 2, 5, 1, 0, 4, 3, 12, 11], [7, 14, 6, 2, 5, 1, 0, 4, 3, 10, 13, 9, 8, 12, 11], [15, 7, 14, 6, 2, 5, 1, 0, 4, 3, 10, 13, 9, 8, 12, 11], [16, 15, 7, 14, 6, 2, 5, 1, 0, 4, 3, 10, 13, 9, 8, 12, 11], [17, 16, 15, 7, 14, 6, 2, 5, 1, 0, 4, 3, 10, 13, 9, 8, 12, 11], [16, 18, 15, 7, 14, 6, 2, 5, 1, 0, 4, 3, 10, 13, 9, 8, 12, 11, 17], [19, 16, 18, 15, 7, 14, 6, 2, 5, 1, 0, 4, 3, 10, 13, 9, 8, 12, 11, 17], [20, 19, 16, 18, 15, 7, 14, 6, 2, 5, 1, 0, 4, 3, 10, 13, 9, 8, 12, 11, 17], [21, 20, 19, 16, 18, 15, 7, 14, 6, 2, 5, 1, 0, 4, 3, 10, 13, 9, 8, 12, 11, 17], [22, 20, 21, 19, 16, 18, 15, 7, 14, 6, 2, 5, 1, 0, 4, 3, 10, 13, 9, 8, 12, 11, 17], [20, 23, 19, 16, 18, 15, 7, 14, 6, 2, 5, 1, 0, 4, 3, 10, 13, 9, 8, 12, 11, 17, 22, 21], [24, 20, 23, 19, 16, 18, 15, 7, 14, 6, 2, 5, 1, 0, 4, 3, 10, 13, 9, 8, 12, 11, 17, 22, 21], [25, 24, 20, 23, 19, 16, 18, 15, 7, 14, 6, 2, 5, 1, 0, 4, 3, 10, 13, 9, 8, 12, 11, 17, 22, 21], [26, 25, 24, 20, 23, 19, 16, 18, 15, 7, 14, 6, 2, 5, 1, 0, 4, 3, 10, 13, 9, 8, 12, 11, 17, 22, 21], [27, 25, 26, 24, 20, 23, 19, 16, 18, 15, 7, 14, 6, 2, 5, 1, 0, 4, 3, 10, 13, 9, 8, 12, 11, 17, 22, 21], [25, 24, 20, 23, 19, 16, 18, 15, 7, 14, 6, 2, 5, 1, 0, 4, 3, 10, 13, 9, 8, 12, 11, 17, 22, 21], [29, 25, 24, 20, 23, 19, 16, 18, 15, 7, 14, 6, 2, 5, 1, 0, 4, 3, 10, 13, 9, 8, 12, 11, 17, 22, 21], [28, 30, 25, 27, 26, 24, 20, 23, 19, 16, 18, 15, 7, 14, 6, 2, 5, 1, 0, 4, 3, 10, 13, 9, 8, 12, 11, 17, 22, 21, 29], [25, 31, 24, 20, 23, 19, 16, 18, 15, 7, 14, 6, 2, 5, 1, 0, 4, 3, 10, 13, 9, 8, 12, 11, 17, 22, 21, 28, 30, 27, 26, 29], [32, 25, 31, 24, 20, 23, 19, 16, 18, 15, 7, 14, 6, 2, 5, 1, 0, 4, 3, 10, 13, 9, 8, 12, 11, 17, 22, 21, 28, 30, 27, 26, 29], [33, 32, 25, 31, 24, 20, 23, 19, 16, 18, 15, 7, 14, 6, 2, 5, 1, 0, 4, 3, 10, 13, 9, 8, 12, 11, 17, 22, 21, 28, 30, 27, 26, 29], [34, 33, 32, 25, 31, 24, 20, 23, 19, 16, 18, 15, 7, 14, 6, 2, 5, 1, 0, 4, 3, 10, 13, 9, 8, 12, 11, 17, 22, 21, 28, 30, 27, 26, 29], [33, 35, 32, 25, 31, 24, 20, 23, 19, 16, 18, 15, 7, 14, 6, 2, 5, 1, 0, 4, 3, 10, 13, 9, 8, 12, 11, 17, 22, 21, 28, 30, 27, 26, 29, 34], [36, 33, 35, 32, 25, 31, 24, 20, 23, 19, 16, 18, 15, 7, 14, 6, 2, 5, 1, 0, 4, 3, 10, 13, 9, 8, 12, 11, 17, 22, 21, 28, 30, 27, 26, 29, 34], [37, 36, 33, 35, 32, 25, 31, 24, 20, 23, 19, 16, 18, 15, 7, 14, 6, 2, 5, 1, 0, 4, 3, 10, 13, 9, 8, 12, 11, 17, 22, 21, 28, 30, 27, 26, 29, 34], [38, 37, 36, 33, 35, 32, 25, 31, 24, 20, 23, 19, 16, 18, 15, 7, 14, 6, 2, 5, 1, 0, 4, 3, 10, 13, 9, 8, 12, 11, 17, 22, 21, 28, 30, 27, 26, 29, 34], [39, 37, 38, 36, 33, 35, 32, 25, 31, 24, 20, 23, 19, 16, 18, 15, 7, 14, 6, 2, 5, 1, 0, 4, 3, 10, 13, 9, 8, 12, 11, 17, 22, 21, 28, 30, 27, 26, 29, 34], [37, 40, 36, 33, 35, 32, 25, 31, 24, 20, 23, 19, 16, 18, 15, 7, 14, 6, 2, 5, 1, 0, 4, 3, 10, 13, 9, 8, 12, 11, 17, 22, 21, 28, 30, 27, 26, 29, 34, 39, 38], [41, 37, 40, 36, 33, 35, 32, 25, 31, 24, 20, 23, 19, 16, 18, 15, 7, 14, 6, 2, 5, 1, 0, 4, 3, 10, 13, 9, 8, 12, 11, 17, 22, 21, 28, 30, 27, 26, 29, 34, 39, 38], [42, 41, 37, 40, 36, 33, 35, 32, 25, 31, 24, 20, 23, 19, 16, 18, 15, 7, 14, 6, 2, 5, 1, 0, 4, 3, 10, 13, 9, 8, 12, 11, 17, 22, 21, 28, 30, 27, 26, 29, 34, 39, 38], [43, 42, 41, 37, 40, 36, 33, 35, 32, 25, 31, 24, 20, 23, 19, 16, 18, 15, 7, 14, 6, 2, 5, 1, 0, 4, 3, 10, 13, 9, 8, 12, 11, 17, 22, 21, 28, 30, 27, 26, 29, 34, 39, 38], [44, 42, 43, 41, 37, 40, 36, 33, 35, 32, 25, 31, 24, 20, 23, 19, 16, 18, 15, 7, 14, 6, 2, 5, 1, 0, 4, 3, 10, 13, 9, 8, 12, 11, 17, 22, 21, 28, 30, 27, 26, 29, 34, 39, 38], [42, 41, 37, 40, 36, 33, 35, 32, 25, 31, 24, 20, 23, 19, 16, 18, 15, 7, 14, 6, 2, 5, 1, 0, 4, 3, 10, 13, 9, 8, 12, 11, 17, 22, 21, 28, 30, 27, 26, 29, 34, 39, 38], [45, 46, 42, 44, 43, 41, 37, 40, 36, 33, 35, 32, 25, 31, 24, 20, 23, 19, 16, 18, 15, 7, 14, 6, 2, 5, 1, 0, 4, 3, 10, 13, 9, 8, 12, 11, 17, 22, 21, 28, 30, 27, 26, 29, 34, 39, 38], [42, 47, 41, 37, 40, 36, 33, 35, 32, 25, 31, 24, 20, 23, 19, 16, 18, 15, 7, 14, 6, 2, 5, 1, 0, 4, 3, 10, 13, 9, 8, 12, 11, 17, 22, 21, 28, 30, 27, 26, 29, 34, 39, 38, 45, 46, 44, 43], [48, 42, 47, 41, 37, 40, 36, 33, 35, 32, 25, 31, 24, 20, 23, 19, 16, 18, 15, 7, 14, 6, 2, 5, 1, 0, 4, 3, 10, 13, 9, 8, 12, 11, 17, 22, 21, 28, 30, 27, 26, 29, 34, 39, 38, 45, 46, 44, 43], [49, 48, 42, 47, 41, 37, 40, 36, 33, 35, 32, 25, 31, 24, 20, 23, 19, 16, 18, 15, 7, 14, 6, 2, 5, 1, 0, 4, 3, 10, 13, 9, 8, 12, 11, 17, 22, 21, 28, 30, 27, 26, 29, 34, 39, 38, 45, 46, 44, 43], [49, 48, 42, 47, 41, 37, 40, 36, 33, 35, 32, 25, 31, 24, 20, 23, 19, 16, 18, 15, 7, 14, 6, 2, 5, 1, 0, 4, 3, 10, 13, 9, 8, 12, 11, 17, 22, 21, 28, 30, 27, 26, 29, 34, 39, 38, 45, 46, 44, 43], [50, 51, 49, 48, 42, 47, 41, 37, 40, 36, 33, 35, 32, 25, 31, 24, 20, 23, 19, 16, 18, 15, 7, 14, 6, 2, 5, 1, 0, 4, 3, 10, 13, 9, 8, 12, 11, 17, 22, 21, 28, 30, 27, 26, 29, 34, 39, 38, 45, 46, 44, 43], [52, 49, 50, 51, 48, 42, 47, 41, 37, 40, 36, 33, 35, 32, 25, 31, 24, 20, 23, 19, 16, 18, 15, 7, 14, 6, 2, 5, 1, 0, 4, 3, 10, 13, 9, 8, 12, 11, 17, 22, 21, 28, 30, 27, 26, 29, 34, 39, 38, 45, 46, 44, 43], [49, 53, 48, 42, 47, 41, 37, 40, 36, 33, 35, 32, 25, 31, 24, 20, 23, 19, 16, 18, 15, 7, 14, 6, 2, 5, 1, 0, 4, 3, 10, 13, 9, 8, 12, 11, 17, 22, 21, 28, 30, 27, 26, 29, 34, 39, 38, 45, 46, 44, 43, 52, 50, 51], [54, 52, 0, 1, 2, 3, 4, 5, 6, 7, 8, 9, 10, 11, 12, 13, 14, 15, 16, 17, 18, 19, 20, 21, 22, 23, 24, 25, 26, 27, 28, 29, 30, 31, 32, 33, 34, 35, 36, 37, 38, 39, 40, 41, 42, 43, 44, 45, 46, 47, 48, 49, 50, 51, 53]], [0, 1, 2, 3, 4, 5, 6, 7, 8, 9, 10, 11, 12, 13, 14, 15, 16, 17, 18, 19, 20, 21, 22, 23, 24, 25, 26, 27, 28, 29, 30, 31, 32, 33, 34, 35, 36, 37, 38, 39, 40, 41, 42, 43, 44, 45, 46, 47, 48, 49, 50, 51, 52, 53, 54, 55]⟩)]) Try.f32 = some a32 := by kernel_rfl

/- payroll/payrolllaw8.reads -/
def a33r0 : List IOp := [⟨some 4, .mv, [.c (.bool false)], none⟩]
def a33r1 : List IOp := [⟨some 15, .mv, [.t 0], none⟩,
  ⟨some 16, .call 55, [.t 15], none⟩,
  ⟨some 14, .mv, [.t 16], none⟩,
  ⟨some 17, .extract 0, [.t 14], none⟩,
  ⟨some 18, .extract 1, [.t 14], none⟩,
  ⟨some 5, .mv, [.t 17], none⟩,
  ⟨some 6, .mv, [.t 18], none⟩]
def a33r2 : List IOp := [⟨some 20, .mv, [.t 0], none⟩,
  ⟨some 21, .call 56, [.t 20], none⟩,
  ⟨some 19, .mv, [.t 21], none⟩,
  ⟨some 22, .extract 0, [.t 19], none⟩,
  ⟨some 23, .extract 1, [.t 19], none⟩,
  ⟨some 7, .mv, [.t 22], none⟩,
  ⟨some 8, .mv, [.t 23], none⟩]
def a33r3 : List IOp := [⟨some 25, .mv, [.t 0], none⟩,
  ⟨some 26, .mv, [.t 1], none⟩,
  ⟨some 27, .call 37, [.t 25, .t 26], none⟩,
  ⟨some 24, .mv, [.t 27], none⟩,
  ⟨some 28, .extract 0, [.t 24], none⟩,
  ⟨some 29, .extract 1, [.t 24], none⟩,
  ⟨some 9, .mv, [.t 28], none⟩,
  ⟨some 10, .mv, [.t 29], none⟩]
def a33r4 : List IOp := [⟨some 31, .mv, [.t 0], none⟩,
  ⟨some 32, .mv, [.t 1], none⟩,
  ⟨some 33, .call 57, [.t 31, .t 32], none⟩,
  ⟨some 30, .mv, [.t 33], none⟩,
  ⟨some 34, .extract 0, [.t 30], none⟩,
  ⟨some 35, .extract 1, [.t 30], none⟩,
  ⟨some 11, .mv, [.t 34], none⟩,
  ⟨some 12, .mv, [.t 35], none⟩]
def a33r5 : List IOp := [⟨some 36, .mv, [.t 5], none⟩,
  ⟨some 37, .len, [.t 36], none⟩,
  ⟨some 38, .mv, [.t 7], none⟩,
  ⟨some 39, .len, [.t 38], none⟩,
  ⟨some 40, .bin .neq, [.t 37, .t 39], none⟩,
  ⟨some 41, .mv, [.t 40], none⟩,
  ⟨some 42, .mv, [.t 6], some (41, false)⟩,
  ⟨some 43, .mv, [.t 8], some (41, false)⟩,
  ⟨some 44, .bin .neq, [.t 42, .t 43], some (41, false)⟩,
  ⟨some 45, .pick, [.t 41, .c (.bool true), .t 44], none⟩,
  ⟨some 46, .mv, [.t 45], none⟩,
  ⟨some 47, .mv, [.t 10], some (46, false)⟩,
  ⟨some 48, .mv, [.t 12], some (46, false)⟩,
  ⟨some 49, .bin .neq, [.t 47, .t 48], some (46, false)⟩,
  ⟨some 50, .pick, [.t 46, .c (.bool true), .t 49], none⟩,
  ⟨some 51, .mv, [.t 50], none⟩,
  ⟨some 52, .mv, [.t 9], some (51, false)⟩,
  ⟨some 53, .mv, [.t 11], some (51, false)⟩,
  ⟨some 54, .call 38, [.t 52, .t 53], some (51, false)⟩,
  ⟨some 55, .not, [.t 54], some (51, false)⟩,
  ⟨some 56, .pick, [.t 51, .c (.bool true), .t 55], none⟩]
def a33r6 : List IOp := [⟨some 4, .mv, [.c (.bool false)], none⟩]
def a33r7 : List IOp := [⟨some 13, .mv, [.c (.int .i64 0)], none⟩]
def a33r8 : List IOp := [⟨some 57, .mv, [.t 13], none⟩,
  ⟨some 58, .mv, [.t 5], none⟩,
  ⟨some 59, .len, [.t 58], none⟩,
  ⟨some 60, .bin .lss, [.t 57, .t 59], none⟩]
def a33r9 : List (Nat × DOp) := [(0, ⟨⟨some 63, .mv, [.t 5], none⟩, none, [1, 4, 5, 6, 7]⟩),
  (1, ⟨⟨some 64, .mv, [.t 13], none⟩, none, [0, 4, 5, 6, 7]⟩),
  (2, ⟨⟨some 65, .indexAddr 2, [.t 63, .t 64], none⟩, none, [4, 5, 6, 7]⟩),
  (3, ⟨⟨some 66, .loadA 2, [.t 65], none⟩, none, [4, 5, 6, 7]⟩),
  (4, ⟨⟨some 67, .mv, [.t 7], none⟩, none, [0, 1, 2, 3, 5]⟩),
  (5, ⟨⟨some 68, .mv, [.t 13], none⟩, none, [0, 1, 2, 3, 4]⟩),
  (6, ⟨⟨some 69, .indexAddr 2, [.t 67, .t 68], none⟩, none, [0, 1, 2, 3]⟩),
  (7, ⟨⟨some 70, .loadA 2, [.t 69], none⟩, none, [0, 1, 2, 3]⟩),
  (8, ⟨⟨some 71, .eqA true [.int .i64, .int .i64], [.t 66, .t 70], none⟩, none, []⟩)]
def a33r10 : List IOp := [⟨some 4, .mv, [.c (.bool false)], none⟩]
def a33r11 : List IOp := [⟨some 61, .mv, [.t 13], none⟩,
  ⟨some 62, .bin .add, [.t 61, .c (.int .i64 1)], none⟩,
  ⟨some 13, .mv, [.t 62], none⟩]
def a33r12 : List IOp := [⟨some 4, .mv, [.c (.bool true)], none⟩]
def a33 : AFunc := ⟨72, [.tmp 4], (.seq (.region a33r0 [0, 1]) (.seq (.region a33r1 [0, 1, 5, 6]) (.seq (.region a33r2 [0, 1, 5, 6, 7, 8]) (.seq (.region a33r3 [0, 1, 5, 6, 7, 8, 9, 10]) (.seq (.region a33r4 [5, 6, 7, 8, 9, 10, 11, 12]) (.seq (.seq (.region a33r5 [5, 7, 56]) (.cond (.t 56) (.seq (.region a33r6 [4]) .ret) .skip)) (.seq (.seq (.region a33r7 [5, 7, 13]) (.block 0 (.loop (.seq (.seq (.region a33r8 [5, 7, 13, 60]) (.cond (.t 60) .skip (.exit 0))) (.seq (.block 1 (.seq (.draw a33r9 [] [5, 7, 13, 71]) (.cond (.t 71) (.seq (.region a33r10 [4]) .ret) .skip))) (.region a33r11 [5, 7, 13])))))) (.seq (.region a33r12 [4]) .ret))))))))⟩
theorem a33_ok : compileF Try.prog (lk [(0, ⟨[0, 1], [], []⟩), (1, ⟨[0, 1, 5, 6], [], []⟩), (2, ⟨[0, 1, 5, 6, 7, 8], [], []⟩), (3, ⟨[0, 1, 5, 6, 7, 8, 9, 10], [], []⟩), (4, ⟨[5, 6, 7, 8, 9, 10, 11, 12], [], []⟩), (5, ⟨[5, 7, 56], [], []⟩), (6, ⟨[4], [], []⟩), (7, ⟨[5, 7, 13], [], []⟩), (8, ⟨[5, 7, 13, 60], [], []⟩), (9, ⟨[5, 7, 13], [], []⟩), (10, ⟨[5, 7, 13, 71], [[], [], [0, 1], [2, 0, 1], [], [], [4, 5], [6, 4, 5], [3, 7, 2, 0, 1, 6, 4, 5]], [0, 1, 2, 3, 4, 5, 6, 7, 8]⟩), (11, ⟨[4], [], []⟩), (12, ⟨[4], [], []⟩)]) Try.f33 = some a33 := by kernel_rfl

/- (*payroll/payrollgen.Tape).Days -/
def a34r0 : List IOp := [⟨some 4, .mv, [.c (.nils)], none⟩]
def a34r1 : List IOp := [⟨some 5, .mv, [.c (.nils)], none⟩]
def a34r2 : List IOp := [⟨some 6, .mv, [.c (.int .i64 20)], none⟩]
def a34r3 : List IOp := [⟨some 7, .mv, [.c (.int .i64 0)], none⟩]
def a34r4 : List IOp := [⟨some 16, .mv, [.t 7], none⟩,
  ⟨some 17, .mv, [.t 1], none⟩,
  ⟨some 18, .bin .lss, [.t 16, .t 17], none⟩]
def a34r5 : List IOp := [⟨some 21, .mv, [.t 7], none⟩,
  ⟨some 22, .bin .mul, [.t 21, .c (.int .i64 1440)], none⟩,
  ⟨some 23, .bin .add, [.c (.int .i64 29453760), .t 22], none⟩,
  ⟨some 24, .mv, [.t 0], none⟩,
  ⟨some 25, .bslice 3 1 [.int .i64 0] 5 [0, 1, 2, 3, 4], [.c (.int .i64 480), .c (.int .i64 465), .c (.int .i64 1320), .c (.int .i64 360), .c (.int .i64 477)], none⟩,
  ⟨some 26, .call 40, [.t 24, .t 25], none⟩,
  ⟨some 27, .bin .add, [.t 23, .t 26], none⟩,
  ⟨some 28, .mv, [.t 0], none⟩,
  ⟨some 29, .call 14, [.t 28, .c (.int .i64 7)], none⟩,
  ⟨some 30, .bin .add, [.t 27, .t 29], none⟩,
  ⟨some 8, .mv, [.t 30], none⟩]
def a34r6 : List IOp := [⟨some 31, .mv, [.t 8], none⟩,
  ⟨some 32, .mv, [.t 0], none⟩,
  ⟨some 33, .bslice 3 1 [.int .i64 0] 6 [0, 1, 2, 3, 4, 5], [.c (.int .i64 480), .c (.int .i64 510), .c (.int .i64 540), .c (.int .i64 660), .c (.int .i64 300), .c (.int .i64 75)], none⟩,
  ⟨some 34, .call 40, [.t 32, .t 33], none⟩,
  ⟨some 35, .bin .add, [.t 31, .t 34], none⟩,
  ⟨some 9, .mv, [.t 35], none⟩]
def a34r7 : List IOp := [⟨some 36, .mv, [.t 8], none⟩,
  ⟨some 37, .mv, [.t 9], none⟩,
  ⟨some 38, .bslice 3 1 [.int .i64 0] 2 [0, 1], [.t 36, .t 37], none⟩,
  ⟨some 10, .mv, [.t 38], none⟩]
def a34r8 : List IOp := [⟨some 39, .bslice 3 1 [.int .i64 0] 2 [0, 1], [.c (.int .i64 1), .c (.int .i64 2)], none⟩,
  ⟨some 11, .mv, [.t 39], none⟩]
def a34r9 : List IOp := [⟨some 40, .mv, [.t 0], none⟩,
  ⟨some 41, .call 14, [.t 40, .c (.int .i64 2)], none⟩,
  ⟨some 42, .bin .eql, [.t 41, .c (.int .i64 0)], none⟩]
def a34r10 : List IOp := [⟨some 43, .mv, [.t 8], none⟩,
  ⟨some 44, .mv, [.t 0], none⟩,
  ⟨some 45, .bslice 3 1 [.int .i64 0] 3 [0, 1, 2], [.c (.int .i64 120), .c (.int .i64 240), .c (.int .i64 60)], none⟩,
  ⟨some 46, .call 40, [.t 44, .t 45], none⟩,
  ⟨some 47, .bin .add, [.t 43, .t 46], none⟩,
  ⟨some 12, .mv, [.t 47], none⟩]
def a34r11 : List IOp := [⟨some 48, .mv, [.t 10], none⟩,
  ⟨some 49, .mv, [.t 12], none⟩,
  ⟨some 50, .mv, [.t 12], none⟩,
  ⟨some 51, .mv, [.t 0], none⟩,
  ⟨some 52, .bslice 3 1 [.int .i64 0] 3 [0, 1, 2], [.c (.int .i64 30), .c (.int .i64 15), .c (.int .i64 45)], none⟩,
  ⟨some 53, .call 40, [.t 51, .t 52], none⟩,
  ⟨some 54, .bin .add, [.t 50, .t 53], none⟩,
  ⟨some 55, .bslice 3 1 [.int .i64 0] 2 [0, 1], [.t 49, .t 54], none⟩,
  ⟨some 56, .append 3 1 8, [.t 48, .t 55], none⟩,
  ⟨some 57, .mv, [.t 11], none⟩,
  ⟨some 58, .bslice 3 1 [.int .i64 0] 2 [0, 1], [.c (.int .i64 3), .c (.int .i64 4)], none⟩,
  ⟨some 59, .append 3 1 8, [.t 57, .t 58], none⟩,
  ⟨some 10, .mv, [.t 56], none⟩,
  ⟨some 11, .mv, [.t 59], none⟩]
def a34r12 : List IOp := [⟨some 13, .mv, [.c (.int .i64 0)], none⟩]
def a34r13 : List IOp := [⟨some 60, .mv, [.t 13], none⟩,
  ⟨some 61, .mv, [.t 10], none⟩,
  ⟨some 62, .len, [.t 61], none⟩,
  ⟨some 63, .bin .lss, [.t 60, .t 62], none⟩]
def a34r14 : List IOp := [⟨some 66, .mv, [.t 0], none⟩,
  ⟨some 67, .call 14, [.t 66, .c (.int .i64 14)], none⟩,
  ⟨some 68, .bin .eql, [.t 67, .c (.int .i64 13)], none⟩]
def a34r15 : List (Nat × DOp) := [(0, ⟨⟨some 69, .mv, [.t 5], none⟩, none, [1, 2, 3, 4, 5, 6, 7, 8, 9, 10, 11, 12, 13, 14]⟩),
  (1, ⟨⟨some 70, .mv, [.t 6], none⟩, none, [0, 2, 5, 6, 7, 8, 9, 10, 11, 12]⟩),
  (2, ⟨⟨some 71, .mv, [.t 13], none⟩, none, [0, 1, 5, 6, 7, 8, 9, 10, 11, 12]⟩),
  (3, ⟨⟨some 72, .bin .add, [.t 70, .t 71], none⟩, none, [0, 5, 6, 7, 8, 9, 10, 11, 12]⟩),
  (4, ⟨⟨some 73, .build [.int .i64 0, .int .i64 0] [(0, 1), (1, 1)], [.c (.int .i64 2), .t 72], none⟩, none, [0, 5, 6, 7, 8, 9, 10, 11, 12]⟩),
  (5, ⟨⟨some 74, .mv, [.t 10], none⟩, none, [0, 1, 2, 3, 4, 6, 9, 10, 11, 12]⟩),
  (6, ⟨⟨some 75, .mv, [.t 13], none⟩, none, [0, 1, 2, 3, 4, 5, 9, 10, 11, 12]⟩),
  (7, ⟨⟨some 76, .indexAddr 1, [.t 74, .t 75], none⟩, none, [0, 1, 2, 3, 4, 9, 10, 11, 12]⟩),
  (8, ⟨⟨some 77, .load1, [.t 76], none⟩, none, [0, 1, 2, 3, 4, 9, 10, 11, 12]⟩),
  (9, ⟨⟨some 78, .mv, [.t 11], none⟩, none, [0, 1, 2, 3, 4, 5, 6, 7, 8, 10]⟩),
  (10, ⟨⟨some 79, .mv, [.t 13], none⟩, none, [0, 1, 2, 3, 4, 5, 6, 7, 8, 9]⟩),
  (11, ⟨⟨some 80, .indexAddr 1, [.t 78, .t 79], none⟩, none, [0, 1, 2, 3, 4, 5, 6, 7, 8]⟩),
  (12, ⟨⟨some 81, .load1, [.t 80], none⟩, none, [0, 1, 2, 3, 4, 5, 6, 7, 8]⟩),
  (13, ⟨⟨some 82, .build [.int .i64 0, .int .i64 0, .int .i64 0, .int .i64 0, .int .i64 0, .int .i64 0, .int .i64 0] [(0, 2), (2, 1), (3, 1), (4, 1)], [.t 73, .c (.int .i64 1), .t 77, .t 81], none⟩, none, [0]⟩),
  (14, ⟨⟨some 83, .bslice 64 7 [.int .i64 0, .int .i64 0, .int .i64 0, .int .i64 0, .int .i64 0, .int .i64 0, .int .i64 0] 1 [0], [.t 82], none⟩, some 0, [0]⟩),
  (15, ⟨⟨some 84, .append 64 7 56, [.t 69, .t 83], none⟩, none, []⟩),
  (16, ⟨⟨some 5, .mv, [.t 84], none⟩, none, []⟩)]
def a34r16 : List IOp := [⟨some 64, .mv, [.t 13], none⟩,
  ⟨some 65, .bin .add, [.t 64, .c (.int .i64 1)], none⟩,
  ⟨some 13, .mv, [.t 65], none⟩]
def a34r17 : List IOp := [⟨some 85, .mv, [.t 0], none⟩,
  ⟨some 86, .call 14, [.t 85, .c (.int .i64 6)], none⟩,
  ⟨some 87, .bin .eql, [.t 86, .c (.int .i64 5)], none⟩]
def a34r18 : List IOp := [⟨some 88, .mv, [.t 5], none⟩,
  ⟨some 89, .mv, [.t 6], none⟩,
  ⟨some 90, .build [.int .i64 0, .int .i64 0] [(0, 1), (1, 1)], [.c (.int .i64 3), .t 89], none⟩,
  ⟨some 91, .mv, [.t 8], none⟩,
  ⟨some 92, .bin .add, [.t 91, .c (.int .i64 10)], none⟩,
  ⟨some 93, .mv, [.t 0], none⟩,
  ⟨some 94, .bslice 3 1 [.int .i64 0] 2 [0, 1], [.c (.int .i64 6), .c (.int .i64 5)], none⟩,
  ⟨some 95, .call 40, [.t 93, .t 94], none⟩,
  ⟨some 96, .mv, [.t 6], none⟩,
  ⟨some 97, .build [.int .i64 0, .int .i64 0] [(0, 1), (1, 1)], [.c (.int .i64 2), .t 96], none⟩,
  ⟨some 98, .build [.int .i64 0, .int .i64 0, .int .i64 0, .int .i64 0, .int .i64 0, .int .i64 0, .int .i64 0] [(0, 2), (2, 1), (3, 1), (4, 1), (5, 2)], [.t 90, .c (.int .i64 1), .t 92, .t 95, .t 97], none⟩,
  ⟨some 99, .bslice 64 7 [.int .i64 0, .int .i64 0, .int .i64 0, .int .i64 0, .int .i64 0, .int .i64 0, .int .i64 0] 1 [0], [.t 98], none⟩,
  ⟨some 100, .append 64 7 56, [.t 88, .t 99], none⟩,
  ⟨some 5, .mv, [.t 100], none⟩]
def a34r19 : List IOp := [⟨some 101, .mv, [.t 6], none⟩,
  ⟨some 102, .bin .add, [.t 101, .c (.int .i64 4)], none⟩,
  ⟨some 6, .mv, [.t 102], none⟩]
def a34r20 : List IOp := [⟨some 19, .mv, [.t 7], none⟩,
  ⟨some 20, .bin .add, [.t 19, .c (.int .i64 1)], none⟩,
  ⟨some 7, .mv, [.t 20], none⟩]
def a34r21 : List IOp := [⟨some 103, .mv, [.t 5], none⟩,
  ⟨some 104, .len, [.t 103], none⟩,
  ⟨some 105, .bin .sub, [.t 104, .c (.int .i64 1)], none⟩,
  ⟨some 14, .mv, [.t 105], none⟩]
def a34r22 : List IOp := [⟨some 106, .mv, [.t 14], none⟩,
  ⟨some 107, .bin .gtr, [.t 106, .c (.int .i64 0)], none⟩]
def a34r23 : List IOp := [⟨some 110, .mv, [.t 0], none⟩,
  ⟨some 111, .call 14, [.t 110, .c (.int .i64 3)], none⟩,
  ⟨some 112, .bin .eql, [.t 111, .c (.int .i64 0)], none⟩]
def a34r24 : List IOp := [⟨some 113, .mv, [.t 0], none⟩,
  ⟨some 114, .mv, [.t 14], none⟩,
  ⟨some 115, .bin .add, [.t 114, .c (.int .i64 1)], none⟩,
  ⟨some 116, .call 14, [.t 113, .t 115], none⟩,
  ⟨some 15, .mv, [.t 116], none⟩]
def a34r25 : List (Nat × DOp) := [(0, ⟨⟨some 117, .mv, [.t 5], none⟩, none, [1, 2, 3, 4, 5, 6, 7, 8, 9, 10, 11]⟩),
  (1, ⟨⟨some 118, .mv, [.t 14], none⟩, none, [0, 2, 3, 4, 5, 6, 7, 8, 9, 10, 11]⟩),
  (2, ⟨⟨some 119, .mv, [.t 5], none⟩, none, [0, 1, 3, 4, 5, 6, 7, 8, 9, 10, 11, 12, 13]⟩),
  (3, ⟨⟨some 120, .mv, [.t 15], none⟩, none, [0, 1, 2, 4, 5, 6, 7, 8, 9, 10, 11, 12, 13]⟩),
  (4, ⟨⟨some 121, .mv, [.t 5], none⟩, none, [0, 1, 2, 3, 5, 8, 9, 10, 11]⟩),
  (5, ⟨⟨some 122, .mv, [.t 15], none⟩, none, [0, 1, 2, 3, 4, 8, 9, 10, 11]⟩),
  (6, ⟨⟨some 123, .indexAddr 7, [.t 121, .t 122], none⟩, none, [0, 1, 2, 3, 8, 9, 10, 11]⟩),
  (7, ⟨⟨some 124, .loadA 7, [.t 123], none⟩, none, [0, 1, 2, 3, 8, 9, 10, 11]⟩),
  (8, ⟨⟨some 125, .mv, [.t 5], none⟩, none, [0, 1, 2, 3, 4, 5, 6, 7, 9]⟩),
  (9, ⟨⟨some 126, .mv, [.t 14], none⟩, none, [0, 1, 2, 3, 4, 5, 6, 7, 8]⟩),
  (10, ⟨⟨some 127, .indexAddr 7, [.t 125, .t 126], none⟩, none, [0, 1, 2, 3, 4, 5, 6, 7]⟩),
  (11, ⟨⟨some 128, .loadA 7, [.t 127], none⟩, none, [0, 1, 2, 3, 4, 5, 6, 7]⟩),
  (12, ⟨⟨some 129, .indexAddr 7, [.t 117, .t 118], none⟩, none, [2, 3]⟩),
  (13, ⟨⟨none, .store 7, [.t 129, .t 124], none⟩, none, [2, 3]⟩),
  (14, ⟨⟨some 130, .indexAddr 7, [.t 119, .t 120], none⟩, none, []⟩),
  (15, ⟨⟨none, .store 7, [.t 130, .t 128], none⟩, none, []⟩)]
def a34r26 : List IOp := [⟨some 108, .mv, [.t 14], none⟩,
  ⟨some 109, .bin .sub, [.t 108, .c (.int .i64 1)], none⟩,
  ⟨some 14, .mv, [.t 109], none⟩]
def a34r27 : List IOp := [⟨some 131, .mv, [.t 5], none⟩,
  ⟨some 4, .mv, [.t 131], none⟩]
def a34 : AFunc := ⟨132, [.tmp 4], (.seq (.region a34r0 [0, 1]) (.seq (.region a34r1 [0, 1, 5]) (.seq (.region a34r2 [0, 1, 5, 6]) (.seq (.seq (.region a34r3 [0, 1, 5, 6, 7]) (.block 0 (.loop (.seq (.seq (.region a34r4 [0, 1, 5, 6, 7, 18]) (.cond (.t 18) .skip (.exit 0))) (.seq (.block 1 (.seq (.region a34r5 [0, 1, 5, 6, 7, 8]) (.seq (.region a34r6 [0, 1, 5, 6, 7, 8, 9]) (.seq (.region a34r7 [0, 1, 5, 6, 7, 8, 10]) (.seq (.region a34r8 [0, 1, 5, 6, 7, 8, 10, 11]) (.seq (.seq (.region a34r9 [0, 1, 5, 6, 7, 8, 10, 11, 42]) (.cond (.t 42) (.seq (.region a34r10 [0, 1, 5, 6, 7, 8, 10, 11, 12]) (.region a34r11 [0, 1, 5, 6, 7, 8, 10, 11])) .skip)) (.seq (.seq (.region a34r12 [0, 1, 5, 6, 7, 8, 10, 11, 13]) (.block 2 (.loop (.seq (.seq (.region a34r13 [0, 1, 5, 6, 7, 8, 10, 11, 13, 63]) (.cond (.t 63) .skip (.exit 2))) (.seq (.block 3 (.seq (.seq (.region a34r14 [0, 1, 5, 6, 7, 8, 10, 11, 13, 68]) (.cond (.t 68) (.exit 3) .skip)) (.draw a34r15 [(64, 7)] [0, 1, 5, 6, 7, 8, 10, 11, 13]))) (.region a34r16 [0, 1, 5, 6, 7, 8, 10, 11, 13])))))) (.seq (.seq (.region a34r17 [0, 1, 5, 6, 7, 8, 87]) (.cond (.t 87) (.region a34r18 [0, 1, 5, 6, 7]) .skip)) (.region a34r19 [0, 1, 5, 6, 7]))))))))) (.region a34r20 [0, 1, 5, 6, 7])))))) (.seq (.seq (.region a34r21 [0, 5, 14]) (.block 4 (.loop (.seq (.seq (.region a34r22 [0, 5, 14, 107]) (.cond (.t 107) .skip (.exit 4))) (.seq (.block 5 (.seq (.region a34r23 [0, 5, 14, 112]) (.cond (.t 112) (.seq (.region a34r24 [0, 5, 14, 15]) (.draw a34r25 [] [0, 5, 14])) .skip))) (.region a34r26 [0, 5, 14])))))) (.seq (.region a34r27 [4]) .ret))))))⟩
theorem a34_ok : compileF Try.prog (lk [(0, ⟨[0, 1], [], []⟩), (1, ⟨[0, 1, 5], [], []⟩), (2, ⟨[0, 1, 5, 6], [], []⟩), (3, ⟨[0, 1, 5, 6, 7], [], []⟩), (4, ⟨[0, 1, 5, 6, 7, 18], [], []⟩), (5, ⟨[0, 1, 5, 6, 7], [], []⟩), (6, ⟨[0, 1, 5, 6, 7, 8], [], []⟩), (7, ⟨[0, 1, 5, 6, 7, 8, 9], [], []⟩), (8, ⟨[0, 1, 5, 6, 7, 8, 10], [], []⟩), (9, ⟨[0, 1, 5, 6, 7, 8, 10, 11], [], []⟩), (10, ⟨[0, 1, 5, 6, 7, 8, 10, 11, 42], [], []⟩), (11, ⟨[0, 1, 5, 6, 7, 8, 10, 11, 12], [], []⟩), (12, ⟨[0, 1, 5, 6, 7, 8, 10, 11], [], []⟩), (13, ⟨[0, 1, 5, 6, 7, 8, 10, 11, 13], [], []⟩), (14, ⟨[0, 1, 5, 6, 7, 8, 10, 11, 13, 63], [], []⟩), (15, ⟨[0, 1, 5, 6, 7, 8, 10, 11, 13], [], []⟩), (16, ⟨[0, 1, 5, 6, 7, 8, 10, 11, 13, 68], [], []⟩), (17, ⟨[0, 1, 5, 6, 7, 8, 10, 11, 13], [[], [], [], [1, 2], [3, 1, 2], [], [], [5, 6], [7, 5, 6], [], [], [9, 10], [11, 9, 10], [4, 8, 12, 3, 1, 2, 7, 5, 6, 11, 9, 10], [13, 4, 8, 12, 3, 1, 2, 7, 5, 6, 11, 9, 10], [0, 14, 13, 4, 8, 12, 3, 1, 2, 7, 5, 6, 11, 9, 10], [15, 0, 1, 2, 3, 4, 5, 6, 7, 8, 9, 10, 11, 12, 13, 14]], [0, 1, 2, 3, 4, 5, 6, 7, 8, 9, 10, 11, 12, 13, 14, 15, 16]⟩), (18, ⟨[0, 1, 5, 6, 7, 8, 87], [], []⟩), (19, ⟨[0, 1, 5, 6, 7], [], []⟩), (20, ⟨[0, 1, 5, 6, 7], [], []⟩), (21, ⟨[0, 5, 14], [], []⟩), (22, ⟨[0, 5, 14, 107], [], []⟩), (23, ⟨[0, 5, 14], [], []⟩), (24, ⟨[0, 5, 14, 112], [], []⟩), (25, ⟨[0, 5, 14, 15], [], []⟩), (26, ⟨[0, 5, 14], [[], [], [], [], [], [], [4, 5], [6, 4, 5], [], [], [8, 9], [10, 8, 9], [0, 1, 4, 5, 6, 7, 11, 10, 8, 9], [12, 7, 0, 1, 4, 5, 6, 11, 10, 8, 9], [2, 3, 0, 1, 4, 5, 6, 7, 8, 9, 10, 11, 12, 13], [14, 11, 13, 0, 1, 2, 3, 4, 5, 6, 7, 8, 9, 10, 12]], [0, 1, 2, 3, 4, 5, 6, 7, 8, 9, 10, 11, 12, 13, 14, 15]⟩), (27, ⟨[4], [], []⟩)]) Try.f34 = some a34 := by kernel_rfl

/- payroll/inbox.Merge -/
def a35r0 : List IOp := [⟨some 4, .mv, [.c (.nils)], none⟩,
  ⟨some 5, .mv, [.c (.int .i64 0)], none⟩]
def a35r1 : List IOp := [⟨some 7, .mv, [.t 0], none⟩,
  ⟨some 8, .len, [.t 7], none⟩,
  ⟨some 9, .bin .gtr, [.t 8, .c (.int .i64 1024)], none⟩,
  ⟨some 10, .mv, [.t 9], none⟩,
  ⟨some 11, .mv, [.t 1], some (10, false)⟩,
  ⟨some 12, .len, [.t 11], some (10, false)⟩,
  ⟨some 13, .bin .gtr, [.t 12, .c (.int .i64 1024)], some (10, false)⟩,
  ⟨some 14, .pick, [.t 10, .c (.bool true), .t 13], none⟩]
def a35r2 : List IOp := [⟨some 4, .mv, [.c (.nils)], none⟩,
  ⟨some 5, .mv, [.c (.int .i64 3)], none⟩]
def a35r3 : List IOp := [⟨some 15, .mv, [.t 0], none⟩,
  ⟨some 16, .call 58, [.t 15], none⟩,
  ⟨some 17, .not, [.t 16], none⟩,
  ⟨some 18, .mv, [.t 17], none⟩,
  ⟨some 19, .mv, [.t 1], some (18, false)⟩,
  ⟨some 20, .call 58, [.t 19], some (18, false)⟩,
  ⟨some 21, .not, [.t 20], some (18, false)⟩,
  ⟨some 22, .pick, [.t 18, .c (.bool true), .t 21], none⟩]
def a35r4 : List IOp := [⟨some 4, .mv, [.c (.nils)], none⟩,
  ⟨some 5, .mv, [.c (.int .i64 1)], none⟩]
def a35r5 : List IOp := [⟨some 23, .mv, [.t 0], none⟩,
  ⟨some 24, .mv, [.t 1], none⟩,
  ⟨some 25, .call 59, [.t 23, .t 24], none⟩,
  ⟨some 6, .mv, [.t 25], none⟩]
def a35r6 : List IOp := [⟨some 26, .mv, [.t 6], none⟩,
  ⟨some 27, .len, [.t 26], none⟩,
  ⟨some 28, .bin .gtr, [.t 27, .c (.int .i64 1024)], none⟩]
def a35r7 : List IOp := [⟨some 4, .mv, [.c (.nils)], none⟩,
  ⟨some 5, .mv, [.c (.int .i64 3)], none⟩]
def a35r8 : List IOp := [⟨some 29, .mv, [.t 6], none⟩,
  ⟨some 4, .mv, [.t 29], none⟩,
  ⟨some 5, .mv, [.c (.int .i64 0)], none⟩]
def a35 : AFunc := ⟨30, [.tmp 4, .tmp 5], (.seq (.region a35r0 [0, 1]) (.seq (.seq (.region a35r1 [0, 1, 14]) (.cond (.t 14) (.seq (.region a35r2 [4, 5]) .ret) .skip)) (.seq (.seq (.region a35r3 [0, 1, 22]) (.cond (.t 22) (.seq (.region a35r4 [4, 5]) .ret) .skip)) (.seq (.region a35r5 [6]) (.seq (.seq (.region a35r6 [6, 28]) (.cond (.t 28) (.seq (.region a35r7 [4, 5]) .ret) .skip)) (.seq (.region a35r8 [4, 5]) .ret))))))⟩
theorem a35_ok : compileF Try.prog (lk [(0, ⟨[0, 1], [], []⟩), (1, ⟨[0, 1, 14], [], []⟩), (2, ⟨[4, 5], [], []⟩), (3, ⟨[0, 1, 22], [], []⟩), (4, ⟨[4, 5], [], []⟩), (5, ⟨[6], [], []⟩), (6, ⟨[6, 28], [], []⟩), (7, ⟨[4, 5], [], []⟩), (8, ⟨[4, 5], [], []⟩)]) Try.f35 = some a35 := by kernel_rfl

/- payroll/payrolllaw8.same -/
def a36r0 : List IOp := [⟨some 4, .mv, [.c (.bool false)], none⟩]
def a36r1 : List IOp := [⟨some 6, .mv, [.t 0], none⟩,
  ⟨some 7, .len, [.t 6], none⟩,
  ⟨some 8, .mv, [.t 1], none⟩,
  ⟨some 9, .len, [.t 8], none⟩,
  ⟨some 10, .bin .neq, [.t 7, .t 9], none⟩]
def a36r2 : List IOp := [⟨some 4, .mv, [.c (.bool false)], none⟩]
def a36r3 : List IOp := [⟨some 5, .mv, [.c (.int .i64 0)], none⟩]
def a36r4 : List IOp := [⟨some 11, .mv, [.t 5], none⟩,
  ⟨some 12, .mv, [.t 0], none⟩,
  ⟨some 13, .len, [.t 12], none⟩,
  ⟨some 14, .bin .lss, [.t 11, .t 13], none⟩]
def a36r5 : List (Nat × DOp) := [(0, ⟨⟨some 17, .mv, [.t 0], none⟩, none, [1, 4, 5, 6, 7]⟩),
  (1, ⟨⟨some 18, .mv, [.t 5], none⟩, none, [0, 4, 5, 6, 7]⟩),
  (2, ⟨⟨some 19, .indexAddr 7, [.t 17, .t 18], none⟩, none, [4, 5, 6, 7]⟩),
  (3, ⟨⟨some 20, .loadA 7, [.t 19], none⟩, none, [4, 5, 6, 7]⟩),
  (4, ⟨⟨some 21, .mv, [.t 1], none⟩, none, [0, 1, 2, 3, 5]⟩),
  (5, ⟨⟨some 22, .mv, [.t 5], none⟩, none, [0, 1, 2, 3, 4]⟩),
  (6, ⟨⟨some 23, .indexAddr 7, [.t 21, .t 22], none⟩, none, [0, 1, 2, 3]⟩),
  (7, ⟨⟨some 24, .loadA 7, [.t 23], none⟩, none, [0, 1, 2, 3]⟩),
  (8, ⟨⟨some 25, .eqA true [.int .i64, .int .i64, .int .i64, .int .i64, .int .i64, .int .i64, .int .i64], [.t 20, .t 24], none⟩, none, []⟩)]
def a36r6 : List IOp := [⟨some 4, .mv, [.c (.bool false)], none⟩]
def a36r7 : List IOp := [⟨some 15, .mv, [.t 5], none⟩,
  ⟨some 16, .bin .add, [.t 15, .c (.int .i64 1)], none⟩,
  ⟨some 5, .mv, [.t 16], none⟩]
def a36r8 : List IOp := [⟨some 4, .mv, [.c (.bool true)], none⟩]
def a36 : AFunc := ⟨26, [.tmp 4], (.seq (.region a36r0 [0, 1]) (.seq (.seq (.region a36r1 [0, 1, 10]) (.cond (.t 10) (.seq (.region a36r2 [4]) .ret) .skip)) (.seq (.seq (.region a36r3 [0, 1, 5]) (.block 0 (.loop (.seq (.seq (.region a36r4 [0, 1, 5, 14]) (.cond (.t 14) .skip (.exit 0))) (.seq (.block 1 (.seq (.draw a36r5 [] [0, 1, 5, 25]) (.cond (.t 25) (.seq (.region a36r6 [4]) .ret) .skip))) (.region a36r7 [0, 1, 5])))))) (.seq (.region a36r8 [4]) .ret))))⟩
theorem a36_ok : compileF Try.prog (lk [(0, ⟨[0, 1], [], []⟩), (1, ⟨[0, 1, 10], [], []⟩), (2, ⟨[4], [], []⟩), (3, ⟨[0, 1, 5], [], []⟩), (4, ⟨[0, 1, 5, 14], [], []⟩), (5, ⟨[0, 1, 5], [], []⟩), (6, ⟨[0, 1, 5, 25], [[], [], [0, 1], [2, 0, 1], [], [], [4, 5], [6, 4, 5], [3, 7, 2, 0, 1, 6, 4, 5]], [0, 1, 2, 3, 4, 5, 6, 7, 8]⟩), (7, ⟨[4], [], []⟩), (8, ⟨[4], [], []⟩)]) Try.f36 = some a36 := by kernel_rfl

/- payroll/inbox.Effective -/
def a37r0 : List IOp := [⟨some 4, .mv, [.c (.nils)], none⟩,
  ⟨some 5, .mv, [.c (.int .i64 0)], none⟩]
def a37r1 : List IOp := [⟨some 18, .mv, [.t 0], none⟩,
  ⟨some 19, .call 60, [.t 18], none⟩,
  ⟨some 6, .mv, [.t 19], none⟩]
def a37r2 : List IOp := [⟨some 20, .mv, [.t 6], none⟩,
  ⟨some 21, .bin .neq, [.t 20, .c (.int .i64 0)], none⟩]
def a37r3 : List IOp := [⟨some 22, .mv, [.t 6], none⟩,
  ⟨some 4, .mv, [.c (.nils)], none⟩,
  ⟨some 5, .mv, [.t 22], none⟩]
def a37r4 : List IOp := [⟨some 23, .mv, [.t 0], none⟩,
  ⟨some 24, .mv, [.t 1], none⟩,
  ⟨some 25, .call 61, [.t 23, .t 24], none⟩,
  ⟨some 7, .mv, [.t 25], none⟩]
def a37r5 : List IOp := [⟨some 26, .mkmap true [.int .i64, .int .i64], [], none⟩,
  ⟨some 8, .mv, [.t 26], none⟩]
def a37r6 : List IOp := [⟨some 27, .mkmap true [.int .i64, .int .i64], [], none⟩,
  ⟨some 9, .mv, [.t 27], none⟩]
def a37r7 : List IOp := [⟨some 28, .mv, [.t 7], none⟩,
  ⟨some 29, .len, [.t 28], none⟩,
  ⟨some 30, .mv, [.c (.int .i64 0)], none⟩]
def a37r8 : List IOp := [⟨some 31, .bin .lss, [.t 30, .t 29], none⟩]
def a37r9 : List IOp := [⟨some 32, .indexAddr 7, [.t 28, .t 30], none⟩,
  ⟨some 33, .loadA 7, [.t 32], none⟩,
  ⟨some 11, .alloc 64 [.int .i64 0, .int .i64 0, .int .i64 0, .int .i64 0, .int .i64 0, .int .i64 0, .int .i64 0], [], none⟩,
  ⟨none, .store 7, [.t 11, .t 33], none⟩]
def a37r10 : List IOp := [⟨some 34, .fieldAddr 4, [.t 11], none⟩,
  ⟨some 35, .load1, [.t 34], none⟩]
def a37r11 : List IOp := [⟨some 37, .bin .eql, [.t 35, .c (.int .i64 5)], none⟩,
  ⟨some 36, .mv, [.t 37], none⟩]
def a37r12 : List IOp := [⟨some 38, .mv, [.t 8], none⟩,
  ⟨some 39, .fieldAddr 5, [.t 11], none⟩,
  ⟨some 40, .loadA 2, [.t 39], none⟩,
  ⟨none, .mset true [.int .i64, .int .i64], [.t 38, .t 40, .c (.bool true)], none⟩]
def a37r13 : List IOp := [⟨some 42, .bin .eql, [.t 35, .c (.int .i64 6)], none⟩,
  ⟨some 41, .mv, [.t 42], none⟩]
def a37r14 : List IOp := [⟨some 43, .mv, [.t 9], none⟩,
  ⟨some 44, .fieldAddr 5, [.t 11], none⟩,
  ⟨some 45, .loadA 2, [.t 44], none⟩,
  ⟨some 46, .fieldAddr 3, [.t 11], none⟩,
  ⟨some 47, .load1, [.t 46], none⟩,
  ⟨none, .mset true [.int .i64, .int .i64], [.t 43, .t 45, .t 47], none⟩]
def a37r15 : List IOp := [⟨some 48, .bin .add, [.t 30, .c (.int .i64 1)], none⟩,
  ⟨some 30, .mv, [.t 48], none⟩]
def a37r16 : List IOp := [⟨some 12, .mv, [.c (.nils)], none⟩]
def a37r17 : List IOp := [⟨some 49, .mv, [.t 7], none⟩,
  ⟨some 50, .len, [.t 49], none⟩,
  ⟨some 51, .mv, [.c (.int .i64 0)], none⟩]
def a37r18 : List IOp := [⟨some 52, .bin .lss, [.t 51, .t 50], none⟩]
def a37r19 : List IOp := [⟨some 53, .indexAddr 7, [.t 49, .t 51], none⟩,
  ⟨some 54, .loadA 7, [.t 53], none⟩,
  ⟨some 14, .alloc 64 [.int .i64 0, .int .i64 0, .int .i64 0, .int .i64 0, .int .i64 0, .int .i64 0, .int .i64 0], [], none⟩,
  ⟨none, .store 7, [.t 14, .t 54], none⟩]
def a37r20 : List IOp := [⟨some 55, .fieldAddr 4, [.t 14], none⟩,
  ⟨some 56, .load1, [.t 55], none⟩,
  ⟨some 57, .bin .eql, [.t 56, .c (.int .i64 5)], none⟩,
  ⟨some 58, .mv, [.t 57], none⟩,
  ⟨some 59, .fieldAddr 4, [.t 14], some (58, false)⟩,
  ⟨some 60, .load1, [.t 59], some (58, false)⟩,
  ⟨some 61, .bin .eql, [.t 60, .c (.int .i64 6)], some (58, false)⟩,
  ⟨some 62, .pick, [.t 58, .c (.bool true), .t 61], none⟩,
  ⟨some 63, .mv, [.t 62], none⟩,
  ⟨some 64, .mv, [.t 8], some (63, false)⟩,
  ⟨some 65, .fieldAddr 0, [.t 14], some (63, false)⟩,
  ⟨some 66, .loadA 2, [.t 65], some (63, false)⟩,
  ⟨some 67, .look false true [.int .i64, .int .i64] (.bool false), [.t 64, .t 66], some (63, false)⟩,
  ⟨some 68, .pick, [.t 63, .c (.bool true), .t 67], none⟩]
def a37r21 : List IOp := [⟨some 69, .fieldAddr 3, [.t 14], none⟩,
  ⟨some 70, .load1, [.t 69], none⟩,
  ⟨some 71, .fieldAddr 4, [.t 14], none⟩,
  ⟨some 72, .load1, [.t 71], none⟩,
  ⟨some 73, .fieldAddr 0, [.t 14], none⟩,
  ⟨some 74, .loadA 2, [.t 73], none⟩,
  ⟨some 75, .build [.int .i64 0, .int .i64 0, .int .i64 0, .int .i64 0] [(0, 1), (1, 1), (2, 2)], [.t 70, .t 72, .t 74], none⟩,
  ⟨some 15, .alloc 77 [.int .i64 0, .int .i64 0, .int .i64 0, .int .i64 0], [], none⟩,
  ⟨none, .store 4, [.t 15, .t 75], none⟩]
def a37r22 : List IOp := [⟨some 77, .mv, [.t 9], none⟩,
  ⟨some 78, .fieldAddr 0, [.t 14], none⟩,
  ⟨some 79, .loadA 2, [.t 78], none⟩,
  ⟨some 80, .look true true [.int .i64, .int .i64] (.int .i64 0), [.t 77, .t 79], none⟩,
  ⟨some 76, .mv, [.t 80], none⟩,
  ⟨some 81, .extract 0, [.t 76], none⟩,
  ⟨some 82, .extract 1, [.t 76], none⟩,
  ⟨some 16, .mv, [.t 81], none⟩,
  ⟨some 17, .mv, [.t 82], none⟩]
def a37r23 : List IOp := [⟨some 83, .mv, [.t 17], none⟩]
def a37r24 : List IOp := [⟨some 84, .mv, [.t 16], none⟩,
  ⟨some 85, .fieldAddr 0, [.t 15], none⟩,
  ⟨none, .store 1, [.t 85, .t 84], none⟩]
def a37r25 : List IOp := [⟨some 86, .mv, [.t 12], none⟩,
  ⟨some 87, .loadA 4, [.t 15], none⟩,
  ⟨some 88, .bslice 77 4 [.int .i64 0, .int .i64 0, .int .i64 0, .int .i64 0] 1 [0], [.t 87], none⟩,
  ⟨some 89, .append 77 4 32, [.t 86, .t 88], none⟩,
  ⟨some 12, .mv, [.t 89], none⟩]
def a37r26 : List IOp := [⟨some 90, .bin .add, [.t 51, .c (.int .i64 1)], none⟩,
  ⟨some 51, .mv, [.t 90], none⟩]
def a37r27 : List IOp := [⟨some 91, .mv, [.t 12], none⟩,
  ⟨some 92, .call 62, [.t 91, .c (.fn 63 [])], none⟩]
def a37r28 : List IOp := [⟨some 93, .mv, [.t 12], none⟩,
  ⟨some 4, .mv, [.t 93], none⟩,
  ⟨some 5, .mv, [.c (.int .i64 0)], none⟩]
def a37 : AFunc := ⟨94, [.tmp 4, .tmp 5], (.seq (.region a37r0 [0, 1]) (.seq (.seq (.region a37r1 [0, 1, 6]) (.seq (.region a37r2 [0, 1, 6, 21]) (.cond (.t 21) (.seq (.region a37r3 [4, 5]) .ret) .skip))) (.seq (.region a37r4 [7]) (.seq (.region a37r5 [7, 8]) (.seq (.region a37r6 [7, 8, 9]) (.seq (.seq (.region a37r7 [7, 8, 9, 28, 29, 30]) (.block 0 (.loop (.seq (.region a37r8 [7, 8, 9, 28, 29, 30, 31]) (.seq (.cond (.t 31) .skip (.exit 0)) (.seq (.block 1 (.seq (.region a37r9 [7, 8, 9, 11, 28, 29, 30]) (.seq (.region a37r10 [7, 8, 9, 11, 28, 29, 30, 35]) (.block 2 (.seq (.region a37r11 [7, 8, 9, 11, 28, 29, 30, 35, 36]) (.cond (.t 36) (.region a37r12 [7, 8, 9, 28, 29, 30]) (.seq (.region a37r13 [7, 8, 9, 11, 28, 29, 30, 41]) (.cond (.t 41) (.region a37r14 [7, 8, 9, 28, 29, 30]) .skip)))))))) (.region a37r15 [7, 8, 9, 28, 29, 30]))))))) (.seq (.region a37r16 [7, 8, 9, 12]) (.seq (.seq (.region a37r17 [8, 9, 12, 49, 50, 51]) (.block 3 (.loop (.seq (.region a37r18 [8, 9, 12, 49, 50, 51, 52]) (.seq (.cond (.t 52) .skip (.exit 3)) (.seq (.block 4 (.seq (.region a37r19 [8, 9, 12, 14, 49, 50, 51]) (.seq (.seq (.region a37r20 [8, 9, 12, 14, 49, 50, 51, 68]) (.cond (.t 68) (.exit 4) .skip)) (.seq (.region a37r21 [8, 9, 12, 14, 15, 49, 50, 51]) (.seq (.seq (.region a37r22 [8, 9, 12, 15, 16, 17, 49, 50, 51]) (.seq (.region a37r23 [8, 9, 12, 15, 16, 49, 50, 51, 83]) (.cond (.t 83) (.region a37r24 [8, 9, 12, 15, 49, 50, 51]) .skip))) (.region a37r25 [8, 9, 12, 49, 50, 51])))))) (.region a37r26 [8, 9, 12, 49, 50, 51]))))))) (.seq (.region a37r27 [12]) (.seq (.region a37r28 [4, 5]) .ret))))))))))⟩
theorem a37_ok : compileF Try.prog (lk [(0, ⟨[0, 1], [], []⟩), (1, ⟨[0, 1, 6], [], []⟩), (2, ⟨[0, 1, 6, 21], [], []⟩), (3, ⟨[4, 5], [], []⟩), (4, ⟨[7], [], []⟩), (5, ⟨[7, 8], [], []⟩), (6, ⟨[7, 8, 9], [], []⟩), (7, ⟨[7, 8, 9, 28, 29, 30], [], []⟩), (8, ⟨[7, 8, 9, 28, 29, 30, 31], [], []⟩), (9, ⟨[7, 8, 9, 11, 28, 29, 30], [], []⟩), (10, ⟨[7, 8, 9, 11, 28, 29, 30, 35], [], []⟩), (11, ⟨[7, 8, 9, 11, 28, 29, 30, 35, 36], [], []⟩), (12, ⟨[7, 8, 9, 28, 29, 30], [], []⟩), (13, ⟨[7, 8, 9, 11, 28, 29, 30, 41], [], []⟩), (14, ⟨[7, 8, 9, 28, 29, 30], [], []⟩), (15, ⟨[7, 8, 9, 28, 29, 30], [], []⟩), (16, ⟨[7, 8, 9, 12], [], []⟩), (17, ⟨[8, 9, 12, 49, 50, 51], [], []⟩), (18, ⟨[8, 9, 12, 49, 50, 51, 52], [], []⟩), (19, ⟨[8, 9, 12, 14, 49, 50, 51], [], []⟩), (20, ⟨[8, 9, 12, 14, 49, 50, 51, 68], [], []⟩), (21, ⟨[8, 9, 12, 14, 15, 49, 50, 51], [], []⟩), (22, ⟨[8, 9, 12, 15, 16, 17, 49, 50, 51], [], []⟩), (23, ⟨[8, 9, 12, 15, 16, 49, 50, 51, 83], [], []⟩), (24, ⟨[8, 9, 12, 15, 49, 50, 51], [], []⟩), (25, ⟨[8, 9, 12, 49, 50, 51], [], []⟩), (26, ⟨[8, 9, 12, 49, 50, 51], [], []⟩), (27, ⟨[12], [], []⟩), (28, ⟨[4, 5], [], []⟩)]) Try.f37 = some a37 := by kernel_rfl

/- payroll/payrolllaw8.sameStamps -/
def a38r0 : List IOp := [⟨some 4, .mv, [.c (.bool false)], none⟩]
def a38r1 : List IOp := [⟨some 6, .mv, [.t 0], none⟩,
  ⟨some 7, .len, [.t 6], none⟩,
  ⟨some 8, .mv, [.t 1], none⟩,
  ⟨some 9, .len, [.t 8], none⟩,
  ⟨some 10, .bin .neq, [.t 7, .t 9], none⟩]
def a38r2 : List IOp := [⟨some 4, .mv, [.c (.bool false)], none⟩]
def a38r3 : List IOp := [⟨some 5, .mv, [.c (.int .i64 0)], none⟩]
def a38r4 : List IOp := [⟨some 11, .mv, [.t 5], none⟩,
  ⟨some 12, .mv, [.t 0], none⟩,
  ⟨some 13, .len, [.t 12], none⟩,
  ⟨some 14, .bin .lss, [.t 11, .t 13], none⟩]
def a38r5 : List (Nat × DOp) := [(0, ⟨⟨some 17, .mv, [.t 0], none⟩, none, [1, 4, 5, 6, 7]⟩),
  (1, ⟨⟨some 18, .mv, [.t 5], none⟩, none, [0, 4, 5, 6, 7]⟩),
  (2, ⟨⟨some 19, .indexAddr 4, [.t 17, .t 18], none⟩, none, [4, 5, 6, 7]⟩),
  (3, ⟨⟨some 20, .loadA 4, [.t 19], none⟩, none, [4, 5, 6, 7]⟩),
  (4, ⟨⟨some 21, .mv, [.t 1], none⟩, none, [0, 1, 2, 3, 5]⟩),
  (5, ⟨⟨some 22, .mv, [.t 5], none⟩, none, [0, 1, 2, 3, 4]⟩),
  (6, ⟨⟨some 23, .indexAddr 4, [.t 21, .t 22], none⟩, none, [0, 1, 2, 3]⟩),
  (7, ⟨⟨some 24, .loadA 4, [.t 23], none⟩, none, [0, 1, 2, 3]⟩),
  (8, ⟨⟨some 25, .eqA true [.int .i64, .int .i64, .int .i64, .int .i64], [.t 20, .t 24], none⟩, none, []⟩)]
def a38r6 : List IOp := [⟨some 4, .mv, [.c (.bool false)], none⟩]
def a38r7 : List IOp := [⟨some 15, .mv, [.t 5], none⟩,
  ⟨some 16, .bin .add, [.t 15, .c (.int .i64 1)], none⟩,
  ⟨some 5, .mv, [.t 16], none⟩]
def a38r8 : List IOp := [⟨some 4, .mv, [.c (.bool true)], none⟩]
def a38 : AFunc := ⟨26, [.tmp 4], (.seq (.region a38r0 [0, 1]) (.seq (.seq (.region a38r1 [0, 1, 10]) (.cond (.t 10) (.seq (.region a38r2 [4]) .ret) .skip)) (.seq (.seq (.region a38r3 [0, 1, 5]) (.block 0 (.loop (.seq (.seq (.region a38r4 [0, 1, 5, 14]) (.cond (.t 14) .skip (.exit 0))) (.seq (.block 1 (.seq (.draw a38r5 [] [0, 1, 5, 25]) (.cond (.t 25) (.seq (.region a38r6 [4]) .ret) .skip))) (.region a38r7 [0, 1, 5])))))) (.seq (.region a38r8 [4]) .ret))))⟩
theorem a38_ok : compileF Try.prog (lk [(0, ⟨[0, 1], [], []⟩), (1, ⟨[0, 1, 10], [], []⟩), (2, ⟨[4], [], []⟩), (3, ⟨[0, 1, 5], [], []⟩), (4, ⟨[0, 1, 5, 14], [], []⟩), (5, ⟨[0, 1, 5], [], []⟩), (6, ⟨[0, 1, 5, 25], [[], [], [0, 1], [2, 0, 1], [], [], [4, 5], [6, 4, 5], [3, 7, 2, 0, 1, 6, 4, 5]], [0, 1, 2, 3, 4, 5, 6, 7, 8]⟩), (7, ⟨[4], [], []⟩), (8, ⟨[4], [], []⟩)]) Try.f38 = some a38 := by kernel_rfl

/- payroll/payrollref8.Before -/
def a39r0 : List IOp := [⟨some 2, .box 62 2, [.t 0], none⟩,
  ⟨some 3, .box 62 2, [.t 1], none⟩,
  ⟨some 4, .mv, [.c (.bool false)], none⟩]
def a39r1 : List IOp := [⟨some 5, .fieldAddr 0, [.t 2], none⟩,
  ⟨some 6, .load1, [.t 5], none⟩,
  ⟨some 7, .fieldAddr 0, [.t 3], none⟩,
  ⟨some 8, .load1, [.t 7], none⟩,
  ⟨some 9, .bin .lss, [.t 6, .t 8], none⟩,
  ⟨some 10, .mv, [.t 9], none⟩,
  ⟨some 11, .fieldAddr 0, [.t 2], some (10, false)⟩,
  ⟨some 12, .load1, [.t 11], some (10, false)⟩,
  ⟨some 13, .fieldAddr 0, [.t 3], some (10, false)⟩,
  ⟨some 14, .load1, [.t 13], some (10, false)⟩,
  ⟨some 15, .bin .eql, [.t 12, .t 14], some (10, false)⟩,
  ⟨some 16, .mv, [.t 15], some (10, false)⟩,
  ⟨some 17, .fieldAddr 1, [.t 2], some (16, true)⟩,
  ⟨some 18, .load1, [.t 17], some (16, true)⟩,
  ⟨some 19, .fieldAddr 1, [.t 3], some (16, true)⟩,
  ⟨some 20, .load1, [.t 19], some (16, true)⟩,
  ⟨some 21, .bin .lss, [.t 18, .t 20], some (16, true)⟩,
  ⟨some 22, .pick, [.t 16, .t 21, .c (.bool false)], some (10, false)⟩,
  ⟨some 23, .pick, [.t 10, .c (.bool true), .t 22], none⟩,
  ⟨some 4, .mv, [.t 23], none⟩]
def a39 : AFunc := ⟨24, [.tmp 4], (.seq (.region a39r0 [2, 3]) (.seq (.region a39r1 [4]) .ret))⟩
theorem a39_ok : compileF Try.prog (lk [(0, ⟨[2, 3], [], []⟩), (1, ⟨[4], [], []⟩)]) Try.f39 = some a39 := by kernel_rfl

/- payroll/payrollref8.Merge -/
def a48r0 : List IOp := [⟨some 4, .mv, [.c (.nils)], none⟩,
  ⟨some 5, .mv, [.c (.int .i64 0)], none⟩]
def a48r1 : List IOp := [⟨some 7, .mv, [.t 0], none⟩,
  ⟨some 8, .len, [.t 7], none⟩,
  ⟨some 9, .bin .gtr, [.t 8, .c (.int .i64 1024)], none⟩,
  ⟨some 10, .mv, [.t 9], none⟩,
  ⟨some 11, .mv, [.t 1], some (10, false)⟩,
  ⟨some 12, .len, [.t 11], some (10, false)⟩,
  ⟨some 13, .bin .gtr, [.t 12, .c (.int .i64 1024)], some (10, false)⟩,
  ⟨some 14, .pick, [.t 10, .c (.bool true), .t 13], none⟩]
def a48r2 : List IOp := [⟨some 4, .mv, [.c (.nils)], none⟩,
  ⟨some 5, .mv, [.c (.int .i64 3)], none⟩]
def a48r3 : List IOp := [⟨some 15, .mv, [.t 0], none⟩,
  ⟨some 16, .call 69, [.t 15], none⟩,
  ⟨some 17, .not, [.t 16], none⟩,
  ⟨some 18, .mv, [.t 17], none⟩,
  ⟨some 19, .mv, [.t 1], some (18, false)⟩,
  ⟨some 20, .call 69, [.t 19], some (18, false)⟩,
  ⟨some 21, .not, [.t 20], some (18, false)⟩,
  ⟨some 22, .pick, [.t 18, .c (.bool true), .t 21], none⟩]
def a48r4 : List IOp := [⟨some 4, .mv, [.c (.nils)], none⟩,
  ⟨some 5, .mv, [.c (.int .i64 1)], none⟩]
def a48r5 : List IOp := [⟨some 23, .mv, [.t 0], none⟩,
  ⟨some 24, .mv, [.t 1], none⟩,
  ⟨some 25, .call 70, [.t 23, .t 24], none⟩,
  ⟨some 6, .mv, [.t 25], none⟩]
def a48r6 : List IOp := [⟨some 26, .mv, [.t 6], none⟩,
  ⟨some 27, .len, [.t 26], none⟩,
  ⟨some 28, .bin .gtr, [.t 27, .c (.int .i64 1024)], none⟩]
def a48r7 : List IOp := [⟨some 4, .mv, [.c (.nils)], none⟩,
  ⟨some 5, .mv, [.c (.int .i64 3)], none⟩]
def a48r8 : List IOp := [⟨some 29, .mv, [.t 6], none⟩,
  ⟨some 4, .mv, [.t 29], none⟩,
  ⟨some 5, .mv, [.c (.int .i64 0)], none⟩]
def a48 : AFunc := ⟨30, [.tmp 4, .tmp 5], (.seq (.region a48r0 [0, 1]) (.seq (.seq (.region a48r1 [0, 1, 14]) (.cond (.t 14) (.seq (.region a48r2 [4, 5]) .ret) .skip)) (.seq (.seq (.region a48r3 [0, 1, 22]) (.cond (.t 22) (.seq (.region a48r4 [4, 5]) .ret) .skip)) (.seq (.region a48r5 [6]) (.seq (.seq (.region a48r6 [6, 28]) (.cond (.t 28) (.seq (.region a48r7 [4, 5]) .ret) .skip)) (.seq (.region a48r8 [4, 5]) .ret))))))⟩
theorem a48_ok : compileF Try.prog (lk [(0, ⟨[0, 1], [], []⟩), (1, ⟨[0, 1, 14], [], []⟩), (2, ⟨[4, 5], [], []⟩), (3, ⟨[0, 1, 22], [], []⟩), (4, ⟨[4, 5], [], []⟩), (5, ⟨[6], [], []⟩), (6, ⟨[6, 28], [], []⟩), (7, ⟨[4, 5], [], []⟩), (8, ⟨[4, 5], [], []⟩)]) Try.f48 = some a48 := by kernel_rfl

/- (*payroll/payrollgen.Tape).SpoilEvent -/
def a49r0 : List IOp := [⟨some 3, .box 64 7, [.t 1], none⟩,
  ⟨some 4, .alloc 64 [.int .i64 0, .int .i64 0, .int .i64 0, .int .i64 0, .int .i64 0, .int .i64 0, .int .i64 0], [], none⟩]
def a49r1 : List IOp := [⟨some 5, .mv, [.t 0], none⟩,
  ⟨some 6, .call 14, [.t 5, .c (.int .i64 6)], none⟩]
def a49r2 : List IOp := [⟨some 13, .bin .eql, [.t 6, .c (.int .i64 0)], none⟩,
  ⟨some 12, .mv, [.t 13], none⟩]
def a49r3 : List IOp := [⟨some 14, .mv, [.t 0], none⟩,
  ⟨some 15, .bslice 3 1 [.int .i64 0] 3 [0, 1, 2], [.c (.int .i64 0), .c (.int .i64 7), .c (.int .i64 (-1))], none⟩,
  ⟨some 16, .call 40, [.t 14, .t 15], none⟩,
  ⟨some 17, .fieldAddr 4, [.t 3], none⟩,
  ⟨none, .store 1, [.t 17, .t 16], none⟩]
def a49r4 : List IOp := [⟨some 19, .bin .eql, [.t 6, .c (.int .i64 1)], none⟩,
  ⟨some 18, .mv, [.t 19], none⟩]
def a49r5 : List IOp := [⟨some 20, .mv, [.t 0], none⟩,
  ⟨some 21, .bslice 3 1 [.int .i64 0] 3 [0, 1, 2], [.c (.int .i64 0), .c (.int .i64 (-1)), .c (.int .i64 2147483648)], none⟩,
  ⟨some 22, .call 40, [.t 20, .t 21], none⟩,
  ⟨some 23, .fieldAddr 2, [.t 3], none⟩,
  ⟨none, .store 1, [.t 23, .t 22], none⟩]
def a49r6 : List IOp := [⟨some 25, .bin .eql, [.t 6, .c (.int .i64 2)], none⟩,
  ⟨some 24, .mv, [.t 25], none⟩]
def a49r7 : List IOp := [⟨some 26, .mv, [.t 0], none⟩,
  ⟨some 27, .bslice 3 1 [.int .i64 0] 3 [0, 1, 2], [.c (.int .i64 (-1)), .c (.int .i64 120968640), .c (.int .i64 0)], none⟩,
  ⟨some 28, .call 40, [.t 26, .t 27], none⟩,
  ⟨some 29, .fieldAddr 3, [.t 3], none⟩,
  ⟨none, .store 1, [.t 29, .t 28], none⟩]
def a49r8 : List IOp := [⟨some 31, .bin .eql, [.t 6, .c (.int .i64 3)], none⟩,
  ⟨some 30, .mv, [.t 31], none⟩]
def a49r9 : List IOp := [⟨some 32, .mv, [.t 0], none⟩,
  ⟨some 33, .bslice 3 1 [.int .i64 0] 3 [0, 1, 2], [.c (.int .i64 65536), .c (.int .i64 (-1)), .c (.int .i64 65535)], none⟩,
  ⟨some 34, .call 40, [.t 32, .t 33], none⟩,
  ⟨some 35, .fieldAddr 0, [.t 3], none⟩,
  ⟨some 36, .fieldAddr 0, [.t 35], none⟩,
  ⟨none, .store 1, [.t 36, .t 34], none⟩]
def a49r10 : List IOp := [⟨some 38, .bin .eql, [.t 6, .c (.int .i64 4)], none⟩,
  ⟨some 37, .mv, [.t 38], none⟩]
def a49r11 : List IOp := [⟨some 39, .mv, [.t 0], none⟩,
  ⟨some 40, .bslice 3 1 [.int .i64 0] 3 [0, 1, 2], [.c (.int .i64 (-1)), .c (.int .i64 2147483648), .c (.int .i64 2147483647)], none⟩,
  ⟨some 41, .call 40, [.t 39, .t 40], none⟩,
  ⟨some 42, .fieldAddr 0, [.t 3], none⟩,
  ⟨some 43, .fieldAddr 1, [.t 42], none⟩,
  ⟨none, .store 1, [.t 43, .t 41], none⟩]
def a49r12 : List IOp := [⟨some 7, .mv, [.t 0], none⟩,
  ⟨some 8, .bslice 3 1 [.int .i64 0] 3 [0, 1, 2], [.c (.int .i64 1), .c (.int .i64 70000), .c (.int .i64 (-1))], none⟩,
  ⟨some 9, .call 40, [.t 7, .t 8], none⟩,
  ⟨some 10, .build [.int .i64 0, .int .i64 0] [(0, 1)], [.t 9], none⟩,
  ⟨some 11, .fieldAddr 5, [.t 3], none⟩,
  ⟨none, .store 2, [.t 11, .t 10], none⟩]
def a49r13 : List IOp := [⟨some 44, .loadA 7, [.t 3], none⟩,
  ⟨none, .store 7, [.t 4, .t 44], none⟩]
def a49 : AFunc := ⟨45, [.cellA 4 7], (.seq (.region a49r0 [0, 3, 4]) (.seq (.seq (.region a49r1 [0, 3, 4, 6]) (.block 0 (.seq (.region a49r2 [0, 3, 4, 6, 12]) (.cond (.t 12) (.region a49r3 [3, 4]) (.seq (.region a49r4 [0, 3, 4, 6, 18]) (.cond (.t 18) (.region a49r5 [3, 4]) (.seq (.region a49r6 [0, 3, 4, 6, 24]) (.cond (.t 24) (.region a49r7 [3, 4]) (.seq (.region a49r8 [0, 3, 4, 6, 30]) (.cond (.t 30) (.region a49r9 [3, 4]) (.seq (.region a49r10 [0, 3, 4, 37]) (.cond (.t 37) (.region a49r11 [3, 4]) (.region a49r12 [3, 4]))))))))))))) (.seq (.region a49r13 [4]) .ret)))⟩
theorem a49_ok : compileF Try.prog (lk [(0, ⟨[0, 3, 4], [], []⟩), (1, ⟨[0, 3, 4, 6], [], []⟩), (2, ⟨[3, 4], [], []⟩), (3, ⟨[0, 3, 4, 6, 12], [], []⟩), (4, ⟨[3, 4], [], []⟩), (5, ⟨[0, 3, 4, 6, 18], [], []⟩), (6, ⟨[3, 4], [], []⟩), (7, ⟨[0, 3, 4, 6, 24], [], []⟩), (8, ⟨[3, 4], [], []⟩), (9, ⟨[0, 3, 4, 6, 30], [], []⟩), (10, ⟨[3, 4], [], []⟩), (11, ⟨[0, 3, 4, 37], [], []⟩), (12, ⟨[3, 4], [], []⟩), (13, ⟨[4], [], []⟩)]) Try.f49 = some a49 := by kernel_rfl

/- payroll/inbox.Conflicts -/
def a55r0 : List IOp := [⟨some 2, .mv, [.c (.nils)], none⟩,
  ⟨some 3, .mv, [.c (.int .i64 0)], none⟩]
def a55r1 : List IOp := [⟨some 8, .mv, [.t 0], none⟩,
  ⟨some 9, .call 60, [.t 8], none⟩,
  ⟨some 4, .mv, [.t 9], none⟩]
def a55r2 : List IOp := [⟨some 10, .mv, [.t 4], none⟩,
  ⟨some 11, .bin .neq, [.t 10, .c (.int .i64 0)], none⟩]
def a55r3 : List IOp := [⟨some 12, .mv, [.t 4], none⟩,
  ⟨some 2, .mv, [.c (.nils)], none⟩,
  ⟨some 3, .mv, [.t 12], none⟩]
def a55r4 : List IOp := [⟨some 5, .mv, [.c (.nils)], none⟩]
def a55r5 : List IOp := [⟨some 13, .mv, [.t 0], none⟩,
  ⟨some 14, .call 59, [.t 13, .c (.nils)], none⟩,
  ⟨some 6, .mv, [.t 14], none⟩]
def a55r6 : List IOp := [⟨some 7, .mv, [.c (.int .i64 1)], none⟩]
def a55r7 : List IOp := [⟨some 15, .mv, [.t 7], none⟩,
  ⟨some 16, .mv, [.t 6], none⟩,
  ⟨some 17, .len, [.t 16], none⟩,
  ⟨some 18, .bin .lss, [.t 15, .t 17], none⟩]
def a55r8 : List (Nat × DOp) := [(0, ⟨⟨some 21, .mv, [.t 6], none⟩, none, [1, 5, 6, 7, 8, 9, 10]⟩),
  (1, ⟨⟨some 22, .mv, [.t 7], none⟩, none, [0, 5, 6, 7, 8, 9, 10]⟩),
  (2, ⟨⟨some 23, .indexAddr 7, [.t 21, .t 22], none⟩, none, [5, 6, 7, 8, 9, 10]⟩),
  (3, ⟨⟨some 24, .fieldAddr 0, [.t 23], none⟩, none, [5, 6, 7, 8, 9, 10]⟩),
  (4, ⟨⟨some 25, .loadA 2, [.t 24], none⟩, none, [5, 6, 7, 8, 9, 10]⟩),
  (5, ⟨⟨some 26, .mv, [.t 6], none⟩, none, [0, 1, 2, 3, 4, 6, 7]⟩),
  (6, ⟨⟨some 27, .mv, [.t 7], none⟩, none, [0, 1, 2, 3, 4, 5]⟩),
  (7, ⟨⟨some 28, .bin .sub, [.t 27, .c (.int .i64 1)], none⟩, none, [0, 1, 2, 3, 4, 5]⟩),
  (8, ⟨⟨some 29, .indexAddr 7, [.t 26, .t 28], none⟩, none, [0, 1, 2, 3, 4]⟩),
  (9, ⟨⟨some 30, .fieldAddr 0, [.t 29], none⟩, none, [0, 1, 2, 3, 4]⟩),
  (10, ⟨⟨some 31, .loadA 2, [.t 30], none⟩, none, [0, 1, 2, 3, 4]⟩),
  (11, ⟨⟨some 32, .eqA false [.int .i64, .int .i64], [.t 25, .t 31], none⟩, none, []⟩)]
def a55r9 : List IOp := [⟨some 33, .mv, [.t 5], none⟩,
  ⟨some 34, .mv, [.t 6], none⟩,
  ⟨some 35, .mv, [.t 7], none⟩,
  ⟨some 36, .indexAddr 7, [.t 34, .t 35], none⟩,
  ⟨some 37, .fieldAddr 0, [.t 36], none⟩,
  ⟨some 38, .loadA 2, [.t 37], none⟩,
  ⟨some 39, .bslice 62 2 [.int .i64 0, .int .i64 0] 1 [0], [.t 38], none⟩,
  ⟨some 40, .append 62 2 16, [.t 33, .t 39], none⟩,
  ⟨some 5, .mv, [.t 40], none⟩]
def a55r10 : List IOp := [⟨some 19, .mv, [.t 7], none⟩,
  ⟨some 20, .bin .add, [.t 19, .c (.int .i64 1)], none⟩,
  ⟨some 7, .mv, [.t 20], none⟩]
def a55r11 : List IOp := [⟨some 41, .mv, [.t 5], none⟩,
  ⟨some 42, .call 72, [.t 41], none⟩,
  ⟨some 2, .mv, [.t 42], none⟩,
  ⟨some 3, .mv, [.c (.int .i64 0)], none⟩]
def a55 : AFunc := ⟨43, [.tmp 2, .tmp 3], (.seq (.region a55r0 [0]) (.seq (.seq (.region a55r1 [0, 4]) (.seq (.region a55r2 [0, 4, 11]) (.cond (.t 11) (.seq (.region a55r3 [2, 3]) .ret) .skip))) (.seq (.region a55r4 [0, 5]) (.seq (.region a55r5 [5, 6]) (.seq (.seq (.region a55r6 [5, 6, 7]) (.block 0 (.loop (.seq (.seq (.region a55r7 [5, 6, 7, 18]) (.cond (.t 18) .skip (.exit 0))) (.seq (.block 1 (.seq (.draw a55r8 [] [5, 6, 7, 32]) (.cond (.t 32) (.region a55r9 [5, 6, 7]) .skip))) (.region a55r10 [5, 6, 7])))))) (.seq (.region a55r11 [2, 3]) .ret))))))⟩
theorem a55_ok : compileF Try.prog (lk [(0, ⟨[0], [], []⟩), (1, ⟨[0, 4], [], []⟩), (2, ⟨[0, 4, 11], [], []⟩), (3, ⟨[2, 3], [], []⟩), (4, ⟨[0, 5], [], []⟩), (5, ⟨[5, 6], [], []⟩), (6, ⟨[5, 6, 7], [], []⟩), (7, ⟨[5, 6, 7, 18], [], []⟩), (8, ⟨[5, 6, 7], [], []⟩), (9, ⟨[5, 6, 7, 32], [[], [], [0, 1], [2, 0, 1], [3, 2, 0, 1], [], [], [6], [5, 7, 6], [8, 5, 7, 6], [9, 8, 5, 7, 6], [4, 10, 3, 2, 0, 1, 9, 8, 5, 7, 6]], [0, 1, 2, 3, 4, 5, 6, 7, 8, 9, 10, 11]⟩), (10, ⟨[5, 6, 7], [], []⟩), (11, ⟨[2, 3], [], []⟩)]) Try.f55 = some a55 := by kernel_rfl

/- payroll/payrollref8.Conflicts -/
def a56r0 : List IOp := [⟨some 2, .mv, [.c (.nils)], none⟩,
  ⟨some 3, .mv, [.c (.int .i64 0)], none⟩]
def a56r1 : List IOp := [⟨some 8, .mv, [.t 0], none⟩,
  ⟨some 9, .call 73, [.t 8], none⟩,
  ⟨some 4, .mv, [.t 9], none⟩]
def a56r2 : List IOp := [⟨some 10, .mv, [.t 4], none⟩,
  ⟨some 11, .bin .neq, [.t 10, .c (.int .i64 0)], none⟩]
def a56r3 : List IOp := [⟨some 12, .mv, [.t 4], none⟩,
  ⟨some 2, .mv, [.c (.nils)], none⟩,
  ⟨some 3, .mv, [.t 12], none⟩]
def a56r4 : List IOp := [⟨some 13, .mv, [.t 0], none⟩,
  ⟨some 14, .call 70, [.t 13, .c (.nils)], none⟩,
  ⟨some 5, .mv, [.t 14], none⟩]
def a56r5 : List IOp := [⟨some 6, .mv, [.c (.nils)], none⟩]
def a56r6 : List IOp := [⟨some 7, .mv, [.c (.int .i64 1)], none⟩]
def a56r7 : List IOp := [⟨some 15, .mv, [.t 7], none⟩,
  ⟨some 16, .mv, [.t 5], none⟩,
  ⟨some 17, .len, [.t 16], none⟩,
  ⟨some 18, .bin .lss, [.t 15, .t 17], none⟩]
def a56r8 : List (Nat × DOp) := [(0, ⟨⟨some 21, .mv, [.t 5], none⟩, none, [1, 5, 6, 7, 8, 9, 10]⟩),
  (1, ⟨⟨some 22, .mv, [.t 7], none⟩, none, [0, 5, 6, 7, 8, 9, 10]⟩),
  (2, ⟨⟨some 23, .indexAddr 7, [.t 21, .t 22], none⟩, none, [5, 6, 7, 8, 9, 10]⟩),
  (3, ⟨⟨some 24, .fieldAddr 0, [.t 23], none⟩, none, [5, 6, 7, 8, 9, 10]⟩),
  (4, ⟨⟨some 25, .loadA 2, [.t 24], none⟩, none, [5, 6, 7, 8, 9, 10]⟩),
  (5, ⟨⟨some 26, .mv, [.t 5], none⟩, none, [0, 1, 2, 3, 4, 6, 7]⟩),
  (6, ⟨⟨some 27, .mv, [.t 7], none⟩, none, [0, 1, 2, 3, 4, 5]⟩),
  (7, ⟨⟨some 28, .bin .sub, [.t 27, .c (.int .i64 1)], none⟩, none, [0, 1, 2, 3, 4, 5]⟩),
  (8, ⟨⟨some 29, .indexAddr 7, [.t 26, .t 28], none⟩, none, [0, 1, 2, 3, 4]⟩),
  (9, ⟨⟨some 30, .fieldAddr 0, [.t 29], none⟩, none, [0, 1, 2, 3, 4]⟩),
  (10, ⟨⟨some 31, .loadA 2, [.t 30], none⟩, none, [0, 1, 2, 3, 4]⟩),
  (11, ⟨⟨some 32, .eqA false [.int .i64, .int .i64], [.t 25, .t 31], none⟩, none, []⟩),
  (12, ⟨⟨some 33, .mv, [.t 32], none⟩, none, []⟩),
  (13, ⟨⟨some 34, .mv, [.t 6], some (33, true)⟩, none, []⟩),
  (14, ⟨⟨some 35, .len, [.t 34], some (33, true)⟩, none, []⟩),
  (15, ⟨⟨some 36, .bin .eql, [.t 35, .c (.int .i64 0)], some (33, true)⟩, none, []⟩),
  (16, ⟨⟨some 37, .mv, [.t 36], some (33, true)⟩, none, []⟩),
  (17, ⟨⟨some 38, .mv, [.t 6], some (37, false)⟩, none, [18, 19, 20, 23, 24, 25, 26, 27]⟩),
  (18, ⟨⟨some 39, .mv, [.t 6], some (37, false)⟩, none, [17, 23, 24, 25, 26, 27]⟩),
  (19, ⟨⟨some 40, .len, [.t 39], some (37, false)⟩, none, [17, 23, 24, 25, 26, 27]⟩),
  (20, ⟨⟨some 41, .bin .sub, [.t 40, .c (.int .i64 1)], some (37, false)⟩, none, [17, 23, 24, 25, 26, 27]⟩),
  (21, ⟨⟨some 42, .indexAddr 2, [.t 38, .t 41], some (37, false)⟩, none, [23, 24, 25, 26, 27]⟩),
  (22, ⟨⟨some 43, .loadA 2, [.t 42], some (37, false)⟩, none, [23, 24, 25, 26, 27]⟩),
  (23, ⟨⟨some 44, .mv, [.t 5], some (37, false)⟩, none, [17, 18, 19, 20, 21, 22, 24]⟩),
  (24, ⟨⟨some 45, .mv, [.t 7], some (37, false)⟩, none, [17, 18, 19, 20, 21, 22, 23]⟩),
  (25, ⟨⟨some 46, .indexAddr 7, [.t 44, .t 45], some (37, false)⟩, none, [17, 18, 19, 20, 21, 22]⟩),
  (26, ⟨⟨some 47, .fieldAddr 0, [.t 46], some (37, false)⟩, none, [17, 18, 19, 20, 21, 22]⟩),
  (27, ⟨⟨some 48, .loadA 2, [.t 47], some (37, false)⟩, none, [17, 18, 19, 20, 21, 22]⟩),
  (28, ⟨⟨some 49, .eqA true [.int .i64, .int .i64], [.t 43, .t 48], some (37, false)⟩, none, []⟩),
  (29, ⟨⟨some 50, .pick, [.t 37, .c (.bool true), .t 49], some (33, true)⟩, none, []⟩),
  (30, ⟨⟨some 51, .pick, [.t 33, .t 50, .c (.bool false)], none⟩, none, []⟩)]
def a56r9 : List IOp := [⟨some 52, .mv, [.t 6], none⟩,
  ⟨some 53, .mv, [.t 5], none⟩,
  ⟨some 54, .mv, [.t 7], none⟩,
  ⟨some 55, .indexAddr 7, [.t 53, .t 54], none⟩,
  ⟨some 56, .fieldAddr 0, [.t 55], none⟩,
  ⟨some 57, .loadA 2, [.t 56], none⟩,
  ⟨some 58, .bslice 62 2 [.int .i64 0, .int .i64 0] 1 [0], [.t 57], none⟩,
  ⟨some 59, .append 62 2 16, [.t 52, .t 58], none⟩,
  ⟨some 6, .mv, [.t 59], none⟩]
def a56r10 : List IOp := [⟨some 19, .mv, [.t 7], none⟩,
  ⟨some 20, .bin .add, [.t 19, .c (.int .i64 1)], none⟩,
  ⟨some 7, .mv, [.t 20], none⟩]
def a56r11 : List IOp := [⟨some 60, .mv, [.t 6], none⟩,
  ⟨some 2, .mv, [.t 60], none⟩,
  ⟨some 3, .mv, [.c (.int .i64 0)], none⟩]
def a56 : AFunc := ⟨61, [.tmp 2, .tmp 3], (.seq (.region a56r0 [0]) (.seq (.seq (.region a56r1 [0, 4]) (.seq (.region a56r2 [0, 4, 11]) (.cond (.t 11) (.seq (.region a56r3 [2, 3]) .ret) .skip))) (.seq (.region a56r4 [5]) (.seq (.region a56r5 [5, 6]) (.seq (.seq (.region a56r6 [5, 6, 7]) (.block 0 (.loop (.seq (.seq (.region a56r7 [5, 6, 7, 18]) (.cond (.t 18) .skip (.exit 0))) (.seq (.block 1 (.seq (.draw a56r8 [] [5, 6, 7, 51]) (.cond (.t 51) (.region a56r9 [5, 6, 7]) .skip))) (.region a56r10 [5, 6, 7])))))) (.seq (.region a56r11 [2, 3]) .ret))))))⟩
theorem a56_ok : compileF Try.prog (lk [(0, ⟨[0], [], []⟩), (1, ⟨[0, 4], [], []⟩), (2, ⟨[0, 4, 11], [], []⟩), (3, ⟨[2, 3], [], []⟩), (4, ⟨[5], [], []⟩), (5, ⟨[5, 6], [], []⟩), (6, ⟨[5, 6, 7], [], []⟩), (7, ⟨[5, 6, 7, 18], [], []⟩), (8, ⟨[5, 6, 7], [], []⟩), (9, ⟨[5, 6, 7, 51], [[], [], [0, 1], [2, 0, 1], [3, 2, 0, 1], [], [], [6], [5, 7, 6], [8, 5, 7, 6], [9, 8, 5, 7, 6], [4, 10, 3, 2, 0, 1, 9, 8, 5, 7, 6], [11, 4, 10, 3, 2, 0, 1, 9, 8, 5, 7, 6], [12, 11, 4, 10, 3, 2, 0, 1, 9, 8, 5, 7, 6], [13, 12, 11, 4, 10, 3, 2, 0, 1, 9, 8, 5, 7, 6], [14, 12, 13, 11, 4, 10, 3, 2, 0, 1, 9, 8, 5, 7, 6], [15, 12, 14, 13, 11, 4, 10, 3, 2, 0, 1, 9, 8, 5, 7, 6], [16, 15, 12, 14, 13, 11, 4, 10, 3, 2, 0, 1, 9, 8, 5, 7, 6], [16, 15, 12, 14, 13, 11, 4, 10, 3, 2, 0, 1, 9, 8, 5, 7, 6], [18, 16, 15, 12, 14, 13, 11, 4, 10, 3, 2, 0, 1, 9, 8, 5, 7, 6], [19, 16, 18, 15, 12, 14, 13, 11, 4, 10, 3, 2, 0, 1, 9, 8, 5, 7, 6], [17, 20, 16, 15, 12, 14, 13, 11, 4, 10, 3, 2, 0, 1, 9, 8, 5, 7, 6, 19, 18], [21, 16, 17, 20, 15, 12, 14, 13, 11, 4, 10, 3, 2, 0, 1, 9, 8, 5, 7, 6, 19, 18], [16, 15, 12, 14, 13, 11, 4, 10, 3, 2, 0, 1, 9, 8, 5, 7, 6], [16, 15, 12, 14, 13, 11, 4, 10, 3, 2, 0, 1, 9, 8, 5, 7, 6], [23, 24, 16, 15, 12, 14, 13, 11, 4, 10, 3, 2, 0, 1, 9, 8, 5, 7, 6], [25, 16, 23, 24, 15, 12, 14, 13, 11, 4, 10, 3, 2, 0, 1, 9, 8, 5, 7, 6], [26, 16, 25, 23, 24, 15, 12, 14, 13, 11, 4, 10, 3, 2, 0, 1, 9, 8, 5, 7, 6], [22, 27, 16, 21, 17, 20, 15, 12, 14, 13, 11, 4, 10, 3, 2, 0, 1, 9, 8, 5, 7, 6, 19, 18, 26, 25, 23, 24], [16, 28, 12, 15, 14, 13, 11, 4, 10, 3, 2, 0, 1, 9, 8, 5, 7, 6, 22, 27, 21, 17, 20, 19, 18, 26, 25, 23, 24], [12, 29, 11, 4, 10, 3, 2, 0, 1, 9, 8, 5, 7, 6, 16, 28, 15, 14, 13, 22, 27, 21, 17, 20, 19, 18, 26, 25, 23, 24]], [0, 1, 2, 3, 4, 5, 6, 7, 8, 9, 10, 11, 12, 13, 14, 15, 16, 17, 18, 19, 20, 21, 22, 23, 24, 25, 26, 27, 28, 29, 30]⟩), (10, ⟨[5, 6, 7], [], []⟩), (11, ⟨[2, 3], [], []⟩)]) Try.f56 = some a56 := by kernel_rfl

/- payroll/payrollref8.Effective -/
def a57r0 : List IOp := [⟨some 4, .mv, [.c (.nils)], none⟩,
  ⟨some 5, .mv, [.c (.int .i64 0)], none⟩]
def a57r1 : List IOp := [⟨some 16, .mv, [.t 0], none⟩,
  ⟨some 17, .call 73, [.t 16], none⟩,
  ⟨some 6, .mv, [.t 17], none⟩]
def a57r2 : List IOp := [⟨some 18, .mv, [.t 6], none⟩,
  ⟨some 19, .bin .neq, [.t 18, .c (.int .i64 0)], none⟩]
def a57r3 : List IOp := [⟨some 20, .mv, [.t 6], none⟩,
  ⟨some 4, .mv, [.c (.nils)], none⟩,
  ⟨some 5, .mv, [.t 20], none⟩]
def a57r4 : List IOp := [⟨some 21, .mv, [.t 0], none⟩,
  ⟨some 22, .call 74, [.t 21], none⟩,
  ⟨some 7, .mv, [.t 22], none⟩]
def a57r5 : List IOp := [⟨some 8, .mv, [.c (.nils)], none⟩]
def a57r6 : List IOp := [⟨some 9, .mv, [.c (.int .i64 0)], none⟩]
def a57r7 : List IOp := [⟨some 23, .mv, [.t 9], none⟩,
  ⟨some 24, .mv, [.t 7], none⟩,
  ⟨some 25, .len, [.t 24], none⟩,
  ⟨some 26, .bin .lss, [.t 23, .t 25], none⟩]
def a57r8 : List IOp := [⟨some 29, .mv, [.t 7], none⟩,
  ⟨some 30, .mv, [.t 9], none⟩,
  ⟨some 31, .indexAddr 7, [.t 29, .t 30], none⟩,
  ⟨some 32, .loadA 7, [.t 31], none⟩,
  ⟨some 10, .alloc 64 [.int .i64 0, .int .i64 0, .int .i64 0, .int .i64 0, .int .i64 0, .int .i64 0, .int .i64 0], [], none⟩,
  ⟨none, .store 7, [.t 10, .t 32], none⟩]
def a57r9 : List IOp := [⟨some 33, .fieldAddr 2, [.t 10], none⟩,
  ⟨some 34, .load1, [.t 33], none⟩,
  ⟨some 35, .mv, [.t 1], none⟩,
  ⟨some 36, .bin .neq, [.t 34, .t 35], none⟩,
  ⟨some 37, .mv, [.t 36], none⟩,
  ⟨some 38, .fieldAddr 4, [.t 10], some (37, false)⟩,
  ⟨some 39, .load1, [.t 38], some (37, false)⟩,
  ⟨some 40, .bin .gtr, [.t 39, .c (.int .i64 4)], some (37, false)⟩,
  ⟨some 41, .pick, [.t 37, .c (.bool true), .t 40], none⟩]
def a57r10 : List IOp := [⟨some 11, .mv, [.c (.bool false)], none⟩]
def a57r11 : List IOp := [⟨some 12, .mv, [.c (.int .i64 0)], none⟩]
def a57r12 : List IOp := [⟨some 42, .mv, [.t 12], none⟩,
  ⟨some 43, .mv, [.t 7], none⟩,
  ⟨some 44, .len, [.t 43], none⟩,
  ⟨some 45, .bin .lss, [.t 42, .t 44], none⟩]
def a57r13 : List IOp := [⟨some 48, .mv, [.t 7], none⟩,
  ⟨some 49, .mv, [.t 12], none⟩,
  ⟨some 50, .indexAddr 7, [.t 48, .t 49], none⟩,
  ⟨some 51, .loadA 7, [.t 50], none⟩,
  ⟨some 13, .alloc 64 [.int .i64 0, .int .i64 0, .int .i64 0, .int .i64 0, .int .i64 0, .int .i64 0, .int .i64 0], [], none⟩,
  ⟨none, .store 7, [.t 13, .t 51], none⟩]
def a57r14 : List IOp := [⟨some 52, .fieldAddr 2, [.t 13], none⟩,
  ⟨some 53, .load1, [.t 52], none⟩,
  ⟨some 54, .mv, [.t 1], none⟩,
  ⟨some 55, .bin .eql, [.t 53, .t 54], none⟩,
  ⟨some 56, .mv, [.t 55], none⟩,
  ⟨some 57, .fieldAddr 5, [.t 13], some (56, true)⟩,
  ⟨some 58, .loadA 2, [.t 57], some (56, true)⟩,
  ⟨some 59, .fieldAddr 0, [.t 10], some (56, true)⟩,
  ⟨some 60, .loadA 2, [.t 59], some (56, true)⟩,
  ⟨some 61, .eqA false [.int .i64, .int .i64], [.t 58, .t 60], some (56, true)⟩,
  ⟨some 62, .pick, [.t 56, .t 61, .c (.bool false)], none⟩]
def a57r15 : List IOp := [⟨some 63, .mv, [.t 11], none⟩,
  ⟨some 64, .mv, [.t 63], none⟩,
  ⟨some 65, .fieldAddr 4, [.t 13], some (64, false)⟩,
  ⟨some 66, .load1, [.t 65], some (64, false)⟩,
  ⟨some 67, .bin .eql, [.t 66, .c (.int .i64 5)], some (64, false)⟩,
  ⟨some 68, .pick, [.t 64, .c (.bool true), .t 67], none⟩,
  ⟨some 11, .mv, [.t 68], none⟩]
def a57r16 : List IOp := [⟨some 69, .fieldAddr 4, [.t 13], none⟩,
  ⟨some 70, .load1, [.t 69], none⟩,
  ⟨some 71, .bin .eql, [.t 70, .c (.int .i64 6)], none⟩]
def a57r17 : List IOp := [⟨some 72, .fieldAddr 3, [.t 13], none⟩,
  ⟨some 73, .load1, [.t 72], none⟩,
  ⟨some 74, .fieldAddr 3, [.t 10], none⟩,
  ⟨none, .store 1, [.t 74, .t 73], none⟩]
def a57r18 : List IOp := [⟨some 46, .mv, [.t 12], none⟩,
  ⟨some 47, .bin .add, [.t 46, .c (.int .i64 1)], none⟩,
  ⟨some 12, .mv, [.t 47], none⟩]
def a57r19 : List IOp := [⟨some 75, .mv, [.t 11], none⟩]
def a57r20 : List IOp := [⟨some 76, .fieldAddr 3, [.t 10], none⟩,
  ⟨some 77, .load1, [.t 76], none⟩,
  ⟨some 78, .fieldAddr 4, [.t 10], none⟩,
  ⟨some 79, .load1, [.t 78], none⟩,
  ⟨some 80, .fieldAddr 0, [.t 10], none⟩,
  ⟨some 81, .loadA 2, [.t 80], none⟩,
  ⟨some 82, .build [.int .i64 0, .int .i64 0, .int .i64 0, .int .i64 0] [(0, 1), (1, 1), (2, 2)], [.t 77, .t 79, .t 81], none⟩,
  ⟨some 14, .alloc 77 [.int .i64 0, .int .i64 0, .int .i64 0, .int .i64 0], [], none⟩,
  ⟨none, .store 4, [.t 14, .t 82], none⟩]
def a57r21 : List IOp := [⟨some 83, .mv, [.t 8], none⟩,
  ⟨some 84, .len, [.t 83], none⟩,
  ⟨some 15, .mv, [.t 84], none⟩]
def a57r22 : List (Nat × DOp) := [(0, ⟨⟨some 85, .mv, [.t 15], none⟩, none, []⟩),
  (1, ⟨⟨some 86, .bin .gtr, [.t 85, .c (.int .i64 0)], none⟩, none, []⟩),
  (2, ⟨⟨some 87, .mv, [.t 86], none⟩, none, []⟩),
  (3, ⟨⟨some 88, .mv, [.t 8], some (87, true)⟩, none, [4, 5, 9, 10]⟩),
  (4, ⟨⟨some 89, .mv, [.t 15], some (87, true)⟩, none, [3, 9, 10]⟩),
  (5, ⟨⟨some 90, .bin .sub, [.t 89, .c (.int .i64 1)], some (87, true)⟩, none, [3, 9, 10]⟩),
  (6, ⟨⟨some 91, .indexAddr 4, [.t 88, .t 90], some (87, true)⟩, none, [9, 10]⟩),
  (7, ⟨⟨some 92, .fieldAddr 0, [.t 91], some (87, true)⟩, none, [9, 10]⟩),
  (8, ⟨⟨some 93, .load1, [.t 92], some (87, true)⟩, none, [9, 10]⟩),
  (9, ⟨⟨some 94, .fieldAddr 0, [.t 14], some (87, true)⟩, none, [3, 4, 5, 6, 7, 8]⟩),
  (10, ⟨⟨some 95, .load1, [.t 94], some (87, true)⟩, none, [3, 4, 5, 6, 7, 8]⟩),
  (11, ⟨⟨some 96, .bin .gtr, [.t 93, .t 95], some (87, true)⟩, none, []⟩),
  (12, ⟨⟨some 97, .pick, [.t 87, .t 96, .c (.bool false)], none⟩, none, []⟩)]
def a57r23 : List IOp := [⟨some 98, .mv, [.t 15], none⟩,
  ⟨some 99, .bin .sub, [.t 98, .c (.int .i64 1)], none⟩,
  ⟨some 15, .mv, [.t 99], none⟩]
def a57r24 : List IOp := [⟨some 100, .mv, [.t 8], none⟩,
  ⟨some 101, .build [.int .i64 0, .int .i64 0, .int .i64 0, .int .i64 0] [], [], none⟩,
  ⟨some 102, .bslice 77 4 [.int .i64 0, .int .i64 0, .int .i64 0, .int .i64 0] 1 [0], [.t 101], none⟩,
  ⟨some 103, .append 77 4 32, [.t 100, .t 102], none⟩,
  ⟨some 8, .mv, [.t 103], none⟩]
def a57r25 : List (Nat × DOp) := [(0, ⟨⟨some 104, .mv, [.t 8], none⟩, none, [1, 2, 4, 5, 6]⟩),
  (1, ⟨⟨some 105, .mv, [.t 15], none⟩, none, [0, 4, 5, 6]⟩),
  (2, ⟨⟨some 106, .bin .add, [.t 105, .c (.int .i64 1)], none⟩, none, [0, 4, 5, 6]⟩),
  (3, ⟨⟨some 107, .slice true false 4, [.t 104, .t 106], none⟩, none, [4, 5, 6]⟩),
  (4, ⟨⟨some 108, .mv, [.t 8], none⟩, none, [0, 1, 2, 3, 5]⟩),
  (5, ⟨⟨some 109, .mv, [.t 15], none⟩, none, [0, 1, 2, 3, 4]⟩),
  (6, ⟨⟨some 110, .slice true false 4, [.t 108, .t 109], none⟩, none, [0, 1, 2, 3]⟩),
  (7, ⟨⟨some 111, .copy 4, [.t 107, .t 110], none⟩, none, []⟩)]
def a57r26 : List IOp := [⟨some 112, .mv, [.t 8], none⟩,
  ⟨some 113, .mv, [.t 15], none⟩,
  ⟨some 114, .loadA 4, [.t 14], none⟩,
  ⟨some 115, .indexAddr 4, [.t 112, .t 113], none⟩,
  ⟨none, .store 4, [.t 115, .t 114], none⟩]
def a57r27 : List IOp := [⟨some 27, .mv, [.t 9], none⟩,
  ⟨some 28, .bin .add, [.t 27, .c (.int .i64 1)], none⟩,
  ⟨some 9, .mv, [.t 28], none⟩]
def a57r28 : List IOp := [⟨some 116, .mv, [.t 8], none⟩,
  ⟨some 4, .mv, [.t 116], none⟩,
  ⟨some 5, .mv, [.c (.int .i64 0)], none⟩]
def a57 : AFunc := ⟨117, [.tmp 4, .tmp 5], (.seq (.region a57r0 [0, 1]) (.seq (.seq (.region a57r1 [0, 1, 6]) (.seq (.region a57r2 [0, 1, 6, 19]) (.cond (.t 19) (.seq (.region a57r3 [4, 5]) .ret) .skip))) (.seq (.region a57r4 [1, 7]) (.seq (.region a57r5 [1, 7, 8]) (.seq (.seq (.region a57r6 [1, 7, 8, 9]) (.block 0 (.loop (.seq (.seq (.region a57r7 [1, 7, 8, 9, 26]) (.cond (.t 26) .skip (.exit 0))) (.seq (.block 1 (.seq (.region a57r8 [1, 7, 8, 9, 10]) (.seq (.seq (.region a57r9 [1, 7, 8, 9, 10, 41]) (.cond (.t 41) (.exit 1) .skip)) (.seq (.region a57r10 [1, 7, 8, 9, 10, 11]) (.seq (.seq (.region a57r11 [1, 7, 8, 9, 10, 11, 12]) (.block 2 (.loop (.seq (.seq (.region a57r12 [1, 7, 8, 9, 10, 11, 12, 45]) (.cond (.t 45) .skip (.exit 2))) (.seq (.block 3 (.seq (.region a57r13 [1, 7, 8, 9, 10, 11, 12, 13]) (.seq (.region a57r14 [1, 7, 8, 9, 10, 11, 12, 13, 62]) (.cond (.t 62) (.seq (.region a57r15 [1, 7, 8, 9, 10, 11, 12, 13]) (.seq (.region a57r16 [1, 7, 8, 9, 10, 11, 12, 13, 71]) (.cond (.t 71) (.region a57r17 [1, 7, 8, 9, 10, 11, 12]) .skip))) .skip)))) (.region a57r18 [1, 7, 8, 9, 10, 11, 12])))))) (.seq (.seq (.region a57r19 [1, 7, 8, 9, 10, 75]) (.cond (.t 75) (.exit 1) .skip)) (.seq (.region a57r20 [1, 7, 8, 9, 14]) (.seq (.region a57r21 [1, 7, 8, 9, 14, 15]) (.seq (.block 4 (.loop (.seq (.seq (.draw a57r22 [] [1, 7, 8, 9, 14, 15, 97]) (.cond (.t 97) .skip (.exit 4))) (.block 5 (.region a57r23 [1, 7, 8, 9, 14, 15]))))) (.seq (.region a57r24 [1, 7, 8, 9, 14, 15]) (.seq (.draw a57r25 [] [1, 7, 8, 9, 14, 15]) (.region a57r26 [1, 7, 8, 9])))))))))))) (.region a57r27 [1, 7, 8, 9])))))) (.seq (.region a57r28 [4, 5]) .ret))))))⟩
theorem a57_ok : compileF Try.prog (lk [(0, ⟨[0, 1], [], []⟩), (1, ⟨[0, 1, 6], [], []⟩), (2, ⟨[0, 1, 6, 19], [], []⟩), (3, ⟨[4, 5], [], []⟩), (4, ⟨[1, 7], [], []⟩), (5, ⟨[1, 7, 8], [], []⟩), (6, ⟨[1, 7, 8, 9], [], []⟩), (7, ⟨[1, 7, 8, 9, 26], [], []⟩), (8, ⟨[1, 7, 8, 9], [], []⟩), (9, ⟨[1, 7, 8, 9, 10], [], []⟩), (10, ⟨[1, 7, 8, 9, 10, 41], [], []⟩), (11, ⟨[1, 7, 8, 9, 10, 11], [], []⟩), (12, ⟨[1, 7, 8, 9, 10, 11, 12], [], []⟩), (13, ⟨[1, 7, 8, 9, 10, 11, 12, 45], [], []⟩), (14, ⟨[1, 7, 8, 9, 10, 11, 12], [], []⟩), (15, ⟨[1, 7, 8, 9, 10, 11, 12, 13], [], []⟩), (16, ⟨[1, 7, 8, 9, 10, 11, 12, 13, 62], [], []⟩), (17, ⟨[1, 7, 8, 9, 10, 11, 12, 13], [], []⟩), (18, ⟨[1, 7, 8, 9, 10, 11, 12, 13, 71], [], []⟩), (19, ⟨[1, 7, 8, 9, 10, 11, 12], [], []⟩), (20, ⟨[1, 7, 8, 9, 10, 75], [], []⟩), (21, ⟨[1, 7, 8, 9, 14], [], []⟩), (22, ⟨[1, 7, 8, 9, 14, 15], [], []⟩), (23, ⟨[1, 7, 8, 9, 14, 15, 97], [[], [0], [1, 0], [2, 1, 0], [2, 1, 0], [4, 2, 1, 0], [3, 5, 2, 1, 0, 4], [6, 2, 3, 5, 1, 0, 4], [7, 2, 6, 3, 5, 1, 0, 4], [2, 1, 0], [9, 2, 1, 0], [8, 10, 2, 7, 6, 3, 5, 1, 0, 4, 9], [2, 11, 1, 0, 8, 10, 7, 6, 3, 5, 4, 9]], [0, 1, 2, 3, 4, 5, 6, 7, 8, 9, 10, 11, 12]⟩), (24, ⟨[1, 7, 8, 9, 14, 15], [], []⟩), (25, ⟨[1, 7, 8, 9, 14, 15], [], []⟩), (26, ⟨[1, 7, 8, 9, 14, 15], [[], [], [1], [0, 2, 1], [], [], [4, 5], [3, 6, 0, 2, 1, 4, 5]], [0, 1, 2, 3, 4, 5, 6, 7]⟩), (27, ⟨[1, 7, 8, 9], [], []⟩), (28, ⟨[4, 5], [], []⟩)]) Try.f57 = some a57 := by kernel_rfl

/- payroll/inbox.allValid -/
def a58r0 : List IOp := [⟨some 2, .mv, [.c (.bool false)], none⟩]
def a58r1 : List IOp := [⟨some 5, .mv, [.t 0], none⟩,
  ⟨some 6, .len, [.t 5], none⟩,
  ⟨some 7, .mv, [.c (.int .i64 0)], none⟩]
def a58r2 : List IOp := [⟨some 8, .bin .lss, [.t 7, .t 6], none⟩]
def a58r3 : List IOp := [⟨some 9, .indexAddr 7, [.t 5, .t 7], none⟩,
  ⟨some 10, .loadA 7, [.t 9], none⟩,
  ⟨some 4, .alloc 64 [.int .i64 0, .int .i64 0, .int .i64 0, .int .i64 0, .int .i64 0, .int .i64 0, .int .i64 0], [], none⟩,
  ⟨none, .store 7, [.t 4, .t 10], none⟩]
def a58r4 : List IOp := [⟨some 11, .loadA 7, [.t 4], none⟩,
  ⟨some 12, .call 75, [.t 11], none⟩,
  ⟨some 13, .not, [.t 12], none⟩]
def a58r5 : List IOp := [⟨some 2, .mv, [.c (.bool false)], none⟩]
def a58r6 : List IOp := [⟨some 14, .bin .add, [.t 7, .c (.int .i64 1)], none⟩,
  ⟨some 7, .mv, [.t 14], none⟩]
def a58r7 : List IOp := [⟨some 2, .mv, [.c (.bool true)], none⟩]
def a58 : AFunc := ⟨15, [.tmp 2], (.seq (.region a58r0 [0]) (.seq (.seq (.region a58r1 [5, 6, 7]) (.block 0 (.loop (.seq (.region a58r2 [5, 6, 7, 8]) (.seq (.cond (.t 8) .skip (.exit 0)) (.seq (.block 1 (.seq (.region a58r3 [4, 5, 6, 7]) (.seq (.region a58r4 [5, 6, 7, 13]) (.cond (.t 13) (.seq (.region a58r5 [2]) .ret) .skip)))) (.region a58r6 [5, 6, 7]))))))) (.seq (.region a58r7 [2]) .ret)))⟩
theorem a58_ok : compileF Try.prog (lk [(0, ⟨[0], [], []⟩), (1, ⟨[5, 6, 7], [], []⟩), (2, ⟨[5, 6, 7, 8], [], []⟩), (3, ⟨[4, 5, 6, 7], [], []⟩), (4, ⟨[5, 6, 7, 13], [], []⟩), (5, ⟨[2], [], []⟩), (6, ⟨[5, 6, 7], [], []⟩), (7, ⟨[2], [], []⟩)]) Try.f58 = some a58 := by kernel_rfl

/- payroll/inbox.union -/
def a59r0 : List IOp := [⟨some 4, .mv, [.c (.nils)], none⟩]
def a59r1 : List IOp := [⟨some 6, .mv, [.t 0], none⟩,
  ⟨some 7, .mv, [.t 1], none⟩,
  ⟨some 8, .bslice 57 1 [.nils] 2 [0, 1], [.t 6, .t 7], none⟩,
  ⟨some 9, .call 76, [.t 8], none⟩,
  ⟨some 5, .mv, [.t 9], none⟩]
def a59r2 : List IOp := [⟨some 10, .mv, [.t 5], none⟩,
  ⟨some 11, .call 77, [.t 10, .c (.fn 30 [])], none⟩]
def a59r3 : List IOp := [⟨some 12, .mv, [.t 5], none⟩,
  ⟨some 13, .call 78, [.t 12], none⟩,
  ⟨some 4, .mv, [.t 13], none⟩]
def a59 : AFunc := ⟨14, [.tmp 4], (.seq (.region a59r0 [0, 1]) (.seq (.region a59r1 [5]) (.seq (.region a59r2 [5]) (.seq (.region a59r3 [4]) .ret))))⟩
theorem a59_ok : compileF Try.prog (lk [(0, ⟨[0, 1], [], []⟩), (1, ⟨[5], [], []⟩), (2, ⟨[5], [], []⟩), (3, ⟨[4], [], []⟩)]) Try.f59 = some a59 := by kernel_rfl

/- payroll/inbox.check -/
def a60r0 : List IOp := [⟨some 2, .mv, [.c (.int .i64 0)], none⟩]
def a60r1 : List IOp := [⟨some 3, .mv, [.t 0], none⟩,
  ⟨some 4, .len, [.t 3], none⟩,
  ⟨some 5, .bin .gtr, [.t 4, .c (.int .i64 1024)], none⟩]
def a60r2 : List IOp := [⟨some 2, .mv, [.c (.int .i64 3)], none⟩]
def a60r3 : List IOp := [⟨some 6, .mv, [.t 0], none⟩,
  ⟨some 7, .call 58, [.t 6], none⟩,
  ⟨some 8, .not, [.t 7], none⟩]
def a60r4 : List IOp := [⟨some 2, .mv, [.c (.int .i64 1)], none⟩]
def a60r5 : List IOp := [⟨some 2, .mv, [.c (.int .i64 0)], none⟩]
def a60 : AFunc := ⟨9, [.tmp 2], (.seq (.region a60r0 [0]) (.seq (.seq (.region a60r1 [0, 5]) (.cond (.t 5) (.seq (.region a60r2 [2]) .ret) .skip)) (.seq (.seq (.region a60r3 [8]) (.cond (.t 8) (.seq (.region a60r4 [2]) .ret) .skip)) (.seq (.region a60r5 [2]) .ret))))⟩
theorem a60_ok : compileF Try.prog (lk [(0, ⟨[0], [], []⟩), (1, ⟨[0, 5], [], []⟩), (2, ⟨[2], [], []⟩), (3, ⟨[8], [], []⟩), (4, ⟨[2], [], []⟩), (5, ⟨[2], [], []⟩)]) Try.f60 = some a60 := by kernel_rfl

/- payroll/inbox.counting -/
def a61r0 : List IOp := [⟨some 4, .mv, [.c (.nils)], none⟩]
def a61r1 : List IOp := [⟨some 5, .mv, [.c (.nils)], none⟩]
def a61r2 : List IOp := [⟨some 9, .mv, [.t 0], none⟩,
  ⟨some 10, .call 59, [.t 9, .c (.nils)], none⟩,
  ⟨some 6, .mv, [.t 10], none⟩]
def a61r3 : List IOp := [⟨some 11, .mv, [.t 6], none⟩,
  ⟨some 12, .len, [.t 11], none⟩,
  ⟨some 13, .mv, [.c (.int .i64 0)], none⟩]
def a61r4 : List IOp := [⟨some 14, .bin .lss, [.t 13, .t 12], none⟩]
def a61r5 : List IOp := [⟨some 15, .mv, [.t 13], none⟩,
  ⟨some 16, .indexAddr 7, [.t 11, .t 13], none⟩,
  ⟨some 17, .loadA 7, [.t 16], none⟩,
  ⟨some 8, .alloc 64 [.int .i64 0, .int .i64 0, .int .i64 0, .int .i64 0, .int .i64 0, .int .i64 0, .int .i64 0], [], none⟩,
  ⟨some 7, .mv, [.t 15], none⟩,
  ⟨none, .store 7, [.t 8, .t 17], none⟩]
def a61r6 : List (Nat × DOp) := [(0, ⟨⟨some 18, .mv, [.t 7], none⟩, none, []⟩),
  (1, ⟨⟨some 19, .bin .gtr, [.t 18, .c (.int .i64 0)], none⟩, none, []⟩),
  (2, ⟨⟨some 20, .mv, [.t 19], none⟩, none, []⟩),
  (3, ⟨⟨some 21, .mv, [.t 6], some (20, true)⟩, none, [4, 5, 9, 10]⟩),
  (4, ⟨⟨some 22, .mv, [.t 7], some (20, true)⟩, none, [3, 9, 10]⟩),
  (5, ⟨⟨some 23, .bin .sub, [.t 22, .c (.int .i64 1)], some (20, true)⟩, none, [3, 9, 10]⟩),
  (6, ⟨⟨some 24, .indexAddr 7, [.t 21, .t 23], some (20, true)⟩, none, [9, 10]⟩),
  (7, ⟨⟨some 25, .fieldAddr 0, [.t 24], some (20, true)⟩, none, [9, 10]⟩),
  (8, ⟨⟨some 26, .loadA 2, [.t 25], some (20, true)⟩, none, [9, 10]⟩),
  (9, ⟨⟨some 27, .fieldAddr 0, [.t 8], some (20, true)⟩, none, [3, 4, 5, 6, 7, 8]⟩),
  (10, ⟨⟨some 28, .loadA 2, [.t 27], some (20, true)⟩, none, [3, 4, 5, 6, 7, 8]⟩),
  (11, ⟨⟨some 29, .eqA false [.int .i64, .int .i64], [.t 26, .t 28], some (20, true)⟩, none, []⟩),
  (12, ⟨⟨some 30, .pick, [.t 20, .t 29, .c (.bool false)], none⟩, none, []⟩)]
def a61r7 : List IOp := [⟨some 31, .fieldAddr 2, [.t 8], none⟩,
  ⟨some 32, .load1, [.t 31], none⟩,
  ⟨some 33, .mv, [.t 1], none⟩,
  ⟨some 34, .bin .eql, [.t 32, .t 33], none⟩]
def a61r8 : List IOp := [⟨some 35, .mv, [.t 5], none⟩,
  ⟨some 36, .loadA 7, [.t 8], none⟩,
  ⟨some 37, .bslice 64 7 [.int .i64 0, .int .i64 0, .int .i64 0, .int .i64 0, .int .i64 0, .int .i64 0, .int .i64 0] 1 [0], [.t 36], none⟩,
  ⟨some 38, .append 64 7 56, [.t 35, .t 37], none⟩,
  ⟨some 5, .mv, [.t 38], none⟩]
def a61r9 : List IOp := [⟨some 39, .bin .add, [.t 13, .c (.int .i64 1)], none⟩,
  ⟨some 13, .mv, [.t 39], none⟩]
def a61r10 : List IOp := [⟨some 40, .mv, [.t 5], none⟩,
  ⟨some 4, .mv, [.t 40], none⟩]
def a61 : AFunc := ⟨41, [.tmp 4], (.seq (.region a61r0 [0, 1]) (.seq (.region a61r1 [0, 1, 5]) (.seq (.region a61r2 [1, 5, 6]) (.seq (.seq (.region a61r3 [1, 5, 6, 11, 12, 13]) (.block 0 (.loop (.seq (.region a61r4 [1, 5, 6, 11, 12, 13, 14]) (.seq (.cond (.t 14) .skip (.exit 0)) (.seq (.block 1 (.seq (.region a61r5 [1, 5, 6, 7, 8, 11, 12, 13]) (.seq (.seq (.draw a61r6 [] [1, 5, 6, 8, 11, 12, 13, 30]) (.cond (.t 30) (.exit 1) .skip)) (.seq (.region a61r7 [1, 5, 6, 8, 11, 12, 13, 34]) (.cond (.t 34) (.region a61r8 [1, 5, 6, 11, 12, 13]) .skip))))) (.region a61r9 [1, 5, 6, 11, 12, 13]))))))) (.seq (.region a61r10 [4]) .ret)))))⟩
theorem a61_ok : compileF Try.prog (lk [(0, ⟨[0, 1], [], []⟩), (1, ⟨[0, 1, 5], [], []⟩), (2, ⟨[1, 5, 6], [], []⟩), (3, ⟨[1, 5, 6, 11, 12, 13], [], []⟩), (4, ⟨[1, 5, 6, 11, 12, 13, 14], [], []⟩), (5, ⟨[1, 5, 6, 7, 8, 11, 12, 13], [], []⟩), (6, ⟨[1, 5, 6, 8, 11, 12, 13, 30], [[], [0], [1, 0], [2, 1, 0], [2, 1, 0], [4, 2, 1, 0], [3, 5, 2, 1, 0, 4], [6, 2, 3, 5, 1, 0, 4], [7, 2, 6, 3, 5, 1, 0, 4], [2, 1, 0], [9, 2, 1, 0], [8, 10, 2, 7, 6, 3, 5, 1, 0, 4, 9], [2, 11, 1, 0, 8, 10, 7, 6, 3, 5, 4, 9]], [0, 1, 2, 3, 4, 5, 6, 7, 8, 9, 10, 11, 12]⟩), (7, ⟨[1, 5, 6, 8, 11, 12, 13, 34], [], []⟩), (8, ⟨[1, 5, 6, 11, 12, 13], [], []⟩), (9, ⟨[1, 5, 6, 11, 12, 13], [], []⟩), (10, ⟨[4], [], []⟩)]) Try.f61 = some a61 := by kernel_rfl

/- payroll/payrollref8.valid -/
def a69r0 : List IOp := [⟨some 2, .mv, [.c (.bool false)], none⟩]
def a69r1 : List IOp := [⟨some 3, .mv, [.c (.int .i64 0)], none⟩]
def a69r2 : List IOp := [⟨some 4, .mv, [.t 3], none⟩,
  ⟨some 5, .mv, [.t 0], none⟩,
  ⟨some 6, .len, [.t 5], none⟩,
  ⟨some 7, .bin .lss, [.t 4, .t 6], none⟩]
def a69r3 : List IOp := [⟨some 10, .mv, [.t 0], none⟩,
  ⟨some 11, .mv, [.t 3], none⟩,
  ⟨some 12, .indexAddr 7, [.t 10, .t 11], none⟩,
  ⟨some 13, .loadA 7, [.t 12], none⟩,
  ⟨some 14, .call 82, [.t 13], none⟩,
  ⟨some 15, .not, [.t 14], none⟩]
def a69r4 : List IOp := [⟨some 2, .mv, [.c (.bool false)], none⟩]
def a69r5 : List IOp := [⟨some 8, .mv, [.t 3], none⟩,
  ⟨some 9, .bin .add, [.t 8, .c (.int .i64 1)], none⟩,
  ⟨some 3, .mv, [.t 9], none⟩]
def a69r6 : List IOp := [⟨some 2, .mv, [.c (.bool true)], none⟩]
def a69 : AFunc := ⟨16, [.tmp 2], (.seq (.region a69r0 [0]) (.seq (.seq (.region a69r1 [0, 3]) (.block 0 (.loop (.seq (.seq (.region a69r2 [0, 3, 7]) (.cond (.t 7) .skip (.exit 0))) (.seq (.block 1 (.seq (.region a69r3 [0, 3, 15]) (.cond (.t 15) (.seq (.region a69r4 [2]) .ret) .skip))) (.region a69r5 [0, 3])))))) (.seq (.region a69r6 [2]) .ret)))⟩
theorem a69_ok : compileF Try.prog (lk [(0, ⟨[0], [], []⟩), (1, ⟨[0, 3], [], []⟩), (2, ⟨[0, 3, 7], [], []⟩), (3, ⟨[0, 3], [], []⟩), (4, ⟨[0, 3, 15], [], []⟩), (5, ⟨[2], [], []⟩), (6, ⟨[2], [], []⟩)]) Try.f69 = some a69 := by kernel_rfl

/- payroll/payrollref8.union -/
def a70r0 : List IOp := [⟨some 4, .mv, [.c (.nils)], none⟩]
def a70r1 : List IOp := [⟨some 5, .mv, [.c (.nils)], none⟩]
def a70r2 : List IOp := [⟨some 6, .mv, [.c (.int .i64 0)], none⟩]
def a70r3 : List IOp := [⟨some 9, .mv, [.t 6], none⟩,
  ⟨some 10, .mv, [.t 0], none⟩,
  ⟨some 11, .len, [.t 10], none⟩,
  ⟨some 12, .mv, [.t 1], none⟩,
  ⟨some 13, .len, [.t 12], none⟩,
  ⟨some 14, .bin .add, [.t 11, .t 13], none⟩,
  ⟨some 15, .bin .lss, [.t 9, .t 14], none⟩]
def a70r4 : List IOp := [⟨some 18, .build [.int .i64 0, .int .i64 0, .int .i64 0, .int .i64 0, .int .i64 0, .int .i64 0, .int .i64 0] [], [], none⟩,
  ⟨some 7, .alloc 64 [.int .i64 0, .int .i64 0, .int .i64 0, .int .i64 0, .int .i64 0, .int .i64 0, .int .i64 0], [], none⟩,
  ⟨none, .store 7, [.t 7, .t 18], none⟩]
def a70r5 : List IOp := [⟨some 19, .mv, [.t 6], none⟩,
  ⟨some 20, .mv, [.t 0], none⟩,
  ⟨some 21, .len, [.t 20], none⟩,
  ⟨some 22, .bin .lss, [.t 19, .t 21], none⟩]
def a70r6 : List IOp := [⟨some 23, .mv, [.t 0], none⟩,
  ⟨some 24, .mv, [.t 6], none⟩,
  ⟨some 25, .indexAddr 7, [.t 23, .t 24], none⟩,
  ⟨some 26, .loadA 7, [.t 25], none⟩,
  ⟨none, .store 7, [.t 7, .t 26], none⟩]
def a70r7 : List IOp := [⟨some 27, .mv, [.t 1], none⟩,
  ⟨some 28, .mv, [.t 6], none⟩,
  ⟨some 29, .mv, [.t 0], none⟩,
  ⟨some 30, .len, [.t 29], none⟩,
  ⟨some 31, .bin .sub, [.t 28, .t 30], none⟩,
  ⟨some 32, .indexAddr 7, [.t 27, .t 31], none⟩,
  ⟨some 33, .loadA 7, [.t 32], none⟩,
  ⟨none, .store 7, [.t 7, .t 33], none⟩]
def a70r8 : List IOp := [⟨some 34, .mv, [.t 5], none⟩,
  ⟨some 35, .len, [.t 34], none⟩,
  ⟨some 8, .mv, [.t 35], none⟩]
def a70r9 : List (Nat × DOp) := [(0, ⟨⟨some 36, .mv, [.t 8], none⟩, none, []⟩),
  (1, ⟨⟨some 37, .bin .gtr, [.t 36, .c (.int .i64 0)], none⟩, none, []⟩),
  (2, ⟨⟨some 38, .mv, [.t 37], none⟩, none, []⟩),
  (3, ⟨⟨some 39, .mv, [.t 5], some (38, true)⟩, none, [4, 5, 8]⟩),
  (4, ⟨⟨some 40, .mv, [.t 8], some (38, true)⟩, none, [3, 8]⟩),
  (5, ⟨⟨some 41, .bin .sub, [.t 40, .c (.int .i64 1)], some (38, true)⟩, none, [3, 8]⟩),
  (6, ⟨⟨some 42, .indexAddr 7, [.t 39, .t 41], some (38, true)⟩, none, [8]⟩),
  (7, ⟨⟨some 43, .loadA 7, [.t 42], some (38, true)⟩, none, [8]⟩),
  (8, ⟨⟨some 44, .loadA 7, [.t 7], some (38, true)⟩, none, [3, 4, 5, 6, 7]⟩),
  (9, ⟨⟨some 45, .call 31, [.t 43, .t 44], some (38, true)⟩, none, []⟩),
  (10, ⟨⟨some 46, .bin .gtr, [.t 45, .c (.int .i64 0)], some (38, true)⟩, none, []⟩),
  (11, ⟨⟨some 47, .pick, [.t 38, .t 46, .c (.bool false)], none⟩, none, []⟩)]
def a70r10 : List IOp := [⟨some 48, .mv, [.t 8], none⟩,
  ⟨some 49, .bin .sub, [.t 48, .c (.int .i64 1)], none⟩,
  ⟨some 8, .mv, [.t 49], none⟩]
def a70r11 : List (Nat × DOp) := [(0, ⟨⟨some 50, .mv, [.t 8], none⟩, none, []⟩),
  (1, ⟨⟨some 51, .bin .gtr, [.t 50, .c (.int .i64 0)], none⟩, none, []⟩),
  (2, ⟨⟨some 52, .mv, [.t 51], none⟩, none, []⟩),
  (3, ⟨⟨some 53, .mv, [.t 5], some (52, true)⟩, none, [4, 5, 8]⟩),
  (4, ⟨⟨some 54, .mv, [.t 8], some (52, true)⟩, none, [3, 8]⟩),
  (5, ⟨⟨some 55, .bin .sub, [.t 54, .c (.int .i64 1)], some (52, true)⟩, none, [3, 8]⟩),
  (6, ⟨⟨some 56, .indexAddr 7, [.t 53, .t 55], some (52, true)⟩, none, [8]⟩),
  (7, ⟨⟨some 57, .loadA 7, [.t 56], some (52, true)⟩, none, [8]⟩),
  (8, ⟨⟨some 58, .loadA 7, [.t 7], some (52, true)⟩, none, [3, 4, 5, 6, 7]⟩),
  (9, ⟨⟨some 59, .eqA false [.int .i64, .int .i64, .int .i64, .int .i64, .int .i64, .int .i64, .int .i64], [.t 57, .t 58], some (52, true)⟩, none, []⟩),
  (10, ⟨⟨some 60, .pick, [.t 52, .t 59, .c (.bool false)], none⟩, none, []⟩)]
def a70r12 : List IOp := [⟨some 61, .mv, [.t 5], none⟩,
  ⟨some 62, .build [.int .i64 0, .int .i64 0, .int .i64 0, .int .i64 0, .int .i64 0, .int .i64 0, .int .i64 0] [], [], none⟩,
  ⟨some 63, .bslice 64 7 [.int .i64 0, .int .i64 0, .int .i64 0, .int .i64 0, .int .i64 0, .int .i64 0, .int .i64 0] 1 [0], [.t 62], none⟩,
  ⟨some 64, .append 64 7 56, [.t 61, .t 63], none⟩,
  ⟨some 5, .mv, [.t 64], none⟩]
def a70r13 : List (Nat × DOp) := [(0, ⟨⟨some 65, .mv, [.t 5], none⟩, none, [1, 2, 4, 5, 6]⟩),
  (1, ⟨⟨some 66, .mv, [.t 8], none⟩, none, [0, 4, 5, 6]⟩),
  (2, ⟨⟨some 67, .bin .add, [.t 66, .c (.int .i64 1)], none⟩, none, [0, 4, 5, 6]⟩),
  (3, ⟨⟨some 68, .slice true false 7, [.t 65, .t 67], none⟩, none, [4, 5, 6]⟩),
  (4, ⟨⟨some 69, .mv, [.t 5], none⟩, none, [0, 1, 2, 3, 5]⟩),
  (5, ⟨⟨some 70, .mv, [.t 8], none⟩, none, [0, 1, 2, 3, 4]⟩),
  (6, ⟨⟨some 71, .slice true false 7, [.t 69, .t 70], none⟩, none, [0, 1, 2, 3]⟩),
  (7, ⟨⟨some 72, .copy 7, [.t 68, .t 71], none⟩, none, []⟩)]
def a70r14 : List IOp := [⟨some 73, .mv, [.t 5], none⟩,
  ⟨some 74, .mv, [.t 8], none⟩,
  ⟨some 75, .loadA 7, [.t 7], none⟩,
  ⟨some 76, .indexAddr 7, [.t 73, .t 74], none⟩,
  ⟨none, .store 7, [.t 76, .t 75], none⟩]
def a70r15 : List IOp := [⟨some 16, .mv, [.t 6], none⟩,
  ⟨some 17, .bin .add, [.t 16, .c (.int .i64 1)], none⟩,
  ⟨some 6, .mv, [.t 17], none⟩]
def a70r16 : List IOp := [⟨some 77, .mv, [.t 5], none⟩,
  ⟨some 4, .mv, [.t 77], none⟩]
def a70 : AFunc := ⟨78, [.tmp 4], (.seq (.region a70r0 [0, 1]) (.seq (.region a70r1 [0, 1, 5]) (.seq (.seq (.region a70r2 [0, 1, 5, 6]) (.block 0 (.loop (.seq (.seq (.region a70r3 [0, 1, 5, 6, 15]) (.cond (.t 15) .skip (.exit 0))) (.seq (.block 1 (.seq (.region a70r4 [0, 1, 5, 6, 7]) (.seq (.seq (.region a70r5 [0, 1, 5, 6, 7, 22]) (.cond (.t 22) (.region a70r6 [0, 1, 5, 6, 7]) (.region a70r7 [0, 1, 5, 6, 7]))) (.seq (.region a70r8 [0, 1, 5, 6, 7, 8]) (.seq (.block 2 (.loop (.seq (.seq (.draw a70r9 [] [0, 1, 5, 6, 7, 8, 47]) (.cond (.t 47) .skip (.exit 2))) (.block 3 (.region a70r10 [0, 1, 5, 6, 7, 8]))))) (.seq (.seq (.draw a70r11 [] [0, 1, 5, 6, 7, 8, 60]) (.cond (.t 60) (.exit 1) .skip)) (.seq (.region a70r12 [0, 1, 5, 6, 7, 8]) (.seq (.draw a70r13 [] [0, 1, 5, 6, 7, 8]) (.region a70r14 [0, 1, 5, 6]))))))))) (.region a70r15 [0, 1, 5, 6])))))) (.seq (.region a70r16 [4]) .ret))))⟩
theorem a70_ok : compileF Try.prog (lk [(0, ⟨[0, 1], [], []⟩), (1, ⟨[0, 1, 5], [], []⟩), (2, ⟨[0, 1, 5, 6], [], []⟩), (3, ⟨[0, 1, 5, 6, 15], [], []⟩), (4, ⟨[0, 1, 5, 6], [], []⟩), (5, ⟨[0, 1, 5, 6, 7], [], []⟩), (6, ⟨[0, 1, 5, 6, 7, 22], [], []⟩), (7, ⟨[0, 1, 5, 6, 7], [], []⟩), (8, ⟨[0, 1, 5, 6, 7], [], []⟩), (9, ⟨[0, 1, 5, 6, 7, 8], [], []⟩), (10, ⟨[0, 1, 5, 6, 7, 8, 47], [[], [0], [1, 0], [2, 1, 0], [2, 1, 0], [4, 2, 1, 0], [3, 5, 2, 1, 0, 4], [6, 2, 3, 5, 1, 0, 4], [2, 1, 0], [7, 8, 2, 6, 3, 5, 1, 0, 4], [9, 2, 7, 8, 6, 3, 5, 1, 0, 4], [2, 10, 1, 0, 9, 7, 8, 6, 3, 5, 4]], [0, 1, 2, 3, 4, 5, 6, 7, 8, 9, 10, 11]⟩), (11, ⟨[0, 1, 5, 6, 7, 8], [], []⟩), (12, ⟨[0, 1, 5, 6, 7, 8, 60], [[], [0], [1, 0], [2, 1, 0], [2, 1, 0], [4, 2, 1, 0], [3, 5, 2, 1, 0, 4], [6, 2, 3, 5, 1, 0, 4], [2, 1, 0], [7, 8, 2, 6, 3, 5, 1, 0, 4], [2, 9, 1, 0, 7, 8, 6, 3, 5, 4]], [0, 1, 2, 3, 4, 5, 6, 7, 8, 9, 10]⟩), (13, ⟨[0, 1, 5, 6, 7, 8], [], []⟩), (14, ⟨[0, 1, 5, 6, 7, 8], [[], [], [1], [0, 2, 1], [], [], [4, 5], [3, 6, 0, 2, 1, 4, 5]], [0, 1, 2, 3, 4, 5, 6, 7]⟩), (15, ⟨[0, 1, 5, 6], [], []⟩), (16, ⟨[4], [], []⟩)]) Try.f70 = some a70 := by kernel_rfl

/- slices.Compact[[]payroll/api.Key,payroll/api.Key] -/
def a72r0 : List IOp := [⟨some 2, .mv, [.c (.nils)], none⟩]
def a72r1 : List IOp := [⟨some 6, .mv, [.t 0], none⟩,
  ⟨some 7, .len, [.t 6], none⟩,
  ⟨some 8, .bin .lss, [.t 7, .c (.int .i64 2)], none⟩]
def a72r2 : List IOp := [⟨some 9, .mv, [.t 0], none⟩,
  ⟨some 2, .mv, [.t 9], none⟩]
def a72r3 : List IOp := [⟨some 3, .mv, [.c (.int .i64 1)], none⟩]
def a72r4 : List IOp := [⟨some 10, .mv, [.t 3], none⟩,
  ⟨some 11, .mv, [.t 0], none⟩,
  ⟨some 12, .len, [.t 11], none⟩,
  ⟨some 13, .bin .lss, [.t 10, .t 12], none⟩]
def a72r5 : List (Nat × DOp) := [(0, ⟨⟨some 16, .mv, [.t 0], none⟩, none, [1, 4, 5, 6, 7, 8]⟩),
  (1, ⟨⟨some 17, .mv, [.t 3], none⟩, none, [0, 4, 5, 6, 7, 8]⟩),
  (2, ⟨⟨some 18, .indexAddr 2, [.t 16, .t 17], none⟩, none, [4, 5, 6, 7, 8]⟩),
  (3, ⟨⟨some 19, .loadA 2, [.t 18], none⟩, none, [4, 5, 6, 7, 8]⟩),
  (4, ⟨⟨some 20, .mv, [.t 0], none⟩, none, [0, 1, 2, 3, 5, 6]⟩),
  (5, ⟨⟨some 21, .mv, [.t 3], none⟩, none, [0, 1, 2, 3, 4]⟩),
  (6, ⟨⟨some 22, .bin .sub, [.t 21, .c (.int .i64 1)], none⟩, none, [0, 1, 2, 3, 4]⟩),
  (7, ⟨⟨some 23, .indexAddr 2, [.t 20, .t 22], none⟩, none, [0, 1, 2, 3]⟩),
  (8, ⟨⟨some 24, .loadA 2, [.t 23], none⟩, none, [0, 1, 2, 3]⟩),
  (9, ⟨⟨some 25, .eqA false [.int .i64, .int .i64], [.t 19, .t 24], none⟩, none, []⟩)]
def a72r6 : List IOp := [⟨some 26, .mv, [.t 0], none⟩,
  ⟨some 27, .mv, [.t 3], none⟩,
  ⟨some 28, .slice true false 2, [.t 26, .t 27], none⟩,
  ⟨some 4, .mv, [.t 28], none⟩]
def a72r7 : List IOp := [⟨some 5, .mv, [.c (.int .i64 1)], none⟩]
def a72r8 : List IOp := [⟨some 29, .mv, [.t 5], none⟩,
  ⟨some 30, .mv, [.t 4], none⟩,
  ⟨some 31, .len, [.t 30], none⟩,
  ⟨some 32, .bin .lss, [.t 29, .t 31], none⟩]
def a72r9 : List (Nat × DOp) := [(0, ⟨⟨some 35, .mv, [.t 4], none⟩, none, [1, 4, 5, 6, 7, 8]⟩),
  (1, ⟨⟨some 36, .mv, [.t 5], none⟩, none, [0, 4, 5, 6, 7, 8]⟩),
  (2, ⟨⟨some 37, .indexAddr 2, [.t 35, .t 36], none⟩, none, [4, 5, 6, 7, 8]⟩),
  (3, ⟨⟨some 38, .loadA 2, [.t 37], none⟩, none, [4, 5, 6, 7, 8]⟩),
  (4, ⟨⟨some 39, .mv, [.t 4], none⟩, none, [0, 1, 2, 3, 5, 6]⟩),
  (5, ⟨⟨some 40, .mv, [.t 5], none⟩, none, [0, 1, 2, 3, 4]⟩),
  (6, ⟨⟨some 41, .bin .sub, [.t 40, .c (.int .i64 1)], none⟩, none, [0, 1, 2, 3, 4]⟩),
  (7, ⟨⟨some 42, .indexAddr 2, [.t 39, .t 41], none⟩, none, [0, 1, 2, 3]⟩),
  (8, ⟨⟨some 43, .loadA 2, [.t 42], none⟩, none, [0, 1, 2, 3]⟩),
  (9, ⟨⟨some 44, .eqA true [.int .i64, .int .i64], [.t 38, .t 43], none⟩, none, []⟩)]
def a72r10 : List IOp := [⟨some 45, .mv, [.t 0], none⟩,
  ⟨some 46, .mv, [.t 3], none⟩,
  ⟨some 47, .mv, [.t 4], none⟩,
  ⟨some 48, .mv, [.t 5], none⟩,
  ⟨some 49, .indexAddr 2, [.t 47, .t 48], none⟩,
  ⟨some 50, .loadA 2, [.t 49], none⟩,
  ⟨some 51, .indexAddr 2, [.t 45, .t 46], none⟩,
  ⟨none, .store 2, [.t 51, .t 50], none⟩]
def a72r11 : List IOp := [⟨some 52, .mv, [.t 3], none⟩,
  ⟨some 53, .bin .add, [.t 52, .c (.int .i64 1)], none⟩,
  ⟨some 3, .mv, [.t 53], none⟩]
def a72r12 : List IOp := [⟨some 33, .mv, [.t 5], none⟩,
  ⟨some 34, .bin .add, [.t 33, .c (.int .i64 1)], none⟩,
  ⟨some 5, .mv, [.t 34], none⟩]
def a72r13 : List IOp := [⟨some 54, .mv, [.t 0], none⟩,
  ⟨some 55, .mv, [.t 3], none⟩,
  ⟨some 56, .slice true false 2, [.t 54, .t 55], none⟩,
  ⟨none, .clear 2 [.int .i64 0, .int .i64 0], [.t 56], none⟩]
def a72r14 : List IOp := [⟨some 57, .mv, [.t 0], none⟩,
  ⟨some 58, .mv, [.t 3], none⟩,
  ⟨some 59, .slice false true 2, [.t 57, .t 58], none⟩,
  ⟨some 2, .mv, [.t 59], none⟩]
def a72r15 : List IOp := [⟨some 14, .mv, [.t 3], none⟩,
  ⟨some 15, .bin .add, [.t 14, .c (.int .i64 1)], none⟩,
  ⟨some 3, .mv, [.t 15], none⟩]
def a72r16 : List IOp := [⟨some 60, .mv, [.t 0], none⟩,
  ⟨some 2, .mv, [.t 60], none⟩]
def a72 : AFunc := ⟨61, [.tmp 2], (.seq (.region a72r0 [0]) (.seq (.seq (.region a72r1 [0, 8]) (.cond (.t 8) (.seq (.region a72r2 [2]) .ret) .skip)) (.seq (.seq (.region a72r3 [0, 3]) (.block 0 (.loop (.seq (.seq (.region a72r4 [0, 3, 13]) (.cond (.t 13) .skip (.exit 0))) (.seq (.block 1 (.seq (.draw a72r5 [] [0, 3, 25]) (.cond (.t 25) (.seq (.region a72r6 [0, 3, 4]) (.seq (.seq (.region a72r7 [0, 3, 4, 5]) (.block 2 (.loop (.seq (.seq (.region a72r8 [0, 3, 4, 5, 32]) (.cond (.t 32) .skip (.exit 2))) (.seq (.block 3 (.seq (.draw a72r9 [] [0, 3, 4, 5, 44]) (.cond (.t 44) (.seq (.region a72r10 [0, 3, 4, 5]) (.region a72r11 [0, 3, 4, 5])) .skip))) (.region a72r12 [0, 3, 4, 5])))))) (.seq (.region a72r13 [0, 3]) (.seq (.region a72r14 [2]) .ret)))) .skip))) (.region a72r15 [0, 3])))))) (.seq (.region a72r16 [2]) .ret))))⟩
theorem a72_ok : compileF Try.prog (lk [(0, ⟨[0], [], []⟩), (1, ⟨[0, 8], [], []⟩), (2, ⟨[2], [], []⟩), (3, ⟨[0, 3], [], []⟩), (4, ⟨[0, 3, 13], [], []⟩), (5, ⟨[0, 3], [], []⟩), (6, ⟨[0, 3, 25], [[], [], [0, 1], [2, 0, 1], [], [], [5], [4, 6, 5], [7, 4, 6, 5], [3, 8, 2, 0, 1, 7, 4, 6, 5]], [0, 1, 2, 3, 4, 5, 6, 7, 8, 9]⟩), (7, ⟨[0, 3, 4], [], []⟩), (8, ⟨[0, 3, 4, 5], [], []⟩), (9, ⟨[0, 3, 4, 5, 32], [], []⟩), (10, ⟨[0, 3, 4, 5], [], []⟩), (11, ⟨[0, 3, 4, 5, 44], [[], [], [0, 1], [2, 0, 1], [], [], [5], [4, 6, 5], [7, 4, 6, 5], [3, 8, 2, 0, 1, 7, 4, 6, 5]], [0, 1, 2, 3, 4, 5, 6, 7, 8, 9]⟩), (12, ⟨[0, 3, 4, 5], [], []⟩), (13, ⟨[0, 3, 4, 5], [], []⟩), (14, ⟨[0, 3], [], []⟩), (15, ⟨[2], [], []⟩), (16, ⟨[2], [], []⟩)]) Try.f72 = some a72 := by kernel_rfl

/- payroll/payrollref8.check -/
def a73r0 : List IOp := [⟨some 2, .mv, [.c (.int .i64 0)], none⟩]
def a73r1 : List IOp := [⟨some 3, .mv, [.t 0], none⟩,
  ⟨some 4, .len, [.t 3], none⟩,
  ⟨some 5, .bin .gtr, [.t 4, .c (.int .i64 1024)], none⟩]
def a73r2 : List IOp := [⟨some 2, .mv, [.c (.int .i64 3)], none⟩]
def a73r3 : List IOp := [⟨some 6, .mv, [.t 0], none⟩,
  ⟨some 7, .call 69, [.t 6], none⟩,
  ⟨some 8, .not, [.t 7], none⟩]
def a73r4 : List IOp := [⟨some 2, .mv, [.c (.int .i64 1)], none⟩]
def a73r5 : List IOp := [⟨some 2, .mv, [.c (.int .i64 0)], none⟩]
def a73 : AFunc := ⟨9, [.tmp 2], (.seq (.region a73r0 [0]) (.seq (.seq (.region a73r1 [0, 5]) (.cond (.t 5) (.seq (.region a73r2 [2]) .ret) .skip)) (.seq (.seq (.region a73r3 [8]) (.cond (.t 8) (.seq (.region a73r4 [2]) .ret) .skip)) (.seq (.region a73r5 [2]) .ret))))⟩
theorem a73_ok : compileF Try.prog (lk [(0, ⟨[0], [], []⟩), (1, ⟨[0, 5], [], []⟩), (2, ⟨[2], [], []⟩), (3, ⟨[8], [], []⟩), (4, ⟨[2], [], []⟩), (5, ⟨[2], [], []⟩)]) Try.f73 = some a73 := by kernel_rfl

/- payroll/payrollref8.Counting -/
def a74r0 : List IOp := [⟨some 2, .mv, [.c (.nils)], none⟩]
def a74r1 : List IOp := [⟨some 6, .mv, [.t 0], none⟩,
  ⟨some 7, .call 70, [.t 6, .c (.nils)], none⟩,
  ⟨some 3, .mv, [.t 7], none⟩]
def a74r2 : List IOp := [⟨some 4, .mv, [.c (.nils)], none⟩]
def a74r3 : List IOp := [⟨some 5, .mv, [.c (.int .i64 0)], none⟩]
def a74r4 : List IOp := [⟨some 8, .mv, [.t 5], none⟩,
  ⟨some 9, .mv, [.t 3], none⟩,
  ⟨some 10, .len, [.t 9], none⟩,
  ⟨some 11, .bin .lss, [.t 8, .t 10], none⟩]
def a74r5 : List (Nat × DOp) := [(0, ⟨⟨some 14, .mv, [.t 5], none⟩, none, []⟩),
  (1, ⟨⟨some 15, .bin .eql, [.t 14, .c (.int .i64 0)], none⟩, none, []⟩),
  (2, ⟨⟨some 16, .mv, [.t 15], none⟩, none, []⟩),
  (3, ⟨⟨some 17, .mv, [.t 3], some (16, false)⟩, none, [4, 8, 9, 10, 11, 12, 13]⟩),
  (4, ⟨⟨some 18, .mv, [.t 5], some (16, false)⟩, none, [3, 8, 9, 10, 11, 12, 13]⟩),
  (5, ⟨⟨some 19, .indexAddr 7, [.t 17, .t 18], some (16, false)⟩, none, [8, 9, 10, 11, 12, 13]⟩),
  (6, ⟨⟨some 20, .fieldAddr 0, [.t 19], some (16, false)⟩, none, [8, 9, 10, 11, 12, 13]⟩),
  (7, ⟨⟨some 21, .loadA 2, [.t 20], some (16, false)⟩, none, [8, 9, 10, 11, 12, 13]⟩),
  (8, ⟨⟨some 22, .mv, [.t 3], some (16, false)⟩, none, [3, 4, 5, 6, 7, 9, 10]⟩),
  (9, ⟨⟨some 23, .mv, [.t 5], some (16, false)⟩, none, [3, 4, 5, 6, 7, 8]⟩),
  (10, ⟨⟨some 24, .bin .sub, [.t 23, .c (.int .i64 1)], some (16, false)⟩, none, [3, 4, 5, 6, 7, 8]⟩),
  (11, ⟨⟨some 25, .indexAddr 7, [.t 22, .t 24], some (16, false)⟩, none, [3, 4, 5, 6, 7]⟩),
  (12, ⟨⟨some 26, .fieldAddr 0, [.t 25], some (16, false)⟩, none, [3, 4, 5, 6, 7]⟩),
  (13, ⟨⟨some 27, .loadA 2, [.t 26], some (16, false)⟩, none, [3, 4, 5, 6, 7]⟩),
  (14, ⟨⟨some 28, .eqA true [.int .i64, .int .i64], [.t 21, .t 27], some (16, false)⟩, none, []⟩),
  (15, ⟨⟨some 29, .pick, [.t 16, .c (.bool true), .t 28], none⟩, none, []⟩)]
def a74r6 : List IOp := [⟨some 30, .mv, [.t 4], none⟩,
  ⟨some 31, .mv, [.t 3], none⟩,
  ⟨some 32, .mv, [.t 5], none⟩,
  ⟨some 33, .indexAddr 7, [.t 31, .t 32], none⟩,
  ⟨some 34, .loadA 7, [.t 33], none⟩,
  ⟨some 35, .bslice 64 7 [.int .i64 0, .int .i64 0, .int .i64 0, .int .i64 0, .int .i64 0, .int .i64 0, .int .i64 0] 1 [0], [.t 34], none⟩,
  ⟨some 36, .append 64 7 56, [.t 30, .t 35], none⟩,
  ⟨some 4, .mv, [.t 36], none⟩]
def a74r7 : List IOp := [⟨some 12, .mv, [.t 5], none⟩,
  ⟨some 13, .bin .add, [.t 12, .c (.int .i64 1)], none⟩,
  ⟨some 5, .mv, [.t 13], none⟩]
def a74r8 : List IOp := [⟨some 37, .mv, [.t 4], none⟩,
  ⟨some 2, .mv, [.t 37], none⟩]
def a74 : AFunc := ⟨38, [.tmp 2], (.seq (.region a74r0 [0]) (.seq (.region a74r1 [3]) (.seq (.region a74r2 [3, 4]) (.seq (.seq (.region a74r3 [3, 4, 5]) (.block 0 (.loop (.seq (.seq (.region a74r4 [3, 4, 5, 11]) (.cond (.t 11) .skip (.exit 0))) (.seq (.block 1 (.seq (.draw a74r5 [] [3, 4, 5, 29]) (.cond (.t 29) (.region a74r6 [3, 4, 5]) .skip))) (.region a74r7 [3, 4, 5])))))) (.seq (.region a74r8 [2]) .ret)))))⟩
theorem a74_ok : compileF Try.prog (lk [(0, ⟨[0], [], []⟩), (1, ⟨[3], [], []⟩), (2, ⟨[3, 4], [], []⟩), (3, ⟨[3, 4, 5], [], []⟩), (4, ⟨[3, 4, 5, 11], [], []⟩), (5, ⟨[3, 4, 5], [], []⟩), (6, ⟨[3, 4, 5, 29], [[], [0], [1, 0], [2, 1, 0], [2, 1, 0], [3, 4, 2, 1, 0], [5, 2, 3, 4, 1, 0], [6, 2, 5, 3, 4, 1, 0], [2, 1, 0], [2, 1, 0], [9, 2, 1, 0], [8, 10, 2, 1, 0, 9], [11, 2, 8, 10, 1, 0, 9], [12, 2, 11, 8, 10, 1, 0, 9], [7, 13, 2, 6, 5, 3, 4, 1, 0, 12, 11, 8, 10, 9], [2, 14, 1, 0, 7, 13, 6, 5, 3, 4, 12, 11, 8, 10, 9]], [0, 1, 2, 3, 4, 5, 6, 7, 8, 9, 10, 11, 12, 13, 14, 15]⟩), (7, ⟨[3, 4, 5], [], []⟩), (8, ⟨[2], [], []⟩)]) Try.f74 = some a74 := by kernel_rfl

/- payroll/records.Valid -/
def a75r0 : List IOp := [⟨some 1, .box 64 7, [.t 0], none⟩,
  ⟨some 2, .mv, [.c (.bool false)], none⟩]
def a75r1 : List IOp := [⟨some 3, .fieldAddr 0, [.t 1], none⟩,
  ⟨some 4, .loadA 2, [.t 3], none⟩,
  ⟨some 5, .call 83, [.t 4], none⟩,
  ⟨some 6, .not, [.t 5], none⟩,
  ⟨some 7, .mv, [.t 6], none⟩,
  ⟨some 8, .fieldAddr 2, [.t 1], some (7, false)⟩,
  ⟨some 9, .load1, [.t 8], some (7, false)⟩,
  ⟨some 10, .bin .lss, [.t 9, .c (.int .i64 1)], some (7, false)⟩,
  ⟨some 11, .pick, [.t 7, .c (.bool true), .t 10], none⟩,
  ⟨some 12, .mv, [.t 11], none⟩,
  ⟨some 13, .fieldAddr 2, [.t 1], some (12, false)⟩,
  ⟨some 14, .load1, [.t 13], some (12, false)⟩,
  ⟨some 15, .bin .gtr, [.t 14, .c (.int .i64 2147483647)], some (12, false)⟩,
  ⟨some 16, .pick, [.t 12, .c (.bool true), .t 15], none⟩,
  ⟨some 17, .mv, [.t 16], none⟩,
  ⟨some 18, .fieldAddr 3, [.t 1], some (17, false)⟩,
  ⟨some 19, .load1, [.t 18], some (17, false)⟩,
  ⟨some 20, .bin .lss, [.t 19, .c (.int .i64 0)], some (17, false)⟩,
  ⟨some 21, .pick, [.t 17, .c (.bool true), .t 20], none⟩,
  ⟨some 22, .mv, [.t 21], none⟩,
  ⟨some 23, .fieldAddr 3, [.t 1], some (22, false)⟩,
  ⟨some 24, .load1, [.t 23], some (22, false)⟩,
  ⟨some 25, .bin .gtr, [.t 24, .c (.int .i64 120968639)], some (22, false)⟩,
  ⟨some 26, .pick, [.t 22, .c (.bool true), .t 25], none⟩]
def a75r2 : List IOp := [⟨some 2, .mv, [.c (.bool false)], none⟩]
def a75r3 : List IOp := [⟨some 27, .fieldAddr 4, [.t 1], none⟩,
  ⟨some 28, .load1, [.t 27], none⟩]
def a75r4 : List IOp := [⟨some 30, .bin .eql, [.t 28, .c (.int .i64 1)], none⟩,
  ⟨some 29, .mv, [.t 30], none⟩]
def a75r5 : List IOp := [⟨some 31, .bin .eql, [.t 28, .c (.int .i64 2)], none⟩,
  ⟨some 29, .mv, [.t 31], none⟩]
def a75r6 : List IOp := [⟨some 32, .bin .eql, [.t 28, .c (.int .i64 3)], none⟩,
  ⟨some 29, .mv, [.t 32], none⟩]
def a75r7 : List IOp := [⟨some 33, .bin .eql, [.t 28, .c (.int .i64 4)], none⟩,
  ⟨some 29, .mv, [.t 33], none⟩]
def a75r8 : List IOp := [⟨some 34, .fieldAddr 5, [.t 1], none⟩,
  ⟨some 35, .loadA 2, [.t 34], none⟩,
  ⟨some 36, .build [.int .i64 0, .int .i64 0] [], [], none⟩,
  ⟨some 37, .eqA false [.int .i64, .int .i64], [.t 35, .t 36], none⟩,
  ⟨some 2, .mv, [.t 37], none⟩]
def a75r9 : List IOp := [⟨some 39, .bin .eql, [.t 28, .c (.int .i64 5)], none⟩,
  ⟨some 38, .mv, [.t 39], none⟩]
def a75r10 : List IOp := [⟨some 40, .bin .eql, [.t 28, .c (.int .i64 6)], none⟩,
  ⟨some 38, .mv, [.t 40], none⟩]
def a75r11 : List IOp := [⟨some 41, .fieldAddr 5, [.t 1], none⟩,
  ⟨some 42, .loadA 2, [.t 41], none⟩,
  ⟨some 43, .call 83, [.t 42], none⟩,
  ⟨some 2, .mv, [.t 43], none⟩]
def a75r12 : List IOp := [⟨some 2, .mv, [.c (.bool false)], none⟩]
def a75 : AFunc := ⟨44, [.tmp 2], (.seq (.region a75r0 [1]) (.seq (.seq (.region a75r1 [1, 26]) (.cond (.t 26) (.seq (.region a75r2 [2]) .ret) .skip)) (.seq (.seq (.region a75r3 [1, 28]) (.block 0 (.seq (.seq (.region a75r4 [1, 28, 29]) (.cond (.t 29) .skip (.seq (.region a75r5 [1, 28, 29]) (.cond (.t 29) .skip (.seq (.region a75r6 [1, 28, 29]) (.cond (.t 29) .skip (.region a75r7 [1, 28, 29]))))))) (.cond (.t 29) (.seq (.region a75r8 [2]) .ret) (.seq (.seq (.region a75r9 [1, 28, 38]) (.cond (.t 38) .skip (.region a75r10 [1, 38]))) (.cond (.t 38) (.seq (.region a75r11 [2]) .ret) .skip)))))) (.seq (.region a75r12 [2]) .ret))))⟩
theorem a75_ok : compileF Try.prog (lk [(0, ⟨[1], [], []⟩), (1, ⟨[1, 26], [], []⟩), (2, ⟨[2], [], []⟩), (3, ⟨[1, 28], [], []⟩), (4, ⟨[1, 28, 29], [], []⟩), (5, ⟨[1, 28, 29], [], []⟩), (6, ⟨[1, 28, 29], [], []⟩), (7, ⟨[1, 28, 29], [], []⟩), (8, ⟨[2], [], []⟩), (9, ⟨[1, 28, 38], [], []⟩), (10, ⟨[1, 38], [], []⟩), (11, ⟨[2], [], []⟩), (12, ⟨[2], [], []⟩)]) Try.f75 = some a75 := by kernel_rfl

/- slices.Concat[[]payroll/api.Event,payroll/api.Event] -/
def a76r0 : List IOp := [⟨some 2, .mv, [.c (.nils)], none⟩]
def a76r1 : List IOp := [⟨some 3, .mv, [.c (.int .i64 0)], none⟩]
def a76r2 : List IOp := [⟨some 9, .mv, [.t 0], none⟩,
  ⟨some 10, .len, [.t 9], none⟩,
  ⟨some 11, .mv, [.c (.int .i64 0)], none⟩]
def a76r3 : List IOp := [⟨some 12, .bin .lss, [.t 11, .t 10], none⟩]
def a76r4 : List IOp := [⟨some 13, .indexAddr 1, [.t 9, .t 11], none⟩,
  ⟨some 14, .load1, [.t 13], none⟩,
  ⟨some 5, .mv, [.t 14], none⟩]
def a76r5 : List IOp := [⟨some 15, .mv, [.t 3], none⟩,
  ⟨some 16, .mv, [.t 5], none⟩,
  ⟨some 17, .len, [.t 16], none⟩,
  ⟨some 18, .bin .add, [.t 15, .t 17], none⟩,
  ⟨some 3, .mv, [.t 18], none⟩]
def a76r6 : List IOp := [⟨some 19, .mv, [.t 3], none⟩,
  ⟨some 20, .bin .lss, [.t 19, .c (.int .i64 0)], none⟩]
def a76r7 : List IOp := [⟨some 21, .mv, [], none⟩,
  ⟨none, .mv, [], none⟩]
def a76r8 : List IOp := [⟨some 22, .bin .add, [.t 11, .c (.int .i64 1)], none⟩,
  ⟨some 11, .mv, [.t 22], none⟩]
def a76r9 : List IOp := [⟨some 23, .mv, [.t 3], none⟩,
  ⟨some 24, .call 84, [.c (.nils), .t 23], none⟩,
  ⟨some 6, .mv, [.t 24], none⟩]
def a76r10 : List IOp := [⟨some 25, .mv, [.t 0], none⟩,
  ⟨some 26, .len, [.t 25], none⟩,
  ⟨some 27, .mv, [.c (.int .i64 0)], none⟩]
def a76r11 : List IOp := [⟨some 28, .bin .lss, [.t 27, .t 26], none⟩]
def a76r12 : List IOp := [⟨some 29, .indexAddr 1, [.t 25, .t 27], none⟩,
  ⟨some 30, .load1, [.t 29], none⟩,
  ⟨some 8, .mv, [.t 30], none⟩]
def a76r13 : List IOp := [⟨some 31, .mv, [.t 6], none⟩,
  ⟨some 32, .mv, [.t 8], none⟩,
  ⟨some 33, .append 64 7 56, [.t 31, .t 32], none⟩,
  ⟨some 6, .mv, [.t 33], none⟩]
def a76r14 : List IOp := [⟨some 34, .bin .add, [.t 27, .c (.int .i64 1)], none⟩,
  ⟨some 27, .mv, [.t 34], none⟩]
def a76r15 : List IOp := [⟨some 35, .mv, [.t 6], none⟩,
  ⟨some 2, .mv, [.t 35], none⟩]
def a76 : AFunc := ⟨36, [.tmp 2], (.seq (.region a76r0 [0]) (.seq (.region a76r1 [0, 3]) (.seq (.seq (.region a76r2 [0, 3, 9, 10, 11]) (.block 0 (.loop (.seq (.region a76r3 [0, 3, 9, 10, 11, 12]) (.seq (.cond (.t 12) .skip (.exit 0)) (.seq (.block 1 (.seq (.region a76r4 [0, 3, 5, 9, 10, 11]) (.seq (.region a76r5 [0, 3, 9, 10, 11]) (.seq (.region a76r6 [0, 3, 9, 10, 11, 20]) (.cond (.t 20) (.region a76r7 [0, 3, 9, 10, 11]) .skip))))) (.region a76r8 [0, 3, 9, 10, 11]))))))) (.seq (.region a76r9 [0, 6]) (.seq (.seq (.region a76r10 [6, 25, 26, 27]) (.block 2 (.loop (.seq (.region a76r11 [6, 25, 26, 27, 28]) (.seq (.cond (.t 28) .skip (.exit 2)) (.seq (.block 3 (.seq (.region a76r12 [6, 8, 25, 26, 27]) (.region a76r13 [6, 25, 26, 27]))) (.region a76r14 [6, 25, 26, 27]))))))) (.seq (.region a76r15 [2]) .ret))))))⟩
theorem a76_ok : compileF Try.prog (lk [(0, ⟨[0], [], []⟩), (1, ⟨[0, 3], [], []⟩), (2, ⟨[0, 3, 9, 10, 11], [], []⟩), (3, ⟨[0, 3, 9, 10, 11, 12], [], []⟩), (4, ⟨[0, 3, 5, 9, 10, 11], [], []⟩), (5, ⟨[0, 3, 9, 10, 11], [], []⟩), (6, ⟨[0, 3, 9, 10, 11, 20], [], []⟩), (7, ⟨[0, 3, 9, 10, 11], [], []⟩), (8, ⟨[0, 3, 9, 10, 11], [], []⟩), (9, ⟨[0, 6], [], []⟩), (10, ⟨[6, 25, 26, 27], [], []⟩), (11, ⟨[6, 25, 26, 27, 28], [], []⟩), (12, ⟨[6, 8, 25, 26, 27], [], []⟩), (13, ⟨[6, 25, 26, 27], [], []⟩), (14, ⟨[6, 25, 26, 27], [], []⟩), (15, ⟨[2], [], []⟩)]) Try.f76 = some a76 := by kernel_rfl

/- slices.Compact[[]payroll/api.Event,payroll/api.Event] -/
def a78r0 : List IOp := [⟨some 2, .mv, [.c (.nils)], none⟩]
def a78r1 : List IOp := [⟨some 6, .mv, [.t 0], none⟩,
  ⟨some 7, .len, [.t 6], none⟩,
  ⟨some 8, .bin .lss, [.t 7, .c (.int .i64 2)], none⟩]
def a78r2 : List IOp := [⟨some 9, .mv, [.t 0], none⟩,
  ⟨some 2, .mv, [.t 9], none⟩]
def a78r3 : List IOp := [⟨some 3, .mv, [.c (.int .i64 1)], none⟩]
def a78r4 : List IOp := [⟨some 10, .mv, [.t 3], none⟩,
  ⟨some 11, .mv, [.t 0], none⟩,
  ⟨some 12, .len, [.t 11], none⟩,
  ⟨some 13, .bin .lss, [.t 10, .t 12], none⟩]
def a78r5 : List (Nat × DOp) := [(0, ⟨⟨some 16, .mv, [.t 0], none⟩, none, [1, 4, 5, 6, 7, 8]⟩),
  (1, ⟨⟨some 17, .mv, [.t 3], none⟩, none, [0, 4, 5, 6, 7, 8]⟩),
  (2, ⟨⟨some 18, .indexAddr 7, [.t 16, .t 17], none⟩, none, [4, 5, 6, 7, 8]⟩),
  (3, ⟨⟨some 19, .loadA 7, [.t 18], none⟩, none, [4, 5, 6, 7, 8]⟩),
  (4, ⟨⟨some 20, .mv, [.t 0], none⟩, none, [0, 1, 2, 3, 5, 6]⟩),
  (5, ⟨⟨some 21, .mv, [.t 3], none⟩, none, [0, 1, 2, 3, 4]⟩),
  (6, ⟨⟨some 22, .bin .sub, [.t 21, .c (.int .i64 1)], none⟩, none, [0, 1, 2, 3, 4]⟩),
  (7, ⟨⟨some 23, .indexAddr 7, [.t 20, .t 22], none⟩, none, [0, 1, 2, 3]⟩),
  (8, ⟨⟨some 24, .loadA 7, [.t 23], none⟩, none, [0, 1, 2, 3]⟩),
  (9, ⟨⟨some 25, .eqA false [.int .i64, .int .i64, .int .i64, .int .i64, .int .i64, .int .i64, .int .i64], [.t 19, .t 24], none⟩, none, []⟩)]
def a78r6 : List IOp := [⟨some 26, .mv, [.t 0], none⟩,
  ⟨some 27, .mv, [.t 3], none⟩,
  ⟨some 28, .slice true false 7, [.t 26, .t 27], none⟩,
  ⟨some 4, .mv, [.t 28], none⟩]
def a78r7 : List IOp := [⟨some 5, .mv, [.c (.int .i64 1)], none⟩]
def a78r8 : List IOp := [⟨some 29, .mv, [.t 5], none⟩,
  ⟨some 30, .mv, [.t 4], none⟩,
  ⟨some 31, .len, [.t 30], none⟩,
  ⟨some 32, .bin .lss, [.t 29, .t 31], none⟩]
def a78r9 : List (Nat × DOp) := [(0, ⟨⟨some 35, .mv, [.t 4], none⟩, none, [1, 4, 5, 6, 7, 8]⟩),
  (1, ⟨⟨some 36, .mv, [.t 5], none⟩, none, [0, 4, 5, 6, 7, 8]⟩),
  (2, ⟨⟨some 37, .indexAddr 7, [.t 35, .t 36], none⟩, none, [4, 5, 6, 7, 8]⟩),
  (3, ⟨⟨some 38, .loadA 7, [.t 37], none⟩, none, [4, 5, 6, 7, 8]⟩),
  (4, ⟨⟨some 39, .mv, [.t 4], none⟩, none, [0, 1, 2, 3, 5, 6]⟩),
  (5, ⟨⟨some 40, .mv, [.t 5], none⟩, none, [0, 1, 2, 3, 4]⟩),
  (6, ⟨⟨some 41, .bin .sub, [.t 40, .c (.int .i64 1)], none⟩, none, [0, 1, 2, 3, 4]⟩),
  (7, ⟨⟨some 42, .indexAddr 7, [.t 39, .t 41], none⟩, none, [0, 1, 2, 3]⟩),
  (8, ⟨⟨some 43, .loadA 7, [.t 42], none⟩, none, [0, 1, 2, 3]⟩),
  (9, ⟨⟨some 44, .eqA true [.int .i64, .int .i64, .int .i64, .int .i64, .int .i64, .int .i64, .int .i64], [.t 38, .t 43], none⟩, none, []⟩)]
def a78r10 : List IOp := [⟨some 45, .mv, [.t 0], none⟩,
  ⟨some 46, .mv, [.t 3], none⟩,
  ⟨some 47, .mv, [.t 4], none⟩,
  ⟨some 48, .mv, [.t 5], none⟩,
  ⟨some 49, .indexAddr 7, [.t 47, .t 48], none⟩,
  ⟨some 50, .loadA 7, [.t 49], none⟩,
  ⟨some 51, .indexAddr 7, [.t 45, .t 46], none⟩,
  ⟨none, .store 7, [.t 51, .t 50], none⟩]
def a78r11 : List IOp := [⟨some 52, .mv, [.t 3], none⟩,
  ⟨some 53, .bin .add, [.t 52, .c (.int .i64 1)], none⟩,
  ⟨some 3, .mv, [.t 53], none⟩]
def a78r12 : List IOp := [⟨some 33, .mv, [.t 5], none⟩,
  ⟨some 34, .bin .add, [.t 33, .c (.int .i64 1)], none⟩,
  ⟨some 5, .mv, [.t 34], none⟩]
def a78r13 : List IOp := [⟨some 54, .mv, [.t 0], none⟩,
  ⟨some 55, .mv, [.t 3], none⟩,
  ⟨some 56, .slice true false 7, [.t 54, .t 55], none⟩,
  ⟨none, .clear 7 [.int .i64 0, .int .i64 0, .int .i64 0, .int .i64 0, .int .i64 0, .int .i64 0, .int .i64 0], [.t 56], none⟩]
def a78r14 : List IOp := [⟨some 57, .mv, [.t 0], none⟩,
  ⟨some 58, .mv, [.t 3], none⟩,
  ⟨some 59, .slice false true 7, [.t 57, .t 58], none⟩,
  ⟨some 2, .mv, [.t 59], none⟩]
def a78r15 : List IOp := [⟨some 14, .mv, [.t 3], none⟩,
  ⟨some 15, .bin .add, [.t 14, .c (.int .i64 1)], none⟩,
  ⟨some 3, .mv, [.t 15], none⟩]
def a78r16 : List IOp := [⟨some 60, .mv, [.t 0], none⟩,
  ⟨some 2, .mv, [.t 60], none⟩]
def a78 : AFunc := ⟨61, [.tmp 2], (.seq (.region a78r0 [0]) (.seq (.seq (.region a78r1 [0, 8]) (.cond (.t 8) (.seq (.region a78r2 [2]) .ret) .skip)) (.seq (.seq (.region a78r3 [0, 3]) (.block 0 (.loop (.seq (.seq (.region a78r4 [0, 3, 13]) (.cond (.t 13) .skip (.exit 0))) (.seq (.block 1 (.seq (.draw a78r5 [] [0, 3, 25]) (.cond (.t 25) (.seq (.region a78r6 [0, 3, 4]) (.seq (.seq (.region a78r7 [0, 3, 4, 5]) (.block 2 (.loop (.seq (.seq (.region a78r8 [0, 3, 4, 5, 32]) (.cond (.t 32) .skip (.exit 2))) (.seq (.block 3 (.seq (.draw a78r9 [] [0, 3, 4, 5, 44]) (.cond (.t 44) (.seq (.region a78r10 [0, 3, 4, 5]) (.region a78r11 [0, 3, 4, 5])) .skip))) (.region a78r12 [0, 3, 4, 5])))))) (.seq (.region a78r13 [0, 3]) (.seq (.region a78r14 [2]) .ret)))) .skip))) (.region a78r15 [0, 3])))))) (.seq (.region a78r16 [2]) .ret))))⟩
theorem a78_ok : compileF Try.prog (lk [(0, ⟨[0], [], []⟩), (1, ⟨[0, 8], [], []⟩), (2, ⟨[2], [], []⟩), (3, ⟨[0, 3], [], []⟩), (4, ⟨[0, 3, 13], [], []⟩), (5, ⟨[0, 3], [], []⟩), (6, ⟨[0, 3, 25], [[], [], [0, 1], [2, 0, 1], [], [], [5], [4, 6, 5], [7, 4, 6, 5], [3, 8, 2, 0, 1, 7, 4, 6, 5]], [0, 1, 2, 3, 4, 5, 6, 7, 8, 9]⟩), (7, ⟨[0, 3, 4], [], []⟩), (8, ⟨[0, 3, 4, 5], [], []⟩), (9, ⟨[0, 3, 4, 5, 32], [], []⟩), (10, ⟨[0, 3, 4, 5], [], []⟩), (11, ⟨[0, 3, 4, 5, 44], [[], [], [0, 1], [2, 0, 1], [], [], [5], [4, 6, 5], [7, 4, 6, 5], [3, 8, 2, 0, 1, 7, 4, 6, 5]], [0, 1, 2, 3, 4, 5, 6, 7, 8, 9]⟩), (12, ⟨[0, 3, 4, 5], [], []⟩), (13, ⟨[0, 3, 4, 5], [], []⟩), (14, ⟨[0, 3], [], []⟩), (15, ⟨[2], [], []⟩), (16, ⟨[2], [], []⟩)]) Try.f78 = some a78 := by kernel_rfl

/- payroll/payrollref7.Valid -/
def a82r0 : List IOp := [⟨some 1, .box 64 7, [.t 0], none⟩,
  ⟨some 2, .mv, [.c (.bool false)], none⟩]
def a82r1 : List IOp := [⟨some 3, .fieldAddr 0, [.t 1], none⟩,
  ⟨some 4, .loadA 2, [.t 3], none⟩,
  ⟨some 5, .call 104, [.t 4], none⟩,
  ⟨some 6, .not, [.t 5], none⟩,
  ⟨some 7, .mv, [.t 6], none⟩,
  ⟨some 8, .fieldAddr 2, [.t 1], some (7, false)⟩,
  ⟨some 9, .load1, [.t 8], some (7, false)⟩,
  ⟨some 10, .bin .lss, [.t 9, .c (.int .i64 1)], some (7, false)⟩,
  ⟨some 11, .pick, [.t 7, .c (.bool true), .t 10], none⟩,
  ⟨some 12, .mv, [.t 11], none⟩,
  ⟨some 13, .fieldAddr 2, [.t 1], some (12, false)⟩,
  ⟨some 14, .load1, [.t 13], some (12, false)⟩,
  ⟨some 15, .bin .gtr, [.t 14, .c (.int .i64 2147483647)], some (12, false)⟩,
  ⟨some 16, .pick, [.t 12, .c (.bool true), .t 15], none⟩,
  ⟨some 17, .mv, [.t 16], none⟩,
  ⟨some 18, .fieldAddr 3, [.t 1], some (17, false)⟩,
  ⟨some 19, .load1, [.t 18], some (17, false)⟩,
  ⟨some 20, .bin .lss, [.t 19, .c (.int .i64 0)], some (17, false)⟩,
  ⟨some 21, .pick, [.t 17, .c (.bool true), .t 20], none⟩,
  ⟨some 22, .mv, [.t 21], none⟩,
  ⟨some 23, .fieldAddr 3, [.t 1], some (22, false)⟩,
  ⟨some 24, .load1, [.t 23], some (22, false)⟩,
  ⟨some 25, .bin .gtr, [.t 24, .c (.int .i64 120968639)], some (22, false)⟩,
  ⟨some 26, .pick, [.t 22, .c (.bool true), .t 25], none⟩,
  ⟨some 27, .mv, [.t 26], none⟩,
  ⟨some 28, .fieldAddr 4, [.t 1], some (27, false)⟩,
  ⟨some 29, .load1, [.t 28], some (27, false)⟩,
  ⟨some 30, .bin .lss, [.t 29, .c (.int .i64 1)], some (27, false)⟩,
  ⟨some 31, .pick, [.t 27, .c (.bool true), .t 30], none⟩,
  ⟨some 32, .mv, [.t 31], none⟩,
  ⟨some 33, .fieldAddr 4, [.t 1], some (32, false)⟩,
  ⟨some 34, .load1, [.t 33], some (32, false)⟩,
  ⟨some 35, .bin .gtr, [.t 34, .c (.int .i64 6)], some (32, false)⟩,
  ⟨some 36, .pick, [.t 32, .c (.bool true), .t 35], none⟩]
def a82r2 : List IOp := [⟨some 2, .mv, [.c (.bool false)], none⟩]
def a82r3 : List IOp := [⟨some 37, .fieldAddr 4, [.t 1], none⟩,
  ⟨some 38, .load1, [.t 37], none⟩,
  ⟨some 39, .bin .eql, [.t 38, .c (.int .i64 5)], none⟩,
  ⟨some 40, .mv, [.t 39], none⟩,
  ⟨some 41, .fieldAddr 4, [.t 1], some (40, false)⟩,
  ⟨some 42, .load1, [.t 41], some (40, false)⟩,
  ⟨some 43, .bin .eql, [.t 42, .c (.int .i64 6)], some (40, false)⟩,
  ⟨some 44, .pick, [.t 40, .c (.bool true), .t 43], none⟩]
def a82r4 : List IOp := [⟨some 45, .fieldAddr 5, [.t 1], none⟩,
  ⟨some 46, .loadA 2, [.t 45], none⟩,
  ⟨some 47, .call 104, [.t 46], none⟩,
  ⟨some 2, .mv, [.t 47], none⟩]
def a82r5 : List IOp := [⟨some 48, .fieldAddr 5, [.t 1], none⟩,
  ⟨some 49, .loadA 2, [.t 48], none⟩,
  ⟨some 50, .build [.int .i64 0, .int .i64 0] [], [], none⟩,
  ⟨some 51, .eqA false [.int .i64, .int .i64], [.t 49, .t 50], none⟩,
  ⟨some 2, .mv, [.t 51], none⟩]
def a82 : AFunc := ⟨52, [.tmp 2], (.seq (.region a82r0 [1]) (.seq (.seq (.region a82r1 [1, 36]) (.cond (.t 36) (.seq (.region a82r2 [2]) .ret) .skip)) (.seq (.seq (.region a82r3 [1, 44]) (.cond (.t 44) (.seq (.region a82r4 [2]) .ret) .skip)) (.seq (.region a82r5 [2]) .ret))))⟩
theorem a82_ok : compileF Try.prog (lk [(0, ⟨[1], [], []⟩), (1, ⟨[1, 36], [], []⟩), (2, ⟨[2], [], []⟩), (3, ⟨[1, 44], [], []⟩), (4, ⟨[2], [], []⟩), (5, ⟨[2], [], []⟩)]) Try.f82 = some a82 := by kernel_rfl

/- payroll/records.validKey -/
def a83r0 : List IOp := [⟨some 1, .box 62 2, [.t 0], none⟩,
  ⟨some 2, .mv, [.c (.bool false)], none⟩]
def a83r1 : List IOp := [⟨some 3, .fieldAddr 0, [.t 1], none⟩,
  ⟨some 4, .load1, [.t 3], none⟩,
  ⟨some 5, .bin .geq, [.t 4, .c (.int .i64 0)], none⟩,
  ⟨some 6, .mv, [.t 5], none⟩,
  ⟨some 7, .fieldAddr 0, [.t 1], some (6, true)⟩,
  ⟨some 8, .load1, [.t 7], some (6, true)⟩,
  ⟨some 9, .bin .leq, [.t 8, .c (.int .i64 65535)], some (6, true)⟩,
  ⟨some 10, .pick, [.t 6, .t 9, .c (.bool false)], none⟩,
  ⟨some 11, .mv, [.t 10], none⟩,
  ⟨some 12, .fieldAddr 1, [.t 1], some (11, true)⟩,
  ⟨some 13, .load1, [.t 12], some (11, true)⟩,
  ⟨some 14, .bin .geq, [.t 13, .c (.int .i64 0)], some (11, true)⟩,
  ⟨some 15, .pick, [.t 11, .t 14, .c (.bool false)], none⟩,
  ⟨some 16, .mv, [.t 15], none⟩,
  ⟨some 17, .fieldAddr 1, [.t 1], some (16, true)⟩,
  ⟨some 18, .load1, [.t 17], some (16, true)⟩,
  ⟨some 19, .bin .leq, [.t 18, .c (.int .i64 2147483647)], some (16, true)⟩,
  ⟨some 20, .pick, [.t 16, .t 19, .c (.bool false)], none⟩,
  ⟨some 2, .mv, [.t 20], none⟩]
def a83 : AFunc := ⟨21, [.tmp 2], (.seq (.region a83r0 [1]) (.seq (.region a83r1 [2]) .ret))⟩
theorem a83_ok : compileF Try.prog (lk [(0, ⟨[1], [], []⟩), (1, ⟨[2], [], []⟩)]) Try.f83 = some a83 := by kernel_rfl

/- slices.Grow[[]payroll/api.Event,payroll/api.Event] -/
def a84r0 : List IOp := [⟨some 4, .mv, [.c (.nils)], none⟩]
def a84r1 : List IOp := [⟨some 5, .mv, [.t 1], none⟩,
  ⟨some 6, .bin .lss, [.t 5, .c (.int .i64 0)], none⟩]
def a84r2 : List IOp := [⟨some 7, .mv, [], none⟩,
  ⟨none, .mv, [], none⟩]
def a84r3 : List IOp := [⟨some 8, .mv, [.t 1], none⟩,
  ⟨some 9, .mv, [.t 0], none⟩,
  ⟨some 10, .cap, [.t 9], none⟩,
  ⟨some 11, .mv, [.t 0], none⟩,
  ⟨some 12, .len, [.t 11], none⟩,
  ⟨some 13, .bin .sub, [.t 10, .t 12], none⟩,
  ⟨some 14, .bin .sub, [.t 8, .t 13], none⟩,
  ⟨some 1, .mv, [.t 14], none⟩]
def a84r4 : List IOp := [⟨some 15, .mv, [.t 1], none⟩,
  ⟨some 16, .bin .gtr, [.t 15, .c (.int .i64 0)], none⟩]
def a84r5 : List IOp := [⟨some 17, .mv, [.t 0], none⟩,
  ⟨some 18, .mv, [.t 0], none⟩,
  ⟨some 19, .cap, [.t 18], none⟩,
  ⟨some 20, .slice false true 7, [.t 17, .t 19], none⟩,
  ⟨some 21, .mv, [.t 1], none⟩,
  ⟨some 22, .appendZ 64 7 56 [.int .i64 0, .int .i64 0, .int .i64 0, .int .i64 0, .int .i64 0, .int .i64 0, .int .i64 0], [.t 20, .t 21], none⟩,
  ⟨some 23, .mv, [.t 0], none⟩,
  ⟨some 24, .len, [.t 23], none⟩,
  ⟨some 25, .slice false true 7, [.t 22, .t 24], none⟩,
  ⟨some 0, .mv, [.t 25], none⟩]
def a84r6 : List IOp := [⟨some 26, .mv, [.t 0], none⟩,
  ⟨some 4, .mv, [.t 26], none⟩]
def a84 : AFunc := ⟨27, [.tmp 4], (.seq (.region a84r0 [0, 1]) (.seq (.seq (.region a84r1 [0, 1, 6]) (.cond (.t 6) (.region a84r2 [0, 1]) .skip)) (.seq (.seq (.region a84r3 [0, 1]) (.seq (.region a84r4 [0, 1, 16]) (.cond (.t 16) (.region a84r5 [0]) .skip))) (.seq (.region a84r6 [4]) .ret))))⟩
theorem a84_ok : compileF Try.prog (lk [(0, ⟨[0, 1], [], []⟩), (1, ⟨[0, 1, 6], [], []⟩), (2, ⟨[0, 1], [], []⟩), (3, ⟨[0, 1], [], []⟩), (4, ⟨[0, 1, 16], [], []⟩), (5, ⟨[0], [], []⟩), (6, ⟨[4], [], []⟩)]) Try.f84 = some a84 := by kernel_rfl

/- payroll/payrollref7.key -/
def a104r0 : List IOp := [⟨some 1, .box 62 2, [.t 0], none⟩,
  ⟨some 2, .mv, [.c (.bool false)], none⟩]
def a104r1 : List IOp := [⟨some 3, .fieldAddr 0, [.t 1], none⟩,
  ⟨some 4, .load1, [.t 3], none⟩,
  ⟨some 5, .bin .geq, [.t 4, .c (.int .i64 0)], none⟩,
  ⟨some 6, .mv, [.t 5], none⟩,
  ⟨some 7, .fieldAddr 0, [.t 1], some (6, true)⟩,
  ⟨some 8, .load1, [.t 7], some (6, true)⟩,
  ⟨some 9, .bin .leq, [.t 8, .c (.int .i64 65535)], some (6, true)⟩,
  ⟨some 10, .pick, [.t 6, .t 9, .c (.bool false)], none⟩,
  ⟨some 11, .mv, [.t 10], none⟩,
  ⟨some 12, .fieldAddr 1, [.t 1], some (11, true)⟩,
  ⟨some 13, .load1, [.t 12], some (11, true)⟩,
  ⟨some 14, .bin .geq, [.t 13, .c (.int .i64 0)], some (11, true)⟩,
  ⟨some 15, .pick, [.t 11, .t 14, .c (.bool false)], none⟩,
  ⟨some 16, .mv, [.t 15], none⟩,
  ⟨some 17, .fieldAddr 1, [.t 1], some (16, true)⟩,
  ⟨some 18, .load1, [.t 17], some (16, true)⟩,
  ⟨some 19, .bin .leq, [.t 18, .c (.int .i64 2147483647)], some (16, true)⟩,
  ⟨some 20, .pick, [.t 16, .t 19, .c (.bool false)], none⟩,
  ⟨some 2, .mv, [.t 20], none⟩]
def a104 : AFunc := ⟨21, [.tmp 2], (.seq (.region a104r0 [1]) (.seq (.region a104r1 [2]) .ret))⟩
theorem a104_ok : compileF Try.prog (lk [(0, ⟨[1], [], []⟩), (1, ⟨[2], [], []⟩)]) Try.f104 = some a104 := by kernel_rfl

end Go.Proofs.Ytodbafiepdcfbaa
