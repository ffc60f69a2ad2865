/- The abstract forms of the functions, printed by a program, and that the given program has these forms. -/
import Derived.Test.YtjacobmkfkmdiaaAbsMd
import Derived.Test.YtjacobmkfkmdiaaProg
import Derived.KernelRfl
set_option linter.unusedSimpArgs false
set_option linter.unusedVariables false
set_option linter.unusedSectionVars false
namespace Go.Proofs.Ytjacobmkfkmdiaa
open Go Go.Abs
/- payroll/payrolllaw11.WorktimeMinutes -/
def a7r0 : List IOp := [⟨some 4, .mv, [.c (.bool false)], none⟩]
def a7r1 : List IOp := [⟨some 8, .mv, [.t 0], none⟩,
  ⟨some 9, .call 20, [.t 8], none⟩,
  ⟨some 5, .mv, [.t 9], none⟩]
def a7r2 : List IOp := [⟨some 10, .mv, [.t 5], none⟩,
  ⟨some 11, .call 29, [.t 10, .c (.int .i64 3)], none⟩,
  ⟨some 6, .mv, [.t 11], none⟩]
def a7r3 : List IOp := [⟨some 7, .mv, [.c (.int .i64 0)], none⟩]
def a7r4 : List IOp := [⟨some 12, .mv, [.t 7], none⟩,
  ⟨some 13, .mv, [.t 6], none⟩,
  ⟨some 14, .len, [.t 13], none⟩,
  ⟨some 15, .bin .lss, [.t 12, .t 14], none⟩]
def a7r5 : List (Nat × DOp) := [(0, ⟨⟨some 18, .mv, [.t 6], none⟩, none, [1, 6, 7, 8, 9, 10]⟩),
  (1, ⟨⟨some 19, .mv, [.t 7], none⟩, none, [0, 6, 7, 8, 9, 10]⟩),
  (2, ⟨⟨some 20, .indexAddr 2, [.t 18, .t 19], none⟩, none, [6, 7, 8, 9, 10]⟩),
  (3, ⟨⟨some 21, .fieldAddr 1, [.t 20], none⟩, none, [6, 7, 8, 9, 10]⟩),
  (4, ⟨⟨some 22, .load1, [.t 21], none⟩, none, [6, 7, 8, 9, 10]⟩),
  (6, ⟨⟨some 24, .mv, [.t 6], none⟩, none, [0, 1, 2, 3, 4, 5, 7]⟩),
  (7, ⟨⟨some 25, .mv, [.t 7], none⟩, none, [0, 1, 2, 3, 4, 5, 6]⟩),
  (8, ⟨⟨some 26, .indexAddr 2, [.t 24, .t 25], none⟩, none, [0, 1, 2, 3, 4, 5]⟩),
  (9, ⟨⟨some 27, .fieldAddr 1, [.t 26], none⟩, none, [0, 1, 2, 3, 4, 5]⟩),
  (10, ⟨⟨some 28, .load1, [.t 27], none⟩, none, [0, 1, 2, 3, 4, 5]⟩),
  (5, ⟨⟨some 23, .call 30, [.t 22], none⟩, none, [6, 7, 8, 9, 10]⟩),
  (11, ⟨⟨some 29, .call 31, [.t 28], none⟩, none, []⟩),
  (12, ⟨⟨some 30, .bin .neq, [.t 23, .t 29], none⟩, none, []⟩)]
def a7r6 : List IOp := [⟨some 4, .mv, [.c (.bool false)], none⟩]
def a7r7 : List IOp := [⟨some 16, .mv, [.t 7], none⟩,
  ⟨some 17, .bin .add, [.t 16, .c (.int .i64 1)], none⟩,
  ⟨some 7, .mv, [.t 17], none⟩]
def a7r8 : List IOp := [⟨some 31, .mv, [.t 1], none⟩,
  ⟨some 32, .len, [.t 31], none⟩,
  ⟨some 33, .bin .gtr, [.t 32, .c (.int .i64 2000)], none⟩,
  ⟨some 34, .mv, [.t 33], none⟩,
  ⟨some 35, .mv, [.t 1], some (34, false)⟩,
  ⟨some 36, .call 30, [.t 35], some (34, false)⟩,
  ⟨some 37, .mv, [.t 1], some (34, false)⟩,
  ⟨some 38, .call 32, [.t 37], some (34, false)⟩,
  ⟨some 39, .bin .eql, [.t 36, .t 38], some (34, false)⟩,
  ⟨some 40, .pick, [.t 34, .c (.bool true), .t 39], none⟩,
  ⟨some 41, .mv, [.t 40], none⟩,
  ⟨some 42, .call 33, [], some (41, true)⟩,
  ⟨some 43, .pick, [.t 41, .t 42, .c (.bool false)], none⟩,
  ⟨some 4, .mv, [.t 43], none⟩]
def a7 : AFunc := ⟨44, [.tmp 4], (.seq (.region a7r0 [0, 1]) (.seq (.region a7r1 [1, 5]) (.seq (.region a7r2 [1, 6]) (.seq (.seq (.region a7r3 [1, 6, 7]) (.block 0 (.loop (.seq (.seq (.region a7r4 [1, 6, 7, 15]) (.cond (.t 15) .skip (.exit 0))) (.seq (.block 1 (.seq (.draw a7r5 [] [1, 6, 7, 30]) (.cond (.t 30) (.seq (.region a7r6 [4]) .ret) .skip))) (.region a7r7 [1, 6, 7])))))) (.seq (.region a7r8 [4]) .ret)))))⟩
theorem a7_ok : compileF Try.prog (lk [(0, ⟨[0, 1], [], []⟩), (1, ⟨[1, 5], [], []⟩), (2, ⟨[1, 6], [], []⟩), (3, ⟨[1, 6, 7], [], []⟩), (4, ⟨[1, 6, 7, 15], [], []⟩), (5, ⟨[1, 6, 7], [], []⟩), (6, ⟨[1, 6, 7, 30], [[], [], [0, 1], [2, 0, 1], [3, 2, 0, 1], [4, 3, 2, 0, 1], [], [], [6, 7], [8, 6, 7], [9, 8, 6, 7], [10, 5, 9, 8, 6, 7, 4, 3, 2, 0, 1], [5, 11, 4, 3, 2, 0, 1, 10, 9, 8, 6, 7]], [0, 1, 2, 3, 4, 6, 7, 8, 9, 10, 5, 11, 12]⟩), (7, ⟨[4], [], []⟩), (8, ⟨[4], [], []⟩)]) Try.f7 = some a7 := by kernel_rfl

/- payroll/payrolllaw11.WorktimeSound -/
def a8r0 : List IOp := [⟨some 2, .mv, [.c (.bool false)], none⟩]
def a8r1 : List IOp := [⟨some 14, .mv, [.t 0], none⟩,
  ⟨some 15, .call 20, [.t 14], none⟩,
  ⟨some 3, .mv, [.t 15], none⟩]
def a8r2 : List IOp := [⟨some 16, .mv, [.t 3], none⟩,
  ⟨some 17, .call 34, [.t 16, .c (.bool false)], none⟩,
  ⟨some 4, .alloc 63 [.int .i64 0, .int .i64 0, .int .i64 0, .nils], [], none⟩,
  ⟨none, .store 4, [.t 4, .t 17], none⟩]
def a8r3 : List IOp := [⟨some 19, .mv, [.t 3], none⟩,
  ⟨some 20, .call 35, [.t 19], none⟩,
  ⟨some 18, .mv, [.t 20], none⟩,
  ⟨some 21, .extract 0, [.t 18], none⟩,
  ⟨some 22, .extract 1, [.t 18], none⟩,
  ⟨some 5, .alloc 66 [.int .i64 0, .int .i64 0, .nils], [], none⟩,
  ⟨some 6, .alloc 26 [.int .i64 0, .int .i64 0], [], none⟩,
  ⟨none, .store 3, [.t 5, .t 21], none⟩,
  ⟨none, .store 2, [.t 6, .t 22], none⟩]
def a8r4 : List IOp := [⟨some 24, .loadA 4, [.t 4], none⟩,
  ⟨some 25, .loadA 2, [.t 6], none⟩,
  ⟨some 26, .loadA 3, [.t 5], none⟩,
  ⟨some 27, .call 36, [.t 24, .t 25, .t 26], none⟩,
  ⟨some 23, .mv, [.t 27], none⟩,
  ⟨some 28, .extract 0, [.t 23], none⟩,
  ⟨some 29, .extract 1, [.t 23], none⟩,
  ⟨some 7, .alloc 59 [.int .i64 0, .nils], [], none⟩,
  ⟨none, .store 2, [.t 7, .t 28], none⟩,
  ⟨some 8, .mv, [.t 29], none⟩]
def a8r5 : List IOp := [⟨some 30, .mv, [.t 8], none⟩,
  ⟨some 31, .bin .neq, [.t 30, .c (.int .i64 0)], none⟩,
  ⟨some 32, .mv, [.t 31], none⟩,
  ⟨some 33, .fieldAddr 0, [.t 7], some (32, false)⟩,
  ⟨some 34, .load1, [.t 33], some (32, false)⟩,
  ⟨some 35, .fieldAddr 1, [.t 5], some (32, false)⟩,
  ⟨some 36, .load1, [.t 35], some (32, false)⟩,
  ⟨some 37, .bin .neq, [.t 34, .t 36], some (32, false)⟩,
  ⟨some 38, .pick, [.t 32, .c (.bool true), .t 37], none⟩]
def a8r6 : List IOp := [⟨some 2, .mv, [.c (.bool false)], none⟩]
def a8r7 : List IOp := [⟨some 9, .mv, [.c (.int .i64 0)], none⟩]
def a8r8 : List IOp := [⟨some 39, .mv, [.t 9], none⟩,
  ⟨some 40, .fieldAddr 1, [.t 7], none⟩,
  ⟨some 41, .load1, [.t 40], none⟩,
  ⟨some 42, .len, [.t 41], none⟩,
  ⟨some 43, .bin .lss, [.t 39, .t 42], none⟩]
def a8r9 : List IOp := [⟨some 46, .fieldAddr 1, [.t 7], none⟩,
  ⟨some 47, .load1, [.t 46], none⟩,
  ⟨some 48, .mv, [.t 9], none⟩,
  ⟨some 49, .indexAddr 2, [.t 47, .t 48], none⟩,
  ⟨some 50, .loadA 2, [.t 49], none⟩,
  ⟨some 10, .alloc 26 [.int .i64 0, .int .i64 0], [], none⟩,
  ⟨none, .store 2, [.t 10, .t 50], none⟩]
def a8r10 : List (Nat × DOp) := [(0, ⟨⟨some 51, .fieldAddr 0, [.t 10], none⟩, none, [2, 3]⟩),
  (1, ⟨⟨some 52, .load1, [.t 51], none⟩, none, [2, 3]⟩),
  (2, ⟨⟨some 53, .fieldAddr 1, [.t 10], none⟩, none, [0, 1]⟩),
  (3, ⟨⟨some 54, .load1, [.t 53], none⟩, none, [0, 1]⟩),
  (4, ⟨⟨some 55, .bin .geq, [.t 52, .t 54], none⟩, none, []⟩),
  (5, ⟨⟨some 56, .mv, [.t 55], none⟩, none, []⟩),
  (6, ⟨⟨some 57, .mv, [.t 9], some (56, false)⟩, none, []⟩),
  (7, ⟨⟨some 58, .bin .gtr, [.t 57, .c (.int .i64 0)], some (56, false)⟩, none, []⟩),
  (8, ⟨⟨some 59, .mv, [.t 58], some (56, false)⟩, none, []⟩),
  (9, ⟨⟨some 60, .fieldAddr 0, [.t 10], some (59, true)⟩, none, [11, 12, 13, 14, 15, 16, 17]⟩),
  (10, ⟨⟨some 61, .load1, [.t 60], some (59, true)⟩, none, [11, 12, 13, 14, 15, 16, 17]⟩),
  (11, ⟨⟨some 62, .fieldAddr 1, [.t 7], some (59, true)⟩, none, [9, 10, 13, 14]⟩),
  (12, ⟨⟨some 63, .load1, [.t 62], some (59, true)⟩, none, [9, 10, 13, 14]⟩),
  (13, ⟨⟨some 64, .mv, [.t 9], some (59, true)⟩, none, [9, 10, 11, 12]⟩),
  (14, ⟨⟨some 65, .bin .sub, [.t 64, .c (.int .i64 1)], some (59, true)⟩, none, [9, 10, 11, 12]⟩),
  (15, ⟨⟨some 66, .indexAddr 2, [.t 63, .t 65], some (59, true)⟩, none, [9, 10]⟩),
  (16, ⟨⟨some 67, .fieldAddr 1, [.t 66], some (59, true)⟩, none, [9, 10]⟩),
  (17, ⟨⟨some 68, .load1, [.t 67], some (59, true)⟩, none, [9, 10]⟩),
  (18, ⟨⟨some 69, .bin .leq, [.t 61, .t 68], some (59, true)⟩, none, []⟩),
  (19, ⟨⟨some 70, .pick, [.t 59, .t 69, .c (.bool false)], some (56, false)⟩, none, []⟩),
  (20, ⟨⟨some 71, .pick, [.t 56, .c (.bool true), .t 70], none⟩, none, []⟩)]
def a8r11 : List IOp := [⟨some 2, .mv, [.c (.bool false)], none⟩]
def a8r12 : List IOp := [⟨some 11, .mv, [.c (.int .i64 0)], none⟩]
def a8r13 : List IOp := [⟨some 72, .mv, [.t 11], none⟩,
  ⟨some 73, .fieldAddr 2, [.t 5], none⟩,
  ⟨some 74, .load1, [.t 73], none⟩,
  ⟨some 75, .len, [.t 74], none⟩,
  ⟨some 76, .bin .lss, [.t 72, .t 75], none⟩]
def a8r14 : List IOp := [⟨some 12, .mv, [.c (.int .i64 0)], none⟩]
def a8r15 : List IOp := [⟨some 79, .mv, [.t 12], none⟩,
  ⟨some 80, .fieldAddr 2, [.t 5], none⟩,
  ⟨some 81, .load1, [.t 80], none⟩,
  ⟨some 82, .mv, [.t 11], none⟩,
  ⟨some 83, .indexAddr 3, [.t 81, .t 82], none⟩,
  ⟨some 84, .fieldAddr 2, [.t 83], none⟩,
  ⟨some 85, .load1, [.t 84], none⟩,
  ⟨some 86, .len, [.t 85], none⟩,
  ⟨some 87, .bin .lss, [.t 79, .t 86], none⟩]
def a8r16 : List IOp := [⟨some 90, .fieldAddr 2, [.t 5], none⟩,
  ⟨some 91, .load1, [.t 90], none⟩,
  ⟨some 92, .mv, [.t 11], none⟩,
  ⟨some 93, .indexAddr 3, [.t 91, .t 92], none⟩,
  ⟨some 94, .fieldAddr 2, [.t 93], none⟩,
  ⟨some 95, .load1, [.t 94], none⟩,
  ⟨some 96, .mv, [.t 12], none⟩,
  ⟨some 97, .indexAddr 2, [.t 95, .t 96], none⟩,
  ⟨some 98, .loadA 2, [.t 97], none⟩,
  ⟨some 13, .alloc 26 [.int .i64 0, .int .i64 0], [], none⟩,
  ⟨none, .store 2, [.t 13, .t 98], none⟩]
def a8r17 : List IOp := [⟨some 99, .fieldAddr 0, [.t 13], none⟩,
  ⟨some 100, .load1, [.t 99], none⟩,
  ⟨some 101, .fieldAddr 1, [.t 10], none⟩,
  ⟨some 102, .load1, [.t 101], none⟩,
  ⟨some 103, .bin .lss, [.t 100, .t 102], none⟩,
  ⟨some 104, .mv, [.t 103], none⟩,
  ⟨some 105, .fieldAddr 0, [.t 10], some (104, true)⟩,
  ⟨some 106, .load1, [.t 105], some (104, true)⟩,
  ⟨some 107, .fieldAddr 1, [.t 13], some (104, true)⟩,
  ⟨some 108, .load1, [.t 107], some (104, true)⟩,
  ⟨some 109, .bin .lss, [.t 106, .t 108], some (104, true)⟩,
  ⟨some 110, .pick, [.t 104, .t 109, .c (.bool false)], none⟩]
def a8r18 : List IOp := [⟨some 2, .mv, [.c (.bool false)], none⟩]
def a8r19 : List IOp := [⟨some 88, .mv, [.t 12], none⟩,
  ⟨some 89, .bin .add, [.t 88, .c (.int .i64 1)], none⟩,
  ⟨some 12, .mv, [.t 89], none⟩]
def a8r20 : List IOp := [⟨some 77, .mv, [.t 11], none⟩,
  ⟨some 78, .bin .add, [.t 77, .c (.int .i64 1)], none⟩,
  ⟨some 11, .mv, [.t 78], none⟩]
def a8r21 : List IOp := [⟨some 44, .mv, [.t 9], none⟩,
  ⟨some 45, .bin .add, [.t 44, .c (.int .i64 1)], none⟩,
  ⟨some 9, .mv, [.t 45], none⟩]
def a8r22 : List IOp := [⟨some 111, .call 33, [], none⟩,
  ⟨some 2, .mv, [.t 111], none⟩]
def a8 : AFunc := ⟨112, [.tmp 2], (.seq (.region a8r0 [0]) (.seq (.region a8r1 [3]) (.seq (.region a8r2 [3, 4]) (.seq (.region a8r3 [4, 5, 6]) (.seq (.region a8r4 [5, 7, 8]) (.seq (.seq (.region a8r5 [5, 7, 38]) (.cond (.t 38) (.seq (.region a8r6 [2]) .ret) .skip)) (.seq (.seq (.region a8r7 [5, 7, 9]) (.block 0 (.loop (.seq (.seq (.region a8r8 [5, 7, 9, 43]) (.cond (.t 43) .skip (.exit 0))) (.seq (.block 1 (.seq (.region a8r9 [5, 7, 9, 10]) (.seq (.seq (.draw a8r10 [] [5, 7, 9, 10, 71]) (.cond (.t 71) (.seq (.region a8r11 [2]) .ret) .skip)) (.seq (.region a8r12 [5, 7, 9, 10, 11]) (.block 2 (.loop (.seq (.seq (.region a8r13 [5, 7, 9, 10, 11, 76]) (.cond (.t 76) .skip (.exit 2))) (.seq (.block 3 (.seq (.region a8r14 [5, 7, 9, 10, 11, 12]) (.block 4 (.loop (.seq (.seq (.region a8r15 [5, 7, 9, 10, 11, 12, 87]) (.cond (.t 87) .skip (.exit 4))) (.seq (.block 5 (.seq (.region a8r16 [5, 7, 9, 10, 11, 12, 13]) (.seq (.region a8r17 [5, 7, 9, 10, 11, 12, 110]) (.cond (.t 110) (.seq (.region a8r18 [2]) .ret) .skip)))) (.region a8r19 [5, 7, 9, 10, 11, 12]))))))) (.region a8r20 [5, 7, 9, 10, 11]))))))))) (.region a8r21 [5, 7, 9])))))) (.seq (.region a8r22 [2]) .ret))))))))⟩
theorem a8_ok : compileF Try.prog (lk [(0, ⟨[0], [], []⟩), (1, ⟨[3], [], []⟩), (2, ⟨[3, 4], [], []⟩), (3, ⟨[4, 5, 6], [], []⟩), (4, ⟨[5, 7, 8], [], []⟩), (5, ⟨[5, 7, 38], [], []⟩), (6, ⟨[2], [], []⟩), (7, ⟨[5, 7, 9], [], []⟩), (8, ⟨[5, 7, 9, 43], [], []⟩), (9, ⟨[5, 7, 9], [], []⟩), (10, ⟨[5, 7, 9, 10], [], []⟩), (11, ⟨[5, 7, 9, 10, 71], [[], [0], [], [2], [1, 3, 0, 2], [4, 1, 3, 0, 2], [5, 4, 1, 3, 0, 2], [6, 5, 4, 1, 3, 0, 2], [7, 5, 6, 4, 1, 3, 0, 2], [8, 7, 5, 6, 4, 1, 3, 0, 2], [9, 8, 7, 5, 6, 4, 1, 3, 0, 2], [8, 7, 5, 6, 4, 1, 3, 0, 2], [11, 8, 7, 5, 6, 4, 1, 3, 0, 2], [8, 7, 5, 6, 4, 1, 3, 0, 2], [13, 8, 7, 5, 6, 4, 1, 3, 0, 2], [12, 14, 8, 11, 7, 5, 6, 4, 1, 3, 0, 2, 13], [15, 8, 12, 14, 11, 7, 5, 6, 4, 1, 3, 0, 2, 13], [16, 8, 15, 12, 14, 11, 7, 5, 6, 4, 1, 3, 0, 2, 13], [10, 17, 8, 9, 7, 5, 6, 4, 1, 3, 0, 2, 16, 15, 12, 14, 11, 13], [8, 18, 5, 7, 6, 4, 1, 3, 0, 2, 10, 17, 9, 16, 15, 12, 14, 11, 13], [5, 19, 4, 1, 3, 0, 2, 8, 18, 7, 6, 10, 17, 9, 16, 15, 12, 14, 11, 13]], [0, 1, 2, 3, 4, 5, 6, 7, 8, 9, 10, 11, 12, 13, 14, 15, 16, 17, 18, 19, 20]⟩), (12, ⟨[2], [], []⟩), (13, ⟨[5, 7, 9, 10, 11], [], []⟩), (14, ⟨[5, 7, 9, 10, 11, 76], [], []⟩), (15, ⟨[5, 7, 9, 10, 11], [], []⟩), (16, ⟨[5, 7, 9, 10, 11, 12], [], []⟩), (17, ⟨[5, 7, 9, 10, 11, 12, 87], [], []⟩), (18, ⟨[5, 7, 9, 10, 11, 12], [], []⟩), (19, ⟨[5, 7, 9, 10, 11, 12, 13], [], []⟩), (20, ⟨[5, 7, 9, 10, 11, 12, 110], [], []⟩), (21, ⟨[2], [], []⟩), (22, ⟨[2], [], []⟩)]) Try.f8 = some a8 := by kernel_rfl

/- payroll/payrolllaw11.WorktimeNeverMore -/
def a9r0 : List IOp := [⟨some 4, .mv, [.c (.bool false)], none⟩]
def a9r1 : List IOp := [⟨some 17, .mv, [.t 0], none⟩,
  ⟨some 18, .call 20, [.t 17], none⟩,
  ⟨some 5, .mv, [.t 18], none⟩]
def a9r2 : List IOp := [⟨some 20, .mv, [.t 5], none⟩,
  ⟨some 21, .call 35, [.t 20], none⟩,
  ⟨some 19, .mv, [.t 21], none⟩,
  ⟨some 22, .extract 0, [.t 19], none⟩,
  ⟨some 23, .extract 1, [.t 19], none⟩,
  ⟨some 6, .alloc 66 [.int .i64 0, .int .i64 0, .nils], [], none⟩,
  ⟨some 7, .alloc 26 [.int .i64 0, .int .i64 0], [], none⟩,
  ⟨none, .store 3, [.t 6, .t 22], none⟩,
  ⟨none, .store 2, [.t 7, .t 23], none⟩]
def a9r3 : List IOp := [⟨some 24, .mv, [.t 1], none⟩,
  ⟨some 25, .call 14, [.t 24, .c (.int .i64 60)], none⟩,
  ⟨some 26, .bin .add, [.c (.int .i64 1), .t 25], none⟩,
  ⟨some 8, .mv, [.t 26], none⟩]
def a9r4 : List IOp := [⟨some 28, .mv, [.t 8], none⟩,
  ⟨some 29, .build [.int .i64 0, .int .i64 0, .int .i64 0, .nils] [(0, 1), (1, 1)], [.t 28, .c (.int .i64 1)], none⟩,
  ⟨some 30, .build [.int .i64 0, .int .i64 0] [], [], none⟩,
  ⟨some 31, .loadA 3, [.t 6], none⟩,
  ⟨some 32, .call 36, [.t 29, .t 30, .t 31], none⟩,
  ⟨some 27, .mv, [.t 32], none⟩,
  ⟨some 33, .extract 0, [.t 27], none⟩,
  ⟨some 34, .extract 1, [.t 27], none⟩,
  ⟨some 9, .alloc 59 [.int .i64 0, .nils], [], none⟩,
  ⟨none, .store 2, [.t 9, .t 33], none⟩,
  ⟨some 10, .mv, [.t 34], none⟩]
def a9r5 : List IOp := [⟨some 36, .mv, [.t 8], none⟩,
  ⟨some 37, .build [.int .i64 0, .int .i64 0, .int .i64 0, .nils] [(0, 1), (1, 1)], [.t 36, .c (.int .i64 2)], none⟩,
  ⟨some 38, .build [.int .i64 0, .int .i64 0] [], [], none⟩,
  ⟨some 39, .loadA 3, [.t 6], none⟩,
  ⟨some 40, .call 36, [.t 37, .t 38, .t 39], none⟩,
  ⟨some 35, .mv, [.t 40], none⟩,
  ⟨some 41, .extract 0, [.t 35], none⟩,
  ⟨some 42, .extract 1, [.t 35], none⟩,
  ⟨some 11, .alloc 59 [.int .i64 0, .nils], [], none⟩,
  ⟨none, .store 2, [.t 11, .t 41], none⟩,
  ⟨some 12, .mv, [.t 42], none⟩]
def a9r6 : List IOp := [⟨some 44, .build [.int .i64 0, .int .i64 0, .int .i64 0, .nils] [], [], none⟩,
  ⟨some 45, .build [.int .i64 0, .int .i64 0] [], [], none⟩,
  ⟨some 46, .loadA 3, [.t 6], none⟩,
  ⟨some 47, .call 36, [.t 44, .t 45, .t 46], none⟩,
  ⟨some 43, .mv, [.t 47], none⟩,
  ⟨some 48, .extract 0, [.t 43], none⟩,
  ⟨some 49, .extract 1, [.t 43], none⟩,
  ⟨some 13, .alloc 59 [.int .i64 0, .nils], [], none⟩,
  ⟨none, .store 2, [.t 13, .t 48], none⟩,
  ⟨some 14, .mv, [.t 49], none⟩]
def a9r7 : List IOp := [⟨some 15, .mv, [.c (.int .i64 0)], none⟩]
def a9r8 : List IOp := [⟨some 16, .mv, [.c (.int .i64 0)], none⟩]
def a9r9 : List IOp := [⟨some 50, .mv, [.t 16], none⟩,
  ⟨some 51, .fieldAddr 2, [.t 6], none⟩,
  ⟨some 52, .load1, [.t 51], none⟩,
  ⟨some 53, .len, [.t 52], none⟩,
  ⟨some 54, .bin .lss, [.t 50, .t 53], none⟩]
def a9r10 : List IOp := [⟨some 57, .mv, [.t 15], none⟩,
  ⟨some 58, .fieldAddr 2, [.t 6], none⟩,
  ⟨some 59, .load1, [.t 58], none⟩,
  ⟨some 60, .mv, [.t 16], none⟩,
  ⟨some 61, .indexAddr 3, [.t 59, .t 60], none⟩,
  ⟨some 62, .loadA 3, [.t 61], none⟩,
  ⟨some 63, .call 24, [.t 62], none⟩,
  ⟨some 64, .bin .add, [.t 57, .t 63], none⟩,
  ⟨some 15, .mv, [.t 64], none⟩]
def a9r11 : List IOp := [⟨some 55, .mv, [.t 16], none⟩,
  ⟨some 56, .bin .add, [.t 55, .c (.int .i64 1)], none⟩,
  ⟨some 16, .mv, [.t 56], none⟩]
def a9r12 : List IOp := [⟨some 65, .mv, [.t 10], none⟩,
  ⟨some 66, .bin .eql, [.t 65, .c (.int .i64 0)], none⟩,
  ⟨some 67, .mv, [.t 66], none⟩,
  ⟨some 68, .mv, [.t 12], some (67, true)⟩,
  ⟨some 69, .bin .eql, [.t 68, .c (.int .i64 0)], some (67, true)⟩,
  ⟨some 70, .pick, [.t 67, .t 69, .c (.bool false)], none⟩,
  ⟨some 71, .mv, [.t 70], none⟩,
  ⟨some 72, .mv, [.t 14], some (71, true)⟩,
  ⟨some 73, .bin .eql, [.t 72, .c (.int .i64 0)], some (71, true)⟩,
  ⟨some 74, .pick, [.t 71, .t 73, .c (.bool false)], none⟩,
  ⟨some 75, .mv, [.t 74], none⟩,
  ⟨some 76, .fieldAddr 1, [.t 9], some (75, true)⟩,
  ⟨some 77, .load1, [.t 76], some (75, true)⟩,
  ⟨some 78, .call 30, [.t 77], some (75, true)⟩,
  ⟨some 79, .mv, [.t 15], some (75, true)⟩,
  ⟨some 80, .bin .leq, [.t 78, .t 79], some (75, true)⟩,
  ⟨some 81, .pick, [.t 75, .t 80, .c (.bool false)], none⟩,
  ⟨some 82, .mv, [.t 81], none⟩,
  ⟨some 83, .fieldAddr 1, [.t 11], some (82, true)⟩,
  ⟨some 84, .load1, [.t 83], some (82, true)⟩,
  ⟨some 85, .call 30, [.t 84], some (82, true)⟩,
  ⟨some 86, .mv, [.t 15], some (82, true)⟩,
  ⟨some 87, .bin .geq, [.t 85, .t 86], some (82, true)⟩,
  ⟨some 88, .pick, [.t 82, .t 87, .c (.bool false)], none⟩,
  ⟨some 89, .mv, [.t 88], none⟩,
  ⟨some 90, .fieldAddr 1, [.t 13], some (89, true)⟩,
  ⟨some 91, .load1, [.t 90], some (89, true)⟩,
  ⟨some 92, .call 30, [.t 91], some (89, true)⟩,
  ⟨some 93, .mv, [.t 15], some (89, true)⟩,
  ⟨some 94, .bin .eql, [.t 92, .t 93], some (89, true)⟩,
  ⟨some 95, .pick, [.t 89, .t 94, .c (.bool false)], none⟩,
  ⟨some 96, .mv, [.t 95], none⟩,
  ⟨some 97, .call 33, [], some (96, true)⟩,
  ⟨some 98, .pick, [.t 96, .t 97, .c (.bool false)], none⟩,
  ⟨some 4, .mv, [.t 98], none⟩]
def a9 : AFunc := ⟨99, [.tmp 4], (.seq (.region a9r0 [0, 1]) (.seq (.region a9r1 [1, 5]) (.seq (.region a9r2 [1, 6]) (.seq (.region a9r3 [6, 8]) (.seq (.region a9r4 [6, 8, 9, 10]) (.seq (.region a9r5 [6, 9, 10, 11, 12]) (.seq (.region a9r6 [6, 9, 10, 11, 12, 13, 14]) (.seq (.region a9r7 [6, 9, 10, 11, 12, 13, 14, 15]) (.seq (.seq (.region a9r8 [6, 9, 10, 11, 12, 13, 14, 15, 16]) (.block 0 (.loop (.seq (.seq (.region a9r9 [6, 9, 10, 11, 12, 13, 14, 15, 16, 54]) (.cond (.t 54) .skip (.exit 0))) (.seq (.block 1 (.region a9r10 [6, 9, 10, 11, 12, 13, 14, 15, 16])) (.region a9r11 [6, 9, 10, 11, 12, 13, 14, 15, 16])))))) (.seq (.region a9r12 [4]) .ret))))))))))⟩
theorem a9_ok : compileF Try.prog (lk [(0, ⟨[0, 1], [], []⟩), (1, ⟨[1, 5], [], []⟩), (2, ⟨[1, 6], [], []⟩), (3, ⟨[6, 8], [], []⟩), (4, ⟨[6, 8, 9, 10], [], []⟩), (5, ⟨[6, 9, 10, 11, 12], [], []⟩), (6, ⟨[6, 9, 10, 11, 12, 13, 14], [], []⟩), (7, ⟨[6, 9, 10, 11, 12, 13, 14, 15], [], []⟩), (8, ⟨[6, 9, 10, 11, 12, 13, 14, 15, 16], [], []⟩), (9, ⟨[6, 9, 10, 11, 12, 13, 14, 15, 16, 54], [], []⟩), (10, ⟨[6, 9, 10, 11, 12, 13, 14, 15, 16], [], []⟩), (11, ⟨[6, 9, 10, 11, 12, 13, 14, 15, 16], [], []⟩), (12, ⟨[4], [], []⟩)]) Try.f9 = some a9 := by kernel_rfl

/- (*payroll/payrollgen.Tape).Works -/
def a29r0 : List IOp := [⟨some 4, .mv, [.c (.nils)], none⟩]
def a29r1 : List IOp := [⟨some 5, .mv, [.c (.nils)], none⟩]
def a29r2 : List IOp := [⟨some 12, .mv, [.t 0], none⟩,
  ⟨some 13, .call 38, [.t 12, .c (.int .i64 3)], none⟩,
  ⟨some 14, .bin .mul, [.t 13, .c (.int .i64 1440)], none⟩,
  ⟨some 15, .bin .sub, [.c (.int .i64 29453760), .t 14], none⟩,
  ⟨some 6, .mv, [.t 15], none⟩]
def a29r3 : List IOp := [⟨some 16, .mv, [.t 0], none⟩,
  ⟨some 17, .mv, [.t 1], none⟩,
  ⟨some 18, .bin .add, [.t 17, .c (.int .i64 1)], none⟩,
  ⟨some 19, .call 38, [.t 16, .t 18], none⟩,
  ⟨some 7, .mv, [.t 19], none⟩]
def a29r4 : List IOp := [⟨some 20, .mv, [.t 7], none⟩,
  ⟨some 21, .bin .gtr, [.t 20, .c (.int .i64 0)], none⟩]
def a29r5 : List IOp := [⟨some 24, .mv, [.t 6], none⟩,
  ⟨some 25, .bin .quo, [.t 24, .c (.int .i64 1440)], none⟩,
  ⟨some 26, .mv, [.t 0], none⟩,
  ⟨some 27, .call 38, [.t 26, .c (.int .i64 5)], none⟩,
  ⟨some 28, .bin .quo, [.t 27, .c (.int .i64 4)], none⟩,
  ⟨some 29, .bin .sub, [.t 25, .t 28], none⟩,
  ⟨some 30, .build [.int .i64 0, .nils] [(0, 1)], [.t 29], none⟩,
  ⟨some 8, .alloc 59 [.int .i64 0, .nils], [], none⟩,
  ⟨none, .store 2, [.t 8, .t 30], none⟩]
def a29r6 : List IOp := [⟨some 31, .mv, [.t 0], none⟩,
  ⟨some 32, .call 38, [.t 31, .c (.int .i64 2)], none⟩,
  ⟨some 33, .bin .add, [.c (.int .i64 1), .t 32], none⟩,
  ⟨some 9, .mv, [.t 33], none⟩]
def a29r7 : List IOp := [⟨some 34, .mv, [.t 9], none⟩,
  ⟨some 35, .bin .gtr, [.t 34, .c (.int .i64 0)], none⟩]
def a29r8 : List IOp := [⟨some 38, .mv, [.t 6], none⟩,
  ⟨some 39, .mv, [.t 0], none⟩,
  ⟨some 40, .bslice 3 1 [.int .i64 0] 4 [0, 1, 2, 3], [.c (.int .i64 0), .c (.int .i64 30), .c (.int .i64 400), .c (.int .i64 1)], none⟩,
  ⟨some 41, .call 52, [.t 39, .t 40], none⟩,
  ⟨some 42, .bin .add, [.t 38, .t 41], none⟩,
  ⟨some 6, .mv, [.t 42], none⟩]
def a29r9 : List IOp := [⟨some 43, .mv, [.t 0], none⟩,
  ⟨some 44, .bslice 3 1 [.int .i64 0] 4 [0, 1, 2, 3], [.c (.int .i64 240), .c (.int .i64 60), .c (.int .i64 480), .c (.int .i64 1)], none⟩,
  ⟨some 45, .call 52, [.t 43, .t 44], none⟩,
  ⟨some 10, .mv, [.t 45], none⟩]
def a29r10 : List IOp := [⟨some 46, .fieldAddr 1, [.t 8], none⟩,
  ⟨some 47, .load1, [.t 46], none⟩,
  ⟨some 48, .mv, [.t 6], none⟩,
  ⟨some 49, .mv, [.t 6], none⟩,
  ⟨some 50, .mv, [.t 10], none⟩,
  ⟨some 51, .bin .add, [.t 49, .t 50], none⟩,
  ⟨some 52, .build [.int .i64 0, .int .i64 0] [(0, 1), (1, 1)], [.t 48, .t 51], none⟩,
  ⟨some 53, .bslice 26 2 [.int .i64 0, .int .i64 0] 1 [0], [.t 52], none⟩,
  ⟨some 54, .append 26 2 16, [.t 47, .t 53], none⟩,
  ⟨some 55, .fieldAddr 1, [.t 8], none⟩,
  ⟨none, .store 1, [.t 55, .t 54], none⟩]
def a29r11 : List IOp := [⟨some 56, .mv, [.t 6], none⟩,
  ⟨some 57, .mv, [.t 10], none⟩,
  ⟨some 58, .bin .add, [.t 56, .t 57], none⟩,
  ⟨some 6, .mv, [.t 58], none⟩]
def a29r12 : List IOp := [⟨some 36, .mv, [.t 9], none⟩,
  ⟨some 37, .bin .sub, [.t 36, .c (.int .i64 1)], none⟩,
  ⟨some 9, .mv, [.t 37], none⟩]
def a29r13 : List IOp := [⟨some 59, .mv, [.t 5], none⟩,
  ⟨some 60, .loadA 2, [.t 8], none⟩,
  ⟨some 61, .bslice 59 2 [.int .i64 0, .nils] 1 [0], [.t 60], none⟩,
  ⟨some 62, .append 59 2 32, [.t 59, .t 61], none⟩,
  ⟨some 5, .mv, [.t 62], none⟩]
def a29r14 : List IOp := [⟨some 63, .mv, [.t 6], none⟩,
  ⟨some 64, .mv, [.t 0], none⟩,
  ⟨some 65, .bslice 3 1 [.int .i64 0] 4 [0, 1, 2, 3], [.c (.int .i64 600), .c (.int .i64 0), .c (.int .i64 1440), .c (.int .i64 60)], none⟩,
  ⟨some 66, .call 52, [.t 64, .t 65], none⟩,
  ⟨some 67, .bin .add, [.t 63, .t 66], none⟩,
  ⟨some 6, .mv, [.t 67], none⟩]
def a29r15 : List IOp := [⟨some 22, .mv, [.t 7], none⟩,
  ⟨some 23, .bin .sub, [.t 22, .c (.int .i64 1)], none⟩,
  ⟨some 7, .mv, [.t 23], none⟩]
def a29r16 : List IOp := [⟨some 68, .mv, [.t 5], none⟩,
  ⟨some 69, .len, [.t 68], none⟩,
  ⟨some 70, .bin .gtr, [.t 69, .c (.int .i64 1)], none⟩,
  ⟨some 71, .mv, [.t 70], none⟩,
  ⟨some 72, .mv, [.t 0], some (71, true)⟩,
  ⟨some 73, .call 38, [.t 72, .c (.int .i64 2)], some (71, true)⟩,
  ⟨some 74, .bin .eql, [.t 73, .c (.int .i64 0)], some (71, true)⟩,
  ⟨some 75, .pick, [.t 71, .t 74, .c (.bool false)], none⟩]
def a29r17 : List IOp := [⟨some 76, .mv, [.t 0], none⟩,
  ⟨some 77, .mv, [.t 5], none⟩,
  ⟨some 78, .len, [.t 77], none⟩,
  ⟨some 79, .call 38, [.t 76, .t 78], none⟩,
  ⟨some 11, .mv, [.t 79], none⟩]
def a29r18 : List (Nat × DOp) := [(0, ⟨⟨some 80, .mv, [.t 5], none⟩, none, [1, 2, 3, 4, 5, 6, 7, 8, 9]⟩),
  (1, ⟨⟨some 81, .mv, [.t 5], none⟩, none, [0, 2, 3, 4, 5, 6, 7, 8, 9, 10, 11]⟩),
  (2, ⟨⟨some 82, .mv, [.t 11], none⟩, none, [0, 1, 3, 4, 5, 6, 7, 8, 9, 10, 11]⟩),
  (3, ⟨⟨some 83, .mv, [.t 5], none⟩, none, [0, 1, 2, 4, 7, 8, 9]⟩),
  (4, ⟨⟨some 84, .mv, [.t 11], none⟩, none, [0, 1, 2, 3, 7, 8, 9]⟩),
  (5, ⟨⟨some 85, .indexAddr 2, [.t 83, .t 84], none⟩, none, [0, 1, 2, 7, 8, 9]⟩),
  (6, ⟨⟨some 86, .loadA 2, [.t 85], none⟩, none, [0, 1, 2, 7, 8, 9]⟩),
  (7, ⟨⟨some 87, .mv, [.t 5], none⟩, none, [0, 1, 2, 3, 4, 5, 6]⟩),
  (8, ⟨⟨some 88, .indexAddr 2, [.t 87, .c (.int .i64 0)], none⟩, none, [0, 1, 2, 3, 4, 5, 6]⟩),
  (9, ⟨⟨some 89, .loadA 2, [.t 88], none⟩, none, [0, 1, 2, 3, 4, 5, 6]⟩),
  (10, ⟨⟨some 90, .indexAddr 2, [.t 80, .c (.int .i64 0)], none⟩, none, [1, 2]⟩),
  (11, ⟨⟨none, .store 2, [.t 90, .t 86], none⟩, none, [1, 2]⟩),
  (12, ⟨⟨some 91, .indexAddr 2, [.t 81, .t 82], none⟩, none, []⟩),
  (13, ⟨⟨none, .store 2, [.t 91, .t 89], none⟩, none, []⟩)]
def a29r19 : List IOp := [⟨some 92, .mv, [.t 5], none⟩,
  ⟨some 4, .mv, [.t 92], none⟩]
def a29 : AFunc := ⟨93, [.tmp 4], (.seq (.region a29r0 [0, 1]) (.seq (.region a29r1 [0, 1, 5]) (.seq (.region a29r2 [0, 1, 5, 6]) (.seq (.seq (.region a29r3 [0, 5, 6, 7]) (.block 0 (.loop (.seq (.seq (.region a29r4 [0, 5, 6, 7, 21]) (.cond (.t 21) .skip (.exit 0))) (.seq (.block 1 (.seq (.region a29r5 [0, 5, 6, 7, 8]) (.seq (.seq (.region a29r6 [0, 5, 6, 7, 8, 9]) (.block 2 (.loop (.seq (.seq (.region a29r7 [0, 5, 6, 7, 8, 9, 35]) (.cond (.t 35) .skip (.exit 2))) (.seq (.block 3 (.seq (.region a29r8 [0, 5, 6, 7, 8, 9]) (.seq (.region a29r9 [0, 5, 6, 7, 8, 9, 10]) (.seq (.region a29r10 [0, 5, 6, 7, 8, 9, 10]) (.region a29r11 [0, 5, 6, 7, 8, 9]))))) (.region a29r12 [0, 5, 6, 7, 8, 9])))))) (.seq (.region a29r13 [0, 5, 6, 7]) (.region a29r14 [0, 5, 6, 7]))))) (.region a29r15 [0, 5, 6, 7])))))) (.seq (.seq (.region a29r16 [0, 5, 75]) (.cond (.t 75) (.seq (.region a29r17 [5, 11]) (.draw a29r18 [] [5])) .skip)) (.seq (.region a29r19 [4]) .ret))))))⟩
theorem a29_ok : compileF Try.prog (lk [(0, ⟨[0, 1], [], []⟩), (1, ⟨[0, 1, 5], [], []⟩), (2, ⟨[0, 1, 5, 6], [], []⟩), (3, ⟨[0, 5, 6, 7], [], []⟩), (4, ⟨[0, 5, 6, 7, 21], [], []⟩), (5, ⟨[0, 5, 6, 7], [], []⟩), (6, ⟨[0, 5, 6, 7, 8], [], []⟩), (7, ⟨[0, 5, 6, 7, 8, 9], [], []⟩), (8, ⟨[0, 5, 6, 7, 8, 9, 35], [], []⟩), (9, ⟨[0, 5, 6, 7, 8, 9], [], []⟩), (10, ⟨[0, 5, 6, 7, 8, 9], [], []⟩), (11, ⟨[0, 5, 6, 7, 8, 9, 10], [], []⟩), (12, ⟨[0, 5, 6, 7, 8, 9, 10], [], []⟩), (13, ⟨[0, 5, 6, 7, 8, 9], [], []⟩), (14, ⟨[0, 5, 6, 7], [], []⟩), (15, ⟨[0, 5, 6, 7], [], []⟩), (16, ⟨[0, 5, 75], [], []⟩), (17, ⟨[5, 11], [], []⟩), (18, ⟨[5], [[], [], [], [], [], [3, 4], [5, 3, 4], [], [7], [8, 7], [0, 3, 4, 5, 6, 9, 8, 7], [10, 6, 0, 3, 4, 5, 9, 8, 7], [1, 2, 0, 3, 4, 5, 6, 7, 8, 9, 10, 11], [12, 9, 11, 0, 1, 2, 3, 4, 5, 6, 7, 8, 10]], [0, 1, 2, 3, 4, 5, 6, 7, 8, 9, 10, 11, 12, 13]⟩), (19, ⟨[4], [], []⟩)]) Try.f29 = some a29 := by kernel_rfl

/- payroll/worktime.Minutes -/
def a30r0 : List IOp := [⟨some 2, .mv, [.c (.int .i64 0)], none⟩]
def a30r1 : List IOp := [⟨some 3, .mv, [.c (.int .i64 0)], none⟩]
def a30r2 : List IOp := [⟨some 6, .mv, [.t 0], none⟩,
  ⟨some 7, .mv, [.t 0], none⟩,
  ⟨some 8, .len, [.t 7], none⟩,
  ⟨some 9, .minmax false, [.t 8, .c (.int .i64 1024)], none⟩,
  ⟨some 10, .slice false true 2, [.t 6, .t 9], none⟩,
  ⟨some 11, .len, [.t 10], none⟩,
  ⟨some 12, .mv, [.c (.int .i64 0)], none⟩]
def a30r3 : List IOp := [⟨some 13, .bin .lss, [.t 12, .t 11], none⟩]
def a30r4 : List IOp := [⟨some 14, .indexAddr 2, [.t 10, .t 12], none⟩,
  ⟨some 15, .loadA 2, [.t 14], none⟩,
  ⟨some 5, .alloc 26 [.int .i64 0, .int .i64 0], [], none⟩,
  ⟨none, .store 2, [.t 5, .t 15], none⟩]
def a30r5 : List IOp := [⟨some 16, .loadA 2, [.t 5], none⟩,
  ⟨some 17, .call 55, [.t 16], none⟩]
def a30r6 : List IOp := [⟨some 18, .mv, [.t 3], none⟩,
  ⟨some 19, .fieldAddr 1, [.t 5], none⟩,
  ⟨some 20, .load1, [.t 19], none⟩,
  ⟨some 21, .fieldAddr 0, [.t 5], none⟩,
  ⟨some 22, .load1, [.t 21], none⟩,
  ⟨some 23, .bin .sub, [.t 20, .t 22], none⟩,
  ⟨some 24, .bin .add, [.t 18, .t 23], none⟩,
  ⟨some 3, .mv, [.t 24], none⟩]
def a30r7 : List IOp := [⟨some 25, .bin .add, [.t 12, .c (.int .i64 1)], none⟩,
  ⟨some 12, .mv, [.t 25], none⟩]
def a30r8 : List IOp := [⟨some 26, .mv, [.t 3], none⟩,
  ⟨some 2, .mv, [.t 26], none⟩]
def a30 : AFunc := ⟨27, [.tmp 2], (.seq (.region a30r0 [0]) (.seq (.region a30r1 [0, 3]) (.seq (.seq (.region a30r2 [3, 10, 11, 12]) (.block 0 (.loop (.seq (.region a30r3 [3, 10, 11, 12, 13]) (.seq (.cond (.t 13) .skip (.exit 0)) (.seq (.block 1 (.seq (.region a30r4 [3, 5, 10, 11, 12]) (.seq (.region a30r5 [3, 5, 10, 11, 12, 17]) (.cond (.t 17) (.region a30r6 [3, 10, 11, 12]) .skip)))) (.region a30r7 [3, 10, 11, 12]))))))) (.seq (.region a30r8 [2]) .ret))))⟩
theorem a30_ok : compileF Try.prog (lk [(0, ⟨[0], [], []⟩), (1, ⟨[0, 3], [], []⟩), (2, ⟨[3, 10, 11, 12], [], []⟩), (3, ⟨[3, 10, 11, 12, 13], [], []⟩), (4, ⟨[3, 5, 10, 11, 12], [], []⟩), (5, ⟨[3, 5, 10, 11, 12, 17], [], []⟩), (6, ⟨[3, 10, 11, 12], [], []⟩), (7, ⟨[3, 10, 11, 12], [], []⟩), (8, ⟨[2], [], []⟩)]) Try.f30 = some a30 := by kernel_rfl

/- payroll/payrollgen.Minutes -/
def a31r0 : List IOp := [⟨some 2, .mv, [.c (.int .i64 0)], none⟩]
def a31r1 : List IOp := [⟨some 3, .mv, [.c (.int .i64 0)], none⟩]
def a31r2 : List IOp := [⟨some 4, .mv, [.c (.int .i64 0)], none⟩]
def a31r3 : List IOp := [⟨some 5, .mv, [.t 4], none⟩,
  ⟨some 6, .mv, [.t 0], none⟩,
  ⟨some 7, .len, [.t 6], none⟩,
  ⟨some 8, .bin .lss, [.t 5, .t 7], none⟩]
def a31r4 : List IOp := [⟨some 11, .mv, [.t 0], none⟩,
  ⟨some 12, .mv, [.t 4], none⟩,
  ⟨some 13, .indexAddr 2, [.t 11, .t 12], none⟩,
  ⟨some 14, .loadA 2, [.t 13], none⟩,
  ⟨some 15, .call 56, [.t 14], none⟩]
def a31r5 : List (Nat × DOp) := [(0, ⟨⟨some 16, .mv, [.t 3], none⟩, none, [1, 2, 3, 4, 5, 6, 7, 8, 9, 10, 11]⟩),
  (1, ⟨⟨some 17, .mv, [.t 0], none⟩, none, [0, 2, 6, 7, 8, 9, 10]⟩),
  (2, ⟨⟨some 18, .mv, [.t 4], none⟩, none, [0, 1, 6, 7, 8, 9, 10]⟩),
  (3, ⟨⟨some 19, .indexAddr 2, [.t 17, .t 18], none⟩, none, [0, 6, 7, 8, 9, 10]⟩),
  (4, ⟨⟨some 20, .fieldAddr 1, [.t 19], none⟩, none, [0, 6, 7, 8, 9, 10]⟩),
  (5, ⟨⟨some 21, .load1, [.t 20], none⟩, none, [0, 6, 7, 8, 9, 10]⟩),
  (6, ⟨⟨some 22, .mv, [.t 0], none⟩, none, [0, 1, 2, 3, 4, 5, 7]⟩),
  (7, ⟨⟨some 23, .mv, [.t 4], none⟩, none, [0, 1, 2, 3, 4, 5, 6]⟩),
  (8, ⟨⟨some 24, .indexAddr 2, [.t 22, .t 23], none⟩, none, [0, 1, 2, 3, 4, 5]⟩),
  (9, ⟨⟨some 25, .fieldAddr 0, [.t 24], none⟩, none, [0, 1, 2, 3, 4, 5]⟩),
  (10, ⟨⟨some 26, .load1, [.t 25], none⟩, none, [0, 1, 2, 3, 4, 5]⟩),
  (11, ⟨⟨some 27, .bin .sub, [.t 21, .t 26], none⟩, none, [0]⟩),
  (12, ⟨⟨some 28, .bin .add, [.t 16, .t 27], none⟩, none, []⟩),
  (13, ⟨⟨some 3, .mv, [.t 28], none⟩, none, []⟩)]
def a31r6 : List IOp := [⟨some 9, .mv, [.t 4], none⟩,
  ⟨some 10, .bin .add, [.t 9, .c (.int .i64 1)], none⟩,
  ⟨some 4, .mv, [.t 10], none⟩]
def a31r7 : List IOp := [⟨some 29, .mv, [.t 3], none⟩,
  ⟨some 2, .mv, [.t 29], none⟩]
def a31 : AFunc := ⟨30, [.tmp 2], (.seq (.region a31r0 [0]) (.seq (.region a31r1 [0, 3]) (.seq (.seq (.region a31r2 [0, 3, 4]) (.block 0 (.loop (.seq (.seq (.region a31r3 [0, 3, 4, 8]) (.cond (.t 8) .skip (.exit 0))) (.seq (.block 1 (.seq (.region a31r4 [0, 3, 4, 15]) (.cond (.t 15) (.draw a31r5 [] [0, 3, 4]) .skip))) (.region a31r6 [0, 3, 4])))))) (.seq (.region a31r7 [2]) .ret))))⟩
theorem a31_ok : compileF Try.prog (lk [(0, ⟨[0], [], []⟩), (1, ⟨[0, 3], [], []⟩), (2, ⟨[0, 3, 4], [], []⟩), (3, ⟨[0, 3, 4, 8], [], []⟩), (4, ⟨[0, 3, 4], [], []⟩), (5, ⟨[0, 3, 4, 15], [], []⟩), (6, ⟨[0, 3, 4], [[], [], [], [1, 2], [3, 1, 2], [4, 3, 1, 2], [], [], [6, 7], [8, 6, 7], [9, 8, 6, 7], [5, 10, 4, 3, 1, 2, 9, 8, 6, 7], [0, 11, 5, 10, 4, 3, 1, 2, 9, 8, 6, 7], [12, 0, 1, 2, 3, 4, 5, 6, 7, 8, 9, 10, 11]], [0, 1, 2, 3, 4, 5, 6, 7, 8, 9, 10, 11, 12, 13]⟩), (7, ⟨[2], [], []⟩)]) Try.f31 = some a31 := by kernel_rfl

/- payroll/payrollref11.Minutes -/
def a32r0 : List IOp := [⟨some 2, .mv, [.c (.int .i64 0)], none⟩]
def a32r1 : List IOp := [⟨some 3, .mv, [.c (.int .i64 0)], none⟩]
def a32r2 : List IOp := [⟨some 4, .mv, [.c (.int .i64 0)], none⟩]
def a32r3 : List IOp := [⟨some 5, .mv, [.t 4], none⟩,
  ⟨some 6, .mv, [.t 0], none⟩,
  ⟨some 7, .len, [.t 6], none⟩,
  ⟨some 8, .bin .lss, [.t 5, .t 7], none⟩,
  ⟨some 9, .mv, [.t 8], none⟩,
  ⟨some 10, .mv, [.t 4], some (9, true)⟩,
  ⟨some 11, .bin .lss, [.t 10, .c (.int .i64 1024)], some (9, true)⟩,
  ⟨some 12, .pick, [.t 9, .t 11, .c (.bool false)], none⟩]
def a32r4 : List IOp := [⟨some 15, .mv, [.t 0], none⟩,
  ⟨some 16, .mv, [.t 4], none⟩,
  ⟨some 17, .indexAddr 2, [.t 15, .t 16], none⟩,
  ⟨some 18, .loadA 2, [.t 17], none⟩,
  ⟨some 19, .call 56, [.t 18], none⟩]
def a32r5 : List (Nat × DOp) := [(0, ⟨⟨some 20, .mv, [.t 3], none⟩, none, [1, 2, 3, 4, 5, 6, 7, 8, 9, 10, 11]⟩),
  (1, ⟨⟨some 21, .mv, [.t 0], none⟩, none, [0, 2, 6, 7, 8, 9, 10]⟩),
  (2, ⟨⟨some 22, .mv, [.t 4], none⟩, none, [0, 1, 6, 7, 8, 9, 10]⟩),
  (3, ⟨⟨some 23, .indexAddr 2, [.t 21, .t 22], none⟩, none, [0, 6, 7, 8, 9, 10]⟩),
  (4, ⟨⟨some 24, .fieldAddr 1, [.t 23], none⟩, none, [0, 6, 7, 8, 9, 10]⟩),
  (5, ⟨⟨some 25, .load1, [.t 24], none⟩, none, [0, 6, 7, 8, 9, 10]⟩),
  (6, ⟨⟨some 26, .mv, [.t 0], none⟩, none, [0, 1, 2, 3, 4, 5, 7]⟩),
  (7, ⟨⟨some 27, .mv, [.t 4], none⟩, none, [0, 1, 2, 3, 4, 5, 6]⟩),
  (8, ⟨⟨some 28, .indexAddr 2, [.t 26, .t 27], none⟩, none, [0, 1, 2, 3, 4, 5]⟩),
  (9, ⟨⟨some 29, .fieldAddr 0, [.t 28], none⟩, none, [0, 1, 2, 3, 4, 5]⟩),
  (10, ⟨⟨some 30, .load1, [.t 29], none⟩, none, [0, 1, 2, 3, 4, 5]⟩),
  (11, ⟨⟨some 31, .bin .sub, [.t 25, .t 30], none⟩, none, [0]⟩),
  (12, ⟨⟨some 32, .bin .add, [.t 20, .t 31], none⟩, none, []⟩),
  (13, ⟨⟨some 3, .mv, [.t 32], none⟩, none, []⟩)]
def a32r6 : List IOp := [⟨some 13, .mv, [.t 4], none⟩,
  ⟨some 14, .bin .add, [.t 13, .c (.int .i64 1)], none⟩,
  ⟨some 4, .mv, [.t 14], none⟩]
def a32r7 : List IOp := [⟨some 33, .mv, [.t 3], none⟩,
  ⟨some 2, .mv, [.t 33], none⟩]
def a32 : AFunc := ⟨34, [.tmp 2], (.seq (.region a32r0 [0]) (.seq (.region a32r1 [0, 3]) (.seq (.seq (.region a32r2 [0, 3, 4]) (.block 0 (.loop (.seq (.seq (.region a32r3 [0, 3, 4, 12]) (.cond (.t 12) .skip (.exit 0))) (.seq (.block 1 (.seq (.region a32r4 [0, 3, 4, 19]) (.cond (.t 19) (.draw a32r5 [] [0, 3, 4]) .skip))) (.region a32r6 [0, 3, 4])))))) (.seq (.region a32r7 [2]) .ret))))⟩
theorem a32_ok : compileF Try.prog (lk [(0, ⟨[0], [], []⟩), (1, ⟨[0, 3], [], []⟩), (2, ⟨[0, 3, 4], [], []⟩), (3, ⟨[0, 3, 4, 12], [], []⟩), (4, ⟨[0, 3, 4], [], []⟩), (5, ⟨[0, 3, 4, 19], [], []⟩), (6, ⟨[0, 3, 4], [[], [], [], [1, 2], [3, 1, 2], [4, 3, 1, 2], [], [], [6, 7], [8, 6, 7], [9, 8, 6, 7], [5, 10, 4, 3, 1, 2, 9, 8, 6, 7], [0, 11, 5, 10, 4, 3, 1, 2, 9, 8, 6, 7], [12, 0, 1, 2, 3, 4, 5, 6, 7, 8, 9, 10, 11]], [0, 1, 2, 3, 4, 5, 6, 7, 8, 9, 10, 11, 12, 13]⟩), (7, ⟨[2], [], []⟩)]) Try.f32 = some a32 := by kernel_rfl

/- payroll/payrolllaw11.sane -/
def a33r0 : List IOp := [⟨some 0, .mv, [.c (.bool false)], none⟩]
def a33r1 : List IOp := [⟨some 8, .build [.int .i64 0, .int .i64 0, .int .i64 0, .nils] [(2, 1)], [.c (.int .i64 5)], none⟩,
  ⟨some 9, .build [.int .i64 0, .int .i64 0] [(0, 1), (1, 1)], [.c (.int .i64 480), .c (.int .i64 1020)], none⟩,
  ⟨some 10, .call 57, [.c (.int .i64 477), .c (.int .i64 1023)], none⟩,
  ⟨some 11, .call 36, [.t 8, .t 9, .t 10], none⟩,
  ⟨some 7, .mv, [.t 11], none⟩,
  ⟨some 12, .extract 0, [.t 7], none⟩,
  ⟨some 13, .extract 1, [.t 7], none⟩,
  ⟨some 1, .alloc 59 [.int .i64 0, .nils], [], none⟩,
  ⟨none, .store 2, [.t 1, .t 12], none⟩,
  ⟨some 2, .mv, [.t 13], none⟩]
def a33r2 : List IOp := [⟨some 15, .build [.int .i64 0, .int .i64 0] [(0, 1), (1, 1)], [.c (.int .i64 360), .c (.int .i64 30)], none⟩,
  ⟨some 16, .bslice 108 2 [.int .i64 0, .int .i64 0] 1 [0], [.t 15], none⟩,
  ⟨some 17, .build [.int .i64 0, .int .i64 0, .int .i64 0, .nils] [(3, 1)], [.t 16], none⟩,
  ⟨some 18, .build [.int .i64 0, .int .i64 0] [], [], none⟩,
  ⟨some 19, .call 57, [.c (.int .i64 0), .c (.int .i64 480)], none⟩,
  ⟨some 20, .call 36, [.t 17, .t 18, .t 19], none⟩,
  ⟨some 14, .mv, [.t 20], none⟩,
  ⟨some 21, .extract 0, [.t 14], none⟩,
  ⟨some 22, .extract 1, [.t 14], none⟩,
  ⟨some 3, .alloc 59 [.int .i64 0, .nils], [], none⟩,
  ⟨none, .store 2, [.t 3, .t 21], none⟩,
  ⟨some 4, .mv, [.t 22], none⟩]
def a33r3 : List IOp := [⟨some 24, .build [.int .i64 0, .int .i64 0, .int .i64 0, .nils] [(0, 1), (1, 1)], [.c (.int .i64 15), .c (.int .i64 1)], none⟩,
  ⟨some 25, .build [.int .i64 0, .int .i64 0] [], [], none⟩,
  ⟨some 26, .call 57, [.c (.int .i64 482), .c (.int .i64 1018)], none⟩,
  ⟨some 27, .call 36, [.t 24, .t 25, .t 26], none⟩,
  ⟨some 23, .mv, [.t 27], none⟩,
  ⟨some 28, .extract 0, [.t 23], none⟩,
  ⟨some 29, .extract 1, [.t 23], none⟩,
  ⟨some 5, .alloc 59 [.int .i64 0, .nils], [], none⟩,
  ⟨none, .store 2, [.t 5, .t 28], none⟩,
  ⟨some 6, .mv, [.t 29], none⟩]
def a33r4 : List IOp := [⟨some 30, .mv, [.t 2], none⟩,
  ⟨some 31, .bin .eql, [.t 30, .c (.int .i64 0)], none⟩,
  ⟨some 32, .mv, [.t 31], none⟩,
  ⟨some 33, .fieldAddr 1, [.t 1], some (32, true)⟩,
  ⟨some 34, .load1, [.t 33], some (32, true)⟩,
  ⟨some 35, .len, [.t 34], some (32, true)⟩,
  ⟨some 36, .bin .eql, [.t 35, .c (.int .i64 1)], some (32, true)⟩,
  ⟨some 37, .pick, [.t 32, .t 36, .c (.bool false)], none⟩,
  ⟨some 38, .mv, [.t 37], none⟩,
  ⟨some 39, .fieldAddr 1, [.t 1], some (38, true)⟩,
  ⟨some 40, .load1, [.t 39], some (38, true)⟩,
  ⟨some 41, .indexAddr 2, [.t 40, .c (.int .i64 0)], some (38, true)⟩,
  ⟨some 42, .loadA 2, [.t 41], some (38, true)⟩,
  ⟨some 43, .build [.int .i64 0, .int .i64 0] [(0, 1), (1, 1)], [.c (.int .i64 480), .c (.int .i64 1020)], some (38, true)⟩,
  ⟨some 44, .eqA false [.int .i64, .int .i64], [.t 42, .t 43], some (38, true)⟩,
  ⟨some 45, .pick, [.t 38, .t 44, .c (.bool false)], none⟩,
  ⟨some 46, .mv, [.t 45], none⟩,
  ⟨some 47, .mv, [.t 4], some (46, true)⟩,
  ⟨some 48, .bin .eql, [.t 47, .c (.int .i64 0)], some (46, true)⟩,
  ⟨some 49, .pick, [.t 46, .t 48, .c (.bool false)], none⟩,
  ⟨some 50, .mv, [.t 49], none⟩,
  ⟨some 51, .fieldAddr 1, [.t 3], some (50, true)⟩,
  ⟨some 52, .load1, [.t 51], some (50, true)⟩,
  ⟨some 53, .call 30, [.t 52], some (50, true)⟩,
  ⟨some 54, .bin .eql, [.t 53, .c (.int .i64 450)], some (50, true)⟩,
  ⟨some 55, .pick, [.t 50, .t 54, .c (.bool false)], none⟩,
  ⟨some 56, .mv, [.t 55], none⟩,
  ⟨some 57, .fieldAddr 1, [.t 3], some (56, true)⟩,
  ⟨some 58, .load1, [.t 57], some (56, true)⟩,
  ⟨some 59, .len, [.t 58], some (56, true)⟩,
  ⟨some 60, .bin .eql, [.t 59, .c (.int .i64 2)], some (56, true)⟩,
  ⟨some 61, .pick, [.t 56, .t 60, .c (.bool false)], none⟩,
  ⟨some 62, .mv, [.t 61], none⟩,
  ⟨some 63, .fieldAddr 1, [.t 3], some (62, true)⟩,
  ⟨some 64, .load1, [.t 63], some (62, true)⟩,
  ⟨some 65, .indexAddr 2, [.t 64, .c (.int .i64 0)], some (62, true)⟩,
  ⟨some 66, .fieldAddr 1, [.t 65], some (62, true)⟩,
  ⟨some 67, .load1, [.t 66], some (62, true)⟩,
  ⟨some 68, .bin .eql, [.t 67, .c (.int .i64 360)], some (62, true)⟩,
  ⟨some 69, .pick, [.t 62, .t 68, .c (.bool false)], none⟩,
  ⟨some 70, .mv, [.t 69], none⟩,
  ⟨some 71, .mv, [.t 6], some (70, true)⟩,
  ⟨some 72, .bin .eql, [.t 71, .c (.int .i64 0)], some (70, true)⟩,
  ⟨some 73, .pick, [.t 70, .t 72, .c (.bool false)], none⟩,
  ⟨some 74, .mv, [.t 73], none⟩,
  ⟨some 75, .fieldAddr 1, [.t 5], some (74, true)⟩,
  ⟨some 76, .load1, [.t 75], some (74, true)⟩,
  ⟨some 77, .len, [.t 76], some (74, true)⟩,
  ⟨some 78, .bin .eql, [.t 77, .c (.int .i64 1)], some (74, true)⟩,
  ⟨some 79, .pick, [.t 74, .t 78, .c (.bool false)], none⟩,
  ⟨some 80, .mv, [.t 79], none⟩,
  ⟨some 81, .fieldAddr 1, [.t 5], some (80, true)⟩,
  ⟨some 82, .load1, [.t 81], some (80, true)⟩,
  ⟨some 83, .indexAddr 2, [.t 82, .c (.int .i64 0)], some (80, true)⟩,
  ⟨some 84, .loadA 2, [.t 83], some (80, true)⟩,
  ⟨some 85, .build [.int .i64 0, .int .i64 0] [(0, 1), (1, 1)], [.c (.int .i64 495), .c (.int .i64 1005)], some (80, true)⟩,
  ⟨some 86, .eqA false [.int .i64, .int .i64], [.t 84, .t 85], some (80, true)⟩,
  ⟨some 87, .pick, [.t 80, .t 86, .c (.bool false)], none⟩,
  ⟨some 88, .mv, [.t 87], none⟩,
  ⟨some 89, .fieldAddr 0, [.t 1], some (88, true)⟩,
  ⟨some 90, .load1, [.t 89], some (88, true)⟩,
  ⟨some 91, .bin .eql, [.t 90, .c (.int .i64 1)], some (88, true)⟩,
  ⟨some 92, .pick, [.t 88, .t 91, .c (.bool false)], none⟩,
  ⟨some 0, .mv, [.t 92], none⟩]
def a33 : AFunc := ⟨93, [.tmp 0], (.seq (.region a33r0 []) (.seq (.region a33r1 [1, 2]) (.seq (.region a33r2 [1, 2, 3, 4]) (.seq (.region a33r3 [1, 2, 3, 4, 5, 6]) (.seq (.region a33r4 [0]) .ret)))))⟩
theorem a33_ok : compileF Try.prog (lk [(0, ⟨[], [], []⟩), (1, ⟨[1, 2], [], []⟩), (2, ⟨[1, 2, 3, 4], [], []⟩), (3, ⟨[1, 2, 3, 4, 5, 6], [], []⟩), (4, ⟨[0], [], []⟩)]) Try.f33 = some a33 := by kernel_rfl

/- (*payroll/payrollgen.Tape).Adjust -/
def a34r0 : List IOp := [⟨some 4, .alloc 63 [.int .i64 0, .int .i64 0, .int .i64 0, .nils], [], none⟩]
def a34r1 : List IOp := [⟨some 9, .mv, [.t 0], none⟩,
  ⟨some 10, .call 38, [.t 9, .c (.int .i64 4)], none⟩,
  ⟨some 11, .mv, [.t 0], none⟩,
  ⟨some 12, .bslice 3 1 [.int .i64 0] 4 [0, 1, 2, 3], [.c (.int .i64 0), .c (.int .i64 5), .c (.int .i64 15), .c (.int .i64 120)], none⟩,
  ⟨some 13, .call 52, [.t 11, .t 12], none⟩,
  ⟨some 14, .build [.int .i64 0, .int .i64 0, .int .i64 0, .nils] [(1, 1), (2, 1)], [.t 10, .t 13], none⟩,
  ⟨some 5, .alloc 63 [.int .i64 0, .int .i64 0, .int .i64 0, .nils], [], none⟩,
  ⟨none, .store 4, [.t 5, .t 14], none⟩]
def a34r2 : List IOp := [⟨some 15, .fieldAddr 1, [.t 5], none⟩,
  ⟨some 16, .load1, [.t 15], none⟩,
  ⟨some 17, .bin .neq, [.t 16, .c (.int .i64 0)], none⟩]
def a34r3 : List IOp := [⟨some 18, .mv, [.t 0], none⟩,
  ⟨some 19, .bslice 3 1 [.int .i64 0] 5 [0, 1, 2, 3, 4], [.c (.int .i64 15), .c (.int .i64 5), .c (.int .i64 1), .c (.int .i64 60), .c (.int .i64 7)], none⟩,
  ⟨some 20, .call 52, [.t 18, .t 19], none⟩,
  ⟨some 21, .fieldAddr 0, [.t 5], none⟩,
  ⟨none, .store 1, [.t 21, .t 20], none⟩]
def a34r4 : List IOp := [⟨some 22, .mv, [.t 0], none⟩,
  ⟨some 23, .bslice 3 1 [.int .i64 0] 3 [0, 1, 2], [.c (.int .i64 0), .c (.int .i64 120), .c (.int .i64 360)], none⟩,
  ⟨some 24, .call 52, [.t 22, .t 23], none⟩,
  ⟨some 25, .mv, [.t 0], none⟩,
  ⟨some 26, .bslice 3 1 [.int .i64 0] 3 [0, 1, 2], [.c (.int .i64 15), .c (.int .i64 30), .c (.int .i64 1)], none⟩,
  ⟨some 27, .call 52, [.t 25, .t 26], none⟩,
  ⟨some 6, .mv, [.t 24], none⟩,
  ⟨some 7, .mv, [.t 27], none⟩]
def a34r5 : List IOp := [⟨some 28, .mv, [.t 0], none⟩,
  ⟨some 29, .call 38, [.t 28, .c (.int .i64 4)], none⟩,
  ⟨some 8, .mv, [.t 29], none⟩]
def a34r6 : List IOp := [⟨some 30, .mv, [.t 8], none⟩,
  ⟨some 31, .bin .gtr, [.t 30, .c (.int .i64 0)], none⟩]
def a34r7 : List IOp := [⟨some 34, .fieldAddr 3, [.t 5], none⟩,
  ⟨some 35, .load1, [.t 34], none⟩,
  ⟨some 36, .mv, [.t 6], none⟩,
  ⟨some 37, .mv, [.t 7], none⟩,
  ⟨some 38, .build [.int .i64 0, .int .i64 0] [(0, 1), (1, 1)], [.t 36, .t 37], none⟩,
  ⟨some 39, .bslice 108 2 [.int .i64 0, .int .i64 0] 1 [0], [.t 38], none⟩,
  ⟨some 40, .append 108 2 16, [.t 35, .t 39], none⟩,
  ⟨some 41, .fieldAddr 3, [.t 5], none⟩,
  ⟨none, .store 1, [.t 41, .t 40], none⟩]
def a34r8 : List IOp := [⟨some 42, .mv, [.t 6], none⟩,
  ⟨some 43, .mv, [.t 0], none⟩,
  ⟨some 44, .bslice 3 1 [.int .i64 0] 3 [0, 1, 2], [.c (.int .i64 60), .c (.int .i64 180), .c (.int .i64 1)], none⟩,
  ⟨some 45, .call 52, [.t 43, .t 44], none⟩,
  ⟨some 46, .bin .add, [.t 42, .t 45], none⟩,
  ⟨some 47, .mv, [.t 7], none⟩,
  ⟨some 48, .mv, [.t 0], none⟩,
  ⟨some 49, .bslice 3 1 [.int .i64 0] 2 [0, 1], [.c (.int .i64 15), .c (.int .i64 1)], none⟩,
  ⟨some 50, .call 52, [.t 48, .t 49], none⟩,
  ⟨some 51, .bin .add, [.t 47, .t 50], none⟩,
  ⟨some 6, .mv, [.t 46], none⟩,
  ⟨some 7, .mv, [.t 51], none⟩]
def a34r9 : List IOp := [⟨some 32, .mv, [.t 8], none⟩,
  ⟨some 33, .bin .sub, [.t 32, .c (.int .i64 1)], none⟩,
  ⟨some 8, .mv, [.t 33], none⟩]
def a34r10 : List IOp := [⟨some 52, .mv, [.t 1], none⟩,
  ⟨some 53, .mv, [.t 52], none⟩,
  ⟨some 54, .mv, [.t 0], some (53, true)⟩,
  ⟨some 55, .call 38, [.t 54, .c (.int .i64 6)], some (53, true)⟩,
  ⟨some 56, .bin .eql, [.t 55, .c (.int .i64 5)], some (53, true)⟩,
  ⟨some 57, .pick, [.t 53, .t 56, .c (.bool false)], none⟩]
def a34r11 : List IOp := [⟨some 58, .mv, [.t 0], none⟩,
  ⟨some 59, .call 38, [.t 58, .c (.int .i64 4)], none⟩]
def a34r12 : List IOp := [⟨some 71, .bin .eql, [.t 59, .c (.int .i64 0)], none⟩,
  ⟨some 70, .mv, [.t 71], none⟩]
def a34r13 : List IOp := [⟨some 72, .mv, [.t 0], none⟩,
  ⟨some 73, .bslice 3 1 [.int .i64 0] 3 [0, 1, 2], [.c (.int .i64 0), .c (.int .i64 61), .c (.int .i64 (-1))], none⟩,
  ⟨some 74, .call 52, [.t 72, .t 73], none⟩,
  ⟨some 75, .fieldAddr 0, [.t 5], none⟩,
  ⟨none, .store 1, [.t 75, .t 74], none⟩]
def a34r14 : List IOp := [⟨some 77, .bin .eql, [.t 59, .c (.int .i64 1)], none⟩,
  ⟨some 76, .mv, [.t 77], none⟩]
def a34r15 : List IOp := [⟨some 78, .mv, [.t 0], none⟩,
  ⟨some 79, .bslice 3 1 [.int .i64 0] 2 [0, 1], [.c (.int .i64 121), .c (.int .i64 (-1))], none⟩,
  ⟨some 80, .call 52, [.t 78, .t 79], none⟩,
  ⟨some 81, .fieldAddr 2, [.t 5], none⟩,
  ⟨none, .store 1, [.t 81, .t 80], none⟩]
def a34r16 : List IOp := [⟨some 83, .bin .eql, [.t 59, .c (.int .i64 2)], none⟩,
  ⟨some 82, .mv, [.t 83], none⟩]
def a34r17 : List IOp := [⟨some 84, .mv, [.t 0], none⟩,
  ⟨some 85, .bslice 3 1 [.int .i64 0] 2 [0, 1], [.c (.int .i64 4), .c (.int .i64 (-1))], none⟩,
  ⟨some 86, .call 52, [.t 84, .t 85], none⟩,
  ⟨some 87, .fieldAddr 1, [.t 5], none⟩,
  ⟨none, .store 1, [.t 87, .t 86], none⟩]
def a34r18 : List (Nat × DOp) := [(0, ⟨⟨some 60, .fieldAddr 3, [.t 5], none⟩, none, [2, 3, 4, 5, 6, 7]⟩),
  (1, ⟨⟨some 61, .load1, [.t 60], none⟩, none, [2, 3, 4, 5, 6, 7]⟩),
  (2, ⟨⟨some 62, .mv, [.t 0], none⟩, none, [0, 1, 4]⟩),
  (4, ⟨⟨some 64, .mv, [.t 0], none⟩, none, [0, 1, 2, 3]⟩),
  (3, ⟨⟨some 63, .call 38, [.t 62, .c (.int .i64 100)], none⟩, none, [0, 1, 4]⟩),
  (5, ⟨⟨some 65, .call 38, [.t 64, .c (.int .i64 20)], none⟩, none, [0, 1]⟩),
  (6, ⟨⟨some 66, .build [.int .i64 0, .int .i64 0] [(0, 1), (1, 1)], [.t 63, .t 65], none⟩, none, [0, 1]⟩),
  (7, ⟨⟨some 67, .bslice 108 2 [.int .i64 0, .int .i64 0] 1 [0], [.t 66], none⟩, some 0, [0, 1]⟩),
  (8, ⟨⟨some 68, .append 108 2 16, [.t 61, .t 67], none⟩, none, []⟩),
  (9, ⟨⟨some 69, .fieldAddr 3, [.t 5], none⟩, none, []⟩),
  (10, ⟨⟨none, .store 1, [.t 69, .t 68], none⟩, none, []⟩)]
def a34r19 : List IOp := [⟨some 88, .loadA 4, [.t 5], none⟩,
  ⟨none, .store 4, [.t 4, .t 88], none⟩]
def a34 : AFunc := ⟨89, [.cellA 4 4], (.seq (.region a34r0 [0, 1, 4]) (.seq (.region a34r1 [0, 1, 4, 5]) (.seq (.seq (.region a34r2 [0, 1, 4, 5, 17]) (.cond (.t 17) (.region a34r3 [0, 1, 4, 5]) .skip)) (.seq (.region a34r4 [0, 1, 4, 5, 6, 7]) (.seq (.seq (.region a34r5 [0, 1, 4, 5, 6, 7, 8]) (.block 0 (.loop (.seq (.seq (.region a34r6 [0, 1, 4, 5, 6, 7, 8, 31]) (.cond (.t 31) .skip (.exit 0))) (.seq (.block 1 (.seq (.region a34r7 [0, 1, 4, 5, 6, 7, 8]) (.region a34r8 [0, 1, 4, 5, 6, 7, 8]))) (.region a34r9 [0, 1, 4, 5, 6, 7, 8])))))) (.seq (.seq (.region a34r10 [0, 4, 5, 57]) (.cond (.t 57) (.seq (.region a34r11 [0, 4, 5, 59]) (.block 2 (.seq (.region a34r12 [0, 4, 5, 59, 70]) (.cond (.t 70) (.region a34r13 [4, 5]) (.seq (.region a34r14 [0, 4, 5, 59, 76]) (.cond (.t 76) (.region a34r15 [4, 5]) (.seq (.region a34r16 [0, 4, 5, 82]) (.cond (.t 82) (.region a34r17 [4, 5]) (.draw a34r18 [(108, 2)] [4, 5]))))))))) .skip)) (.seq (.region a34r19 [4]) .ret)))))))⟩
theorem a34_ok : compileF Try.prog (lk [(0, ⟨[0, 1, 4], [], []⟩), (1, ⟨[0, 1, 4, 5], [], []⟩), (2, ⟨[0, 1, 4, 5, 17], [], []⟩), (3, ⟨[0, 1, 4, 5], [], []⟩), (4, ⟨[0, 1, 4, 5, 6, 7], [], []⟩), (5, ⟨[0, 1, 4, 5, 6, 7, 8], [], []⟩), (6, ⟨[0, 1, 4, 5, 6, 7, 8, 31], [], []⟩), (7, ⟨[0, 1, 4, 5, 6, 7, 8], [], []⟩), (8, ⟨[0, 1, 4, 5, 6, 7, 8], [], []⟩), (9, ⟨[0, 1, 4, 5, 6, 7, 8], [], []⟩), (10, ⟨[0, 4, 5, 57], [], []⟩), (11, ⟨[0, 4, 5, 59], [], []⟩), (12, ⟨[4, 5], [[], [0], [], [2], [], [4, 3, 2], [3, 5, 2, 4], [6, 3, 5, 2, 4], [1, 7, 5, 0, 6, 3, 2, 4], [0, 1, 2, 3, 4, 5, 6, 7, 8], [9, 8, 0, 1, 2, 3, 4, 5, 6, 7]], [0, 1, 2, 4, 3, 5, 6, 7, 8, 9, 10]⟩), (13, ⟨[0, 4, 5, 59, 70], [], []⟩), (14, ⟨[4, 5], [], []⟩), (15, ⟨[0, 4, 5, 59, 76], [], []⟩), (16, ⟨[4, 5], [], []⟩), (17, ⟨[0, 4, 5, 82], [], []⟩), (18, ⟨[4, 5], [], []⟩), (19, ⟨[4], [], []⟩)]) Try.f34 = some a34 := by kernel_rfl

/- payroll/payrolllaw11.duty -/
def a35r0 : List IOp := [⟨some 2, .alloc 66 [.int .i64 0, .int .i64 0, .nils], [], none⟩,
  ⟨some 3, .alloc 26 [.int .i64 0, .int .i64 0], [], none⟩]
def a35r1 : List IOp := [⟨some 6, .mv, [.t 0], none⟩,
  ⟨some 7, .call 21, [.t 6, .c (.int .i64 3)], none⟩,
  ⟨some 8, .build [.int .i64 0, .int .i64 0, .nils] [(0, 1), (1, 1), (2, 1)], [.c (.int .i64 (-1)), .c (.int .i64 20454), .t 7], none⟩,
  ⟨some 4, .alloc 66 [.int .i64 0, .int .i64 0, .nils], [], none⟩,
  ⟨none, .store 3, [.t 4, .t 8], none⟩]
def a35r2 : List IOp := [⟨some 9, .fieldAddr 2, [.t 4], none⟩,
  ⟨some 10, .load1, [.t 9], none⟩,
  ⟨some 11, .len, [.t 10], none⟩,
  ⟨some 12, .bin .eql, [.t 11, .c (.int .i64 0)], none⟩,
  ⟨some 13, .mv, [.t 12], none⟩,
  ⟨some 14, .mv, [.t 0], some (13, false)⟩,
  ⟨some 15, .call 38, [.t 14, .c (.int .i64 2)], some (13, false)⟩,
  ⟨some 16, .bin .eql, [.t 15, .c (.int .i64 0)], some (13, false)⟩,
  ⟨some 17, .pick, [.t 13, .c (.bool true), .t 16], none⟩]
def a35r3 : List IOp := [⟨some 18, .loadA 3, [.t 4], none⟩,
  ⟨some 19, .build [.int .i64 0, .int .i64 0] [], [], none⟩,
  ⟨none, .store 3, [.t 2, .t 18], none⟩,
  ⟨none, .store 2, [.t 3, .t 19], none⟩]
def a35r4 : List (Nat × DOp) := [(0, ⟨⟨some 20, .fieldAddr 2, [.t 4], none⟩, none, [6, 7, 8]⟩),
  (1, ⟨⟨some 21, .load1, [.t 20], none⟩, none, [6, 7, 8]⟩),
  (2, ⟨⟨some 22, .indexAddr 3, [.t 21, .c (.int .i64 0)], none⟩, none, [6, 7, 8]⟩),
  (3, ⟨⟨some 23, .fieldAddr 0, [.t 22], none⟩, none, [6, 7, 8]⟩),
  (4, ⟨⟨some 24, .fieldAddr 0, [.t 23], none⟩, none, [6, 7, 8]⟩),
  (5, ⟨⟨some 25, .load1, [.t 24], none⟩, none, [6, 7, 8]⟩),
  (6, ⟨⟨some 26, .mv, [.t 0], none⟩, none, [0, 1, 2, 3, 4, 5, 7]⟩),
  (7, ⟨⟨some 27, .bslice 3 1 [.int .i64 0] 5 [0, 1, 2, 3, 4], [.c (.int .i64 0), .c (.int .i64 5), .c (.int .i64 (-5)), .c (.int .i64 20), .c (.int .i64 (-60))], none⟩, some 0, [0, 1, 2, 3, 4, 5, 6]⟩),
  (8, ⟨⟨some 28, .call 52, [.t 26, .t 27], none⟩, none, [0, 1, 2, 3, 4, 5]⟩),
  (9, ⟨⟨some 29, .bin .add, [.t 25, .t 28], none⟩, none, []⟩),
  (10, ⟨⟨some 5, .mv, [.t 29], none⟩, none, []⟩)]
def a35r5 : List (Nat × DOp) := [(0, ⟨⟨some 30, .loadA 3, [.t 4], none⟩, none, [1, 2, 3, 4, 5, 6, 7]⟩),
  (1, ⟨⟨some 31, .mv, [.t 5], none⟩, none, [0, 2, 3, 4, 5, 6, 8]⟩),
  (2, ⟨⟨some 32, .mv, [.t 5], none⟩, none, [0, 1, 3, 4, 5, 8]⟩),
  (3, ⟨⟨some 33, .mv, [.t 0], none⟩, none, [0, 1, 2, 4]⟩),
  (4, ⟨⟨some 34, .bslice 3 1 [.int .i64 0] 3 [0, 1, 2], [.c (.int .i64 480), .c (.int .i64 300), .c (.int .i64 510)], none⟩, some 0, [0, 1, 2, 3]⟩),
  (5, ⟨⟨some 35, .call 52, [.t 33, .t 34], none⟩, none, [0, 1, 2]⟩),
  (6, ⟨⟨some 36, .bin .add, [.t 32, .t 35], none⟩, none, [0, 1, 8]⟩),
  (7, ⟨⟨some 37, .build [.int .i64 0, .int .i64 0] [(0, 1), (1, 1)], [.t 31, .t 36], none⟩, none, [0, 8]⟩),
  (8, ⟨⟨none, .store 3, [.t 2, .t 30], none⟩, none, [1, 2, 6, 7]⟩),
  (9, ⟨⟨none, .store 2, [.t 3, .t 37], none⟩, none, []⟩)]
def a35 : AFunc := ⟨38, [.cellA 2 3, .cellA 3 2], (.seq (.region a35r0 [0, 2, 3]) (.seq (.region a35r1 [0, 2, 3, 4]) (.seq (.seq (.region a35r2 [0, 2, 3, 4, 17]) (.cond (.t 17) (.seq (.region a35r3 [2, 3]) .ret) .skip)) (.seq (.draw a35r4 [(3, 1)] [0, 2, 3, 4, 5]) (.seq (.draw a35r5 [(3, 1)] [2, 3]) .ret)))))⟩
theorem a35_ok : compileF Try.prog (lk [(0, ⟨[0, 2, 3], [], []⟩), (1, ⟨[0, 2, 3, 4], [], []⟩), (2, ⟨[0, 2, 3, 4, 17], [], []⟩), (3, ⟨[2, 3], [], []⟩), (4, ⟨[0, 2, 3, 4, 5], [[], [0], [1, 0], [2, 1, 0], [3, 2, 1, 0], [4, 3, 2, 1, 0], [], [], [6, 7], [5, 8, 4, 3, 2, 1, 0, 6, 7], [9, 8, 0, 1, 2, 3, 4, 5, 6, 7]], [0, 1, 2, 3, 4, 5, 6, 7, 8, 9, 10]⟩), (5, ⟨[2, 3], [[], [], [], [], [], [3, 4], [2, 5, 3, 4], [1, 6, 2, 5, 3, 4], [0, 5, 3, 4], [7, 8, 0, 1, 2, 3, 4, 5, 6]], [0, 1, 2, 3, 4, 5, 6, 7, 8, 9]⟩)]) Try.f35 = some a35 := by kernel_rfl

/- payroll/worktime.Adjust -/
def a36r0 : List IOp := [⟨some 3, .box 63 4, [.t 0], none⟩,
  ⟨some 4, .box 26 2, [.t 1], none⟩,
  ⟨some 5, .box 66 3, [.t 2], none⟩,
  ⟨some 6, .alloc 59 [.int .i64 0, .nils], [], none⟩,
  ⟨some 7, .mv, [.c (.int .i64 0)], none⟩]
def a36r1 : List IOp := [⟨some 12, .loadA 4, [.t 3], none⟩,
  ⟨some 13, .call 58, [.t 12], none⟩,
  ⟨some 8, .mv, [.t 13], none⟩]
def a36r2 : List IOp := [⟨some 14, .mv, [.t 8], none⟩,
  ⟨some 15, .bin .neq, [.t 14, .c (.int .i64 0)], none⟩]
def a36r3 : List IOp := [⟨some 16, .build [.int .i64 0, .nils] [], [], none⟩,
  ⟨some 17, .mv, [.t 8], none⟩,
  ⟨none, .store 2, [.t 6, .t 16], none⟩,
  ⟨some 7, .mv, [.t 17], none⟩]
def a36r4 : List IOp := [⟨some 18, .loadA 2, [.t 4], none⟩,
  ⟨some 19, .build [.int .i64 0, .int .i64 0] [], [], none⟩,
  ⟨some 20, .eqA true [.int .i64, .int .i64], [.t 18, .t 19], none⟩,
  ⟨some 21, .mv, [.t 20], none⟩,
  ⟨some 22, .loadA 2, [.t 4], some (21, true)⟩,
  ⟨some 23, .call 55, [.t 22], some (21, true)⟩,
  ⟨some 24, .not, [.t 23], some (21, true)⟩,
  ⟨some 25, .pick, [.t 21, .t 24, .c (.bool false)], none⟩]
def a36r5 : List IOp := [⟨some 26, .build [.int .i64 0, .nils] [], [], none⟩,
  ⟨none, .store 2, [.t 6, .t 26], none⟩,
  ⟨some 7, .mv, [.c (.int .i64 1)], none⟩]
def a36r6 : List IOp := [⟨some 27, .fieldAddr 2, [.t 5], none⟩,
  ⟨some 28, .load1, [.t 27], none⟩,
  ⟨some 29, .call 16, [.t 28], none⟩,
  ⟨some 9, .mv, [.t 29], none⟩]
def a36r7 : List IOp := [⟨some 30, .mv, [.t 9], none⟩,
  ⟨some 31, .bin .neq, [.t 30, .c (.int .i64 0)], none⟩]
def a36r8 : List IOp := [⟨some 32, .build [.int .i64 0, .nils] [], [], none⟩,
  ⟨some 33, .mv, [.t 9], none⟩,
  ⟨none, .store 2, [.t 6, .t 32], none⟩,
  ⟨some 7, .mv, [.t 33], none⟩]
def a36r9 : List IOp := [⟨some 34, .loadA 4, [.t 3], none⟩,
  ⟨some 35, .loadA 2, [.t 4], none⟩,
  ⟨some 36, .fieldAddr 2, [.t 5], none⟩,
  ⟨some 37, .load1, [.t 36], none⟩,
  ⟨some 38, .call 59, [.t 34, .t 35, .t 37], none⟩,
  ⟨some 10, .mv, [.t 38], none⟩]
def a36r10 : List IOp := [⟨some 39, .mv, [.t 10], none⟩,
  ⟨some 40, .call 60, [.t 39], none⟩,
  ⟨some 41, .bin .gtr, [.t 40, .c (.int .i64 100000)], none⟩]
def a36r11 : List IOp := [⟨some 42, .build [.int .i64 0, .nils] [], [], none⟩,
  ⟨none, .store 2, [.t 6, .t 42], none⟩,
  ⟨some 7, .mv, [.c (.int .i64 3)], none⟩]
def a36r12 : List (Nat × DOp) := [(0, ⟨⟨some 43, .fieldAddr 3, [.t 3], none⟩, none, [2, 3, 4, 5, 6]⟩),
  (1, ⟨⟨some 44, .load1, [.t 43], none⟩, none, [2, 3, 4, 5, 6]⟩),
  (2, ⟨⟨some 45, .mv, [.t 10], none⟩, none, [0, 1, 3, 4, 5]⟩),
  (3, ⟨⟨some 46, .fieldAddr 2, [.t 5], none⟩, none, [0, 1, 2]⟩),
  (4, ⟨⟨some 47, .load1, [.t 46], none⟩, none, [0, 1, 2]⟩),
  (5, ⟨⟨some 48, .call 63, [.t 47], none⟩, none, [0, 1, 2]⟩),
  (6, ⟨⟨some 49, .call 62, [.t 45, .t 48], none⟩, none, [0, 1]⟩),
  (7, ⟨⟨some 50, .call 61, [.t 44, .t 49], none⟩, none, []⟩),
  (8, ⟨⟨some 11, .mv, [.t 50], none⟩, none, []⟩)]
def a36r13 : List IOp := [⟨some 51, .fieldAddr 1, [.t 5], none⟩,
  ⟨some 52, .load1, [.t 51], none⟩,
  ⟨some 53, .mv, [.t 11], none⟩,
  ⟨some 54, .build [.int .i64 0, .nils] [(0, 1), (1, 1)], [.t 52, .t 53], none⟩,
  ⟨none, .store 2, [.t 6, .t 54], none⟩,
  ⟨some 7, .mv, [.c (.int .i64 0)], none⟩]
def a36 : AFunc := ⟨55, [.cellA 6 2, .tmp 7], (.seq (.region a36r0 [3, 4, 5, 6]) (.seq (.seq (.region a36r1 [3, 4, 5, 6, 8]) (.seq (.region a36r2 [3, 4, 5, 6, 8, 15]) (.cond (.t 15) (.seq (.region a36r3 [6, 7]) .ret) .skip))) (.seq (.seq (.region a36r4 [3, 4, 5, 6, 25]) (.cond (.t 25) (.seq (.region a36r5 [6, 7]) .ret) .skip)) (.seq (.seq (.region a36r6 [3, 4, 5, 6, 9]) (.seq (.region a36r7 [3, 4, 5, 6, 9, 31]) (.cond (.t 31) (.seq (.region a36r8 [6, 7]) .ret) .skip))) (.seq (.region a36r9 [3, 5, 6, 10]) (.seq (.seq (.region a36r10 [3, 5, 6, 10, 41]) (.cond (.t 41) (.seq (.region a36r11 [6, 7]) .ret) .skip)) (.seq (.draw a36r12 [] [5, 6, 11]) (.seq (.region a36r13 [6, 7]) .ret))))))))⟩
theorem a36_ok : compileF Try.prog (lk [(0, ⟨[3, 4, 5, 6], [], []⟩), (1, ⟨[3, 4, 5, 6, 8], [], []⟩), (2, ⟨[3, 4, 5, 6, 8, 15], [], []⟩), (3, ⟨[6, 7], [], []⟩), (4, ⟨[3, 4, 5, 6, 25], [], []⟩), (5, ⟨[6, 7], [], []⟩), (6, ⟨[3, 4, 5, 6, 9], [], []⟩), (7, ⟨[3, 4, 5, 6, 9, 31], [], []⟩), (8, ⟨[6, 7], [], []⟩), (9, ⟨[3, 5, 6, 10], [], []⟩), (10, ⟨[3, 5, 6, 10, 41], [], []⟩), (11, ⟨[6, 7], [], []⟩), (12, ⟨[5, 6, 11], [[], [0], [], [], [3], [4, 3], [2, 5, 4, 3], [1, 6, 0, 2, 5, 4, 3], [7, 0, 1, 2, 3, 4, 5, 6]], [0, 1, 2, 3, 4, 5, 6, 7, 8]⟩), (13, ⟨[6, 7], [], []⟩)]) Try.f36 = some a36 := by kernel_rfl

/- payroll/worktime.validInterval -/
def a55r0 : List IOp := [⟨some 1, .box 26 2, [.t 0], none⟩,
  ⟨some 2, .mv, [.c (.bool false)], none⟩]
def a55r1 : List IOp := [⟨some 3, .fieldAddr 0, [.t 1], none⟩,
  ⟨some 4, .load1, [.t 3], none⟩,
  ⟨some 5, .bin .geq, [.t 4, .c (.int .i64 0)], none⟩,
  ⟨some 6, .mv, [.t 5], none⟩,
  ⟨some 7, .fieldAddr 1, [.t 1], some (6, true)⟩,
  ⟨some 8, .load1, [.t 7], some (6, true)⟩,
  ⟨some 9, .fieldAddr 0, [.t 1], some (6, true)⟩,
  ⟨some 10, .load1, [.t 9], some (6, true)⟩,
  ⟨some 11, .bin .gtr, [.t 8, .t 10], some (6, true)⟩,
  ⟨some 12, .pick, [.t 6, .t 11, .c (.bool false)], none⟩,
  ⟨some 13, .mv, [.t 12], none⟩,
  ⟨some 14, .fieldAddr 1, [.t 1], some (13, true)⟩,
  ⟨some 15, .load1, [.t 14], some (13, true)⟩,
  ⟨some 16, .bin .leq, [.t 15, .c (.int .i64 120968640)], some (13, true)⟩,
  ⟨some 17, .pick, [.t 13, .t 16, .c (.bool false)], none⟩,
  ⟨some 2, .mv, [.t 17], none⟩]
def a55 : AFunc := ⟨18, [.tmp 2], (.seq (.region a55r0 [1]) (.seq (.region a55r1 [2]) .ret))⟩
theorem a55_ok : compileF Try.prog (lk [(0, ⟨[1], [], []⟩), (1, ⟨[2], [], []⟩)]) Try.f55 = some a55 := by kernel_rfl

/- payroll/payrolllaw11.one -/
def a57r0 : List IOp := [⟨some 4, .alloc 66 [.int .i64 0, .int .i64 0, .nils], [], none⟩]
def a57r1 : List IOp := [⟨some 5, .mv, [.t 0], none⟩,
  ⟨some 6, .mv, [.t 1], none⟩,
  ⟨some 7, .build [.int .i64 0, .int .i64 0] [(0, 1), (1, 1)], [.t 5, .t 6], none⟩,
  ⟨some 8, .build [.int .i64 0, .int .i64 0, .nils] [(0, 2)], [.t 7], none⟩,
  ⟨some 9, .bslice 29 3 [.int .i64 0, .int .i64 0, .nils] 1 [0], [.t 8], none⟩,
  ⟨some 10, .build [.int .i64 0, .int .i64 0, .nils] [(1, 1), (2, 1)], [.c (.int .i64 1), .t 9], none⟩,
  ⟨none, .store 3, [.t 4, .t 10], none⟩]
def a57 : AFunc := ⟨11, [.cellA 4 3], (.seq (.region a57r0 [0, 1, 4]) (.seq (.region a57r1 [4]) .ret))⟩
theorem a57_ok : compileF Try.prog (lk [(0, ⟨[0, 1, 4], [], []⟩), (1, ⟨[4], [], []⟩)]) Try.f57 = some a57 := by kernel_rfl

/- payroll/worktime.Valid -/
def a58r0 : List IOp := [⟨some 1, .box 63 4, [.t 0], none⟩,
  ⟨some 2, .mv, [.c (.int .i64 0)], none⟩]
def a58r1 : List IOp := [⟨some 6, .fieldAddr 3, [.t 1], none⟩,
  ⟨some 7, .load1, [.t 6], none⟩,
  ⟨some 8, .len, [.t 7], none⟩,
  ⟨some 9, .bin .gtr, [.t 8, .c (.int .i64 16)], none⟩]
def a58r2 : List IOp := [⟨some 2, .mv, [.c (.int .i64 3)], none⟩]
def a58r3 : List IOp := [⟨some 10, .fieldAddr 1, [.t 1], none⟩,
  ⟨some 11, .load1, [.t 10], none⟩]
def a58r4 : List IOp := [⟨some 13, .bin .eql, [.t 11, .c (.int .i64 0)], none⟩,
  ⟨some 12, .mv, [.t 13], none⟩]
def a58r5 : List IOp := [⟨some 14, .fieldAddr 0, [.t 1], none⟩,
  ⟨some 15, .load1, [.t 14], none⟩,
  ⟨some 16, .bin .neq, [.t 15, .c (.int .i64 0)], none⟩]
def a58r6 : List IOp := [⟨some 2, .mv, [.c (.int .i64 1)], none⟩]
def a58r7 : List IOp := [⟨some 18, .bin .eql, [.t 11, .c (.int .i64 1)], none⟩,
  ⟨some 17, .mv, [.t 18], none⟩]
def a58r8 : List IOp := [⟨some 19, .bin .eql, [.t 11, .c (.int .i64 2)], none⟩,
  ⟨some 17, .mv, [.t 19], none⟩]
def a58r9 : List IOp := [⟨some 20, .bin .eql, [.t 11, .c (.int .i64 3)], none⟩,
  ⟨some 17, .mv, [.t 20], none⟩]
def a58r10 : List IOp := [⟨some 21, .fieldAddr 0, [.t 1], none⟩,
  ⟨some 22, .load1, [.t 21], none⟩,
  ⟨some 23, .bin .lss, [.t 22, .c (.int .i64 1)], none⟩,
  ⟨some 24, .mv, [.t 23], none⟩,
  ⟨some 25, .fieldAddr 0, [.t 1], some (24, false)⟩,
  ⟨some 26, .load1, [.t 25], some (24, false)⟩,
  ⟨some 27, .bin .gtr, [.t 26, .c (.int .i64 60)], some (24, false)⟩,
  ⟨some 28, .pick, [.t 24, .c (.bool true), .t 27], none⟩]
def a58r11 : List IOp := [⟨some 2, .mv, [.c (.int .i64 1)], none⟩]
def a58r12 : List IOp := [⟨some 2, .mv, [.c (.int .i64 1)], none⟩]
def a58r13 : List IOp := [⟨some 29, .fieldAddr 2, [.t 1], none⟩,
  ⟨some 30, .load1, [.t 29], none⟩,
  ⟨some 31, .bin .lss, [.t 30, .c (.int .i64 0)], none⟩,
  ⟨some 32, .mv, [.t 31], none⟩,
  ⟨some 33, .fieldAddr 2, [.t 1], some (32, false)⟩,
  ⟨some 34, .load1, [.t 33], some (32, false)⟩,
  ⟨some 35, .bin .gtr, [.t 34, .c (.int .i64 120)], some (32, false)⟩,
  ⟨some 36, .pick, [.t 32, .c (.bool true), .t 35], none⟩]
def a58r14 : List IOp := [⟨some 2, .mv, [.c (.int .i64 1)], none⟩]
def a58r15 : List IOp := [⟨some 37, .build [.int .i64 0, .int .i64 0] [(0, 1), (1, 1)], [.c (.int .i64 (-1)), .c (.int .i64 0)], none⟩,
  ⟨some 3, .alloc 108 [.int .i64 0, .int .i64 0], [], none⟩,
  ⟨none, .store 2, [.t 3, .t 37], none⟩]
def a58r16 : List IOp := [⟨some 38, .fieldAddr 3, [.t 1], none⟩,
  ⟨some 39, .load1, [.t 38], none⟩,
  ⟨some 40, .len, [.t 39], none⟩,
  ⟨some 41, .mv, [.c (.int .i64 0)], none⟩]
def a58r17 : List IOp := [⟨some 42, .bin .lss, [.t 41, .t 40], none⟩]
def a58r18 : List IOp := [⟨some 43, .indexAddr 2, [.t 39, .t 41], none⟩,
  ⟨some 44, .loadA 2, [.t 43], none⟩,
  ⟨some 5, .alloc 108 [.int .i64 0, .int .i64 0], [], none⟩,
  ⟨none, .store 2, [.t 5, .t 44], none⟩]
def a58r19 : List IOp := [⟨some 45, .fieldAddr 0, [.t 5], none⟩,
  ⟨some 46, .load1, [.t 45], none⟩,
  ⟨some 47, .fieldAddr 0, [.t 3], none⟩,
  ⟨some 48, .load1, [.t 47], none⟩,
  ⟨some 49, .bin .leq, [.t 46, .t 48], none⟩,
  ⟨some 50, .mv, [.t 49], none⟩,
  ⟨some 51, .fieldAddr 0, [.t 5], some (50, false)⟩,
  ⟨some 52, .load1, [.t 51], some (50, false)⟩,
  ⟨some 53, .bin .gtr, [.t 52, .c (.int .i64 1440)], some (50, false)⟩,
  ⟨some 54, .pick, [.t 50, .c (.bool true), .t 53], none⟩,
  ⟨some 55, .mv, [.t 54], none⟩,
  ⟨some 56, .fieldAddr 1, [.t 5], some (55, false)⟩,
  ⟨some 57, .load1, [.t 56], some (55, false)⟩,
  ⟨some 58, .fieldAddr 1, [.t 3], some (55, false)⟩,
  ⟨some 59, .load1, [.t 58], some (55, false)⟩,
  ⟨some 60, .bin .leq, [.t 57, .t 59], some (55, false)⟩,
  ⟨some 61, .pick, [.t 55, .c (.bool true), .t 60], none⟩,
  ⟨some 62, .mv, [.t 61], none⟩,
  ⟨some 63, .fieldAddr 1, [.t 5], some (62, false)⟩,
  ⟨some 64, .load1, [.t 63], some (62, false)⟩,
  ⟨some 65, .bin .gtr, [.t 64, .c (.int .i64 1440)], some (62, false)⟩,
  ⟨some 66, .pick, [.t 62, .c (.bool true), .t 65], none⟩]
def a58r20 : List IOp := [⟨some 2, .mv, [.c (.int .i64 1)], none⟩]
def a58r21 : List IOp := [⟨some 67, .loadA 2, [.t 5], none⟩,
  ⟨none, .store 2, [.t 3, .t 67], none⟩]
def a58r22 : List IOp := [⟨some 68, .bin .add, [.t 41, .c (.int .i64 1)], none⟩,
  ⟨some 41, .mv, [.t 68], none⟩]
def a58r23 : List IOp := [⟨some 2, .mv, [.c (.int .i64 0)], none⟩]
def a58 : AFunc := ⟨69, [.tmp 2], (.seq (.region a58r0 [1]) (.seq (.seq (.region a58r1 [1, 9]) (.cond (.t 9) (.seq (.region a58r2 [2]) .ret) .skip)) (.seq (.seq (.region a58r3 [1, 11]) (.block 0 (.seq (.region a58r4 [1, 11, 12]) (.cond (.t 12) (.seq (.region a58r5 [1, 16]) (.cond (.t 16) (.seq (.region a58r6 [2]) .ret) .skip)) (.seq (.seq (.region a58r7 [1, 11, 17]) (.cond (.t 17) .skip (.seq (.region a58r8 [1, 11, 17]) (.cond (.t 17) .skip (.region a58r9 [1, 17]))))) (.cond (.t 17) (.seq (.region a58r10 [1, 28]) (.cond (.t 28) (.seq (.region a58r11 [2]) .ret) .skip)) (.seq (.region a58r12 [2]) .ret))))))) (.seq (.seq (.region a58r13 [1, 36]) (.cond (.t 36) (.seq (.region a58r14 [2]) .ret) .skip)) (.seq (.region a58r15 [1, 3]) (.seq (.seq (.region a58r16 [3, 39, 40, 41]) (.block 1 (.loop (.seq (.region a58r17 [3, 39, 40, 41, 42]) (.seq (.cond (.t 42) .skip (.exit 1)) (.seq (.block 2 (.seq (.region a58r18 [3, 5, 39, 40, 41]) (.seq (.seq (.region a58r19 [3, 5, 39, 40, 41, 66]) (.cond (.t 66) (.seq (.region a58r20 [2]) .ret) .skip)) (.region a58r21 [3, 39, 40, 41])))) (.region a58r22 [3, 39, 40, 41]))))))) (.seq (.region a58r23 [2]) .ret)))))))⟩
theorem a58_ok : compileF Try.prog (lk [(0, ⟨[1], [], []⟩), (1, ⟨[1, 9], [], []⟩), (2, ⟨[2], [], []⟩), (3, ⟨[1, 11], [], []⟩), (4, ⟨[2], [], []⟩), (5, ⟨[1, 11, 12], [], []⟩), (6, ⟨[1, 16], [], []⟩), (7, ⟨[2], [], []⟩), (8, ⟨[1, 11, 17], [], []⟩), (9, ⟨[1, 11, 17], [], []⟩), (10, ⟨[1, 17], [], []⟩), (11, ⟨[1, 28], [], []⟩), (12, ⟨[2], [], []⟩), (13, ⟨[1, 36], [], []⟩), (14, ⟨[2], [], []⟩), (15, ⟨[1, 3], [], []⟩), (16, ⟨[3, 39, 40, 41], [], []⟩), (17, ⟨[3, 39, 40, 41, 42], [], []⟩), (18, ⟨[3, 5, 39, 40, 41], [], []⟩), (19, ⟨[3, 5, 39, 40, 41, 66], [], []⟩), (20, ⟨[2], [], []⟩), (21, ⟨[3, 39, 40, 41], [], []⟩), (22, ⟨[3, 39, 40, 41], [], []⟩), (23, ⟨[2], [], []⟩)]) Try.f58 = some a58 := by kernel_rfl

/- payroll/worktime.adjust -/
def a59r0 : List IOp := [⟨some 3, .box 63 4, [.t 0], none⟩,
  ⟨some 4, .box 26 2, [.t 1], none⟩,
  ⟨some 6, .mv, [.c (.nils)], none⟩]
def a59r1 : List IOp := [⟨some 7, .mv, [.c (.nils)], none⟩]
def a59r2 : List IOp := [⟨some 13, .loadA 2, [.t 4], none⟩,
  ⟨some 14, .build [.int .i64 0, .int .i64 0] [], [], none⟩,
  ⟨some 15, .eqA true [.int .i64, .int .i64], [.t 13, .t 14], none⟩,
  ⟨some 8, .mv, [.t 15], none⟩]
def a59r3 : List IOp := [⟨some 9, .mv, [.c (.int .i64 0)], none⟩]
def a59r4 : List IOp := [⟨some 16, .mv, [.t 2], none⟩,
  ⟨some 17, .len, [.t 16], none⟩,
  ⟨some 18, .mv, [.c (.int .i64 0)], none⟩]
def a59r5 : List IOp := [⟨some 19, .bin .lss, [.t 18, .t 17], none⟩]
def a59r6 : List IOp := [⟨some 20, .indexAddr 3, [.t 16, .t 18], none⟩,
  ⟨some 21, .loadA 3, [.t 20], none⟩,
  ⟨some 11, .alloc 29 [.int .i64 0, .int .i64 0, .nils], [], none⟩,
  ⟨none, .store 3, [.t 11, .t 21], none⟩]
def a59r7 : List (Nat × DOp) := [(0, ⟨⟨some 22, .loadA 4, [.t 3], none⟩, none, [1, 2, 3, 5, 6, 7, 8, 11]⟩),
  (1, ⟨⟨some 23, .fieldAddr 0, [.t 11], none⟩, none, [0, 5, 6, 7, 8, 11]⟩),
  (2, ⟨⟨some 24, .fieldAddr 0, [.t 23], none⟩, none, [0, 5, 6, 7, 8, 11]⟩),
  (3, ⟨⟨some 25, .load1, [.t 24], none⟩, none, [0, 5, 6, 7, 8, 11]⟩),
  (5, ⟨⟨some 27, .loadA 4, [.t 3], none⟩, none, [0, 1, 2, 3, 4, 6, 7, 8, 11]⟩),
  (6, ⟨⟨some 28, .fieldAddr 0, [.t 11], none⟩, none, [0, 1, 2, 3, 4, 5, 11]⟩),
  (7, ⟨⟨some 29, .fieldAddr 1, [.t 28], none⟩, none, [0, 1, 2, 3, 4, 5, 11]⟩),
  (8, ⟨⟨some 30, .load1, [.t 29], none⟩, none, [0, 1, 2, 3, 4, 5, 11]⟩),
  (11, ⟨⟨some 12, .alloc 26 [.int .i64 0, .int .i64 0], [], none⟩, some 0, [0, 1, 2, 3, 4, 5, 6, 7, 8, 9, 10]⟩),
  (4, ⟨⟨some 26, .call 75, [.t 22, .t 25, .c (.bool false)], none⟩, none, [5, 6, 7, 8, 11]⟩),
  (9, ⟨⟨some 31, .call 75, [.t 27, .t 30, .c (.bool true)], none⟩, none, [11]⟩),
  (10, ⟨⟨some 32, .build [.int .i64 0, .int .i64 0] [(0, 1), (1, 1)], [.t 26, .t 31], none⟩, none, [11]⟩),
  (12, ⟨⟨none, .store 2, [.t 12, .t 32], none⟩, none, []⟩)]
def a59r8 : List IOp := [⟨some 33, .mv, [.t 8], none⟩,
  ⟨some 34, .mv, [.t 33], none⟩,
  ⟨some 35, .fieldAddr 0, [.t 11], some (34, true)⟩,
  ⟨some 36, .fieldAddr 0, [.t 35], some (34, true)⟩,
  ⟨some 37, .load1, [.t 36], some (34, true)⟩,
  ⟨some 38, .fieldAddr 0, [.t 4], some (34, true)⟩,
  ⟨some 39, .load1, [.t 38], some (34, true)⟩,
  ⟨some 40, .fieldAddr 2, [.t 3], some (34, true)⟩,
  ⟨some 41, .load1, [.t 40], some (34, true)⟩,
  ⟨some 42, .call 76, [.t 37, .t 39, .t 41], some (34, true)⟩,
  ⟨some 43, .pick, [.t 34, .t 42, .c (.bool false)], none⟩]
def a59r9 : List IOp := [⟨some 44, .fieldAddr 0, [.t 4], none⟩,
  ⟨some 45, .load1, [.t 44], none⟩,
  ⟨some 46, .fieldAddr 0, [.t 12], none⟩,
  ⟨none, .store 1, [.t 46, .t 45], none⟩]
def a59r10 : List IOp := [⟨some 47, .mv, [.t 8], none⟩,
  ⟨some 48, .mv, [.t 47], none⟩,
  ⟨some 49, .fieldAddr 0, [.t 11], some (48, true)⟩,
  ⟨some 50, .fieldAddr 1, [.t 49], some (48, true)⟩,
  ⟨some 51, .load1, [.t 50], some (48, true)⟩,
  ⟨some 52, .fieldAddr 1, [.t 4], some (48, true)⟩,
  ⟨some 53, .load1, [.t 52], some (48, true)⟩,
  ⟨some 54, .fieldAddr 2, [.t 3], some (48, true)⟩,
  ⟨some 55, .load1, [.t 54], some (48, true)⟩,
  ⟨some 56, .call 76, [.t 51, .t 53, .t 55], some (48, true)⟩,
  ⟨some 57, .pick, [.t 48, .t 56, .c (.bool false)], none⟩]
def a59r11 : List IOp := [⟨some 58, .fieldAddr 1, [.t 4], none⟩,
  ⟨some 59, .load1, [.t 58], none⟩,
  ⟨some 60, .fieldAddr 1, [.t 12], none⟩,
  ⟨none, .store 1, [.t 60, .t 59], none⟩]
def a59r12 : List IOp := [⟨some 61, .fieldAddr 0, [.t 12], none⟩,
  ⟨some 62, .load1, [.t 61], none⟩,
  ⟨some 63, .mv, [.t 9], none⟩,
  ⟨some 64, .minmax true, [.t 62, .t 63], none⟩,
  ⟨some 65, .fieldAddr 0, [.t 12], none⟩,
  ⟨none, .store 1, [.t 65, .t 64], none⟩]
def a59r13 : List IOp := [⟨some 66, .fieldAddr 1, [.t 12], none⟩,
  ⟨some 67, .load1, [.t 66], none⟩,
  ⟨some 68, .minmax false, [.t 67, .c (.int .i64 120968640)], none⟩,
  ⟨some 69, .fieldAddr 1, [.t 12], none⟩,
  ⟨none, .store 1, [.t 69, .t 68], none⟩]
def a59r14 : List IOp := [⟨some 70, .mv, [.t 9], none⟩,
  ⟨some 71, .fieldAddr 1, [.t 12], none⟩,
  ⟨some 72, .load1, [.t 71], none⟩,
  ⟨some 73, .minmax true, [.t 70, .t 72], none⟩,
  ⟨some 9, .mv, [.t 73], none⟩]
def a59r15 : List IOp := [⟨some 74, .fieldAddr 1, [.t 12], none⟩,
  ⟨some 75, .load1, [.t 74], none⟩,
  ⟨some 76, .fieldAddr 0, [.t 12], none⟩,
  ⟨some 77, .load1, [.t 76], none⟩,
  ⟨some 78, .bin .gtr, [.t 75, .t 77], none⟩]
def a59r16 : List IOp := [⟨some 79, .mv, [.t 7], none⟩,
  ⟨some 80, .loadA 2, [.t 12], none⟩,
  ⟨some 81, .bslice 26 2 [.int .i64 0, .int .i64 0] 1 [0], [.t 80], none⟩,
  ⟨some 82, .append 26 2 16, [.t 79, .t 81], none⟩,
  ⟨some 7, .mv, [.t 82], none⟩]
def a59r17 : List IOp := [⟨some 83, .bin .add, [.t 18, .c (.int .i64 1)], none⟩,
  ⟨some 18, .mv, [.t 83], none⟩]
def a59r18 : List IOp := [⟨some 84, .mv, [.t 7], none⟩,
  ⟨some 6, .mv, [.t 84], none⟩]
def a59 : AFunc := ⟨85, [.tmp 6], (.seq (.region a59r0 [2, 3, 4]) (.seq (.region a59r1 [2, 3, 4, 7]) (.seq (.region a59r2 [2, 3, 4, 7, 8]) (.seq (.region a59r3 [2, 3, 4, 7, 8, 9]) (.seq (.seq (.region a59r4 [3, 4, 7, 8, 9, 16, 17, 18]) (.block 0 (.loop (.seq (.region a59r5 [3, 4, 7, 8, 9, 16, 17, 18, 19]) (.seq (.cond (.t 19) .skip (.exit 0)) (.seq (.block 1 (.seq (.region a59r6 [3, 4, 7, 8, 9, 11, 16, 17, 18]) (.seq (.draw a59r7 [(26, 2)] [3, 4, 7, 8, 9, 11, 12, 16, 17, 18]) (.seq (.seq (.region a59r8 [3, 4, 7, 8, 9, 11, 12, 16, 17, 18, 43]) (.cond (.t 43) (.region a59r9 [3, 4, 7, 8, 9, 11, 12, 16, 17, 18]) .skip)) (.seq (.seq (.region a59r10 [3, 4, 7, 8, 9, 12, 16, 17, 18, 57]) (.cond (.t 57) (.region a59r11 [3, 4, 7, 8, 9, 12, 16, 17, 18]) .skip)) (.seq (.region a59r12 [3, 4, 7, 8, 9, 12, 16, 17, 18]) (.seq (.region a59r13 [3, 4, 7, 8, 9, 12, 16, 17, 18]) (.seq (.region a59r14 [3, 4, 7, 8, 9, 12, 16, 17, 18]) (.seq (.region a59r15 [3, 4, 7, 8, 9, 12, 16, 17, 18, 78]) (.cond (.t 78) (.region a59r16 [3, 4, 7, 8, 9, 16, 17, 18]) .skip)))))))))) (.region a59r17 [3, 4, 7, 8, 9, 16, 17, 18]))))))) (.seq (.region a59r18 [6]) .ret))))))⟩
theorem a59_ok : compileF Try.prog (lk [(0, ⟨[2, 3, 4], [], []⟩), (1, ⟨[2, 3, 4, 7], [], []⟩), (2, ⟨[2, 3, 4, 7, 8], [], []⟩), (3, ⟨[2, 3, 4, 7, 8, 9], [], []⟩), (4, ⟨[3, 4, 7, 8, 9, 16, 17, 18], [], []⟩), (5, ⟨[3, 4, 7, 8, 9, 16, 17, 18, 19], [], []⟩), (6, ⟨[3, 4, 7, 8, 9, 11, 16, 17, 18], [], []⟩), (7, ⟨[3, 4, 7, 8, 9, 11, 12, 16, 17, 18], [[], [], [1], [2, 1], [0, 3, 2, 1], [], [], [6], [7, 6], [5, 8, 4, 7, 6, 0, 3, 2, 1], [4, 9, 0, 3, 2, 1, 5, 8, 7, 6], [], [11, 10, 9, 0, 1, 2, 3, 4, 5, 6, 7, 8]], [0, 1, 2, 3, 5, 6, 7, 8, 11, 4, 9, 10, 12]⟩), (8, ⟨[3, 4, 7, 8, 9, 11, 12, 16, 17, 18, 43], [], []⟩), (9, ⟨[3, 4, 7, 8, 9, 11, 12, 16, 17, 18], [], []⟩), (10, ⟨[3, 4, 7, 8, 9, 12, 16, 17, 18, 57], [], []⟩), (11, ⟨[3, 4, 7, 8, 9, 12, 16, 17, 18], [], []⟩), (12, ⟨[3, 4, 7, 8, 9, 12, 16, 17, 18], [], []⟩), (13, ⟨[3, 4, 7, 8, 9, 12, 16, 17, 18], [], []⟩), (14, ⟨[3, 4, 7, 8, 9, 12, 16, 17, 18], [], []⟩), (15, ⟨[3, 4, 7, 8, 9, 12, 16, 17, 18, 78], [], []⟩), (16, ⟨[3, 4, 7, 8, 9, 16, 17, 18], [], []⟩), (17, ⟨[3, 4, 7, 8, 9, 16, 17, 18], [], []⟩), (18, ⟨[6], [], []⟩)]) Try.f59 = some a59 := by kernel_rfl

/- payroll/worktime.total -/
def a60r0 : List IOp := [⟨some 2, .mv, [.c (.int .i64 0)], none⟩]
def a60r1 : List IOp := [⟨some 3, .mv, [.c (.int .i64 0)], none⟩]
def a60r2 : List IOp := [⟨some 6, .mv, [.t 0], none⟩,
  ⟨some 7, .len, [.t 6], none⟩,
  ⟨some 8, .mv, [.c (.int .i64 0)], none⟩]
def a60r3 : List IOp := [⟨some 9, .bin .lss, [.t 8, .t 7], none⟩]
def a60r4 : List IOp := [⟨some 10, .indexAddr 2, [.t 6, .t 8], none⟩,
  ⟨some 11, .loadA 2, [.t 10], none⟩,
  ⟨some 5, .alloc 26 [.int .i64 0, .int .i64 0], [], none⟩,
  ⟨none, .store 2, [.t 5, .t 11], none⟩]
def a60r5 : List IOp := [⟨some 12, .mv, [.t 3], none⟩,
  ⟨some 13, .fieldAddr 1, [.t 5], none⟩,
  ⟨some 14, .load1, [.t 13], none⟩,
  ⟨some 15, .fieldAddr 0, [.t 5], none⟩,
  ⟨some 16, .load1, [.t 15], none⟩,
  ⟨some 17, .bin .sub, [.t 14, .t 16], none⟩,
  ⟨some 18, .bin .add, [.t 12, .t 17], none⟩,
  ⟨some 3, .mv, [.t 18], none⟩]
def a60r6 : List IOp := [⟨some 19, .bin .add, [.t 8, .c (.int .i64 1)], none⟩,
  ⟨some 8, .mv, [.t 19], none⟩]
def a60r7 : List IOp := [⟨some 20, .mv, [.t 3], none⟩,
  ⟨some 2, .mv, [.t 20], none⟩]
def a60 : AFunc := ⟨21, [.tmp 2], (.seq (.region a60r0 [0]) (.seq (.region a60r1 [0, 3]) (.seq (.seq (.region a60r2 [3, 6, 7, 8]) (.block 0 (.loop (.seq (.region a60r3 [3, 6, 7, 8, 9]) (.seq (.cond (.t 9) .skip (.exit 0)) (.seq (.block 1 (.seq (.region a60r4 [3, 5, 6, 7, 8]) (.region a60r5 [3, 6, 7, 8]))) (.region a60r6 [3, 6, 7, 8]))))))) (.seq (.region a60r7 [2]) .ret))))⟩
theorem a60_ok : compileF Try.prog (lk [(0, ⟨[0], [], []⟩), (1, ⟨[0, 3], [], []⟩), (2, ⟨[3, 6, 7, 8], [], []⟩), (3, ⟨[3, 6, 7, 8, 9], [], []⟩), (4, ⟨[3, 5, 6, 7, 8], [], []⟩), (5, ⟨[3, 6, 7, 8], [], []⟩), (6, ⟨[3, 6, 7, 8], [], []⟩), (7, ⟨[2], [], []⟩)]) Try.f60 = some a60 := by kernel_rfl

/- payroll/worktime.enforce -/
def a61r0 : List IOp := [⟨some 4, .mv, [.c (.nils)], none⟩]
def a61r1 : List IOp := [⟨some 10, .mv, [.t 1], none⟩,
  ⟨some 11, .len, [.t 10], none⟩,
  ⟨some 12, .bin .eql, [.t 11, .c (.int .i64 0)], none⟩]
def a61r2 : List IOp := [⟨some 13, .mv, [.t 1], none⟩,
  ⟨some 4, .mv, [.t 13], none⟩]
def a61r3 : List (Nat × DOp) := [(0, ⟨⟨some 14, .mv, [.t 1], none⟩, none, [1, 2, 3, 7, 8, 9, 10, 12, 13]⟩),
  (1, ⟨⟨some 15, .mv, [.t 1], none⟩, none, [0, 7, 8, 9, 10, 12, 13]⟩),
  (2, ⟨⟨some 16, .len, [.t 15], none⟩, none, [0, 7, 8, 9, 10, 12, 13]⟩),
  (3, ⟨⟨some 17, .bin .sub, [.t 16, .c (.int .i64 1)], none⟩, none, [0, 7, 8, 9, 10, 12, 13]⟩),
  (4, ⟨⟨some 18, .indexAddr 2, [.t 14, .t 17], none⟩, none, [7, 8, 9, 10, 12, 13]⟩),
  (5, ⟨⟨some 19, .fieldAddr 1, [.t 18], none⟩, none, [7, 8, 9, 10, 12, 13]⟩),
  (6, ⟨⟨some 20, .load1, [.t 19], none⟩, none, [7, 8, 9, 10, 12, 13]⟩),
  (7, ⟨⟨some 21, .mv, [.t 1], none⟩, none, [0, 1, 2, 3, 4, 5, 6, 12, 13]⟩),
  (8, ⟨⟨some 22, .indexAddr 2, [.t 21, .c (.int .i64 0)], none⟩, none, [0, 1, 2, 3, 4, 5, 6, 12, 13]⟩),
  (9, ⟨⟨some 23, .fieldAddr 0, [.t 22], none⟩, none, [0, 1, 2, 3, 4, 5, 6, 12, 13]⟩),
  (10, ⟨⟨some 24, .load1, [.t 23], none⟩, none, [0, 1, 2, 3, 4, 5, 6, 12, 13]⟩),
  (11, ⟨⟨some 25, .bin .sub, [.t 20, .t 24], none⟩, none, [12, 13]⟩),
  (12, ⟨⟨some 26, .mv, [.t 1], none⟩, none, [0, 1, 2, 3, 4, 5, 6, 7, 8, 9, 10, 11]⟩),
  (13, ⟨⟨some 27, .call 60, [.t 26], none⟩, none, [0, 1, 2, 3, 4, 5, 6, 7, 8, 9, 10, 11]⟩),
  (14, ⟨⟨some 28, .bin .sub, [.t 25, .t 27], none⟩, none, []⟩),
  (15, ⟨⟨some 5, .mv, [.t 28], none⟩, none, []⟩)]
def a61r4 : List IOp := [⟨some 29, .mv, [.t 0], none⟩,
  ⟨some 30, .len, [.t 29], none⟩,
  ⟨some 31, .mv, [.c (.int .i64 0)], none⟩]
def a61r5 : List IOp := [⟨some 32, .bin .lss, [.t 31, .t 30], none⟩]
def a61r6 : List IOp := [⟨some 33, .indexAddr 2, [.t 29, .t 31], none⟩,
  ⟨some 34, .loadA 2, [.t 33], none⟩,
  ⟨some 7, .alloc 108 [.int .i64 0, .int .i64 0], [], none⟩,
  ⟨none, .store 2, [.t 7, .t 34], none⟩]
def a61r7 : List IOp := [⟨some 35, .mv, [.t 1], none⟩,
  ⟨some 36, .call 60, [.t 35], none⟩,
  ⟨some 8, .mv, [.t 36], none⟩]
def a61r8 : List IOp := [⟨some 37, .mv, [.t 8], none⟩,
  ⟨some 38, .fieldAddr 0, [.t 7], none⟩,
  ⟨some 39, .load1, [.t 38], none⟩,
  ⟨some 40, .bin .leq, [.t 37, .t 39], none⟩,
  ⟨some 41, .mv, [.t 40], none⟩,
  ⟨some 42, .mv, [.t 5], some (41, false)⟩,
  ⟨some 43, .fieldAddr 1, [.t 7], some (41, false)⟩,
  ⟨some 44, .load1, [.t 43], some (41, false)⟩,
  ⟨some 45, .bin .geq, [.t 42, .t 44], some (41, false)⟩,
  ⟨some 46, .pick, [.t 41, .c (.bool true), .t 45], none⟩]
def a61r9 : List IOp := [⟨some 47, .fieldAddr 1, [.t 7], none⟩,
  ⟨some 48, .load1, [.t 47], none⟩,
  ⟨some 49, .mv, [.t 5], none⟩,
  ⟨some 50, .bin .sub, [.t 48, .t 49], none⟩,
  ⟨some 51, .mv, [.t 8], none⟩,
  ⟨some 52, .fieldAddr 0, [.t 7], none⟩,
  ⟨some 53, .load1, [.t 52], none⟩,
  ⟨some 54, .bin .sub, [.t 51, .t 53], none⟩,
  ⟨some 55, .minmax false, [.t 50, .t 54], none⟩,
  ⟨some 9, .mv, [.t 55], none⟩]
def a61r10 : List IOp := [⟨some 56, .mv, [.t 1], none⟩,
  ⟨some 57, .fieldAddr 0, [.t 7], none⟩,
  ⟨some 58, .load1, [.t 57], none⟩,
  ⟨some 59, .mv, [.t 9], none⟩,
  ⟨some 60, .call 77, [.t 56, .t 58, .t 59], none⟩,
  ⟨some 1, .mv, [.t 60], none⟩]
def a61r11 : List IOp := [⟨some 61, .mv, [.t 5], none⟩,
  ⟨some 62, .mv, [.t 9], none⟩,
  ⟨some 63, .bin .add, [.t 61, .t 62], none⟩,
  ⟨some 5, .mv, [.t 63], none⟩]
def a61r12 : List IOp := [⟨some 64, .bin .add, [.t 31, .c (.int .i64 1)], none⟩,
  ⟨some 31, .mv, [.t 64], none⟩]
def a61r13 : List IOp := [⟨some 65, .mv, [.t 1], none⟩,
  ⟨some 4, .mv, [.t 65], none⟩]
def a61 : AFunc := ⟨66, [.tmp 4], (.seq (.region a61r0 [0, 1]) (.seq (.seq (.region a61r1 [0, 1, 12]) (.cond (.t 12) (.seq (.region a61r2 [4]) .ret) .skip)) (.seq (.draw a61r3 [] [0, 1, 5]) (.seq (.seq (.region a61r4 [1, 5, 29, 30, 31]) (.block 0 (.loop (.seq (.region a61r5 [1, 5, 29, 30, 31, 32]) (.seq (.cond (.t 32) .skip (.exit 0)) (.seq (.block 1 (.seq (.region a61r6 [1, 5, 7, 29, 30, 31]) (.seq (.region a61r7 [1, 5, 7, 8, 29, 30, 31]) (.seq (.seq (.region a61r8 [1, 5, 7, 8, 29, 30, 31, 46]) (.cond (.t 46) (.exit 1) .skip)) (.seq (.region a61r9 [1, 5, 7, 9, 29, 30, 31]) (.seq (.region a61r10 [1, 5, 9, 29, 30, 31]) (.region a61r11 [1, 5, 29, 30, 31]))))))) (.region a61r12 [1, 5, 29, 30, 31]))))))) (.seq (.region a61r13 [4]) .ret)))))⟩
theorem a61_ok : compileF Try.prog (lk [(0, ⟨[0, 1], [], []⟩), (1, ⟨[0, 1, 12], [], []⟩), (2, ⟨[4], [], []⟩), (3, ⟨[0, 1, 5], [[], [], [1], [2, 1], [0, 3, 2, 1], [4, 0, 3, 2, 1], [5, 4, 0, 3, 2, 1], [], [7], [8, 7], [9, 8, 7], [6, 10, 5, 4, 0, 3, 2, 1, 9, 8, 7], [], [12], [11, 13, 6, 10, 5, 4, 0, 3, 2, 1, 9, 8, 7, 12], [14, 13, 0, 1, 2, 3, 4, 5, 6, 7, 8, 9, 10, 11, 12]], [0, 1, 2, 3, 4, 5, 6, 7, 8, 9, 10, 11, 12, 13, 14, 15]⟩), (4, ⟨[1, 5, 29, 30, 31], [], []⟩), (5, ⟨[1, 5, 29, 30, 31, 32], [], []⟩), (6, ⟨[1, 5, 7, 29, 30, 31], [], []⟩), (7, ⟨[1, 5, 7, 8, 29, 30, 31], [], []⟩), (8, ⟨[1, 5, 7, 8, 29, 30, 31, 46], [], []⟩), (9, ⟨[1, 5, 7, 9, 29, 30, 31], [], []⟩), (10, ⟨[1, 5, 9, 29, 30, 31], [], []⟩), (11, ⟨[1, 5, 29, 30, 31], [], []⟩), (12, ⟨[1, 5, 29, 30, 31], [], []⟩), (13, ⟨[4], [], []⟩)]) Try.f61 = some a61 := by kernel_rfl

/- payroll/worktime.without -/
def a62r0 : List IOp := [⟨some 4, .mv, [.c (.nils)], none⟩]
def a62r1 : List IOp := [⟨some 5, .mv, [.c (.nils)], none⟩]
def a62r2 : List IOp := [⟨some 6, .mv, [.c (.int .i64 0)], none⟩]
def a62r3 : List IOp := [⟨some 10, .mv, [.t 0], none⟩,
  ⟨some 11, .len, [.t 10], none⟩,
  ⟨some 12, .mv, [.c (.int .i64 0)], none⟩]
def a62r4 : List IOp := [⟨some 13, .bin .lss, [.t 12, .t 11], none⟩]
def a62r5 : List IOp := [⟨some 14, .indexAddr 2, [.t 10, .t 12], none⟩,
  ⟨some 15, .loadA 2, [.t 14], none⟩,
  ⟨some 8, .alloc 26 [.int .i64 0, .int .i64 0], [], none⟩,
  ⟨none, .store 2, [.t 8, .t 15], none⟩]
def a62r6 : List (Nat × DOp) := [(0, ⟨⟨some 16, .mv, [.t 6], none⟩, none, [1, 2]⟩),
  (1, ⟨⟨some 17, .mv, [.t 1], none⟩, none, [0]⟩),
  (2, ⟨⟨some 18, .len, [.t 17], none⟩, none, [0]⟩),
  (3, ⟨⟨some 19, .bin .lss, [.t 16, .t 18], none⟩, none, []⟩),
  (4, ⟨⟨some 20, .mv, [.t 19], none⟩, none, []⟩),
  (5, ⟨⟨some 21, .mv, [.t 1], some (20, true)⟩, none, [6, 10, 11]⟩),
  (6, ⟨⟨some 22, .mv, [.t 6], some (20, true)⟩, none, [5, 10, 11]⟩),
  (7, ⟨⟨some 23, .indexAddr 2, [.t 21, .t 22], some (20, true)⟩, none, [10, 11]⟩),
  (8, ⟨⟨some 24, .fieldAddr 1, [.t 23], some (20, true)⟩, none, [10, 11]⟩),
  (9, ⟨⟨some 25, .load1, [.t 24], some (20, true)⟩, none, [10, 11]⟩),
  (10, ⟨⟨some 26, .fieldAddr 0, [.t 8], some (20, true)⟩, none, [5, 6, 7, 8, 9]⟩),
  (11, ⟨⟨some 27, .load1, [.t 26], some (20, true)⟩, none, [5, 6, 7, 8, 9]⟩),
  (12, ⟨⟨some 28, .bin .leq, [.t 25, .t 27], some (20, true)⟩, none, []⟩),
  (13, ⟨⟨some 29, .pick, [.t 20, .t 28, .c (.bool false)], none⟩, none, []⟩)]
def a62r7 : List IOp := [⟨some 30, .mv, [.t 6], none⟩,
  ⟨some 31, .bin .add, [.t 30, .c (.int .i64 1)], none⟩,
  ⟨some 6, .mv, [.t 31], none⟩]
def a62r8 : List IOp := [⟨some 32, .mv, [.t 6], none⟩,
  ⟨some 9, .mv, [.t 32], none⟩]
def a62r9 : List (Nat × DOp) := [(0, ⟨⟨some 33, .mv, [.t 9], none⟩, none, [1, 2]⟩),
  (1, ⟨⟨some 34, .mv, [.t 1], none⟩, none, [0]⟩),
  (2, ⟨⟨some 35, .len, [.t 34], none⟩, none, [0]⟩),
  (3, ⟨⟨some 36, .bin .lss, [.t 33, .t 35], none⟩, none, []⟩),
  (4, ⟨⟨some 37, .mv, [.t 36], none⟩, none, []⟩),
  (5, ⟨⟨some 38, .mv, [.t 1], some (37, true)⟩, none, [6, 10, 11]⟩),
  (6, ⟨⟨some 39, .mv, [.t 9], some (37, true)⟩, none, [5, 10, 11]⟩),
  (7, ⟨⟨some 40, .indexAddr 2, [.t 38, .t 39], some (37, true)⟩, none, [10, 11]⟩),
  (8, ⟨⟨some 41, .fieldAddr 0, [.t 40], some (37, true)⟩, none, [10, 11]⟩),
  (9, ⟨⟨some 42, .load1, [.t 41], some (37, true)⟩, none, [10, 11]⟩),
  (10, ⟨⟨some 43, .fieldAddr 1, [.t 8], some (37, true)⟩, none, [5, 6, 7, 8, 9]⟩),
  (11, ⟨⟨some 44, .load1, [.t 43], some (37, true)⟩, none, [5, 6, 7, 8, 9]⟩),
  (12, ⟨⟨some 45, .bin .lss, [.t 42, .t 44], some (37, true)⟩, none, []⟩),
  (13, ⟨⟨some 46, .pick, [.t 37, .t 45, .c (.bool false)], none⟩, none, []⟩)]
def a62r10 : List (Nat × DOp) := [(0, ⟨⟨some 49, .mv, [.t 5], none⟩, none, [1, 2, 3, 4, 5, 6, 7, 8]⟩),
  (1, ⟨⟨some 50, .fieldAddr 0, [.t 8], none⟩, none, [0, 3, 4, 5, 6, 7]⟩),
  (2, ⟨⟨some 51, .load1, [.t 50], none⟩, none, [0, 3, 4, 5, 6, 7]⟩),
  (3, ⟨⟨some 52, .mv, [.t 1], none⟩, none, [0, 1, 2, 4]⟩),
  (4, ⟨⟨some 53, .mv, [.t 9], none⟩, none, [0, 1, 2, 3]⟩),
  (5, ⟨⟨some 54, .indexAddr 2, [.t 52, .t 53], none⟩, none, [0, 1, 2]⟩),
  (6, ⟨⟨some 55, .fieldAddr 0, [.t 54], none⟩, none, [0, 1, 2]⟩),
  (7, ⟨⟨some 56, .load1, [.t 55], none⟩, none, [0, 1, 2]⟩),
  (8, ⟨⟨some 57, .build [.int .i64 0, .int .i64 0] [(0, 1), (1, 1)], [.t 51, .t 56], none⟩, none, [0]⟩),
  (9, ⟨⟨some 58, .call 78, [.t 49, .t 57], none⟩, none, []⟩),
  (10, ⟨⟨some 5, .mv, [.t 58], none⟩, none, []⟩)]
def a62r11 : List IOp := [⟨some 59, .mv, [.t 1], none⟩,
  ⟨some 60, .mv, [.t 9], none⟩,
  ⟨some 61, .indexAddr 2, [.t 59, .t 60], none⟩,
  ⟨some 62, .fieldAddr 1, [.t 61], none⟩,
  ⟨some 63, .load1, [.t 62], none⟩,
  ⟨some 64, .fieldAddr 0, [.t 8], none⟩,
  ⟨none, .store 1, [.t 64, .t 63], none⟩]
def a62r12 : List IOp := [⟨some 47, .mv, [.t 9], none⟩,
  ⟨some 48, .bin .add, [.t 47, .c (.int .i64 1)], none⟩,
  ⟨some 9, .mv, [.t 48], none⟩]
def a62r13 : List IOp := [⟨some 65, .mv, [.t 5], none⟩,
  ⟨some 66, .loadA 2, [.t 8], none⟩,
  ⟨some 67, .call 78, [.t 65, .t 66], none⟩,
  ⟨some 5, .mv, [.t 67], none⟩]
def a62r14 : List IOp := [⟨some 68, .bin .add, [.t 12, .c (.int .i64 1)], none⟩,
  ⟨some 12, .mv, [.t 68], none⟩]
def a62r15 : List IOp := [⟨some 69, .mv, [.t 5], none⟩,
  ⟨some 4, .mv, [.t 69], none⟩]
def a62 : AFunc := ⟨70, [.tmp 4], (.seq (.region a62r0 [0, 1]) (.seq (.region a62r1 [0, 1, 5]) (.seq (.region a62r2 [0, 1, 5, 6]) (.seq (.seq (.region a62r3 [1, 5, 6, 10, 11, 12]) (.block 0 (.loop (.seq (.region a62r4 [1, 5, 6, 10, 11, 12, 13]) (.seq (.cond (.t 13) .skip (.exit 0)) (.seq (.block 1 (.seq (.region a62r5 [1, 5, 6, 8, 10, 11, 12]) (.seq (.block 2 (.loop (.seq (.seq (.draw a62r6 [] [1, 5, 6, 8, 10, 11, 12, 29]) (.cond (.t 29) .skip (.exit 2))) (.block 3 (.region a62r7 [1, 5, 6, 8, 10, 11, 12]))))) (.seq (.seq (.region a62r8 [1, 5, 6, 8, 9, 10, 11, 12]) (.block 4 (.loop (.seq (.seq (.draw a62r9 [] [1, 5, 6, 8, 9, 10, 11, 12, 46]) (.cond (.t 46) .skip (.exit 4))) (.seq (.block 5 (.seq (.draw a62r10 [] [1, 5, 6, 8, 9, 10, 11, 12]) (.region a62r11 [1, 5, 6, 8, 9, 10, 11, 12]))) (.region a62r12 [1, 5, 6, 8, 9, 10, 11, 12])))))) (.region a62r13 [1, 5, 6, 10, 11, 12]))))) (.region a62r14 [1, 5, 6, 10, 11, 12]))))))) (.seq (.region a62r15 [4]) .ret)))))⟩
theorem a62_ok : compileF Try.prog (lk [(0, ⟨[0, 1], [], []⟩), (1, ⟨[0, 1, 5], [], []⟩), (2, ⟨[0, 1, 5, 6], [], []⟩), (3, ⟨[1, 5, 6, 10, 11, 12], [], []⟩), (4, ⟨[1, 5, 6, 10, 11, 12, 13], [], []⟩), (5, ⟨[1, 5, 6, 8, 10, 11, 12], [], []⟩), (6, ⟨[1, 5, 6, 8, 10, 11, 12, 29], [[], [], [1], [0, 2, 1], [3, 0, 2, 1], [4, 3, 0, 2, 1], [4, 3, 0, 2, 1], [5, 6, 4, 3, 0, 2, 1], [7, 4, 5, 6, 3, 0, 2, 1], [8, 4, 7, 5, 6, 3, 0, 2, 1], [4, 3, 0, 2, 1], [10, 4, 3, 0, 2, 1], [9, 11, 4, 8, 7, 5, 6, 3, 0, 2, 1, 10], [4, 12, 3, 0, 2, 1, 9, 11, 8, 7, 5, 6, 10]], [0, 1, 2, 3, 4, 5, 6, 7, 8, 9, 10, 11, 12, 13]⟩), (7, ⟨[1, 5, 6, 8, 10, 11, 12], [], []⟩), (8, ⟨[1, 5, 6, 8, 9, 10, 11, 12], [], []⟩), (9, ⟨[1, 5, 6, 8, 9, 10, 11, 12, 46], [[], [], [1], [0, 2, 1], [3, 0, 2, 1], [4, 3, 0, 2, 1], [4, 3, 0, 2, 1], [5, 6, 4, 3, 0, 2, 1], [7, 4, 5, 6, 3, 0, 2, 1], [8, 4, 7, 5, 6, 3, 0, 2, 1], [4, 3, 0, 2, 1], [10, 4, 3, 0, 2, 1], [9, 11, 4, 8, 7, 5, 6, 3, 0, 2, 1, 10], [4, 12, 3, 0, 2, 1, 9, 11, 8, 7, 5, 6, 10]], [0, 1, 2, 3, 4, 5, 6, 7, 8, 9, 10, 11, 12, 13]⟩), (10, ⟨[1, 5, 6, 8, 9, 10, 11, 12], [], []⟩), (11, ⟨[1, 5, 6, 8, 9, 10, 11, 12], [[], [], [1], [], [], [3, 4], [5, 3, 4], [6, 5, 3, 4], [2, 7, 1, 6, 5, 3, 4], [0, 8, 2, 7, 1, 6, 5, 3, 4], [9, 0, 1, 2, 3, 4, 5, 6, 7, 8]], [0, 1, 2, 3, 4, 5, 6, 7, 8, 9, 10]⟩), (12, ⟨[1, 5, 6, 8, 9, 10, 11, 12], [], []⟩), (13, ⟨[1, 5, 6, 10, 11, 12], [], []⟩), (14, ⟨[1, 5, 6, 10, 11, 12], [], []⟩), (15, ⟨[4], [], []⟩)]) Try.f62 = some a62 := by kernel_rfl

/- payroll/worktime.breaks -/
def a63r0 : List IOp := [⟨some 2, .mv, [.c (.nils)], none⟩]
def a63r1 : List IOp := [⟨some 3, .mv, [.c (.nils)], none⟩]
def a63r2 : List IOp := [⟨some 6, .mv, [.t 0], none⟩,
  ⟨some 7, .len, [.t 6], none⟩,
  ⟨some 8, .mv, [.c (.int .i64 0)], none⟩]
def a63r3 : List IOp := [⟨some 9, .bin .lss, [.t 8, .t 7], none⟩]
def a63r4 : List IOp := [⟨some 10, .indexAddr 3, [.t 6, .t 8], none⟩,
  ⟨some 11, .loadA 3, [.t 10], none⟩,
  ⟨some 5, .alloc 29 [.int .i64 0, .int .i64 0, .nils], [], none⟩,
  ⟨none, .store 3, [.t 5, .t 11], none⟩]
def a63r5 : List IOp := [⟨some 12, .mv, [.t 3], none⟩,
  ⟨some 13, .fieldAddr 2, [.t 5], none⟩,
  ⟨some 14, .load1, [.t 13], none⟩,
  ⟨some 15, .append 26 2 16, [.t 12, .t 14], none⟩,
  ⟨some 3, .mv, [.t 15], none⟩]
def a63r6 : List IOp := [⟨some 16, .bin .add, [.t 8, .c (.int .i64 1)], none⟩,
  ⟨some 8, .mv, [.t 16], none⟩]
def a63r7 : List IOp := [⟨some 17, .mv, [.t 3], none⟩,
  ⟨some 2, .mv, [.t 17], none⟩]
def a63 : AFunc := ⟨18, [.tmp 2], (.seq (.region a63r0 [0]) (.seq (.region a63r1 [0, 3]) (.seq (.seq (.region a63r2 [3, 6, 7, 8]) (.block 0 (.loop (.seq (.region a63r3 [3, 6, 7, 8, 9]) (.seq (.cond (.t 9) .skip (.exit 0)) (.seq (.block 1 (.seq (.region a63r4 [3, 5, 6, 7, 8]) (.region a63r5 [3, 6, 7, 8]))) (.region a63r6 [3, 6, 7, 8]))))))) (.seq (.region a63r7 [2]) .ret))))⟩
theorem a63_ok : compileF Try.prog (lk [(0, ⟨[0], [], []⟩), (1, ⟨[0, 3], [], []⟩), (2, ⟨[3, 6, 7, 8], [], []⟩), (3, ⟨[3, 6, 7, 8, 9], [], []⟩), (4, ⟨[3, 5, 6, 7, 8], [], []⟩), (5, ⟨[3, 6, 7, 8], [], []⟩), (6, ⟨[3, 6, 7, 8], [], []⟩), (7, ⟨[2], [], []⟩)]) Try.f63 = some a63 := by kernel_rfl

/- payroll/worktime.grid -/
def a75r0 : List IOp := [⟨some 3, .box 63 4, [.t 0], none⟩,
  ⟨some 6, .mv, [.c (.int .i64 0)], none⟩]
def a75r1 : List IOp := [⟨some 9, .fieldAddr 1, [.t 3], none⟩,
  ⟨some 10, .load1, [.t 9], none⟩,
  ⟨some 11, .bin .eql, [.t 10, .c (.int .i64 0)], none⟩]
def a75r2 : List IOp := [⟨some 12, .mv, [.t 1], none⟩,
  ⟨some 6, .mv, [.t 12], none⟩]
def a75r3 : List (Nat × DOp) := [(0, ⟨⟨some 13, .mv, [.t 1], none⟩, none, [1, 2, 4, 5]⟩),
  (1, ⟨⟨some 14, .fieldAddr 0, [.t 3], none⟩, none, [0, 4, 5]⟩),
  (2, ⟨⟨some 15, .load1, [.t 14], none⟩, none, [0, 4, 5]⟩),
  (3, ⟨⟨some 16, .bin .quo, [.t 13, .t 15], none⟩, none, [4, 5]⟩),
  (4, ⟨⟨some 17, .fieldAddr 0, [.t 3], none⟩, none, [0, 1, 2, 3]⟩),
  (5, ⟨⟨some 18, .load1, [.t 17], none⟩, none, [0, 1, 2, 3]⟩),
  (6, ⟨⟨some 19, .bin .mul, [.t 16, .t 18], none⟩, none, []⟩),
  (7, ⟨⟨some 7, .mv, [.t 19], none⟩, none, []⟩)]
def a75r4 : List IOp := [⟨some 20, .mv, [.t 7], none⟩,
  ⟨some 21, .mv, [.t 1], none⟩,
  ⟨some 22, .bin .eql, [.t 20, .t 21], none⟩]
def a75r5 : List IOp := [⟨some 23, .mv, [.t 1], none⟩,
  ⟨some 6, .mv, [.t 23], none⟩]
def a75r6 : List IOp := [⟨some 8, .mv, [.c (.bool false)], none⟩]
def a75r7 : List IOp := [⟨some 24, .fieldAddr 1, [.t 3], none⟩,
  ⟨some 25, .load1, [.t 24], none⟩]
def a75r8 : List IOp := [⟨some 27, .bin .eql, [.t 25, .c (.int .i64 1)], none⟩,
  ⟨some 26, .mv, [.t 27], none⟩]
def a75r9 : List IOp := [⟨some 28, .mv, [.t 2], none⟩,
  ⟨some 29, .not, [.t 28], none⟩,
  ⟨some 8, .mv, [.t 29], none⟩]
def a75r10 : List IOp := [⟨some 31, .bin .eql, [.t 25, .c (.int .i64 2)], none⟩,
  ⟨some 30, .mv, [.t 31], none⟩]
def a75r11 : List IOp := [⟨some 32, .mv, [.t 2], none⟩,
  ⟨some 8, .mv, [.t 32], none⟩]
def a75r12 : List IOp := [⟨some 34, .bin .eql, [.t 25, .c (.int .i64 3)], none⟩,
  ⟨some 33, .mv, [.t 34], none⟩]
def a75r13 : List IOp := [⟨some 35, .mv, [.t 1], none⟩,
  ⟨some 36, .mv, [.t 7], none⟩,
  ⟨some 37, .bin .sub, [.t 35, .t 36], none⟩,
  ⟨some 38, .bin .mul, [.c (.int .i64 2), .t 37], none⟩,
  ⟨some 39, .fieldAddr 0, [.t 3], none⟩,
  ⟨some 40, .load1, [.t 39], none⟩,
  ⟨some 41, .bin .geq, [.t 38, .t 40], none⟩,
  ⟨some 8, .mv, [.t 41], none⟩]
def a75r14 : List IOp := [⟨some 42, .mv, [.t 8], none⟩]
def a75r15 : List IOp := [⟨some 43, .mv, [.t 7], none⟩,
  ⟨some 44, .fieldAddr 0, [.t 3], none⟩,
  ⟨some 45, .load1, [.t 44], none⟩,
  ⟨some 46, .bin .add, [.t 43, .t 45], none⟩,
  ⟨some 6, .mv, [.t 46], none⟩]
def a75r16 : List IOp := [⟨some 47, .mv, [.t 7], none⟩,
  ⟨some 6, .mv, [.t 47], none⟩]
def a75 : AFunc := ⟨48, [.tmp 6], (.seq (.region a75r0 [1, 2, 3]) (.seq (.seq (.region a75r1 [1, 2, 3, 11]) (.cond (.t 11) (.seq (.region a75r2 [6]) .ret) .skip)) (.seq (.draw a75r3 [] [1, 2, 3, 7]) (.seq (.seq (.region a75r4 [1, 2, 3, 7, 22]) (.cond (.t 22) (.seq (.region a75r5 [6]) .ret) .skip)) (.seq (.region a75r6 [1, 2, 3, 7, 8]) (.seq (.seq (.region a75r7 [1, 2, 3, 7, 8, 25]) (.block 0 (.seq (.region a75r8 [1, 2, 3, 7, 8, 25, 26]) (.cond (.t 26) (.region a75r9 [3, 7, 8]) (.seq (.region a75r10 [1, 2, 3, 7, 8, 25, 30]) (.cond (.t 30) (.region a75r11 [3, 7, 8]) (.seq (.region a75r12 [1, 3, 7, 8, 33]) (.cond (.t 33) (.region a75r13 [3, 7, 8]) .skip)))))))) (.seq (.seq (.region a75r14 [3, 7, 42]) (.cond (.t 42) (.seq (.region a75r15 [6]) .ret) .skip)) (.seq (.region a75r16 [6]) .ret))))))))⟩
theorem a75_ok : compileF Try.prog (lk [(0, ⟨[1, 2, 3], [], []⟩), (1, ⟨[1, 2, 3, 11], [], []⟩), (2, ⟨[6], [], []⟩), (3, ⟨[1, 2, 3, 7], [[], [], [1], [0, 2, 1], [], [4], [3, 5, 0, 2, 1, 4], [6, 0, 1, 2, 3, 4, 5]], [0, 1, 2, 3, 4, 5, 6, 7]⟩), (4, ⟨[1, 2, 3, 7, 22], [], []⟩), (5, ⟨[6], [], []⟩), (6, ⟨[1, 2, 3, 7, 8], [], []⟩), (7, ⟨[1, 2, 3, 7, 8, 25], [], []⟩), (8, ⟨[1, 2, 3, 7, 8, 25, 26], [], []⟩), (9, ⟨[3, 7, 8], [], []⟩), (10, ⟨[1, 2, 3, 7, 8, 25, 30], [], []⟩), (11, ⟨[3, 7, 8], [], []⟩), (12, ⟨[1, 3, 7, 8, 33], [], []⟩), (13, ⟨[3, 7, 8], [], []⟩), (14, ⟨[3, 7, 42], [], []⟩), (15, ⟨[6], [], []⟩), (16, ⟨[6], [], []⟩)]) Try.f75 = some a75 := by kernel_rfl

/- payroll/worktime.near -/
def a76r0 : List IOp := [⟨some 6, .mv, [.c (.bool false)], none⟩]
def a76r1 : List IOp := [⟨some 7, .mv, [.t 0], none⟩,
  ⟨some 8, .mv, [.t 1], none⟩,
  ⟨some 9, .bin .sub, [.t 7, .t 8], none⟩,
  ⟨some 10, .mv, [.t 2], none⟩,
  ⟨some 11, .bin .leq, [.t 9, .t 10], none⟩,
  ⟨some 12, .mv, [.t 11], none⟩,
  ⟨some 13, .mv, [.t 1], some (12, true)⟩,
  ⟨some 14, .mv, [.t 0], some (12, true)⟩,
  ⟨some 15, .bin .sub, [.t 13, .t 14], some (12, true)⟩,
  ⟨some 16, .mv, [.t 2], some (12, true)⟩,
  ⟨some 17, .bin .leq, [.t 15, .t 16], some (12, true)⟩,
  ⟨some 18, .pick, [.t 12, .t 17, .c (.bool false)], none⟩,
  ⟨some 6, .mv, [.t 18], none⟩]
def a76 : AFunc := ⟨19, [.tmp 6], (.seq (.region a76r0 [0, 1, 2]) (.seq (.region a76r1 [6]) .ret))⟩
theorem a76_ok : compileF Try.prog (lk [(0, ⟨[0, 1, 2], [], []⟩), (1, ⟨[6], [], []⟩)]) Try.f76 = some a76 := by kernel_rfl

/- payroll/worktime.cut -/
def a77r0 : List IOp := [⟨some 6, .mv, [.c (.nils)], none⟩]
def a77r1 : List IOp := [⟨some 7, .mv, [.c (.nils)], none⟩]
def a77r2 : List IOp := [⟨some 13, .mv, [.t 0], none⟩,
  ⟨some 14, .len, [.t 13], none⟩,
  ⟨some 15, .mv, [.c (.int .i64 0)], none⟩]
def a77r3 : List IOp := [⟨some 16, .bin .lss, [.t 15, .t 14], none⟩]
def a77r4 : List IOp := [⟨some 17, .indexAddr 2, [.t 13, .t 15], none⟩,
  ⟨some 18, .loadA 2, [.t 17], none⟩,
  ⟨some 9, .alloc 26 [.int .i64 0, .int .i64 0], [], none⟩,
  ⟨none, .store 2, [.t 9, .t 18], none⟩]
def a77r5 : List IOp := [⟨some 19, .fieldAddr 1, [.t 9], none⟩,
  ⟨some 20, .load1, [.t 19], none⟩,
  ⟨some 21, .fieldAddr 0, [.t 9], none⟩,
  ⟨some 22, .load1, [.t 21], none⟩,
  ⟨some 23, .bin .sub, [.t 20, .t 22], none⟩,
  ⟨some 10, .mv, [.t 23], none⟩]
def a77r6 : List IOp := [⟨some 24, .fieldAddr 0, [.t 9], none⟩,
  ⟨some 25, .load1, [.t 24], none⟩,
  ⟨some 26, .mv, [.t 1], none⟩,
  ⟨some 27, .minmax true, [.t 26, .c (.int .i64 0)], none⟩,
  ⟨some 28, .mv, [.t 10], none⟩,
  ⟨some 29, .minmax false, [.t 27, .t 28], none⟩,
  ⟨some 30, .bin .add, [.t 25, .t 29], none⟩,
  ⟨some 11, .mv, [.t 30], none⟩]
def a77r7 : List IOp := [⟨some 31, .fieldAddr 0, [.t 9], none⟩,
  ⟨some 32, .load1, [.t 31], none⟩,
  ⟨some 33, .mv, [.t 1], none⟩,
  ⟨some 34, .mv, [.t 2], none⟩,
  ⟨some 35, .bin .add, [.t 33, .t 34], none⟩,
  ⟨some 36, .minmax true, [.t 35, .c (.int .i64 0)], none⟩,
  ⟨some 37, .mv, [.t 10], none⟩,
  ⟨some 38, .minmax false, [.t 36, .t 37], none⟩,
  ⟨some 39, .bin .add, [.t 32, .t 38], none⟩,
  ⟨some 12, .mv, [.t 39], none⟩]
def a77r8 : List IOp := [⟨some 40, .mv, [.t 7], none⟩,
  ⟨some 41, .fieldAddr 0, [.t 9], none⟩,
  ⟨some 42, .load1, [.t 41], none⟩,
  ⟨some 43, .mv, [.t 11], none⟩,
  ⟨some 44, .build [.int .i64 0, .int .i64 0] [(0, 1), (1, 1)], [.t 42, .t 43], none⟩,
  ⟨some 45, .call 78, [.t 40, .t 44], none⟩,
  ⟨some 7, .mv, [.t 45], none⟩]
def a77r9 : List IOp := [⟨some 46, .mv, [.t 7], none⟩,
  ⟨some 47, .mv, [.t 12], none⟩,
  ⟨some 48, .fieldAddr 1, [.t 9], none⟩,
  ⟨some 49, .load1, [.t 48], none⟩,
  ⟨some 50, .build [.int .i64 0, .int .i64 0] [(0, 1), (1, 1)], [.t 47, .t 49], none⟩,
  ⟨some 51, .call 78, [.t 46, .t 50], none⟩,
  ⟨some 7, .mv, [.t 51], none⟩]
def a77r10 : List IOp := [⟨some 52, .mv, [.t 1], none⟩,
  ⟨some 53, .mv, [.t 10], none⟩,
  ⟨some 54, .bin .sub, [.t 52, .t 53], none⟩,
  ⟨some 1, .mv, [.t 54], none⟩]
def a77r11 : List IOp := [⟨some 55, .bin .add, [.t 15, .c (.int .i64 1)], none⟩,
  ⟨some 15, .mv, [.t 55], none⟩]
def a77r12 : List IOp := [⟨some 56, .mv, [.t 7], none⟩,
  ⟨some 6, .mv, [.t 56], none⟩]
def a77 : AFunc := ⟨57, [.tmp 6], (.seq (.region a77r0 [0, 1, 2]) (.seq (.region a77r1 [0, 1, 2, 7]) (.seq (.seq (.region a77r2 [1, 2, 7, 13, 14, 15]) (.block 0 (.loop (.seq (.region a77r3 [1, 2, 7, 13, 14, 15, 16]) (.seq (.cond (.t 16) .skip (.exit 0)) (.seq (.block 1 (.seq (.region a77r4 [1, 2, 7, 9, 13, 14, 15]) (.seq (.region a77r5 [1, 2, 7, 9, 10, 13, 14, 15]) (.seq (.region a77r6 [1, 2, 7, 9, 10, 11, 13, 14, 15]) (.seq (.region a77r7 [1, 2, 7, 9, 10, 11, 12, 13, 14, 15]) (.seq (.region a77r8 [1, 2, 7, 9, 10, 12, 13, 14, 15]) (.seq (.region a77r9 [1, 2, 7, 10, 13, 14, 15]) (.region a77r10 [1, 2, 7, 13, 14, 15])))))))) (.region a77r11 [1, 2, 7, 13, 14, 15]))))))) (.seq (.region a77r12 [6]) .ret))))⟩
theorem a77_ok : compileF Try.prog (lk [(0, ⟨[0, 1, 2], [], []⟩), (1, ⟨[0, 1, 2, 7], [], []⟩), (2, ⟨[1, 2, 7, 13, 14, 15], [], []⟩), (3, ⟨[1, 2, 7, 13, 14, 15, 16], [], []⟩), (4, ⟨[1, 2, 7, 9, 13, 14, 15], [], []⟩), (5, ⟨[1, 2, 7, 9, 10, 13, 14, 15], [], []⟩), (6, ⟨[1, 2, 7, 9, 10, 11, 13, 14, 15], [], []⟩), (7, ⟨[1, 2, 7, 9, 10, 11, 12, 13, 14, 15], [], []⟩), (8, ⟨[1, 2, 7, 9, 10, 12, 13, 14, 15], [], []⟩), (9, ⟨[1, 2, 7, 10, 13, 14, 15], [], []⟩), (10, ⟨[1, 2, 7, 13, 14, 15], [], []⟩), (11, ⟨[1, 2, 7, 13, 14, 15], [], []⟩), (12, ⟨[6], [], []⟩)]) Try.f77 = some a77 := by kernel_rfl

/- payroll/worktime.join -/
def a78r0 : List IOp := [⟨some 3, .box 26 2, [.t 1], none⟩,
  ⟨some 4, .mv, [.c (.nils)], none⟩]
def a78r1 : List IOp := [⟨some 6, .fieldAddr 1, [.t 3], none⟩,
  ⟨some 7, .load1, [.t 6], none⟩,
  ⟨some 8, .fieldAddr 0, [.t 3], none⟩,
  ⟨some 9, .load1, [.t 8], none⟩,
  ⟨some 10, .bin .leq, [.t 7, .t 9], none⟩]
def a78r2 : List IOp := [⟨some 11, .mv, [.t 0], none⟩,
  ⟨some 4, .mv, [.t 11], none⟩]
def a78r3 : List IOp := [⟨some 12, .mv, [.t 0], none⟩,
  ⟨some 13, .len, [.t 12], none⟩,
  ⟨some 5, .mv, [.t 13], none⟩]
def a78r4 : List (Nat × DOp) := [(0, ⟨⟨some 14, .mv, [.t 5], none⟩, none, []⟩),
  (1, ⟨⟨some 15, .bin .gtr, [.t 14, .c (.int .i64 0)], none⟩, none, []⟩),
  (2, ⟨⟨some 16, .mv, [.t 15], none⟩, none, []⟩),
  (3, ⟨⟨some 17, .mv, [.t 0], some (16, true)⟩, none, [4, 5, 9, 10]⟩),
  (4, ⟨⟨some 18, .mv, [.t 5], some (16, true)⟩, none, [3, 9, 10]⟩),
  (5, ⟨⟨some 19, .bin .sub, [.t 18, .c (.int .i64 1)], some (16, true)⟩, none, [3, 9, 10]⟩),
  (6, ⟨⟨some 20, .indexAddr 2, [.t 17, .t 19], some (16, true)⟩, none, [9, 10]⟩),
  (7, ⟨⟨some 21, .fieldAddr 1, [.t 20], some (16, true)⟩, none, [9, 10]⟩),
  (8, ⟨⟨some 22, .load1, [.t 21], some (16, true)⟩, none, [9, 10]⟩),
  (9, ⟨⟨some 23, .fieldAddr 0, [.t 3], some (16, true)⟩, none, [3, 4, 5, 6, 7, 8]⟩),
  (10, ⟨⟨some 24, .load1, [.t 23], some (16, true)⟩, none, [3, 4, 5, 6, 7, 8]⟩),
  (11, ⟨⟨some 25, .bin .eql, [.t 22, .t 24], some (16, true)⟩, none, []⟩),
  (12, ⟨⟨some 26, .pick, [.t 16, .t 25, .c (.bool false)], none⟩, none, []⟩)]
def a78r5 : List IOp := [⟨some 27, .mv, [.t 0], none⟩,
  ⟨some 28, .mv, [.t 5], none⟩,
  ⟨some 29, .bin .sub, [.t 28, .c (.int .i64 1)], none⟩,
  ⟨some 30, .fieldAddr 1, [.t 3], none⟩,
  ⟨some 31, .load1, [.t 30], none⟩,
  ⟨some 32, .indexAddr 2, [.t 27, .t 29], none⟩,
  ⟨some 33, .fieldAddr 1, [.t 32], none⟩,
  ⟨none, .store 1, [.t 33, .t 31], none⟩]
def a78r6 : List IOp := [⟨some 34, .mv, [.t 0], none⟩,
  ⟨some 4, .mv, [.t 34], none⟩]
def a78r7 : List IOp := [⟨some 35, .mv, [.t 0], none⟩,
  ⟨some 36, .loadA 2, [.t 3], none⟩,
  ⟨some 37, .bslice 26 2 [.int .i64 0, .int .i64 0] 1 [0], [.t 36], none⟩,
  ⟨some 38, .append 26 2 16, [.t 35, .t 37], none⟩,
  ⟨some 4, .mv, [.t 38], none⟩]
def a78 : AFunc := ⟨39, [.tmp 4], (.seq (.region a78r0 [0, 3]) (.seq (.seq (.region a78r1 [0, 3, 10]) (.cond (.t 10) (.seq (.region a78r2 [4]) .ret) .skip)) (.seq (.seq (.region a78r3 [0, 3, 5]) (.seq (.draw a78r4 [] [0, 3, 5, 26]) (.cond (.t 26) (.seq (.region a78r5 [0]) (.seq (.region a78r6 [4]) .ret)) .skip))) (.seq (.region a78r7 [4]) .ret))))⟩
theorem a78_ok : compileF Try.prog (lk [(0, ⟨[0, 3], [], []⟩), (1, ⟨[0, 3, 10], [], []⟩), (2, ⟨[4], [], []⟩), (3, ⟨[0, 3, 5], [], []⟩), (4, ⟨[0, 3, 5, 26], [[], [0], [1, 0], [2, 1, 0], [2, 1, 0], [4, 2, 1, 0], [3, 5, 2, 1, 0, 4], [6, 2, 3, 5, 1, 0, 4], [7, 2, 6, 3, 5, 1, 0, 4], [2, 1, 0], [9, 2, 1, 0], [8, 10, 2, 7, 6, 3, 5, 1, 0, 4, 9], [2, 11, 1, 0, 8, 10, 7, 6, 3, 5, 4, 9]], [0, 1, 2, 3, 4, 5, 6, 7, 8, 9, 10, 11, 12]⟩), (5, ⟨[0], [], []⟩), (6, ⟨[4], [], []⟩), (7, ⟨[4], [], []⟩)]) Try.f78 = some a78 := by kernel_rfl

end Go.Proofs.Ytjacobmkfkmdiaa
