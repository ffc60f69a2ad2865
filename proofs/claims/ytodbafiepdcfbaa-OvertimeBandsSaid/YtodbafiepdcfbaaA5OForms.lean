/- The abstract forms of the functions, printed by a program, and that the given program has these forms. -/
import Derived.Test.YtodbafiepdcfbaaAbsMd
import Derived.Test.YtodbafiepdcfbaaProg
import Derived.KernelRfl
set_option linter.unusedSimpArgs false
set_option linter.unusedVariables false
set_option linter.unusedSectionVars false
namespace Go.Proofs.Ytodbafiepdcfbaa
open Go Go.Abs
/- payroll/payrolllaw12.OvertimeTotals -/
def a3r0 : List IOp := [⟨some 6, .mv, [.c (.bool false)], none⟩]
def a3r1 : List IOp := [⟨some 14, .mv, [.t 0], none⟩,
  ⟨some 15, .call 12, [.t 14], none⟩,
  ⟨some 7, .mv, [.t 15], none⟩]
def a3r2 : List IOp := [⟨some 8, .mv, [.c (.int .i64 0)], none⟩]
def a3r3 : List IOp := [⟨some 16, .mv, [.t 8], none⟩,
  ⟨some 17, .bin .lss, [.t 16, .c (.int .i64 3)], none⟩]
def a3r4 : List IOp := [⟨some 20, .mv, [.t 7], none⟩,
  ⟨some 21, .call 13, [.t 20, .c (.int .i64 6)], none⟩,
  ⟨some 22, .mv, [.t 7], none⟩,
  ⟨some 23, .call 14, [.t 22, .c (.int .i64 4)], none⟩,
  ⟨some 24, .bin .add, [.c (.int .i64 20454), .t 23], none⟩,
  ⟨some 9, .mv, [.t 21], none⟩,
  ⟨some 10, .mv, [.t 24], none⟩]
def a3r5 : List IOp := [⟨some 25, .mv, [.t 8], none⟩,
  ⟨some 26, .bin .eql, [.t 25, .c (.int .i64 2)], none⟩,
  ⟨some 27, .mv, [.t 26], none⟩,
  ⟨some 28, .mv, [.t 1], some (27, true)⟩,
  ⟨some 29, .len, [.t 28], some (27, true)⟩,
  ⟨some 30, .bin .leq, [.t 29, .c (.int .i64 200)], some (27, true)⟩,
  ⟨some 31, .pick, [.t 27, .t 30, .c (.bool false)], none⟩]
def a3r6 : List IOp := [⟨some 32, .mv, [.t 1], none⟩,
  ⟨some 33, .mv, [.t 2], none⟩,
  ⟨some 9, .mv, [.t 32], none⟩,
  ⟨some 10, .mv, [.t 33], none⟩]
def a3r7 : List IOp := [⟨some 34, .mv, [.t 9], none⟩,
  ⟨some 35, .mv, [.t 10], none⟩,
  ⟨some 36, .call 15, [.t 34, .t 35], none⟩,
  ⟨some 37, .mv, [.t 9], none⟩,
  ⟨some 38, .mv, [.t 10], none⟩,
  ⟨some 39, .call 16, [.t 37, .t 38], none⟩,
  ⟨some 11, .mv, [.t 36], none⟩,
  ⟨some 12, .mv, [.t 39], none⟩]
def a3r8 : List IOp := [⟨some 40, .mv, [.t 11], none⟩,
  ⟨some 41, .len, [.t 40], none⟩,
  ⟨some 42, .mv, [.t 12], none⟩,
  ⟨some 43, .len, [.t 42], none⟩,
  ⟨some 44, .bin .neq, [.t 41, .t 43], none⟩]
def a3r9 : List IOp := [⟨some 6, .mv, [.c (.bool false)], none⟩]
def a3r10 : List IOp := [⟨some 13, .mv, [.c (.int .i64 0)], none⟩]
def a3r11 : List IOp := [⟨some 45, .mv, [.t 13], none⟩,
  ⟨some 46, .mv, [.t 11], none⟩,
  ⟨some 47, .len, [.t 46], none⟩,
  ⟨some 48, .bin .lss, [.t 45, .t 47], none⟩]
def a3r12 : List (Nat × DOp) := [(0, ⟨⟨some 51, .mv, [.t 11], none⟩, none, [1, 4, 5, 6, 7]⟩),
  (1, ⟨⟨some 52, .mv, [.t 13], none⟩, none, [0, 4, 5, 6, 7]⟩),
  (2, ⟨⟨some 53, .indexAddr 2, [.t 51, .t 52], none⟩, none, [4, 5, 6, 7]⟩),
  (3, ⟨⟨some 54, .loadA 2, [.t 53], none⟩, none, [4, 5, 6, 7]⟩),
  (4, ⟨⟨some 55, .mv, [.t 12], none⟩, none, [0, 1, 2, 3, 5]⟩),
  (5, ⟨⟨some 56, .mv, [.t 13], none⟩, none, [0, 1, 2, 3, 4]⟩),
  (6, ⟨⟨some 57, .indexAddr 2, [.t 55, .t 56], none⟩, none, [0, 1, 2, 3]⟩),
  (7, ⟨⟨some 58, .loadA 2, [.t 57], none⟩, none, [0, 1, 2, 3]⟩),
  (8, ⟨⟨some 59, .eqA true [.str, .int .i64], [.t 54, .t 58], none⟩, none, []⟩)]
def a3r13 : List IOp := [⟨some 6, .mv, [.c (.bool false)], none⟩]
def a3r14 : List IOp := [⟨some 49, .mv, [.t 13], none⟩,
  ⟨some 50, .bin .add, [.t 49, .c (.int .i64 1)], none⟩,
  ⟨some 13, .mv, [.t 50], none⟩]
def a3r15 : List IOp := [⟨some 18, .mv, [.t 8], none⟩,
  ⟨some 19, .bin .add, [.t 18, .c (.int .i64 1)], none⟩,
  ⟨some 8, .mv, [.t 19], none⟩]
def a3r16 : List IOp := [⟨some 60, .call 17, [], none⟩,
  ⟨some 6, .mv, [.t 60], none⟩]
def a3 : AFunc := ⟨61, [.tmp 6], (.seq (.region a3r0 [0, 1, 2]) (.seq (.region a3r1 [1, 2, 7]) (.seq (.seq (.region a3r2 [1, 2, 7, 8]) (.block 0 (.loop (.seq (.seq (.region a3r3 [1, 2, 7, 8, 17]) (.cond (.t 17) .skip (.exit 0))) (.seq (.block 1 (.seq (.region a3r4 [1, 2, 7, 8, 9, 10]) (.seq (.seq (.region a3r5 [1, 2, 7, 8, 9, 10, 31]) (.cond (.t 31) (.region a3r6 [1, 2, 7, 8, 9, 10]) .skip)) (.seq (.region a3r7 [1, 2, 7, 8, 11, 12]) (.seq (.seq (.region a3r8 [1, 2, 7, 8, 11, 12, 44]) (.cond (.t 44) (.seq (.region a3r9 [6]) .ret) .skip)) (.seq (.region a3r10 [1, 2, 7, 8, 11, 12, 13]) (.block 2 (.loop (.seq (.seq (.region a3r11 [1, 2, 7, 8, 11, 12, 13, 48]) (.cond (.t 48) .skip (.exit 2))) (.seq (.block 3 (.seq (.draw a3r12 [] [1, 2, 7, 8, 11, 12, 13, 59]) (.cond (.t 59) (.seq (.region a3r13 [6]) .ret) .skip))) (.region a3r14 [1, 2, 7, 8, 11, 12, 13]))))))))))) (.region a3r15 [1, 2, 7, 8])))))) (.seq (.region a3r16 [6]) .ret))))⟩
theorem a3_ok : compileF Try.prog (lk [(0, ⟨[0, 1, 2], [], []⟩), (1, ⟨[1, 2, 7], [], []⟩), (2, ⟨[1, 2, 7, 8], [], []⟩), (3, ⟨[1, 2, 7, 8, 17], [], []⟩), (4, ⟨[1, 2, 7, 8], [], []⟩), (5, ⟨[1, 2, 7, 8, 9, 10], [], []⟩), (6, ⟨[1, 2, 7, 8, 9, 10, 31], [], []⟩), (7, ⟨[1, 2, 7, 8, 9, 10], [], []⟩), (8, ⟨[1, 2, 7, 8, 11, 12], [], []⟩), (9, ⟨[1, 2, 7, 8, 11, 12, 44], [], []⟩), (10, ⟨[6], [], []⟩), (11, ⟨[1, 2, 7, 8, 11, 12, 13], [], []⟩), (12, ⟨[1, 2, 7, 8, 11, 12, 13, 48], [], []⟩), (13, ⟨[1, 2, 7, 8, 11, 12, 13], [], []⟩), (14, ⟨[1, 2, 7, 8, 11, 12, 13, 59], [[], [], [0, 1], [2, 0, 1], [], [], [4, 5], [6, 4, 5], [3, 7, 2, 0, 1, 6, 4, 5]], [0, 1, 2, 3, 4, 5, 6, 7, 8]⟩), (15, ⟨[6], [], []⟩), (16, ⟨[6], [], []⟩)]) Try.f3 = some a3 := by kernel_rfl

/- payroll/payrolllaw12.OvertimeConserves -/
def a4r0 : List IOp := [⟨some 4, .mv, [.c (.bool false)], none⟩]
def a4r1 : List IOp := [⟨some 19, .mv, [.t 0], none⟩,
  ⟨some 20, .call 12, [.t 19], none⟩,
  ⟨some 5, .mv, [.t 20], none⟩]
def a4r2 : List IOp := [⟨some 21, .mv, [.t 5], none⟩,
  ⟨some 22, .call 18, [.t 21, .c (.bool false)], none⟩,
  ⟨some 23, .mv, [.t 5], none⟩,
  ⟨some 24, .call 19, [.t 23, .c (.int .i64 5)], none⟩,
  ⟨some 6, .alloc 36 [.str ⟨#[]⟩, .nils, .nils], [], none⟩,
  ⟨none, .store 3, [.t 6, .t 22], none⟩,
  ⟨some 7, .mv, [.t 24], none⟩]
def a4r3 : List IOp := [⟨some 26, .loadA 3, [.t 6], none⟩,
  ⟨some 27, .mv, [.t 7], none⟩,
  ⟨some 28, .call 20, [.t 26, .t 27], none⟩,
  ⟨some 25, .mv, [.t 28], none⟩,
  ⟨some 29, .extract 0, [.t 25], none⟩,
  ⟨some 30, .extract 1, [.t 25], none⟩,
  ⟨some 8, .mv, [.t 29], none⟩,
  ⟨some 9, .mv, [.t 30], none⟩]
def a4r4 : List IOp := [⟨some 31, .mv, [.t 9], none⟩,
  ⟨some 32, .bin .neq, [.t 31, .c (.int .i64 0)], none⟩]
def a4r5 : List IOp := [⟨some 4, .mv, [.c (.bool false)], none⟩]
def a4r6 : List IOp := [⟨some 10, .mv, [.c (.int .i64 0)], none⟩,
  ⟨some 11, .mv, [.c (.int .i64 0)], none⟩]
def a4r7 : List IOp := [⟨some 12, .mv, [.c (.int .i64 0)], none⟩]
def a4r8 : List IOp := [⟨some 33, .mv, [.t 12], none⟩,
  ⟨some 34, .mv, [.t 7], none⟩,
  ⟨some 35, .len, [.t 34], none⟩,
  ⟨some 36, .bin .lss, [.t 33, .t 35], none⟩]
def a4r9 : List IOp := [⟨some 39, .mv, [.t 10], none⟩,
  ⟨some 40, .mv, [.t 7], none⟩,
  ⟨some 41, .mv, [.t 12], none⟩,
  ⟨some 42, .indexAddr 2, [.t 40, .t 41], none⟩,
  ⟨some 43, .fieldAddr 1, [.t 42], none⟩,
  ⟨some 44, .load1, [.t 43], none⟩,
  ⟨some 45, .call 21, [.t 44], none⟩,
  ⟨some 46, .bin .add, [.t 39, .t 45], none⟩,
  ⟨some 10, .mv, [.t 46], none⟩]
def a4r10 : List IOp := [⟨some 37, .mv, [.t 12], none⟩,
  ⟨some 38, .bin .add, [.t 37, .c (.int .i64 1)], none⟩,
  ⟨some 12, .mv, [.t 38], none⟩]
def a4r11 : List IOp := [⟨some 13, .mv, [.c (.int .i64 0)], none⟩]
def a4r12 : List IOp := [⟨some 47, .mv, [.t 13], none⟩,
  ⟨some 48, .mv, [.t 8], none⟩,
  ⟨some 49, .len, [.t 48], none⟩,
  ⟨some 50, .bin .lss, [.t 47, .t 49], none⟩]
def a4r13 : List (Nat × DOp) := [(0, ⟨⟨some 53, .mv, [.t 8], none⟩, none, [1, 6, 7, 8, 9, 10, 11]⟩),
  (1, ⟨⟨some 54, .mv, [.t 13], none⟩, none, [0, 6, 7, 8, 9, 10, 11]⟩),
  (2, ⟨⟨some 55, .indexAddr 4, [.t 53, .t 54], none⟩, none, [6, 7, 8, 9, 10, 11]⟩),
  (3, ⟨⟨some 56, .fieldAddr 1, [.t 55], none⟩, none, [6, 7, 8, 9, 10, 11]⟩),
  (4, ⟨⟨some 57, .fieldAddr 0, [.t 56], none⟩, none, [6, 7, 8, 9, 10, 11]⟩),
  (5, ⟨⟨some 58, .load1, [.t 57], none⟩, none, [6, 7, 8, 9, 10, 11]⟩),
  (6, ⟨⟨some 59, .mv, [.t 8], none⟩, none, [0, 1, 2, 3, 4, 5, 7]⟩),
  (7, ⟨⟨some 60, .mv, [.t 13], none⟩, none, [0, 1, 2, 3, 4, 5, 6]⟩),
  (8, ⟨⟨some 61, .indexAddr 4, [.t 59, .t 60], none⟩, none, [0, 1, 2, 3, 4, 5]⟩),
  (9, ⟨⟨some 62, .fieldAddr 1, [.t 61], none⟩, none, [0, 1, 2, 3, 4, 5]⟩),
  (10, ⟨⟨some 63, .fieldAddr 1, [.t 62], none⟩, none, [0, 1, 2, 3, 4, 5]⟩),
  (11, ⟨⟨some 64, .load1, [.t 63], none⟩, none, [0, 1, 2, 3, 4, 5]⟩),
  (12, ⟨⟨some 65, .bin .geq, [.t 58, .t 64], none⟩, none, []⟩),
  (13, ⟨⟨some 66, .mv, [.t 65], none⟩, none, []⟩),
  (14, ⟨⟨some 67, .mv, [.t 13], some (66, false)⟩, none, []⟩),
  (15, ⟨⟨some 68, .bin .gtr, [.t 67, .c (.int .i64 0)], some (66, false)⟩, none, []⟩),
  (16, ⟨⟨some 69, .mv, [.t 68], some (66, false)⟩, none, []⟩),
  (17, ⟨⟨some 70, .mv, [.t 8], some (69, true)⟩, none, [18, 23, 24, 25, 26, 27, 28, 29]⟩),
  (18, ⟨⟨some 71, .mv, [.t 13], some (69, true)⟩, none, [17, 23, 24, 25, 26, 27, 28, 29]⟩),
  (19, ⟨⟨some 72, .indexAddr 4, [.t 70, .t 71], some (69, true)⟩, none, [23, 24, 25, 26, 27, 28, 29]⟩),
  (20, ⟨⟨some 73, .fieldAddr 1, [.t 72], some (69, true)⟩, none, [23, 24, 25, 26, 27, 28, 29]⟩),
  (21, ⟨⟨some 74, .fieldAddr 0, [.t 73], some (69, true)⟩, none, [23, 24, 25, 26, 27, 28, 29]⟩),
  (22, ⟨⟨some 75, .load1, [.t 74], some (69, true)⟩, none, [23, 24, 25, 26, 27, 28, 29]⟩),
  (23, ⟨⟨some 76, .mv, [.t 8], some (69, true)⟩, none, [17, 18, 19, 20, 21, 22, 24, 25]⟩),
  (24, ⟨⟨some 77, .mv, [.t 13], some (69, true)⟩, none, [17, 18, 19, 20, 21, 22, 23]⟩),
  (25, ⟨⟨some 78, .bin .sub, [.t 77, .c (.int .i64 1)], some (69, true)⟩, none, [17, 18, 19, 20, 21, 22, 23]⟩),
  (26, ⟨⟨some 79, .indexAddr 4, [.t 76, .t 78], some (69, true)⟩, none, [17, 18, 19, 20, 21, 22]⟩),
  (27, ⟨⟨some 80, .fieldAddr 1, [.t 79], some (69, true)⟩, none, [17, 18, 19, 20, 21, 22]⟩),
  (28, ⟨⟨some 81, .fieldAddr 1, [.t 80], some (69, true)⟩, none, [17, 18, 19, 20, 21, 22]⟩),
  (29, ⟨⟨some 82, .load1, [.t 81], some (69, true)⟩, none, [17, 18, 19, 20, 21, 22]⟩),
  (30, ⟨⟨some 83, .bin .lss, [.t 75, .t 82], some (69, true)⟩, none, []⟩),
  (31, ⟨⟨some 84, .pick, [.t 69, .t 83, .c (.bool false)], some (66, false)⟩, none, []⟩),
  (32, ⟨⟨some 85, .pick, [.t 66, .c (.bool true), .t 84], none⟩, none, []⟩)]
def a4r14 : List IOp := [⟨some 4, .mv, [.c (.bool false)], none⟩]
def a4r15 : List (Nat × DOp) := [(0, ⟨⟨some 86, .mv, [.t 11], none⟩, none, [1, 2, 3, 4, 5, 6, 7, 8, 9, 10, 11, 12, 13]⟩),
  (1, ⟨⟨some 87, .mv, [.t 8], none⟩, none, [0, 2, 7, 8, 9, 10, 11, 12]⟩),
  (2, ⟨⟨some 88, .mv, [.t 13], none⟩, none, [0, 1, 7, 8, 9, 10, 11, 12]⟩),
  (3, ⟨⟨some 89, .indexAddr 4, [.t 87, .t 88], none⟩, none, [0, 7, 8, 9, 10, 11, 12]⟩),
  (4, ⟨⟨some 90, .fieldAddr 1, [.t 89], none⟩, none, [0, 7, 8, 9, 10, 11, 12]⟩),
  (5, ⟨⟨some 91, .fieldAddr 1, [.t 90], none⟩, none, [0, 7, 8, 9, 10, 11, 12]⟩),
  (6, ⟨⟨some 92, .load1, [.t 91], none⟩, none, [0, 7, 8, 9, 10, 11, 12]⟩),
  (7, ⟨⟨some 93, .mv, [.t 8], none⟩, none, [0, 1, 2, 3, 4, 5, 6, 8]⟩),
  (8, ⟨⟨some 94, .mv, [.t 13], none⟩, none, [0, 1, 2, 3, 4, 5, 6, 7]⟩),
  (9, ⟨⟨some 95, .indexAddr 4, [.t 93, .t 94], none⟩, none, [0, 1, 2, 3, 4, 5, 6]⟩),
  (10, ⟨⟨some 96, .fieldAddr 1, [.t 95], none⟩, none, [0, 1, 2, 3, 4, 5, 6]⟩),
  (11, ⟨⟨some 97, .fieldAddr 0, [.t 96], none⟩, none, [0, 1, 2, 3, 4, 5, 6]⟩),
  (12, ⟨⟨some 98, .load1, [.t 97], none⟩, none, [0, 1, 2, 3, 4, 5, 6]⟩),
  (13, ⟨⟨some 99, .bin .sub, [.t 92, .t 98], none⟩, none, [0]⟩),
  (14, ⟨⟨some 100, .bin .add, [.t 86, .t 99], none⟩, none, []⟩),
  (15, ⟨⟨some 11, .mv, [.t 100], none⟩, none, []⟩)]
def a4r16 : List IOp := [⟨some 51, .mv, [.t 13], none⟩,
  ⟨some 52, .bin .add, [.t 51, .c (.int .i64 1)], none⟩,
  ⟨some 13, .mv, [.t 52], none⟩]
def a4r17 : List IOp := [⟨some 101, .mv, [.t 7], none⟩,
  ⟨some 102, .len, [.t 101], none⟩,
  ⟨some 103, .bin .eql, [.t 102, .c (.int .i64 0)], none⟩]
def a4r18 : List IOp := [⟨some 104, .mv, [.t 8], none⟩,
  ⟨some 105, .len, [.t 104], none⟩,
  ⟨some 106, .bin .eql, [.t 105, .c (.int .i64 0)], none⟩,
  ⟨some 107, .mv, [.t 106], none⟩,
  ⟨some 108, .call 17, [], some (107, true)⟩,
  ⟨some 109, .pick, [.t 107, .t 108, .c (.bool false)], none⟩,
  ⟨some 4, .mv, [.t 109], none⟩]
def a4r19 : List IOp := [⟨some 110, .mv, [.t 7], none⟩,
  ⟨some 111, .mv, [.t 1], none⟩,
  ⟨some 112, .mv, [.t 7], none⟩,
  ⟨some 113, .len, [.t 112], none⟩,
  ⟨some 114, .call 22, [.t 111, .t 113], none⟩,
  ⟨some 115, .indexAddr 2, [.t 110, .t 114], none⟩,
  ⟨some 116, .loadA 2, [.t 115], none⟩,
  ⟨some 14, .alloc 46 [.int .i64 0, .nils], [], none⟩,
  ⟨none, .store 2, [.t 14, .t 116], none⟩]
def a4r20 : List (Nat × DOp) := [(0, ⟨⟨some 117, .fieldAddr 1, [.t 14], none⟩, none, [2, 3, 4, 5, 6, 9]⟩),
  (1, ⟨⟨some 118, .load1, [.t 117], none⟩, none, [2, 3, 4, 5, 6, 9]⟩),
  (2, ⟨⟨some 119, .mv, [.t 5], none⟩, none, [0, 1, 3, 4, 5, 9]⟩),
  (3, ⟨⟨some 120, .fieldAddr 1, [.t 14], none⟩, none, [0, 1, 2, 9]⟩),
  (4, ⟨⟨some 121, .load1, [.t 120], none⟩, none, [0, 1, 2, 9]⟩),
  (5, ⟨⟨some 122, .len, [.t 121], none⟩, none, [0, 1, 2, 9]⟩),
  (9, ⟨⟨some 15, .alloc 48 [.int .i64 0, .int .i64 0], [], none⟩, some 0, [0, 1, 2, 3, 4, 5, 6, 7, 8]⟩),
  (6, ⟨⟨some 123, .call 14, [.t 119, .t 122], none⟩, none, [0, 1, 9]⟩),
  (7, ⟨⟨some 124, .indexAddr 2, [.t 118, .t 123], none⟩, none, [9]⟩),
  (8, ⟨⟨some 125, .loadA 2, [.t 124], none⟩, none, [9]⟩),
  (10, ⟨⟨none, .store 2, [.t 15, .t 125], none⟩, none, []⟩)]
def a4r21 : List (Nat × DOp) := [(0, ⟨⟨some 126, .fieldAddr 0, [.t 15], none⟩, none, [2, 3, 4, 5, 6, 7, 8]⟩),
  (1, ⟨⟨some 127, .load1, [.t 126], none⟩, none, [2, 3, 4, 5, 6, 7, 8]⟩),
  (2, ⟨⟨some 128, .mv, [.t 5], none⟩, none, [0, 1, 3, 4, 5, 6, 7]⟩),
  (3, ⟨⟨some 129, .fieldAddr 1, [.t 15], none⟩, none, [0, 1, 2, 5, 6]⟩),
  (4, ⟨⟨some 130, .load1, [.t 129], none⟩, none, [0, 1, 2, 5, 6]⟩),
  (5, ⟨⟨some 131, .fieldAddr 0, [.t 15], none⟩, none, [0, 1, 2, 3, 4]⟩),
  (6, ⟨⟨some 132, .load1, [.t 131], none⟩, none, [0, 1, 2, 3, 4]⟩),
  (7, ⟨⟨some 133, .bin .sub, [.t 130, .t 132], none⟩, none, [0, 1, 2]⟩),
  (8, ⟨⟨some 134, .call 14, [.t 128, .t 133], none⟩, none, [0, 1]⟩),
  (9, ⟨⟨some 135, .bin .add, [.t 127, .t 134], none⟩, none, []⟩),
  (10, ⟨⟨some 16, .mv, [.t 135], none⟩, none, []⟩)]
def a4r22 : List IOp := [⟨some 17, .mv, [.c (.int .i64 0)], none⟩]
def a4r23 : List IOp := [⟨some 18, .mv, [.c (.int .i64 0)], none⟩]
def a4r24 : List IOp := [⟨some 136, .mv, [.t 18], none⟩,
  ⟨some 137, .mv, [.t 8], none⟩,
  ⟨some 138, .len, [.t 137], none⟩,
  ⟨some 139, .bin .lss, [.t 136, .t 138], none⟩]
def a4r25 : List (Nat × DOp) := [(0, ⟨⟨some 142, .mv, [.t 8], none⟩, none, [1, 6]⟩),
  (1, ⟨⟨some 143, .mv, [.t 18], none⟩, none, [0, 6]⟩),
  (2, ⟨⟨some 144, .indexAddr 4, [.t 142, .t 143], none⟩, none, [6]⟩),
  (3, ⟨⟨some 145, .fieldAddr 1, [.t 144], none⟩, none, [6]⟩),
  (4, ⟨⟨some 146, .fieldAddr 0, [.t 145], none⟩, none, [6]⟩),
  (5, ⟨⟨some 147, .load1, [.t 146], none⟩, none, [6]⟩),
  (6, ⟨⟨some 148, .mv, [.t 16], none⟩, none, [0, 1, 2, 3, 4, 5]⟩),
  (7, ⟨⟨some 149, .bin .leq, [.t 147, .t 148], none⟩, none, []⟩),
  (8, ⟨⟨some 150, .mv, [.t 149], none⟩, none, []⟩),
  (9, ⟨⟨some 151, .mv, [.t 16], some (150, true)⟩, none, [10, 11, 12, 13, 14, 15]⟩),
  (10, ⟨⟨some 152, .mv, [.t 8], some (150, true)⟩, none, [9, 11]⟩),
  (11, ⟨⟨some 153, .mv, [.t 18], some (150, true)⟩, none, [9, 10]⟩),
  (12, ⟨⟨some 154, .indexAddr 4, [.t 152, .t 153], some (150, true)⟩, none, [9]⟩),
  (13, ⟨⟨some 155, .fieldAddr 1, [.t 154], some (150, true)⟩, none, [9]⟩),
  (14, ⟨⟨some 156, .fieldAddr 1, [.t 155], some (150, true)⟩, none, [9]⟩),
  (15, ⟨⟨some 157, .load1, [.t 156], some (150, true)⟩, none, [9]⟩),
  (16, ⟨⟨some 158, .bin .lss, [.t 151, .t 157], some (150, true)⟩, none, []⟩),
  (17, ⟨⟨some 159, .pick, [.t 150, .t 158, .c (.bool false)], none⟩, none, []⟩),
  (18, ⟨⟨some 160, .mv, [.t 159], none⟩, none, []⟩),
  (19, ⟨⟨some 161, .mv, [.t 8], some (160, true)⟩, none, [20, 24, 25]⟩),
  (20, ⟨⟨some 162, .mv, [.t 18], some (160, true)⟩, none, [19, 24, 25]⟩),
  (21, ⟨⟨some 163, .indexAddr 4, [.t 161, .t 162], some (160, true)⟩, none, [24, 25]⟩),
  (22, ⟨⟨some 164, .fieldAddr 0, [.t 163], some (160, true)⟩, none, [24, 25]⟩),
  (23, ⟨⟨some 165, .load1, [.t 164], some (160, true)⟩, none, [24, 25]⟩),
  (24, ⟨⟨some 166, .fieldAddr 0, [.t 14], some (160, true)⟩, none, [19, 20, 21, 22, 23]⟩),
  (25, ⟨⟨some 167, .load1, [.t 166], some (160, true)⟩, none, [19, 20, 21, 22, 23]⟩),
  (26, ⟨⟨some 168, .bin .eql, [.t 165, .t 167], some (160, true)⟩, none, []⟩),
  (27, ⟨⟨some 169, .pick, [.t 160, .t 168, .c (.bool false)], none⟩, none, []⟩)]
def a4r26 : List IOp := [⟨some 170, .mv, [.t 17], none⟩,
  ⟨some 171, .bin .add, [.t 170, .c (.int .i64 1)], none⟩,
  ⟨some 17, .mv, [.t 171], none⟩]
def a4r27 : List IOp := [⟨some 140, .mv, [.t 18], none⟩,
  ⟨some 141, .bin .add, [.t 140, .c (.int .i64 1)], none⟩,
  ⟨some 18, .mv, [.t 141], none⟩]
def a4r28 : List IOp := [⟨some 172, .mv, [.t 10], none⟩,
  ⟨some 173, .mv, [.t 11], none⟩,
  ⟨some 174, .bin .eql, [.t 172, .t 173], none⟩,
  ⟨some 175, .mv, [.t 174], none⟩,
  ⟨some 176, .mv, [.t 17], some (175, true)⟩,
  ⟨some 177, .bin .eql, [.t 176, .c (.int .i64 1)], some (175, true)⟩,
  ⟨some 178, .pick, [.t 175, .t 177, .c (.bool false)], none⟩,
  ⟨some 179, .mv, [.t 178], none⟩,
  ⟨some 180, .call 17, [], some (179, true)⟩,
  ⟨some 181, .pick, [.t 179, .t 180, .c (.bool false)], none⟩,
  ⟨some 4, .mv, [.t 181], none⟩]
def a4 : AFunc := ⟨182, [.tmp 4], (.seq (.region a4r0 [0, 1]) (.seq (.region a4r1 [1, 5]) (.seq (.region a4r2 [1, 5, 6, 7]) (.seq (.region a4r3 [1, 5, 7, 8, 9]) (.seq (.seq (.region a4r4 [1, 5, 7, 8, 32]) (.cond (.t 32) (.seq (.region a4r5 [4]) .ret) .skip)) (.seq (.region a4r6 [1, 5, 7, 8, 10, 11]) (.seq (.seq (.region a4r7 [1, 5, 7, 8, 10, 11, 12]) (.block 0 (.loop (.seq (.seq (.region a4r8 [1, 5, 7, 8, 10, 11, 12, 36]) (.cond (.t 36) .skip (.exit 0))) (.seq (.block 1 (.region a4r9 [1, 5, 7, 8, 10, 11, 12])) (.region a4r10 [1, 5, 7, 8, 10, 11, 12])))))) (.seq (.seq (.region a4r11 [1, 5, 7, 8, 10, 11, 13]) (.block 2 (.loop (.seq (.seq (.region a4r12 [1, 5, 7, 8, 10, 11, 13, 50]) (.cond (.t 50) .skip (.exit 2))) (.seq (.block 3 (.seq (.seq (.draw a4r13 [] [1, 5, 7, 8, 10, 11, 13, 85]) (.cond (.t 85) (.seq (.region a4r14 [4]) .ret) .skip)) (.draw a4r15 [] [1, 5, 7, 8, 10, 11, 13]))) (.region a4r16 [1, 5, 7, 8, 10, 11, 13])))))) (.seq (.seq (.region a4r17 [1, 5, 7, 8, 10, 11, 103]) (.cond (.t 103) (.seq (.region a4r18 [4]) .ret) .skip)) (.seq (.region a4r19 [5, 8, 10, 11, 14]) (.seq (.draw a4r20 [(48, 2)] [5, 8, 10, 11, 14, 15]) (.seq (.draw a4r21 [] [8, 10, 11, 14, 16]) (.seq (.region a4r22 [8, 10, 11, 14, 16, 17]) (.seq (.seq (.region a4r23 [8, 10, 11, 14, 16, 17, 18]) (.block 4 (.loop (.seq (.seq (.region a4r24 [8, 10, 11, 14, 16, 17, 18, 139]) (.cond (.t 139) .skip (.exit 4))) (.seq (.block 5 (.seq (.draw a4r25 [] [8, 10, 11, 14, 16, 17, 18, 169]) (.cond (.t 169) (.region a4r26 [8, 10, 11, 14, 16, 17, 18]) .skip))) (.region a4r27 [8, 10, 11, 14, 16, 17, 18])))))) (.seq (.region a4r28 [4]) .ret)))))))))))))))⟩
theorem a4_ok : compileF Try.prog (lk [(0, ⟨[0, 1], [], []⟩), (1, ⟨[1, 5], [], []⟩), (2, ⟨[1, 5, 6, 7], [], []⟩), (3, ⟨[1, 5, 7, 8, 9], [], []⟩), (4, ⟨[1, 5, 7, 8, 32], [], []⟩), (5, ⟨[4], [], []⟩), (6, ⟨[1, 5, 7, 8, 10, 11], [], []⟩), (7, ⟨[1, 5, 7, 8, 10, 11, 12], [], []⟩), (8, ⟨[1, 5, 7, 8, 10, 11, 12, 36], [], []⟩), (9, ⟨[1, 5, 7, 8, 10, 11, 12], [], []⟩), (10, ⟨[1, 5, 7, 8, 10, 11, 12], [], []⟩), (11, ⟨[1, 5, 7, 8, 10, 11, 13], [], []⟩), (12, ⟨[1, 5, 7, 8, 10, 11, 13, 50], [], []⟩), (13, ⟨[1, 5, 7, 8, 10, 11, 13], [], []⟩), (14, ⟨[1, 5, 7, 8, 10, 11, 13, 85], [[], [], [0, 1], [2, 0, 1], [3, 2, 0, 1], [4, 3, 2, 0, 1], [], [], [6, 7], [8, 6, 7], [9, 8, 6, 7], [10, 9, 8, 6, 7], [5, 11, 4, 3, 2, 0, 1, 10, 9, 8, 6, 7], [12, 5, 11, 4, 3, 2, 0, 1, 10, 9, 8, 6, 7], [13, 12, 5, 11, 4, 3, 2, 0, 1, 10, 9, 8, 6, 7], [14, 13, 12, 5, 11, 4, 3, 2, 0, 1, 10, 9, 8, 6, 7], [15, 13, 14, 12, 5, 11, 4, 3, 2, 0, 1, 10, 9, 8, 6, 7], [16, 15, 13, 14, 12, 5, 11, 4, 3, 2, 0, 1, 10, 9, 8, 6, 7], [16, 15, 13, 14, 12, 5, 11, 4, 3, 2, 0, 1, 10, 9, 8, 6, 7], [17, 18, 16, 15, 13, 14, 12, 5, 11, 4, 3, 2, 0, 1, 10, 9, 8, 6, 7], [19, 16, 17, 18, 15, 13, 14, 12, 5, 11, 4, 3, 2, 0, 1, 10, 9, 8, 6, 7], [20, 16, 19, 17, 18, 15, 13, 14, 12, 5, 11, 4, 3, 2, 0, 1, 10, 9, 8, 6, 7], [21, 16, 20, 19, 17, 18, 15, 13, 14, 12, 5, 11, 4, 3, 2, 0, 1, 10, 9, 8, 6, 7], [16, 15, 13, 14, 12, 5, 11, 4, 3, 2, 0, 1, 10, 9, 8, 6, 7], [16, 15, 13, 14, 12, 5, 11, 4, 3, 2, 0, 1, 10, 9, 8, 6, 7], [24, 16, 15, 13, 14, 12, 5, 11, 4, 3, 2, 0, 1, 10, 9, 8, 6, 7], [23, 25, 16, 15, 13, 14, 12, 5, 11, 4, 3, 2, 0, 1, 10, 9, 8, 6, 7, 24], [26, 16, 23, 25, 15, 13, 14, 12, 5, 11, 4, 3, 2, 0, 1, 10, 9, 8, 6, 7, 24], [27, 16, 26, 23, 25, 15, 13, 14, 12, 5, 11, 4, 3, 2, 0, 1, 10, 9, 8, 6, 7, 24], [28, 16, 27, 26, 23, 25, 15, 13, 14, 12, 5, 11, 4, 3, 2, 0, 1, 10, 9, 8, 6, 7, 24], [22, 29, 16, 21, 20, 19, 17, 18, 15, 13, 14, 12, 5, 11, 4, 3, 2, 0, 1, 10, 9, 8, 6, 7, 28, 27, 26, 23, 25, 24], [16, 30, 13, 15, 14, 12, 5, 11, 4, 3, 2, 0, 1, 10, 9, 8, 6, 7, 22, 29, 21, 20, 19, 17, 18, 28, 27, 26, 23, 25, 24], [13, 31, 12, 5, 11, 4, 3, 2, 0, 1, 10, 9, 8, 6, 7, 16, 30, 15, 14, 22, 29, 21, 20, 19, 17, 18, 28, 27, 26, 23, 25, 24]], [0, 1, 2, 3, 4, 5, 6, 7, 8, 9, 10, 11, 12, 13, 14, 15, 16, 17, 18, 19, 20, 21, 22, 23, 24, 25, 26, 27, 28, 29, 30, 31, 32]⟩), (15, ⟨[4], [], []⟩), (16, ⟨[1, 5, 7, 8, 10, 11, 13], [[], [], [], [1, 2], [3, 1, 2], [4, 3, 1, 2], [5, 4, 3, 1, 2], [], [], [7, 8], [9, 7, 8], [10, 9, 7, 8], [11, 10, 9, 7, 8], [6, 12, 5, 4, 3, 1, 2, 11, 10, 9, 7, 8], [0, 13, 6, 12, 5, 4, 3, 1, 2, 11, 10, 9, 7, 8], [14, 0, 1, 2, 3, 4, 5, 6, 7, 8, 9, 10, 11, 12, 13]], [0, 1, 2, 3, 4, 5, 6, 7, 8, 9, 10, 11, 12, 13, 14, 15]⟩), (17, ⟨[1, 5, 7, 8, 10, 11, 103], [], []⟩), (18, ⟨[4], [], []⟩), (19, ⟨[5, 8, 10, 11, 14], [], []⟩), (20, ⟨[5, 8, 10, 11, 14, 15], [[], [0], [], [], [3], [4, 3], [2, 5, 4, 3], [1, 6, 0, 2, 5, 4, 3], [7, 1, 6, 0, 2, 5, 4, 3], [], [9, 8, 6, 0, 1, 2, 3, 4, 5, 7]], [0, 1, 2, 3, 4, 5, 9, 6, 7, 8, 10]⟩), (21, ⟨[8, 10, 11, 14, 16], [[], [0], [], [], [3], [], [5], [4, 6, 3, 5], [2, 7, 4, 6, 3, 5], [1, 8, 0, 2, 7, 4, 6, 3, 5], [9, 8, 0, 1, 2, 3, 4, 5, 6, 7]], [0, 1, 2, 3, 4, 5, 6, 7, 8, 9, 10]⟩), (22, ⟨[8, 10, 11, 14, 16, 17], [], []⟩), (23, ⟨[8, 10, 11, 14, 16, 17, 18], [], []⟩), (24, ⟨[8, 10, 11, 14, 16, 17, 18, 139], [], []⟩), (25, ⟨[8, 10, 11, 14, 16, 17, 18], [], []⟩), (26, ⟨[8, 10, 11, 14, 16, 17, 18, 169], [[], [], [0, 1], [2, 0, 1], [3, 2, 0, 1], [4, 3, 2, 0, 1], [], [5, 6, 4, 3, 2, 0, 1], [7, 5, 6, 4, 3, 2, 0, 1], [8, 7, 5, 6, 4, 3, 2, 0, 1], [8, 7, 5, 6, 4, 3, 2, 0, 1], [8, 7, 5, 6, 4, 3, 2, 0, 1], [10, 11, 8, 7, 5, 6, 4, 3, 2, 0, 1], [12, 8, 10, 11, 7, 5, 6, 4, 3, 2, 0, 1], [13, 8, 12, 10, 11, 7, 5, 6, 4, 3, 2, 0, 1], [14, 8, 13, 12, 10, 11, 7, 5, 6, 4, 3, 2, 0, 1], [9, 15, 8, 7, 5, 6, 4, 3, 2, 0, 1, 14, 13, 12, 10, 11], [8, 16, 7, 5, 6, 4, 3, 2, 0, 1, 9, 15, 14, 13, 12, 10, 11], [17, 8, 16, 7, 5, 6, 4, 3, 2, 0, 1, 9, 15, 14, 13, 12, 10, 11], [18, 17, 8, 16, 7, 5, 6, 4, 3, 2, 0, 1, 9, 15, 14, 13, 12, 10, 11], [18, 17, 8, 16, 7, 5, 6, 4, 3, 2, 0, 1, 9, 15, 14, 13, 12, 10, 11], [19, 20, 18, 17, 8, 16, 7, 5, 6, 4, 3, 2, 0, 1, 9, 15, 14, 13, 12, 10, 11], [21, 18, 19, 20, 17, 8, 16, 7, 5, 6, 4, 3, 2, 0, 1, 9, 15, 14, 13, 12, 10, 11], [22, 18, 21, 19, 20, 17, 8, 16, 7, 5, 6, 4, 3, 2, 0, 1, 9, 15, 14, 13, 12, 10, 11], [18, 17, 8, 16, 7, 5, 6, 4, 3, 2, 0, 1, 9, 15, 14, 13, 12, 10, 11], [24, 18, 17, 8, 16, 7, 5, 6, 4, 3, 2, 0, 1, 9, 15, 14, 13, 12, 10, 11], [23, 25, 18, 22, 21, 19, 20, 17, 8, 16, 7, 5, 6, 4, 3, 2, 0, 1, 9, 15, 14, 13, 12, 10, 11, 24], [18, 26, 17, 8, 16, 7, 5, 6, 4, 3, 2, 0, 1, 9, 15, 14, 13, 12, 10, 11, 23, 25, 22, 21, 19, 20, 24]], [0, 1, 2, 3, 4, 5, 6, 7, 8, 9, 10, 11, 12, 13, 14, 15, 16, 17, 18, 19, 20, 21, 22, 23, 24, 25, 26, 27]⟩), (27, ⟨[8, 10, 11, 14, 16, 17, 18], [], []⟩), (28, ⟨[4], [], []⟩)]) Try.f4 = some a4 := by kernel_rfl

/- payroll/payrolllaw12.OvertimeOrderless -/
def a5r0 : List IOp := [⟨some 4, .mv, [.c (.bool false)], none⟩]
def a5r1 : List IOp := [⟨some 19, .mv, [.t 0], none⟩,
  ⟨some 20, .call 12, [.t 19], none⟩,
  ⟨some 5, .mv, [.t 20], none⟩]
def a5r2 : List IOp := [⟨some 21, .mv, [.t 5], none⟩,
  ⟨some 22, .call 18, [.t 21, .c (.bool false)], none⟩,
  ⟨some 23, .mv, [.t 5], none⟩,
  ⟨some 24, .call 19, [.t 23, .c (.int .i64 5)], none⟩,
  ⟨some 6, .alloc 36 [.str ⟨#[]⟩, .nils, .nils], [], none⟩,
  ⟨none, .store 3, [.t 6, .t 22], none⟩,
  ⟨some 7, .mv, [.t 24], none⟩]
def a5r3 : List IOp := [⟨some 8, .mv, [.c (.nils)], none⟩]
def a5r4 : List IOp := [⟨some 25, .mv, [.t 1], none⟩,
  ⟨some 26, .mv, [.t 7], none⟩,
  ⟨some 27, .len, [.t 26], none⟩,
  ⟨some 28, .bin .add, [.t 27, .c (.int .i64 1)], none⟩,
  ⟨some 29, .call 22, [.t 25, .t 28], none⟩,
  ⟨some 9, .mv, [.t 29], none⟩]
def a5r5 : List (Nat × DOp) := [(0, ⟨⟨some 30, .nilsl, [], none⟩, none, [1, 2, 3, 5, 6, 7]⟩),
  (1, ⟨⟨some 31, .mv, [.t 7], none⟩, none, [0, 2, 5, 6, 7]⟩),
  (2, ⟨⟨some 32, .mv, [.t 9], none⟩, none, [0, 1, 5, 6, 7]⟩),
  (3, ⟨⟨some 33, .slice true false 2, [.t 31, .t 32], none⟩, none, [0, 5, 6, 7]⟩),
  (5, ⟨⟨some 35, .mv, [.t 7], none⟩, none, [0, 1, 2, 3, 4, 6]⟩),
  (6, ⟨⟨some 36, .mv, [.t 9], none⟩, none, [0, 1, 2, 3, 4, 5]⟩),
  (7, ⟨⟨some 37, .slice false true 2, [.t 35, .t 36], none⟩, none, [0, 1, 2, 3, 4]⟩),
  (4, ⟨⟨some 34, .append 46 2 32, [.t 30, .t 33], none⟩, none, [5, 6, 7]⟩),
  (8, ⟨⟨some 38, .append 46 2 32, [.t 34, .t 37], none⟩, none, []⟩),
  (9, ⟨⟨some 10, .mv, [.t 38], none⟩, none, []⟩)]
def a5r6 : List IOp := [⟨some 11, .mv, [.c (.int .i64 0)], none⟩]
def a5r7 : List IOp := [⟨some 39, .mv, [.t 11], none⟩,
  ⟨some 40, .mv, [.t 10], none⟩,
  ⟨some 41, .len, [.t 40], none⟩,
  ⟨some 42, .bin .lss, [.t 39, .t 41], none⟩]
def a5r8 : List IOp := [⟨some 45, .mv, [.t 10], none⟩,
  ⟨some 46, .mv, [.t 11], none⟩,
  ⟨some 47, .indexAddr 2, [.t 45, .t 46], none⟩,
  ⟨some 48, .fieldAddr 1, [.t 47], none⟩,
  ⟨some 49, .load1, [.t 48], none⟩,
  ⟨some 50, .len, [.t 49], none⟩,
  ⟨some 51, .bin .sub, [.t 50, .c (.int .i64 1)], none⟩,
  ⟨some 12, .mv, [.t 51], none⟩]
def a5r9 : List IOp := [⟨some 52, .mv, [.t 12], none⟩,
  ⟨some 53, .bin .geq, [.t 52, .c (.int .i64 0)], none⟩]
def a5r10 : List IOp := [⟨some 56, .mv, [.t 10], none⟩,
  ⟨some 57, .mv, [.t 11], none⟩,
  ⟨some 58, .indexAddr 2, [.t 56, .t 57], none⟩,
  ⟨some 59, .fieldAddr 1, [.t 58], none⟩,
  ⟨some 60, .load1, [.t 59], none⟩,
  ⟨some 61, .mv, [.t 12], none⟩,
  ⟨some 62, .indexAddr 2, [.t 60, .t 61], none⟩,
  ⟨some 63, .loadA 2, [.t 62], none⟩,
  ⟨some 13, .alloc 48 [.int .i64 0, .int .i64 0], [], none⟩,
  ⟨none, .store 2, [.t 13, .t 63], none⟩]
def a5r11 : List (Nat × DOp) := [(0, ⟨⟨some 64, .fieldAddr 0, [.t 13], none⟩, none, [2, 3, 4, 5, 6, 7, 8]⟩),
  (1, ⟨⟨some 65, .load1, [.t 64], none⟩, none, [2, 3, 4, 5, 6, 7, 8]⟩),
  (2, ⟨⟨some 66, .mv, [.t 5], none⟩, none, [0, 1, 3, 4, 5, 6, 7]⟩),
  (3, ⟨⟨some 67, .fieldAddr 1, [.t 13], none⟩, none, [0, 1, 2, 5, 6]⟩),
  (4, ⟨⟨some 68, .load1, [.t 67], none⟩, none, [0, 1, 2, 5, 6]⟩),
  (5, ⟨⟨some 69, .fieldAddr 0, [.t 13], none⟩, none, [0, 1, 2, 3, 4]⟩),
  (6, ⟨⟨some 70, .load1, [.t 69], none⟩, none, [0, 1, 2, 3, 4]⟩),
  (7, ⟨⟨some 71, .bin .sub, [.t 68, .t 70], none⟩, none, [0, 1, 2]⟩),
  (8, ⟨⟨some 72, .call 14, [.t 66, .t 71], none⟩, none, [0, 1]⟩),
  (9, ⟨⟨some 73, .bin .add, [.t 65, .t 72], none⟩, none, []⟩),
  (10, ⟨⟨some 14, .mv, [.t 73], none⟩, none, []⟩)]
def a5r12 : List (Nat × DOp) := [(0, ⟨⟨some 74, .mv, [.t 8], none⟩, none, [1, 2, 3, 4, 5, 6, 7, 8, 9, 10, 11, 12]⟩),
  (1, ⟨⟨some 75, .mv, [.t 10], none⟩, none, [0, 2, 6, 7, 8, 9, 10]⟩),
  (2, ⟨⟨some 76, .mv, [.t 11], none⟩, none, [0, 1, 6, 7, 8, 9, 10]⟩),
  (3, ⟨⟨some 77, .indexAddr 2, [.t 75, .t 76], none⟩, none, [0, 6, 7, 8, 9, 10]⟩),
  (4, ⟨⟨some 78, .fieldAddr 0, [.t 77], none⟩, none, [0, 6, 7, 8, 9, 10]⟩),
  (5, ⟨⟨some 79, .load1, [.t 78], none⟩, none, [0, 6, 7, 8, 9, 10]⟩),
  (6, ⟨⟨some 80, .mv, [.t 14], none⟩, none, [0, 1, 2, 3, 4, 5, 7, 8]⟩),
  (7, ⟨⟨some 81, .fieldAddr 1, [.t 13], none⟩, none, [0, 1, 2, 3, 4, 5, 6]⟩),
  (8, ⟨⟨some 82, .load1, [.t 81], none⟩, none, [0, 1, 2, 3, 4, 5, 6]⟩),
  (9, ⟨⟨some 83, .build [.int .i64 0, .int .i64 0] [(0, 1), (1, 1)], [.t 80, .t 82], none⟩, none, [0, 1, 2, 3, 4, 5]⟩),
  (10, ⟨⟨some 84, .bslice 48 2 [.int .i64 0, .int .i64 0] 1 [0], [.t 83], none⟩, some 0, [0, 1, 2, 3, 4, 5]⟩),
  (11, ⟨⟨some 85, .build [.int .i64 0, .nils] [(0, 1), (1, 1)], [.t 79, .t 84], none⟩, none, [0]⟩),
  (12, ⟨⟨some 86, .bslice 46 2 [.int .i64 0, .nils] 1 [0], [.t 85], none⟩, some 1, [0]⟩),
  (13, ⟨⟨some 87, .append 46 2 32, [.t 74, .t 86], none⟩, none, []⟩),
  (14, ⟨⟨some 8, .mv, [.t 87], none⟩, none, []⟩)]
def a5r13 : List IOp := [⟨some 88, .mv, [.t 14], none⟩,
  ⟨some 89, .fieldAddr 0, [.t 13], none⟩,
  ⟨some 90, .load1, [.t 89], none⟩,
  ⟨some 91, .bin .gtr, [.t 88, .t 90], none⟩]
def a5r14 : List (Nat × DOp) := [(0, ⟨⟨some 92, .mv, [.t 8], none⟩, none, [1, 2, 3, 4, 5, 6, 7, 8, 9, 10, 11, 12]⟩),
  (1, ⟨⟨some 93, .mv, [.t 10], none⟩, none, [0, 2, 6, 7, 8, 9, 10]⟩),
  (2, ⟨⟨some 94, .mv, [.t 11], none⟩, none, [0, 1, 6, 7, 8, 9, 10]⟩),
  (3, ⟨⟨some 95, .indexAddr 2, [.t 93, .t 94], none⟩, none, [0, 6, 7, 8, 9, 10]⟩),
  (4, ⟨⟨some 96, .fieldAddr 0, [.t 95], none⟩, none, [0, 6, 7, 8, 9, 10]⟩),
  (5, ⟨⟨some 97, .load1, [.t 96], none⟩, none, [0, 6, 7, 8, 9, 10]⟩),
  (6, ⟨⟨some 98, .fieldAddr 0, [.t 13], none⟩, none, [0, 1, 2, 3, 4, 5, 8]⟩),
  (7, ⟨⟨some 99, .load1, [.t 98], none⟩, none, [0, 1, 2, 3, 4, 5, 8]⟩),
  (8, ⟨⟨some 100, .mv, [.t 14], none⟩, none, [0, 1, 2, 3, 4, 5, 6, 7]⟩),
  (9, ⟨⟨some 101, .build [.int .i64 0, .int .i64 0] [(0, 1), (1, 1)], [.t 99, .t 100], none⟩, none, [0, 1, 2, 3, 4, 5]⟩),
  (10, ⟨⟨some 102, .bslice 48 2 [.int .i64 0, .int .i64 0] 1 [0], [.t 101], none⟩, some 0, [0, 1, 2, 3, 4, 5]⟩),
  (11, ⟨⟨some 103, .build [.int .i64 0, .nils] [(0, 1), (1, 1)], [.t 97, .t 102], none⟩, none, [0]⟩),
  (12, ⟨⟨some 104, .bslice 46 2 [.int .i64 0, .nils] 1 [0], [.t 103], none⟩, some 1, [0]⟩),
  (13, ⟨⟨some 105, .append 46 2 32, [.t 92, .t 104], none⟩, none, []⟩),
  (14, ⟨⟨some 8, .mv, [.t 105], none⟩, none, []⟩)]
def a5r15 : List IOp := [⟨some 54, .mv, [.t 12], none⟩,
  ⟨some 55, .bin .sub, [.t 54, .c (.int .i64 1)], none⟩,
  ⟨some 12, .mv, [.t 55], none⟩]
def a5r16 : List IOp := [⟨some 43, .mv, [.t 11], none⟩,
  ⟨some 44, .bin .add, [.t 43, .c (.int .i64 1)], none⟩,
  ⟨some 11, .mv, [.t 44], none⟩]
def a5r17 : List IOp := [⟨some 107, .loadA 3, [.t 6], none⟩,
  ⟨some 108, .mv, [.t 7], none⟩,
  ⟨some 109, .call 20, [.t 107, .t 108], none⟩,
  ⟨some 106, .mv, [.t 109], none⟩,
  ⟨some 110, .extract 0, [.t 106], none⟩,
  ⟨some 111, .extract 1, [.t 106], none⟩,
  ⟨some 15, .mv, [.t 110], none⟩,
  ⟨some 16, .mv, [.t 111], none⟩]
def a5r18 : List IOp := [⟨some 113, .loadA 3, [.t 6], none⟩,
  ⟨some 114, .mv, [.t 8], none⟩,
  ⟨some 115, .call 20, [.t 113, .t 114], none⟩,
  ⟨some 112, .mv, [.t 115], none⟩,
  ⟨some 116, .extract 0, [.t 112], none⟩,
  ⟨some 117, .extract 1, [.t 112], none⟩,
  ⟨some 17, .mv, [.t 116], none⟩,
  ⟨some 18, .mv, [.t 117], none⟩]
def a5r19 : List IOp := [⟨some 118, .mv, [.t 16], none⟩,
  ⟨some 119, .bin .eql, [.t 118, .c (.int .i64 0)], none⟩,
  ⟨some 120, .mv, [.t 119], none⟩,
  ⟨some 121, .mv, [.t 18], some (120, true)⟩,
  ⟨some 122, .bin .eql, [.t 121, .c (.int .i64 0)], some (120, true)⟩,
  ⟨some 123, .pick, [.t 120, .t 122, .c (.bool false)], none⟩,
  ⟨some 124, .mv, [.t 123], none⟩,
  ⟨some 125, .mv, [.t 15], some (124, true)⟩,
  ⟨some 126, .mv, [.t 17], some (124, true)⟩,
  ⟨some 127, .call 23, [.t 125, .t 126], some (124, true)⟩,
  ⟨some 128, .pick, [.t 124, .t 127, .c (.bool false)], none⟩,
  ⟨some 129, .mv, [.t 128], none⟩,
  ⟨some 130, .call 17, [], some (129, true)⟩,
  ⟨some 131, .pick, [.t 129, .t 130, .c (.bool false)], none⟩,
  ⟨some 4, .mv, [.t 131], none⟩]
def a5 : AFunc := ⟨132, [.tmp 4], (.seq (.region a5r0 [0, 1]) (.seq (.region a5r1 [1, 5]) (.seq (.region a5r2 [1, 5, 6, 7]) (.seq (.region a5r3 [1, 5, 6, 7, 8]) (.seq (.region a5r4 [5, 6, 7, 8, 9]) (.seq (.draw a5r5 [] [5, 6, 7, 8, 10]) (.seq (.seq (.region a5r6 [5, 6, 7, 8, 10, 11]) (.block 0 (.loop (.seq (.seq (.region a5r7 [5, 6, 7, 8, 10, 11, 42]) (.cond (.t 42) .skip (.exit 0))) (.seq (.block 1 (.seq (.region a5r8 [5, 6, 7, 8, 10, 11, 12]) (.block 2 (.loop (.seq (.seq (.region a5r9 [5, 6, 7, 8, 10, 11, 12, 53]) (.cond (.t 53) .skip (.exit 2))) (.seq (.block 3 (.seq (.region a5r10 [5, 6, 7, 8, 10, 11, 12, 13]) (.seq (.draw a5r11 [] [5, 6, 7, 8, 10, 11, 12, 13, 14]) (.seq (.draw a5r12 [(48, 2), (46, 2)] [5, 6, 7, 8, 10, 11, 12, 13, 14]) (.seq (.region a5r13 [5, 6, 7, 8, 10, 11, 12, 13, 14, 91]) (.cond (.t 91) (.draw a5r14 [(48, 2), (46, 2)] [5, 6, 7, 8, 10, 11, 12]) .skip)))))) (.region a5r15 [5, 6, 7, 8, 10, 11, 12]))))))) (.region a5r16 [5, 6, 7, 8, 10, 11])))))) (.seq (.region a5r17 [6, 8, 15, 16]) (.seq (.region a5r18 [15, 16, 17, 18]) (.seq (.region a5r19 [4]) .ret))))))))))⟩
theorem a5_ok : compileF Try.prog (lk [(0, ⟨[0, 1], [], []⟩), (1, ⟨[1, 5], [], []⟩), (2, ⟨[1, 5, 6, 7], [], []⟩), (3, ⟨[1, 5, 6, 7, 8], [], []⟩), (4, ⟨[5, 6, 7, 8, 9], [], []⟩), (5, ⟨[5, 6, 7, 8, 10], [[], [], [], [1, 2], [0, 3, 1, 2], [], [], [5, 6], [4, 7, 0, 3, 1, 2, 5, 6], [8, 0, 1, 2, 3, 4, 5, 6, 7]], [0, 1, 2, 3, 5, 6, 7, 4, 8, 9]⟩), (6, ⟨[5, 6, 7, 8, 10, 11], [], []⟩), (7, ⟨[5, 6, 7, 8, 10, 11, 42], [], []⟩), (8, ⟨[5, 6, 7, 8, 10, 11], [], []⟩), (9, ⟨[5, 6, 7, 8, 10, 11, 12], [], []⟩), (10, ⟨[5, 6, 7, 8, 10, 11, 12, 53], [], []⟩), (11, ⟨[5, 6, 7, 8, 10, 11, 12], [], []⟩), (12, ⟨[5, 6, 7, 8, 10, 11, 12, 13], [], []⟩), (13, ⟨[5, 6, 7, 8, 10, 11, 12, 13, 14], [[], [0], [], [], [3], [], [5], [4, 6, 3, 5], [2, 7, 4, 6, 3, 5], [1, 8, 0, 2, 7, 4, 6, 3, 5], [9, 8, 0, 1, 2, 3, 4, 5, 6, 7]], [0, 1, 2, 3, 4, 5, 6, 7, 8, 9, 10]⟩), (14, ⟨[5, 6, 7, 8, 10, 11, 12, 13, 14], [[], [], [], [1, 2], [3, 1, 2], [4, 3, 1, 2], [], [], [7], [6, 8, 7], [9, 6, 8, 7], [5, 10, 4, 3, 1, 2, 9, 6, 8, 7], [11, 5, 10, 4, 3, 1, 2, 9, 6, 8, 7], [0, 12, 11, 5, 10, 4, 3, 1, 2, 9, 6, 8, 7], [13, 0, 1, 2, 3, 4, 5, 6, 7, 8, 9, 10, 11, 12]], [0, 1, 2, 3, 4, 5, 6, 7, 8, 9, 10, 11, 12, 13, 14]⟩), (15, ⟨[5, 6, 7, 8, 10, 11, 12, 13, 14, 91], [], []⟩), (16, ⟨[5, 6, 7, 8, 10, 11, 12], [[], [], [], [1, 2], [3, 1, 2], [4, 3, 1, 2], [], [6], [], [7, 8, 6], [9, 7, 8, 6], [5, 10, 4, 3, 1, 2, 9, 7, 8, 6], [11, 5, 10, 4, 3, 1, 2, 9, 7, 8, 6], [0, 12, 11, 5, 10, 4, 3, 1, 2, 9, 7, 8, 6], [13, 0, 1, 2, 3, 4, 5, 6, 7, 8, 9, 10, 11, 12]], [0, 1, 2, 3, 4, 5, 6, 7, 8, 9, 10, 11, 12, 13, 14]⟩), (17, ⟨[6, 8, 15, 16], [], []⟩), (18, ⟨[15, 16, 17, 18], [], []⟩), (19, ⟨[4], [], []⟩)]) Try.f5 = some a5 := by kernel_rfl

/- payroll/payrolllaw12.OvertimeBands -/
def a6r0 : List IOp := [⟨some 4, .mv, [.c (.bool false)], none⟩]
def a6r1 : List IOp := [⟨some 19, .mv, [.t 0], none⟩,
  ⟨some 20, .call 12, [.t 19], none⟩,
  ⟨some 5, .mv, [.t 20], none⟩]
def a6r2 : List IOp := [⟨some 21, .mv, [.t 5], none⟩,
  ⟨some 22, .call 19, [.t 21, .c (.int .i64 5)], none⟩,
  ⟨some 6, .mv, [.t 22], none⟩]
def a6r3 : List IOp := [⟨some 23, .mv, [.t 1], none⟩,
  ⟨some 24, .call 22, [.t 23, .c (.int .i64 700)], none⟩,
  ⟨some 7, .mv, [.t 24], none⟩]
def a6r4 : List IOp := [⟨some 26, .mv, [.t 7], none⟩,
  ⟨some 27, .build [.str ⟨#[]⟩, .int .i64 0] [(0, 1), (1, 1)], [.c (.str ⟨#[109, 111, 114, 101]⟩), .t 26], none⟩,
  ⟨some 28, .bslice 55 2 [.str ⟨#[]⟩, .int .i64 0] 1 [0], [.t 27], none⟩,
  ⟨some 29, .build [.str ⟨#[]⟩, .nils, .nils] [(0, 1), (1, 1)], [.c (.str ⟨#[110, 111, 114, 109, 97, 108]⟩), .t 28], none⟩,
  ⟨some 30, .mv, [.t 6], none⟩,
  ⟨some 31, .call 20, [.t 29, .t 30], none⟩,
  ⟨some 25, .mv, [.t 31], none⟩,
  ⟨some 32, .extract 0, [.t 25], none⟩,
  ⟨some 33, .extract 1, [.t 25], none⟩,
  ⟨some 8, .mv, [.t 32], none⟩,
  ⟨some 9, .mv, [.t 33], none⟩]
def a6r5 : List IOp := [⟨some 35, .mv, [.t 7], none⟩,
  ⟨some 36, .build [.str ⟨#[]⟩, .int .i64 0] [(0, 1), (1, 1)], [.c (.str ⟨#[109, 111, 114, 101]⟩), .t 35], none⟩,
  ⟨some 37, .bslice 55 2 [.str ⟨#[]⟩, .int .i64 0] 1 [0], [.t 36], none⟩,
  ⟨some 38, .build [.str ⟨#[]⟩, .nils, .nils] [(0, 1), (2, 1)], [.c (.str ⟨#[110, 111, 114, 109, 97, 108]⟩), .t 37], none⟩,
  ⟨some 39, .mv, [.t 6], none⟩,
  ⟨some 40, .call 20, [.t 38, .t 39], none⟩,
  ⟨some 34, .mv, [.t 40], none⟩,
  ⟨some 41, .extract 0, [.t 34], none⟩,
  ⟨some 42, .extract 1, [.t 34], none⟩,
  ⟨some 10, .mv, [.t 41], none⟩,
  ⟨some 11, .mv, [.t 42], none⟩]
def a6r6 : List IOp := [⟨some 43, .mv, [.t 9], none⟩,
  ⟨some 44, .bin .neq, [.t 43, .c (.int .i64 0)], none⟩,
  ⟨some 45, .mv, [.t 44], none⟩,
  ⟨some 46, .mv, [.t 11], some (45, false)⟩,
  ⟨some 47, .bin .neq, [.t 46, .c (.int .i64 0)], some (45, false)⟩,
  ⟨some 48, .pick, [.t 45, .c (.bool true), .t 47], none⟩]
def a6r7 : List IOp := [⟨some 4, .mv, [.c (.bool false)], none⟩]
def a6r8 : List IOp := [⟨some 12, .mv, [.c (.int .i64 0)], none⟩]
def a6r9 : List IOp := [⟨some 49, .mv, [.t 12], none⟩,
  ⟨some 50, .mv, [.t 6], none⟩,
  ⟨some 51, .len, [.t 50], none⟩,
  ⟨some 52, .bin .lss, [.t 49, .t 51], none⟩]
def a6r10 : List IOp := [⟨some 55, .mv, [.t 6], none⟩,
  ⟨some 56, .mv, [.t 12], none⟩,
  ⟨some 57, .indexAddr 2, [.t 55, .t 56], none⟩,
  ⟨some 58, .fieldAddr 0, [.t 57], none⟩,
  ⟨some 59, .load1, [.t 58], none⟩,
  ⟨some 13, .mv, [.t 59], none⟩,
  ⟨some 14, .mv, [.c (.int .i64 0)], none⟩,
  ⟨some 15, .mv, [.c (.int .i64 0)], none⟩]
def a6r11 : List IOp := [⟨some 16, .mv, [.c (.int .i64 0)], none⟩]
def a6r12 : List IOp := [⟨some 60, .mv, [.t 16], none⟩,
  ⟨some 61, .mv, [.t 6], none⟩,
  ⟨some 62, .len, [.t 61], none⟩,
  ⟨some 63, .bin .lss, [.t 60, .t 62], none⟩]
def a6r13 : List IOp := [⟨some 66, .mv, [.t 6], none⟩,
  ⟨some 67, .mv, [.t 16], none⟩,
  ⟨some 68, .indexAddr 2, [.t 66, .t 67], none⟩,
  ⟨some 69, .fieldAddr 0, [.t 68], none⟩,
  ⟨some 70, .load1, [.t 69], none⟩,
  ⟨some 71, .mv, [.t 13], none⟩,
  ⟨some 72, .bin .eql, [.t 70, .t 71], none⟩]
def a6r14 : List IOp := [⟨some 73, .mv, [.t 14], none⟩,
  ⟨some 74, .mv, [.t 6], none⟩,
  ⟨some 75, .mv, [.t 16], none⟩,
  ⟨some 76, .indexAddr 2, [.t 74, .t 75], none⟩,
  ⟨some 77, .fieldAddr 1, [.t 76], none⟩,
  ⟨some 78, .load1, [.t 77], none⟩,
  ⟨some 79, .call 21, [.t 78], none⟩,
  ⟨some 80, .bin .add, [.t 73, .t 79], none⟩,
  ⟨some 14, .mv, [.t 80], none⟩]
def a6r15 : List IOp := [⟨some 81, .mv, [.t 6], none⟩,
  ⟨some 82, .mv, [.t 16], none⟩,
  ⟨some 83, .indexAddr 2, [.t 81, .t 82], none⟩,
  ⟨some 84, .fieldAddr 0, [.t 83], none⟩,
  ⟨some 85, .load1, [.t 84], none⟩,
  ⟨some 86, .call 24, [.t 85], none⟩,
  ⟨some 87, .mv, [.t 13], none⟩,
  ⟨some 88, .call 24, [.t 87], none⟩,
  ⟨some 89, .bin .eql, [.t 86, .t 88], none⟩]
def a6r16 : List IOp := [⟨some 90, .mv, [.t 15], none⟩,
  ⟨some 91, .mv, [.t 6], none⟩,
  ⟨some 92, .mv, [.t 16], none⟩,
  ⟨some 93, .indexAddr 2, [.t 91, .t 92], none⟩,
  ⟨some 94, .fieldAddr 1, [.t 93], none⟩,
  ⟨some 95, .load1, [.t 94], none⟩,
  ⟨some 96, .call 21, [.t 95], none⟩,
  ⟨some 97, .bin .add, [.t 90, .t 96], none⟩,
  ⟨some 15, .mv, [.t 97], none⟩]
def a6r17 : List IOp := [⟨some 64, .mv, [.t 16], none⟩,
  ⟨some 65, .bin .add, [.t 64, .c (.int .i64 1)], none⟩,
  ⟨some 16, .mv, [.t 65], none⟩]
def a6r18 : List IOp := [⟨some 17, .mv, [.c (.int .i64 0)], none⟩]
def a6r19 : List IOp := [⟨some 98, .mv, [.t 13], none⟩,
  ⟨some 99, .call 24, [.t 98], none⟩,
  ⟨some 18, .mv, [.t 99], none⟩]
def a6r20 : List IOp := [⟨some 100, .mv, [.t 18], none⟩,
  ⟨some 101, .mv, [.t 13], none⟩,
  ⟨some 102, .call 24, [.t 101], none⟩,
  ⟨some 103, .bin .add, [.t 102, .c (.int .i64 7)], none⟩,
  ⟨some 104, .bin .lss, [.t 100, .t 103], none⟩]
def a6r21 : List IOp := [⟨some 107, .mv, [.t 17], none⟩,
  ⟨some 108, .mv, [.t 10], none⟩,
  ⟨some 109, .mv, [.t 18], none⟩,
  ⟨some 110, .call 15, [.t 108, .t 109], none⟩,
  ⟨some 111, .call 25, [.t 110, .c (.str ⟨#[110, 111, 114, 109, 97, 108]⟩)], none⟩,
  ⟨some 112, .bin .add, [.t 107, .t 111], none⟩,
  ⟨some 17, .mv, [.t 112], none⟩]
def a6r22 : List IOp := [⟨some 105, .mv, [.t 18], none⟩,
  ⟨some 106, .bin .add, [.t 105, .c (.int .i64 1)], none⟩,
  ⟨some 18, .mv, [.t 106], none⟩]
def a6r23 : List IOp := [⟨some 113, .mv, [.t 8], none⟩,
  ⟨some 114, .mv, [.t 13], none⟩,
  ⟨some 115, .call 15, [.t 113, .t 114], none⟩,
  ⟨some 116, .call 25, [.t 115, .c (.str ⟨#[110, 111, 114, 109, 97, 108]⟩)], none⟩,
  ⟨some 117, .mv, [.t 14], none⟩,
  ⟨some 118, .mv, [.t 7], none⟩,
  ⟨some 119, .minmax false, [.t 117, .t 118], none⟩,
  ⟨some 120, .bin .neq, [.t 116, .t 119], none⟩,
  ⟨some 121, .mv, [.t 120], none⟩,
  ⟨some 122, .mv, [.t 8], some (121, false)⟩,
  ⟨some 123, .mv, [.t 13], some (121, false)⟩,
  ⟨some 124, .call 15, [.t 122, .t 123], some (121, false)⟩,
  ⟨some 125, .call 25, [.t 124, .c (.str ⟨#[109, 111, 114, 101]⟩)], some (121, false)⟩,
  ⟨some 126, .mv, [.t 14], some (121, false)⟩,
  ⟨some 127, .mv, [.t 7], some (121, false)⟩,
  ⟨some 128, .bin .sub, [.t 126, .t 127], some (121, false)⟩,
  ⟨some 129, .minmax true, [.t 128, .c (.int .i64 0)], some (121, false)⟩,
  ⟨some 130, .bin .neq, [.t 125, .t 129], some (121, false)⟩,
  ⟨some 131, .pick, [.t 121, .c (.bool true), .t 130], none⟩,
  ⟨some 132, .mv, [.t 131], none⟩,
  ⟨some 133, .mv, [.t 17], some (132, false)⟩,
  ⟨some 134, .mv, [.t 15], some (132, false)⟩,
  ⟨some 135, .mv, [.t 7], some (132, false)⟩,
  ⟨some 136, .minmax false, [.t 134, .t 135], some (132, false)⟩,
  ⟨some 137, .bin .neq, [.t 133, .t 136], some (132, false)⟩,
  ⟨some 138, .pick, [.t 132, .c (.bool true), .t 137], none⟩]
def a6r24 : List IOp := [⟨some 4, .mv, [.c (.bool false)], none⟩]
def a6r25 : List IOp := [⟨some 53, .mv, [.t 12], none⟩,
  ⟨some 54, .bin .add, [.t 53, .c (.int .i64 1)], none⟩,
  ⟨some 12, .mv, [.t 54], none⟩]
def a6r26 : List IOp := [⟨some 139, .call 17, [], none⟩,
  ⟨some 4, .mv, [.t 139], none⟩]
def a6 : AFunc := ⟨140, [.tmp 4], (.seq (.region a6r0 [0, 1]) (.seq (.region a6r1 [1, 5]) (.seq (.region a6r2 [1, 6]) (.seq (.region a6r3 [6, 7]) (.seq (.region a6r4 [6, 7, 8, 9]) (.seq (.region a6r5 [6, 7, 8, 9, 10, 11]) (.seq (.seq (.region a6r6 [6, 7, 8, 10, 48]) (.cond (.t 48) (.seq (.region a6r7 [4]) .ret) .skip)) (.seq (.seq (.region a6r8 [6, 7, 8, 10, 12]) (.block 0 (.loop (.seq (.seq (.region a6r9 [6, 7, 8, 10, 12, 52]) (.cond (.t 52) .skip (.exit 0))) (.seq (.block 1 (.seq (.region a6r10 [6, 7, 8, 10, 12, 13, 14, 15]) (.seq (.seq (.region a6r11 [6, 7, 8, 10, 12, 13, 14, 15, 16]) (.block 2 (.loop (.seq (.seq (.region a6r12 [6, 7, 8, 10, 12, 13, 14, 15, 16, 63]) (.cond (.t 63) .skip (.exit 2))) (.seq (.block 3 (.seq (.seq (.region a6r13 [6, 7, 8, 10, 12, 13, 14, 15, 16, 72]) (.cond (.t 72) (.region a6r14 [6, 7, 8, 10, 12, 13, 14, 15, 16]) .skip)) (.seq (.region a6r15 [6, 7, 8, 10, 12, 13, 14, 15, 16, 89]) (.cond (.t 89) (.region a6r16 [6, 7, 8, 10, 12, 13, 14, 15, 16]) .skip)))) (.region a6r17 [6, 7, 8, 10, 12, 13, 14, 15, 16])))))) (.seq (.region a6r18 [6, 7, 8, 10, 12, 13, 14, 15, 17]) (.seq (.seq (.region a6r19 [6, 7, 8, 10, 12, 13, 14, 15, 17, 18]) (.block 4 (.loop (.seq (.seq (.region a6r20 [6, 7, 8, 10, 12, 13, 14, 15, 17, 18, 104]) (.cond (.t 104) .skip (.exit 4))) (.seq (.block 5 (.region a6r21 [6, 7, 8, 10, 12, 13, 14, 15, 17, 18])) (.region a6r22 [6, 7, 8, 10, 12, 13, 14, 15, 17, 18])))))) (.seq (.region a6r23 [6, 7, 8, 10, 12, 138]) (.cond (.t 138) (.seq (.region a6r24 [4]) .ret) .skip))))))) (.region a6r25 [6, 7, 8, 10, 12])))))) (.seq (.region a6r26 [4]) .ret)))))))))⟩
theorem a6_ok : compileF Try.prog (lk [(0, ⟨[0, 1], [], []⟩), (1, ⟨[1, 5], [], []⟩), (2, ⟨[1, 6], [], []⟩), (3, ⟨[6, 7], [], []⟩), (4, ⟨[6, 7, 8, 9], [], []⟩), (5, ⟨[6, 7, 8, 9, 10, 11], [], []⟩), (6, ⟨[6, 7, 8, 10, 48], [], []⟩), (7, ⟨[4], [], []⟩), (8, ⟨[6, 7, 8, 10, 12], [], []⟩), (9, ⟨[6, 7, 8, 10, 12, 52], [], []⟩), (10, ⟨[6, 7, 8, 10, 12], [], []⟩), (11, ⟨[6, 7, 8, 10, 12, 13, 14, 15], [], []⟩), (12, ⟨[6, 7, 8, 10, 12, 13, 14, 15, 16], [], []⟩), (13, ⟨[6, 7, 8, 10, 12, 13, 14, 15, 16, 63], [], []⟩), (14, ⟨[6, 7, 8, 10, 12, 13, 14, 15, 16], [], []⟩), (15, ⟨[6, 7, 8, 10, 12, 13, 14, 15, 16, 72], [], []⟩), (16, ⟨[6, 7, 8, 10, 12, 13, 14, 15, 16], [], []⟩), (17, ⟨[6, 7, 8, 10, 12, 13, 14, 15, 16, 89], [], []⟩), (18, ⟨[6, 7, 8, 10, 12, 13, 14, 15, 16], [], []⟩), (19, ⟨[6, 7, 8, 10, 12, 13, 14, 15, 17], [], []⟩), (20, ⟨[6, 7, 8, 10, 12, 13, 14, 15, 17, 18], [], []⟩), (21, ⟨[6, 7, 8, 10, 12, 13, 14, 15, 17, 18, 104], [], []⟩), (22, ⟨[6, 7, 8, 10, 12, 13, 14, 15, 17, 18], [], []⟩), (23, ⟨[6, 7, 8, 10, 12, 13, 14, 15, 17, 18], [], []⟩), (24, ⟨[6, 7, 8, 10, 12, 138], [], []⟩), (25, ⟨[4], [], []⟩), (26, ⟨[4], [], []⟩)]) Try.f6 = some a6 := by kernel_rfl

/- (*payroll/payrollgen.Tape).Pieces -/
def a13r0 : List IOp := [⟨some 4, .mv, [.c (.nils)], none⟩]
def a13r1 : List IOp := [⟨some 5, .mv, [.c (.nils)], none⟩]
def a13r2 : List IOp := [⟨some 9, .mv, [.t 0], none⟩,
  ⟨some 10, .bslice 3 1 [.int .i64 0] 3 [0, 1, 2], [.c (.int .i64 0), .c (.int .i64 1000), .c (.int .i64 (-100))], none⟩,
  ⟨some 11, .call 40, [.t 9, .t 10], none⟩,
  ⟨some 12, .bin .add, [.c (.int .i64 29453760), .t 11], none⟩,
  ⟨some 6, .mv, [.t 12], none⟩]
def a13r3 : List IOp := [⟨some 13, .mv, [.t 0], none⟩,
  ⟨some 14, .mv, [.t 1], none⟩,
  ⟨some 15, .bin .add, [.t 14, .c (.int .i64 1)], none⟩,
  ⟨some 16, .call 14, [.t 13, .t 15], none⟩,
  ⟨some 7, .mv, [.t 16], none⟩]
def a13r4 : List IOp := [⟨some 17, .mv, [.t 7], none⟩,
  ⟨some 18, .bin .gtr, [.t 17, .c (.int .i64 0)], none⟩]
def a13r5 : List IOp := [⟨some 21, .mv, [.t 0], none⟩,
  ⟨some 22, .bslice 3 1 [.int .i64 0] 3 [0, 1, 2], [.c (.int .i64 60), .c (.int .i64 1), .c (.int .i64 240)], none⟩,
  ⟨some 23, .call 40, [.t 21, .t 22], none⟩,
  ⟨some 8, .mv, [.t 23], none⟩]
def a13r6 : List IOp := [⟨some 24, .mv, [.t 5], none⟩,
  ⟨some 25, .mv, [.t 6], none⟩,
  ⟨some 26, .bin .quo, [.t 25, .c (.int .i64 1440)], none⟩,
  ⟨some 27, .mv, [.t 6], none⟩,
  ⟨some 28, .mv, [.t 6], none⟩,
  ⟨some 29, .mv, [.t 8], none⟩,
  ⟨some 30, .bin .add, [.t 28, .t 29], none⟩,
  ⟨some 31, .build [.int .i64 0, .int .i64 0] [(0, 1), (1, 1)], [.t 27, .t 30], none⟩,
  ⟨some 32, .bslice 9 1 [.str ⟨#[]⟩] 2 [0, 1], [.c (.str ⟨#[110, 111, 114, 109, 97, 108]⟩), .c (.str ⟨#[111, 116, 49]⟩)], none⟩,
  ⟨some 33, .mv, [.t 0], none⟩,
  ⟨some 34, .call 14, [.t 33, .c (.int .i64 2)], none⟩,
  ⟨some 35, .indexAddr 1, [.t 32, .t 34], none⟩,
  ⟨some 36, .load1, [.t 35], none⟩,
  ⟨some 37, .build [.int .i64 0, .int .i64 0, .int .i64 0, .str ⟨#[]⟩] [(0, 1), (1, 2), (3, 1)], [.t 26, .t 31, .t 36], none⟩,
  ⟨some 38, .bslice 50 4 [.int .i64 0, .int .i64 0, .int .i64 0, .str ⟨#[]⟩] 1 [0], [.t 37], none⟩,
  ⟨some 39, .append 50 4 40, [.t 24, .t 38], none⟩,
  ⟨some 5, .mv, [.t 39], none⟩]
def a13r7 : List IOp := [⟨some 40, .mv, [.t 6], none⟩,
  ⟨some 41, .mv, [.t 8], none⟩,
  ⟨some 42, .mv, [.t 0], none⟩,
  ⟨some 43, .bslice 3 1 [.int .i64 0] 3 [0, 1, 2], [.c (.int .i64 0), .c (.int .i64 300), .c (.int .i64 1200)], none⟩,
  ⟨some 44, .call 40, [.t 42, .t 43], none⟩,
  ⟨some 45, .bin .add, [.t 41, .t 44], none⟩,
  ⟨some 46, .bin .add, [.t 40, .t 45], none⟩,
  ⟨some 6, .mv, [.t 46], none⟩]
def a13r8 : List IOp := [⟨some 19, .mv, [.t 7], none⟩,
  ⟨some 20, .bin .sub, [.t 19, .c (.int .i64 1)], none⟩,
  ⟨some 7, .mv, [.t 20], none⟩]
def a13r9 : List IOp := [⟨some 47, .mv, [.t 5], none⟩,
  ⟨some 4, .mv, [.t 47], none⟩]
def a13 : AFunc := ⟨48, [.tmp 4], (.seq (.region a13r0 [0, 1]) (.seq (.region a13r1 [0, 1, 5]) (.seq (.region a13r2 [0, 1, 5, 6]) (.seq (.seq (.region a13r3 [0, 5, 6, 7]) (.block 0 (.loop (.seq (.seq (.region a13r4 [0, 5, 6, 7, 18]) (.cond (.t 18) .skip (.exit 0))) (.seq (.block 1 (.seq (.region a13r5 [0, 5, 6, 7, 8]) (.seq (.region a13r6 [0, 5, 6, 7, 8]) (.region a13r7 [0, 5, 6, 7])))) (.region a13r8 [0, 5, 6, 7])))))) (.seq (.region a13r9 [4]) .ret)))))⟩
theorem a13_ok : compileF Try.prog (lk [(0, ⟨[0, 1], [], []⟩), (1, ⟨[0, 1, 5], [], []⟩), (2, ⟨[0, 1, 5, 6], [], []⟩), (3, ⟨[0, 5, 6, 7], [], []⟩), (4, ⟨[0, 5, 6, 7, 18], [], []⟩), (5, ⟨[0, 5, 6, 7], [], []⟩), (6, ⟨[0, 5, 6, 7, 8], [], []⟩), (7, ⟨[0, 5, 6, 7, 8], [], []⟩), (8, ⟨[0, 5, 6, 7], [], []⟩), (9, ⟨[4], [], []⟩)]) Try.f13 = some a13 := by kernel_rfl

/- payroll/overtime.Totals -/
def a15r0 : List IOp := [⟨some 4, .mv, [.c (.nils)], none⟩]
def a15r1 : List IOp := [⟨some 5, .mv, [.c (.nils)], none⟩]
def a15r2 : List IOp := [⟨some 11, .mkmap false [.str], [], none⟩,
  ⟨some 6, .mv, [.t 11], none⟩]
def a15r3 : List IOp := [⟨some 12, .mv, [.t 0], none⟩,
  ⟨some 13, .mv, [.t 0], none⟩,
  ⟨some 14, .len, [.t 13], none⟩,
  ⟨some 15, .minmax false, [.t 14, .c (.int .i64 4096)], none⟩,
  ⟨some 16, .slice false true 4, [.t 12, .t 15], none⟩,
  ⟨some 17, .len, [.t 16], none⟩,
  ⟨some 18, .mv, [.c (.int .i64 0)], none⟩]
def a15r4 : List IOp := [⟨some 19, .bin .lss, [.t 18, .t 17], none⟩]
def a15r5 : List IOp := [⟨some 20, .indexAddr 4, [.t 16, .t 18], none⟩,
  ⟨some 21, .loadA 4, [.t 20], none⟩,
  ⟨some 8, .alloc 50 [.int .i64 0, .int .i64 0, .int .i64 0, .str ⟨#[]⟩], [], none⟩,
  ⟨none, .store 4, [.t 8, .t 21], none⟩]
def a15r6 : List IOp := [⟨some 22, .fieldAddr 0, [.t 8], none⟩,
  ⟨some 23, .load1, [.t 22], none⟩,
  ⟨some 24, .mv, [.t 1], none⟩,
  ⟨some 25, .bin .neq, [.t 23, .t 24], none⟩,
  ⟨some 26, .mv, [.t 25], none⟩,
  ⟨some 27, .fieldAddr 1, [.t 8], some (26, false)⟩,
  ⟨some 28, .loadA 2, [.t 27], some (26, false)⟩,
  ⟨some 29, .call 41, [.t 28], some (26, false)⟩,
  ⟨some 30, .not, [.t 29], some (26, false)⟩,
  ⟨some 31, .pick, [.t 26, .c (.bool true), .t 30], none⟩]
def a15r7 : List IOp := [⟨some 33, .mv, [.t 6], none⟩,
  ⟨some 34, .fieldAddr 3, [.t 8], none⟩,
  ⟨some 35, .load1, [.t 34], none⟩,
  ⟨some 36, .look true false [.str] (.int .i64 0), [.t 33, .t 35], none⟩,
  ⟨some 32, .mv, [.t 36], none⟩,
  ⟨some 37, .extract 0, [.t 32], none⟩,
  ⟨some 38, .extract 1, [.t 32], none⟩,
  ⟨some 9, .mv, [.t 37], none⟩,
  ⟨some 10, .mv, [.t 38], none⟩]
def a15r8 : List IOp := [⟨some 39, .mv, [.t 10], none⟩,
  ⟨some 40, .not, [.t 39], none⟩]
def a15r9 : List IOp := [⟨some 41, .mv, [.t 5], none⟩,
  ⟨some 42, .len, [.t 41], none⟩,
  ⟨some 9, .mv, [.t 42], none⟩]
def a15r10 : List IOp := [⟨some 43, .mv, [.t 6], none⟩,
  ⟨some 44, .fieldAddr 3, [.t 8], none⟩,
  ⟨some 45, .load1, [.t 44], none⟩,
  ⟨some 46, .mv, [.t 9], none⟩,
  ⟨none, .mset false [.str], [.t 43, .t 45, .t 46], none⟩]
def a15r11 : List IOp := [⟨some 47, .mv, [.t 5], none⟩,
  ⟨some 48, .fieldAddr 3, [.t 8], none⟩,
  ⟨some 49, .load1, [.t 48], none⟩,
  ⟨some 50, .build [.str ⟨#[]⟩, .int .i64 0] [(0, 1)], [.t 49], none⟩,
  ⟨some 51, .bslice 31 2 [.str ⟨#[]⟩, .int .i64 0] 1 [0], [.t 50], none⟩,
  ⟨some 52, .append 31 2 24, [.t 47, .t 51], none⟩,
  ⟨some 5, .mv, [.t 52], none⟩]
def a15r12 : List (Nat × DOp) := [(0, ⟨⟨some 53, .mv, [.t 5], none⟩, none, [1, 5, 6, 7, 8, 9, 10, 11]⟩),
  (1, ⟨⟨some 54, .mv, [.t 9], none⟩, none, [0, 5, 6, 7, 8, 9, 10, 11]⟩),
  (2, ⟨⟨some 55, .indexAddr 2, [.t 53, .t 54], none⟩, none, [5, 6, 7, 8, 9, 10, 11]⟩),
  (3, ⟨⟨some 56, .fieldAddr 1, [.t 55], none⟩, none, [5, 6, 7, 8, 9, 10, 11]⟩),
  (4, ⟨⟨some 57, .load1, [.t 56], none⟩, none, [5, 6, 7, 8, 9, 10, 11]⟩),
  (5, ⟨⟨some 58, .fieldAddr 1, [.t 8], none⟩, none, [0, 1, 2, 3, 4, 8, 9, 10]⟩),
  (6, ⟨⟨some 59, .fieldAddr 1, [.t 58], none⟩, none, [0, 1, 2, 3, 4, 8, 9, 10]⟩),
  (7, ⟨⟨some 60, .load1, [.t 59], none⟩, none, [0, 1, 2, 3, 4, 8, 9, 10]⟩),
  (8, ⟨⟨some 61, .fieldAddr 1, [.t 8], none⟩, none, [0, 1, 2, 3, 4, 5, 6, 7]⟩),
  (9, ⟨⟨some 62, .fieldAddr 0, [.t 61], none⟩, none, [0, 1, 2, 3, 4, 5, 6, 7]⟩),
  (10, ⟨⟨some 63, .load1, [.t 62], none⟩, none, [0, 1, 2, 3, 4, 5, 6, 7]⟩),
  (11, ⟨⟨some 64, .bin .sub, [.t 60, .t 63], none⟩, none, [0, 1, 2, 3, 4]⟩),
  (12, ⟨⟨some 65, .bin .add, [.t 57, .t 64], none⟩, none, []⟩),
  (13, ⟨⟨some 66, .indexAddr 2, [.t 53, .t 54], none⟩, none, []⟩),
  (14, ⟨⟨some 67, .fieldAddr 1, [.t 66], none⟩, none, []⟩),
  (15, ⟨⟨none, .store 1, [.t 67, .t 65], none⟩, none, []⟩)]
def a15r13 : List IOp := [⟨some 68, .bin .add, [.t 18, .c (.int .i64 1)], none⟩,
  ⟨some 18, .mv, [.t 68], none⟩]
def a15r14 : List IOp := [⟨some 69, .mv, [.t 5], none⟩,
  ⟨some 4, .mv, [.t 69], none⟩]
def a15 : AFunc := ⟨70, [.tmp 4], (.seq (.region a15r0 [0, 1]) (.seq (.region a15r1 [0, 1, 5]) (.seq (.region a15r2 [0, 1, 5, 6]) (.seq (.seq (.region a15r3 [1, 5, 6, 16, 17, 18]) (.block 0 (.loop (.seq (.region a15r4 [1, 5, 6, 16, 17, 18, 19]) (.seq (.cond (.t 19) .skip (.exit 0)) (.seq (.block 1 (.seq (.region a15r5 [1, 5, 6, 8, 16, 17, 18]) (.seq (.seq (.region a15r6 [1, 5, 6, 8, 16, 17, 18, 31]) (.cond (.t 31) (.exit 1) .skip)) (.seq (.region a15r7 [1, 5, 6, 8, 9, 10, 16, 17, 18]) (.seq (.seq (.region a15r8 [1, 5, 6, 8, 9, 16, 17, 18, 40]) (.cond (.t 40) (.seq (.region a15r9 [1, 5, 6, 8, 9, 16, 17, 18]) (.seq (.region a15r10 [1, 5, 6, 8, 9, 16, 17, 18]) (.region a15r11 [1, 5, 6, 8, 9, 16, 17, 18]))) .skip)) (.draw a15r12 [] [1, 5, 6, 16, 17, 18])))))) (.region a15r13 [1, 5, 6, 16, 17, 18]))))))) (.seq (.region a15r14 [4]) .ret)))))⟩
theorem a15_ok : compileF Try.prog (lk [(0, ⟨[0, 1], [], []⟩), (1, ⟨[0, 1, 5], [], []⟩), (2, ⟨[0, 1, 5, 6], [], []⟩), (3, ⟨[1, 5, 6, 16, 17, 18], [], []⟩), (4, ⟨[1, 5, 6, 16, 17, 18, 19], [], []⟩), (5, ⟨[1, 5, 6, 8, 16, 17, 18], [], []⟩), (6, ⟨[1, 5, 6, 8, 16, 17, 18, 31], [], []⟩), (7, ⟨[1, 5, 6, 8, 9, 10, 16, 17, 18], [], []⟩), (8, ⟨[1, 5, 6, 8, 9, 16, 17, 18, 40], [], []⟩), (9, ⟨[1, 5, 6, 8, 9, 16, 17, 18], [], []⟩), (10, ⟨[1, 5, 6, 8, 9, 16, 17, 18], [], []⟩), (11, ⟨[1, 5, 6, 8, 9, 16, 17, 18], [], []⟩), (12, ⟨[1, 5, 6, 16, 17, 18], [[], [], [0, 1], [2, 0, 1], [3, 2, 0, 1], [], [5], [6, 5], [], [8], [9, 8], [7, 10, 6, 5, 9, 8], [4, 11, 3, 2, 0, 1, 7, 10, 6, 5, 9, 8], [0, 1, 2, 3, 4, 5, 6, 7, 8, 9, 10, 11, 12], [13, 0, 1, 2, 3, 4, 5, 6, 7, 8, 9, 10, 11, 12], [14, 12, 0, 1, 2, 3, 4, 5, 6, 7, 8, 9, 10, 11, 13]], [0, 1, 2, 3, 4, 5, 6, 7, 8, 9, 10, 11, 12, 13, 14, 15]⟩), (13, ⟨[1, 5, 6, 16, 17, 18], [], []⟩), (14, ⟨[4], [], []⟩)]) Try.f15 = some a15 := by kernel_rfl

/- payroll/payrollref12.Totals -/
def a16r0 : List IOp := [⟨some 4, .mv, [.c (.nils)], none⟩]
def a16r1 : List IOp := [⟨some 5, .mv, [.c (.nils)], none⟩]
def a16r2 : List IOp := [⟨some 6, .mv, [.c (.int .i64 0)], none⟩]
def a16r3 : List IOp := [⟨some 9, .mv, [.t 6], none⟩,
  ⟨some 10, .mv, [.t 0], none⟩,
  ⟨some 11, .len, [.t 10], none⟩,
  ⟨some 12, .bin .lss, [.t 9, .t 11], none⟩,
  ⟨some 13, .mv, [.t 12], none⟩,
  ⟨some 14, .mv, [.t 6], some (13, true)⟩,
  ⟨some 15, .bin .lss, [.t 14, .c (.int .i64 4096)], some (13, true)⟩,
  ⟨some 16, .pick, [.t 13, .t 15, .c (.bool false)], none⟩]
def a16r4 : List IOp := [⟨some 19, .mv, [.t 0], none⟩,
  ⟨some 20, .mv, [.t 6], none⟩,
  ⟨some 21, .indexAddr 4, [.t 19, .t 20], none⟩,
  ⟨some 22, .loadA 4, [.t 21], none⟩,
  ⟨some 7, .alloc 50 [.int .i64 0, .int .i64 0, .int .i64 0, .str ⟨#[]⟩], [], none⟩,
  ⟨none, .store 4, [.t 7, .t 22], none⟩]
def a16r5 : List IOp := [⟨some 23, .fieldAddr 0, [.t 7], none⟩,
  ⟨some 24, .load1, [.t 23], none⟩,
  ⟨some 25, .mv, [.t 1], none⟩,
  ⟨some 26, .bin .neq, [.t 24, .t 25], none⟩,
  ⟨some 27, .mv, [.t 26], none⟩,
  ⟨some 28, .fieldAddr 1, [.t 7], some (27, false)⟩,
  ⟨some 29, .loadA 2, [.t 28], some (27, false)⟩,
  ⟨some 30, .call 42, [.t 29], some (27, false)⟩,
  ⟨some 31, .not, [.t 30], some (27, false)⟩,
  ⟨some 32, .pick, [.t 27, .c (.bool true), .t 31], none⟩]
def a16r6 : List IOp := [⟨some 8, .mv, [.c (.int .i64 0)], none⟩]
def a16r7 : List (Nat × DOp) := [(0, ⟨⟨some 33, .mv, [.t 8], none⟩, none, [1, 2]⟩),
  (1, ⟨⟨some 34, .mv, [.t 5], none⟩, none, [0]⟩),
  (2, ⟨⟨some 35, .len, [.t 34], none⟩, none, [0]⟩),
  (3, ⟨⟨some 36, .bin .lss, [.t 33, .t 35], none⟩, none, []⟩),
  (4, ⟨⟨some 37, .mv, [.t 36], none⟩, none, []⟩),
  (5, ⟨⟨some 38, .mv, [.t 5], some (37, true)⟩, none, [6, 10, 11]⟩),
  (6, ⟨⟨some 39, .mv, [.t 8], some (37, true)⟩, none, [5, 10, 11]⟩),
  (7, ⟨⟨some 40, .indexAddr 2, [.t 38, .t 39], some (37, true)⟩, none, [10, 11]⟩),
  (8, ⟨⟨some 41, .fieldAddr 0, [.t 40], some (37, true)⟩, none, [10, 11]⟩),
  (9, ⟨⟨some 42, .load1, [.t 41], some (37, true)⟩, none, [10, 11]⟩),
  (10, ⟨⟨some 43, .fieldAddr 3, [.t 7], some (37, true)⟩, none, [5, 6, 7, 8, 9]⟩),
  (11, ⟨⟨some 44, .load1, [.t 43], some (37, true)⟩, none, [5, 6, 7, 8, 9]⟩),
  (12, ⟨⟨some 45, .bin .neq, [.t 42, .t 44], some (37, true)⟩, none, []⟩),
  (13, ⟨⟨some 46, .pick, [.t 37, .t 45, .c (.bool false)], none⟩, none, []⟩)]
def a16r8 : List IOp := [⟨some 47, .mv, [.t 8], none⟩,
  ⟨some 48, .bin .add, [.t 47, .c (.int .i64 1)], none⟩,
  ⟨some 8, .mv, [.t 48], none⟩]
def a16r9 : List IOp := [⟨some 49, .mv, [.t 8], none⟩,
  ⟨some 50, .mv, [.t 5], none⟩,
  ⟨some 51, .len, [.t 50], none⟩,
  ⟨some 52, .bin .eql, [.t 49, .t 51], none⟩]
def a16r10 : List IOp := [⟨some 53, .mv, [.t 5], none⟩,
  ⟨some 54, .fieldAddr 3, [.t 7], none⟩,
  ⟨some 55, .load1, [.t 54], none⟩,
  ⟨some 56, .build [.str ⟨#[]⟩, .int .i64 0] [(0, 1)], [.t 55], none⟩,
  ⟨some 57, .bslice 31 2 [.str ⟨#[]⟩, .int .i64 0] 1 [0], [.t 56], none⟩,
  ⟨some 58, .append 31 2 24, [.t 53, .t 57], none⟩,
  ⟨some 5, .mv, [.t 58], none⟩]
def a16r11 : List (Nat × DOp) := [(0, ⟨⟨some 59, .mv, [.t 5], none⟩, none, [1, 5, 6, 7, 8, 9, 10, 11]⟩),
  (1, ⟨⟨some 60, .mv, [.t 8], none⟩, none, [0, 5, 6, 7, 8, 9, 10, 11]⟩),
  (2, ⟨⟨some 61, .indexAddr 2, [.t 59, .t 60], none⟩, none, [5, 6, 7, 8, 9, 10, 11]⟩),
  (3, ⟨⟨some 62, .fieldAddr 1, [.t 61], none⟩, none, [5, 6, 7, 8, 9, 10, 11]⟩),
  (4, ⟨⟨some 63, .load1, [.t 62], none⟩, none, [5, 6, 7, 8, 9, 10, 11]⟩),
  (5, ⟨⟨some 64, .fieldAddr 1, [.t 7], none⟩, none, [0, 1, 2, 3, 4, 8, 9, 10]⟩),
  (6, ⟨⟨some 65, .fieldAddr 1, [.t 64], none⟩, none, [0, 1, 2, 3, 4, 8, 9, 10]⟩),
  (7, ⟨⟨some 66, .load1, [.t 65], none⟩, none, [0, 1, 2, 3, 4, 8, 9, 10]⟩),
  (8, ⟨⟨some 67, .fieldAddr 1, [.t 7], none⟩, none, [0, 1, 2, 3, 4, 5, 6, 7]⟩),
  (9, ⟨⟨some 68, .fieldAddr 0, [.t 67], none⟩, none, [0, 1, 2, 3, 4, 5, 6, 7]⟩),
  (10, ⟨⟨some 69, .load1, [.t 68], none⟩, none, [0, 1, 2, 3, 4, 5, 6, 7]⟩),
  (11, ⟨⟨some 70, .bin .sub, [.t 66, .t 69], none⟩, none, [0, 1, 2, 3, 4]⟩),
  (12, ⟨⟨some 71, .bin .add, [.t 63, .t 70], none⟩, none, []⟩),
  (13, ⟨⟨some 72, .indexAddr 2, [.t 59, .t 60], none⟩, none, []⟩),
  (14, ⟨⟨some 73, .fieldAddr 1, [.t 72], none⟩, none, []⟩),
  (15, ⟨⟨none, .store 1, [.t 73, .t 71], none⟩, none, []⟩)]
def a16r12 : List IOp := [⟨some 17, .mv, [.t 6], none⟩,
  ⟨some 18, .bin .add, [.t 17, .c (.int .i64 1)], none⟩,
  ⟨some 6, .mv, [.t 18], none⟩]
def a16r13 : List IOp := [⟨some 74, .mv, [.t 5], none⟩,
  ⟨some 4, .mv, [.t 74], none⟩]
def a16 : AFunc := ⟨75, [.tmp 4], (.seq (.region a16r0 [0, 1]) (.seq (.region a16r1 [0, 1, 5]) (.seq (.seq (.region a16r2 [0, 1, 5, 6]) (.block 0 (.loop (.seq (.seq (.region a16r3 [0, 1, 5, 6, 16]) (.cond (.t 16) .skip (.exit 0))) (.seq (.block 1 (.seq (.region a16r4 [0, 1, 5, 6, 7]) (.seq (.seq (.region a16r5 [0, 1, 5, 6, 7, 32]) (.cond (.t 32) (.exit 1) .skip)) (.seq (.region a16r6 [0, 1, 5, 6, 7, 8]) (.seq (.block 2 (.loop (.seq (.seq (.draw a16r7 [] [0, 1, 5, 6, 7, 8, 46]) (.cond (.t 46) .skip (.exit 2))) (.block 3 (.region a16r8 [0, 1, 5, 6, 7, 8]))))) (.seq (.seq (.region a16r9 [0, 1, 5, 6, 7, 8, 52]) (.cond (.t 52) (.region a16r10 [0, 1, 5, 6, 7, 8]) .skip)) (.draw a16r11 [] [0, 1, 5, 6]))))))) (.region a16r12 [0, 1, 5, 6])))))) (.seq (.region a16r13 [4]) .ret))))⟩
theorem a16_ok : compileF Try.prog (lk [(0, ⟨[0, 1], [], []⟩), (1, ⟨[0, 1, 5], [], []⟩), (2, ⟨[0, 1, 5, 6], [], []⟩), (3, ⟨[0, 1, 5, 6, 16], [], []⟩), (4, ⟨[0, 1, 5, 6], [], []⟩), (5, ⟨[0, 1, 5, 6, 7], [], []⟩), (6, ⟨[0, 1, 5, 6, 7, 32], [], []⟩), (7, ⟨[0, 1, 5, 6, 7, 8], [], []⟩), (8, ⟨[0, 1, 5, 6, 7, 8, 46], [[], [], [1], [0, 2, 1], [3, 0, 2, 1], [4, 3, 0, 2, 1], [4, 3, 0, 2, 1], [5, 6, 4, 3, 0, 2, 1], [7, 4, 5, 6, 3, 0, 2, 1], [8, 4, 7, 5, 6, 3, 0, 2, 1], [4, 3, 0, 2, 1], [10, 4, 3, 0, 2, 1], [9, 11, 4, 8, 7, 5, 6, 3, 0, 2, 1, 10], [4, 12, 3, 0, 2, 1, 9, 11, 8, 7, 5, 6, 10]], [0, 1, 2, 3, 4, 5, 6, 7, 8, 9, 10, 11, 12, 13]⟩), (9, ⟨[0, 1, 5, 6, 7, 8], [], []⟩), (10, ⟨[0, 1, 5, 6, 7, 8, 52], [], []⟩), (11, ⟨[0, 1, 5, 6, 7, 8], [], []⟩), (12, ⟨[0, 1, 5, 6], [[], [], [0, 1], [2, 0, 1], [3, 2, 0, 1], [], [5], [6, 5], [], [8], [9, 8], [7, 10, 6, 5, 9, 8], [4, 11, 3, 2, 0, 1, 7, 10, 6, 5, 9, 8], [0, 1, 2, 3, 4, 5, 6, 7, 8, 9, 10, 11, 12], [13, 0, 1, 2, 3, 4, 5, 6, 7, 8, 9, 10, 11, 12], [14, 12, 0, 1, 2, 3, 4, 5, 6, 7, 8, 9, 10, 11, 13]], [0, 1, 2, 3, 4, 5, 6, 7, 8, 9, 10, 11, 12, 13, 14, 15]⟩), (13, ⟨[4], [], []⟩)]) Try.f16 = some a16 := by kernel_rfl

/- payroll/payrolllaw12.sane -/
def a17r0 : List IOp := [⟨some 0, .mv, [.c (.bool false)], none⟩]
def a17r1 : List IOp := [⟨some 5, .build [.str ⟨#[]⟩, .int .i64 0] [(0, 1), (1, 1)], [.c (.str ⟨#[111, 116, 49]⟩), .c (.int .i64 480)], none⟩,
  ⟨some 6, .build [.str ⟨#[]⟩, .int .i64 0] [(0, 1), (1, 1)], [.c (.str ⟨#[111, 116, 50]⟩), .c (.int .i64 600)], none⟩,
  ⟨some 7, .bslice 55 2 [.str ⟨#[]⟩, .int .i64 0] 2 [0, 1], [.t 5, .t 6], none⟩,
  ⟨some 8, .build [.str ⟨#[]⟩, .nils, .nils] [(0, 1), (1, 1)], [.c (.str ⟨#[110, 111, 114, 109, 97, 108]⟩), .t 7], none⟩,
  ⟨some 1, .alloc 36 [.str ⟨#[]⟩, .nils, .nils], [], none⟩,
  ⟨none, .store 3, [.t 1, .t 8], none⟩]
def a17r2 : List (Nat × DOp) := [(0, ⟨⟨some 10, .loadA 3, [.t 1], none⟩, none, [1, 2]⟩),
  (1, ⟨⟨some 11, .call 43, [.c (.int .i64 5), .c (.int .i64 7200), .c (.int .i64 660)], none⟩, none, [0]⟩),
  (2, ⟨⟨some 12, .bslice 46 2 [.int .i64 0, .nils] 1 [0], [.t 11], none⟩, some 0, [0]⟩),
  (3, ⟨⟨some 13, .call 20, [.t 10, .t 12], none⟩, none, []⟩),
  (4, ⟨⟨some 9, .mv, [.t 13], none⟩, none, []⟩),
  (5, ⟨⟨some 14, .extract 0, [.t 9], none⟩, none, [6]⟩),
  (6, ⟨⟨some 15, .extract 1, [.t 9], none⟩, none, [5, 7]⟩),
  (7, ⟨⟨some 2, .mv, [.t 14], none⟩, none, [6]⟩),
  (8, ⟨⟨some 3, .mv, [.t 15], none⟩, none, []⟩)]
def a17r3 : List IOp := [⟨some 16, .mv, [.t 2], none⟩,
  ⟨some 17, .call 15, [.t 16, .c (.int .i64 5)], none⟩,
  ⟨some 4, .mv, [.t 17], none⟩]
def a17r4 : List IOp := [⟨some 18, .loadA 3, [.t 1], none⟩,
  ⟨some 19, .call 44, [.t 18], none⟩,
  ⟨some 20, .bin .eql, [.t 19, .c (.int .i64 0)], none⟩,
  ⟨some 21, .mv, [.t 20], none⟩,
  ⟨some 22, .mv, [.t 3], some (21, true)⟩,
  ⟨some 23, .bin .eql, [.t 22, .c (.int .i64 0)], some (21, true)⟩,
  ⟨some 24, .pick, [.t 21, .t 23, .c (.bool false)], none⟩,
  ⟨some 25, .mv, [.t 24], none⟩,
  ⟨some 26, .mv, [.t 2], some (25, true)⟩,
  ⟨some 27, .len, [.t 26], some (25, true)⟩,
  ⟨some 28, .bin .eql, [.t 27, .c (.int .i64 3)], some (25, true)⟩,
  ⟨some 29, .pick, [.t 25, .t 28, .c (.bool false)], none⟩,
  ⟨some 30, .mv, [.t 29], none⟩,
  ⟨some 31, .mv, [.t 2], some (30, true)⟩,
  ⟨some 32, .indexAddr 4, [.t 31, .c (.int .i64 1)], some (30, true)⟩,
  ⟨some 33, .loadA 4, [.t 32], some (30, true)⟩,
  ⟨some 34, .build [.int .i64 0, .int .i64 0] [(0, 1), (1, 1)], [.c (.int .i64 7680), .c (.int .i64 7800)], some (30, true)⟩,
  ⟨some 35, .build [.int .i64 0, .int .i64 0, .int .i64 0, .str ⟨#[]⟩] [(0, 1), (1, 2), (3, 1)], [.c (.int .i64 5), .t 34, .c (.str ⟨#[111, 116, 49]⟩)], some (30, true)⟩,
  ⟨some 36, .eqA false [.int .i64, .int .i64, .int .i64, .str], [.t 33, .t 35], some (30, true)⟩,
  ⟨some 37, .pick, [.t 30, .t 36, .c (.bool false)], none⟩,
  ⟨some 38, .mv, [.t 37], none⟩,
  ⟨some 39, .mv, [.t 4], some (38, true)⟩,
  ⟨some 40, .len, [.t 39], some (38, true)⟩,
  ⟨some 41, .bin .eql, [.t 40, .c (.int .i64 3)], some (38, true)⟩,
  ⟨some 42, .pick, [.t 38, .t 41, .c (.bool false)], none⟩,
  ⟨some 43, .mv, [.t 42], none⟩,
  ⟨some 44, .mv, [.t 4], some (43, true)⟩,
  ⟨some 45, .indexAddr 2, [.t 44, .c (.int .i64 2)], some (43, true)⟩,
  ⟨some 46, .loadA 2, [.t 45], some (43, true)⟩,
  ⟨some 47, .build [.str ⟨#[]⟩, .int .i64 0] [(0, 1), (1, 1)], [.c (.str ⟨#[111, 116, 50]⟩), .c (.int .i64 60)], some (43, true)⟩,
  ⟨some 48, .eqA false [.str, .int .i64], [.t 46, .t 47], some (43, true)⟩,
  ⟨some 49, .pick, [.t 43, .t 48, .c (.bool false)], none⟩,
  ⟨some 0, .mv, [.t 49], none⟩]
def a17 : AFunc := ⟨50, [.tmp 0], (.seq (.region a17r0 []) (.seq (.region a17r1 [1]) (.seq (.draw a17r2 [(46, 2)] [1, 2, 3]) (.seq (.region a17r3 [1, 2, 3, 4]) (.seq (.region a17r4 [0]) .ret)))))⟩
theorem a17_ok : compileF Try.prog (lk [(0, ⟨[], [], []⟩), (1, ⟨[1], [], []⟩), (2, ⟨[1, 2, 3], [[], [], [1], [0, 2, 1], [3, 0, 2, 1], [4, 3, 0, 2, 1], [4, 3, 0, 2, 1], [5, 3, 0, 1, 2, 4], [6, 7, 0, 1, 2, 3, 4, 5]], [0, 1, 2, 3, 4, 5, 6, 7, 8]⟩), (3, ⟨[1, 2, 3, 4], [], []⟩), (4, ⟨[0], [], []⟩)]) Try.f17 = some a17 := by kernel_rfl

/- (*payroll/payrollgen.Tape).Bands -/
def a18r0 : List IOp := [⟨some 4, .alloc 36 [.str ⟨#[]⟩, .nils, .nils], [], none⟩]
def a18r1 : List IOp := [⟨some 9, .build [.str ⟨#[]⟩, .nils, .nils] [(0, 1)], [.c (.str ⟨#[110, 111, 114, 109, 97, 108]⟩)], none⟩,
  ⟨some 5, .alloc 36 [.str ⟨#[]⟩, .nils, .nils], [], none⟩,
  ⟨none, .store 3, [.t 5, .t 9], none⟩]
def a18r2 : List IOp := [⟨some 10, .mv, [.t 0], none⟩,
  ⟨some 11, .bslice 3 1 [.int .i64 0] 4 [0, 1, 2, 3], [.c (.int .i64 0), .c (.int .i64 60), .c (.int .i64 480), .c (.int .i64 120)], none⟩,
  ⟨some 12, .call 40, [.t 10, .t 11], none⟩,
  ⟨some 6, .mv, [.t 12], none⟩]
def a18r3 : List IOp := [⟨some 13, .mv, [.t 0], none⟩,
  ⟨some 14, .call 14, [.t 13, .c (.int .i64 3)], none⟩,
  ⟨some 7, .mv, [.t 14], none⟩]
def a18r4 : List IOp := [⟨some 15, .mv, [.t 7], none⟩,
  ⟨some 16, .bin .gtr, [.t 15, .c (.int .i64 0)], none⟩]
def a18r5 : List (Nat × DOp) := [(0, ⟨⟨some 19, .fieldAddr 1, [.t 5], none⟩, none, [2, 3, 4, 5, 6, 7, 8, 9]⟩),
  (1, ⟨⟨some 20, .load1, [.t 19], none⟩, none, [2, 3, 4, 5, 6, 7, 8, 9]⟩),
  (2, ⟨⟨some 21, .bslice 9 1 [.str ⟨#[]⟩] 3 [0, 1, 2], [.c (.str ⟨#[111, 116, 49]⟩), .c (.str ⟨#[111, 116, 50]⟩), .c (.str ⟨#[110, 111, 114, 109, 97, 108]⟩)], none⟩, some 0, [0, 1, 3, 4, 7]⟩),
  (3, ⟨⟨some 22, .mv, [.t 0], none⟩, none, [0, 1, 2, 7]⟩),
  (7, ⟨⟨some 26, .mv, [.t 6], none⟩, none, [0, 1, 2, 3, 4, 5, 6]⟩),
  (4, ⟨⟨some 23, .call 14, [.t 22, .c (.int .i64 3)], none⟩, none, [0, 1, 2, 7]⟩),
  (5, ⟨⟨some 24, .indexAddr 1, [.t 21, .t 23], none⟩, none, [0, 1, 7]⟩),
  (6, ⟨⟨some 25, .load1, [.t 24], none⟩, none, [0, 1, 7]⟩),
  (8, ⟨⟨some 27, .build [.str ⟨#[]⟩, .int .i64 0] [(0, 1), (1, 1)], [.t 25, .t 26], none⟩, none, [0, 1]⟩),
  (9, ⟨⟨some 28, .bslice 55 2 [.str ⟨#[]⟩, .int .i64 0] 1 [0], [.t 27], none⟩, some 1, [0, 1]⟩),
  (10, ⟨⟨some 29, .append 55 2 24, [.t 20, .t 28], none⟩, none, []⟩),
  (11, ⟨⟨some 30, .fieldAddr 1, [.t 5], none⟩, none, []⟩),
  (12, ⟨⟨none, .store 1, [.t 30, .t 29], none⟩, none, []⟩)]
def a18r6 : List IOp := [⟨some 31, .mv, [.t 6], none⟩,
  ⟨some 32, .mv, [.t 0], none⟩,
  ⟨some 33, .bslice 3 1 [.int .i64 0] 3 [0, 1, 2], [.c (.int .i64 60), .c (.int .i64 1), .c (.int .i64 120)], none⟩,
  ⟨some 34, .call 40, [.t 32, .t 33], none⟩,
  ⟨some 35, .bin .add, [.t 31, .t 34], none⟩,
  ⟨some 6, .mv, [.t 35], none⟩]
def a18r7 : List IOp := [⟨some 17, .mv, [.t 7], none⟩,
  ⟨some 18, .bin .sub, [.t 17, .c (.int .i64 1)], none⟩,
  ⟨some 7, .mv, [.t 18], none⟩]
def a18r8 : List IOp := [⟨some 36, .mv, [.t 0], none⟩,
  ⟨some 37, .bslice 3 1 [.int .i64 0] 4 [0, 1, 2, 3], [.c (.int .i64 100), .c (.int .i64 480), .c (.int .i64 0), .c (.int .i64 2400)], none⟩,
  ⟨some 38, .call 40, [.t 36, .t 37], none⟩,
  ⟨some 6, .mv, [.t 38], none⟩]
def a18r9 : List IOp := [⟨some 39, .mv, [.t 0], none⟩,
  ⟨some 40, .call 14, [.t 39, .c (.int .i64 3)], none⟩,
  ⟨some 8, .mv, [.t 40], none⟩]
def a18r10 : List IOp := [⟨some 41, .mv, [.t 8], none⟩,
  ⟨some 42, .bin .gtr, [.t 41, .c (.int .i64 0)], none⟩]
def a18r11 : List (Nat × DOp) := [(0, ⟨⟨some 45, .fieldAddr 2, [.t 5], none⟩, none, [2, 3, 4, 5, 6, 7, 8, 9]⟩),
  (1, ⟨⟨some 46, .load1, [.t 45], none⟩, none, [2, 3, 4, 5, 6, 7, 8, 9]⟩),
  (2, ⟨⟨some 47, .bslice 9 1 [.str ⟨#[]⟩] 3 [0, 1, 2], [.c (.str ⟨#[119, 49]⟩), .c (.str ⟨#[119, 50]⟩), .c (.str ⟨#[111, 116, 49]⟩)], none⟩, some 0, [0, 1, 3, 4, 7]⟩),
  (3, ⟨⟨some 48, .mv, [.t 0], none⟩, none, [0, 1, 2, 7]⟩),
  (7, ⟨⟨some 52, .mv, [.t 6], none⟩, none, [0, 1, 2, 3, 4, 5, 6]⟩),
  (4, ⟨⟨some 49, .call 14, [.t 48, .c (.int .i64 3)], none⟩, none, [0, 1, 2, 7]⟩),
  (5, ⟨⟨some 50, .indexAddr 1, [.t 47, .t 49], none⟩, none, [0, 1, 7]⟩),
  (6, ⟨⟨some 51, .load1, [.t 50], none⟩, none, [0, 1, 7]⟩),
  (8, ⟨⟨some 53, .build [.str ⟨#[]⟩, .int .i64 0] [(0, 1), (1, 1)], [.t 51, .t 52], none⟩, none, [0, 1]⟩),
  (9, ⟨⟨some 54, .bslice 55 2 [.str ⟨#[]⟩, .int .i64 0] 1 [0], [.t 53], none⟩, some 1, [0, 1]⟩),
  (10, ⟨⟨some 55, .append 55 2 24, [.t 46, .t 54], none⟩, none, []⟩),
  (11, ⟨⟨some 56, .fieldAddr 2, [.t 5], none⟩, none, []⟩),
  (12, ⟨⟨none, .store 1, [.t 56, .t 55], none⟩, none, []⟩)]
def a18r12 : List IOp := [⟨some 57, .mv, [.t 6], none⟩,
  ⟨some 58, .mv, [.t 0], none⟩,
  ⟨some 59, .bslice 3 1 [.int .i64 0] 3 [0, 1, 2], [.c (.int .i64 60), .c (.int .i64 1), .c (.int .i64 600)], none⟩,
  ⟨some 60, .call 40, [.t 58, .t 59], none⟩,
  ⟨some 61, .bin .add, [.t 57, .t 60], none⟩,
  ⟨some 6, .mv, [.t 61], none⟩]
def a18r13 : List IOp := [⟨some 43, .mv, [.t 8], none⟩,
  ⟨some 44, .bin .sub, [.t 43, .c (.int .i64 1)], none⟩,
  ⟨some 8, .mv, [.t 44], none⟩]
def a18r14 : List IOp := [⟨some 62, .mv, [.t 1], none⟩,
  ⟨some 63, .mv, [.t 62], none⟩,
  ⟨some 64, .mv, [.t 0], some (63, true)⟩,
  ⟨some 65, .call 14, [.t 64, .c (.int .i64 6)], some (63, true)⟩,
  ⟨some 66, .bin .eql, [.t 65, .c (.int .i64 5)], some (63, true)⟩,
  ⟨some 67, .pick, [.t 63, .t 66, .c (.bool false)], none⟩]
def a18r15 : List IOp := [⟨some 68, .mv, [.t 0], none⟩,
  ⟨some 69, .call 14, [.t 68, .c (.int .i64 3)], none⟩]
def a18r16 : List IOp := [⟨some 77, .bin .eql, [.t 69, .c (.int .i64 0)], none⟩,
  ⟨some 76, .mv, [.t 77], none⟩]
def a18r17 : List IOp := [⟨some 78, .bslice 9 1 [.str ⟨#[]⟩] 4 [0, 1, 2, 3], [.c (.str ⟨#[]⟩), .c (.str ⟨#[65]⟩), .c (.str ⟨#[97, 32, 98]⟩), .c (.str ⟨#[97, 98, 99, 100, 101, 102, 103, 104, 105, 106, 107, 108, 109, 110, 111, 112, 113, 114, 115, 116, 117, 118, 119, 120, 121]⟩)], none⟩,
  ⟨some 79, .mv, [.t 0], none⟩,
  ⟨some 80, .call 14, [.t 79, .c (.int .i64 4)], none⟩,
  ⟨some 81, .indexAddr 1, [.t 78, .t 80], none⟩,
  ⟨some 82, .load1, [.t 81], none⟩,
  ⟨some 83, .fieldAddr 0, [.t 5], none⟩,
  ⟨none, .store 1, [.t 83, .t 82], none⟩]
def a18r18 : List IOp := [⟨some 85, .bin .eql, [.t 69, .c (.int .i64 1)], none⟩,
  ⟨some 84, .mv, [.t 85], none⟩]
def a18r19 : List (Nat × DOp) := [(0, ⟨⟨some 86, .fieldAddr 1, [.t 5], none⟩, none, [2, 3, 4, 5, 6]⟩),
  (1, ⟨⟨some 87, .load1, [.t 86], none⟩, none, [2, 3, 4, 5, 6]⟩),
  (2, ⟨⟨some 88, .mv, [.t 0], none⟩, none, [0, 1, 3]⟩),
  (3, ⟨⟨some 89, .bslice 3 1 [.int .i64 0] 3 [0, 1, 2], [.c (.int .i64 (-1)), .c (.int .i64 0), .c (.int .i64 10081)], none⟩, some 0, [0, 1, 2]⟩),
  (4, ⟨⟨some 90, .call 40, [.t 88, .t 89], none⟩, none, [0, 1]⟩),
  (5, ⟨⟨some 91, .build [.str ⟨#[]⟩, .int .i64 0] [(0, 1), (1, 1)], [.c (.str ⟨#[120]⟩), .t 90], none⟩, none, [0, 1]⟩),
  (6, ⟨⟨some 92, .bslice 55 2 [.str ⟨#[]⟩, .int .i64 0] 1 [0], [.t 91], none⟩, some 1, [0, 1]⟩),
  (7, ⟨⟨some 93, .append 55 2 24, [.t 87, .t 92], none⟩, none, []⟩),
  (8, ⟨⟨some 94, .fieldAddr 1, [.t 5], none⟩, none, []⟩),
  (9, ⟨⟨none, .store 1, [.t 94, .t 93], none⟩, none, []⟩)]
def a18r20 : List IOp := [⟨some 70, .fieldAddr 2, [.t 5], none⟩,
  ⟨some 71, .load1, [.t 70], none⟩,
  ⟨some 72, .build [.str ⟨#[]⟩, .int .i64 0] [(0, 1), (1, 1)], [.c (.str ⟨#[57, 120]⟩), .c (.int .i64 10000)], none⟩,
  ⟨some 73, .bslice 55 2 [.str ⟨#[]⟩, .int .i64 0] 1 [0], [.t 72], none⟩,
  ⟨some 74, .append 55 2 24, [.t 71, .t 73], none⟩,
  ⟨some 75, .fieldAddr 2, [.t 5], none⟩,
  ⟨none, .store 1, [.t 75, .t 74], none⟩]
def a18r21 : List IOp := [⟨some 95, .loadA 3, [.t 5], none⟩,
  ⟨none, .store 3, [.t 4, .t 95], none⟩]
def a18 : AFunc := ⟨96, [.cellA 4 3], (.seq (.region a18r0 [0, 1, 4]) (.seq (.region a18r1 [0, 1, 4, 5]) (.seq (.region a18r2 [0, 1, 4, 5, 6]) (.seq (.seq (.region a18r3 [0, 1, 4, 5, 6, 7]) (.block 0 (.loop (.seq (.seq (.region a18r4 [0, 1, 4, 5, 6, 7, 16]) (.cond (.t 16) .skip (.exit 0))) (.seq (.block 1 (.seq (.draw a18r5 [(9, 1), (55, 2)] [0, 1, 4, 5, 6, 7]) (.region a18r6 [0, 1, 4, 5, 6, 7]))) (.region a18r7 [0, 1, 4, 5, 6, 7])))))) (.seq (.region a18r8 [0, 1, 4, 5, 6]) (.seq (.seq (.region a18r9 [0, 1, 4, 5, 6, 8]) (.block 2 (.loop (.seq (.seq (.region a18r10 [0, 1, 4, 5, 6, 8, 42]) (.cond (.t 42) .skip (.exit 2))) (.seq (.block 3 (.seq (.draw a18r11 [(9, 1), (55, 2)] [0, 1, 4, 5, 6, 8]) (.region a18r12 [0, 1, 4, 5, 6, 8]))) (.region a18r13 [0, 1, 4, 5, 6, 8])))))) (.seq (.seq (.region a18r14 [0, 4, 5, 67]) (.cond (.t 67) (.seq (.region a18r15 [0, 4, 5, 69]) (.block 4 (.seq (.region a18r16 [0, 4, 5, 69, 76]) (.cond (.t 76) (.region a18r17 [4, 5]) (.seq (.region a18r18 [0, 4, 5, 84]) (.cond (.t 84) (.draw a18r19 [(3, 1), (55, 2)] [4, 5]) (.region a18r20 [4, 5]))))))) .skip)) (.seq (.region a18r21 [4]) .ret))))))))⟩
theorem a18_ok : compileF Try.prog (lk [(0, ⟨[0, 1, 4], [], []⟩), (1, ⟨[0, 1, 4, 5], [], []⟩), (2, ⟨[0, 1, 4, 5, 6], [], []⟩), (3, ⟨[0, 1, 4, 5, 6, 7], [], []⟩), (4, ⟨[0, 1, 4, 5, 6, 7, 16], [], []⟩), (5, ⟨[0, 1, 4, 5, 6, 7], [], []⟩), (6, ⟨[0, 1, 4, 5, 6, 7], [[], [0], [], [], [3], [2, 4, 3], [5, 2, 4, 3], [], [6, 7, 5, 2, 4, 3], [8, 6, 7, 5, 2, 4, 3], [1, 9, 4, 0, 8, 6, 7, 5, 2, 3], [0, 1, 2, 3, 4, 5, 6, 7, 8, 9, 10], [11, 10, 0, 1, 2, 3, 4, 5, 6, 7, 8, 9]], [0, 1, 2, 3, 7, 4, 5, 6, 8, 9, 10, 11, 12]⟩), (7, ⟨[0, 1, 4, 5, 6, 7], [], []⟩), (8, ⟨[0, 1, 4, 5, 6], [], []⟩), (9, ⟨[0, 1, 4, 5, 6, 8], [], []⟩), (10, ⟨[0, 1, 4, 5, 6, 8, 42], [], []⟩), (11, ⟨[0, 1, 4, 5, 6, 8], [], []⟩), (12, ⟨[0, 1, 4, 5, 6, 8], [[], [0], [], [], [3], [2, 4, 3], [5, 2, 4, 3], [], [6, 7, 5, 2, 4, 3], [8, 6, 7, 5, 2, 4, 3], [1, 9, 4, 0, 8, 6, 7, 5, 2, 3], [0, 1, 2, 3, 4, 5, 6, 7, 8, 9, 10], [11, 10, 0, 1, 2, 3, 4, 5, 6, 7, 8, 9]], [0, 1, 2, 3, 7, 4, 5, 6, 8, 9, 10, 11, 12]⟩), (13, ⟨[0, 1, 4, 5, 6, 8], [], []⟩), (14, ⟨[0, 4, 5, 67], [], []⟩), (15, ⟨[0, 4, 5, 69], [], []⟩), (16, ⟨[4, 5], [], []⟩), (17, ⟨[0, 4, 5, 69, 76], [], []⟩), (18, ⟨[4, 5], [], []⟩), (19, ⟨[0, 4, 5, 84], [], []⟩), (20, ⟨[4, 5], [[], [0], [], [], [2, 3], [4, 2, 3], [5, 4, 2, 3], [1, 6, 4, 0, 5, 2, 3], [0, 1, 2, 3, 4, 5, 6, 7], [8, 7, 0, 1, 2, 3, 4, 5, 6]], [0, 1, 2, 3, 4, 5, 6, 7, 8, 9]⟩), (21, ⟨[4], [], []⟩)]) Try.f18 = some a18 := by kernel_rfl

/- (*payroll/payrollgen.Tape).Works -/
def a19r0 : List IOp := [⟨some 4, .mv, [.c (.nils)], none⟩]
def a19r1 : List IOp := [⟨some 5, .mv, [.c (.nils)], none⟩]
def a19r2 : List IOp := [⟨some 12, .mv, [.t 0], none⟩,
  ⟨some 13, .call 14, [.t 12, .c (.int .i64 3)], none⟩,
  ⟨some 14, .bin .mul, [.t 13, .c (.int .i64 1440)], none⟩,
  ⟨some 15, .bin .sub, [.c (.int .i64 29453760), .t 14], none⟩,
  ⟨some 6, .mv, [.t 15], none⟩]
def a19r3 : List IOp := [⟨some 16, .mv, [.t 0], none⟩,
  ⟨some 17, .mv, [.t 1], none⟩,
  ⟨some 18, .bin .add, [.t 17, .c (.int .i64 1)], none⟩,
  ⟨some 19, .call 14, [.t 16, .t 18], none⟩,
  ⟨some 7, .mv, [.t 19], none⟩]
def a19r4 : List IOp := [⟨some 20, .mv, [.t 7], none⟩,
  ⟨some 21, .bin .gtr, [.t 20, .c (.int .i64 0)], none⟩]
def a19r5 : List IOp := [⟨some 24, .mv, [.t 6], none⟩,
  ⟨some 25, .bin .quo, [.t 24, .c (.int .i64 1440)], none⟩,
  ⟨some 26, .mv, [.t 0], none⟩,
  ⟨some 27, .call 14, [.t 26, .c (.int .i64 5)], none⟩,
  ⟨some 28, .bin .quo, [.t 27, .c (.int .i64 4)], none⟩,
  ⟨some 29, .bin .sub, [.t 25, .t 28], none⟩,
  ⟨some 30, .build [.int .i64 0, .nils] [(0, 1)], [.t 29], none⟩,
  ⟨some 8, .alloc 46 [.int .i64 0, .nils], [], none⟩,
  ⟨none, .store 2, [.t 8, .t 30], none⟩]
def a19r6 : List IOp := [⟨some 31, .mv, [.t 0], none⟩,
  ⟨some 32, .call 14, [.t 31, .c (.int .i64 2)], none⟩,
  ⟨some 33, .bin .add, [.c (.int .i64 1), .t 32], none⟩,
  ⟨some 9, .mv, [.t 33], none⟩]
def a19r7 : List IOp := [⟨some 34, .mv, [.t 9], none⟩,
  ⟨some 35, .bin .gtr, [.t 34, .c (.int .i64 0)], none⟩]
def a19r8 : List IOp := [⟨some 38, .mv, [.t 6], none⟩,
  ⟨some 39, .mv, [.t 0], none⟩,
  ⟨some 40, .bslice 3 1 [.int .i64 0] 4 [0, 1, 2, 3], [.c (.int .i64 0), .c (.int .i64 30), .c (.int .i64 400), .c (.int .i64 1)], none⟩,
  ⟨some 41, .call 40, [.t 39, .t 40], none⟩,
  ⟨some 42, .bin .add, [.t 38, .t 41], none⟩,
  ⟨some 6, .mv, [.t 42], none⟩]
def a19r9 : List IOp := [⟨some 43, .mv, [.t 0], none⟩,
  ⟨some 44, .bslice 3 1 [.int .i64 0] 4 [0, 1, 2, 3], [.c (.int .i64 240), .c (.int .i64 60), .c (.int .i64 480), .c (.int .i64 1)], none⟩,
  ⟨some 45, .call 40, [.t 43, .t 44], none⟩,
  ⟨some 10, .mv, [.t 45], none⟩]
def a19r10 : List IOp := [⟨some 46, .fieldAddr 1, [.t 8], none⟩,
  ⟨some 47, .load1, [.t 46], none⟩,
  ⟨some 48, .mv, [.t 6], none⟩,
  ⟨some 49, .mv, [.t 6], none⟩,
  ⟨some 50, .mv, [.t 10], none⟩,
  ⟨some 51, .bin .add, [.t 49, .t 50], none⟩,
  ⟨some 52, .build [.int .i64 0, .int .i64 0] [(0, 1), (1, 1)], [.t 48, .t 51], none⟩,
  ⟨some 53, .bslice 48 2 [.int .i64 0, .int .i64 0] 1 [0], [.t 52], none⟩,
  ⟨some 54, .append 48 2 16, [.t 47, .t 53], none⟩,
  ⟨some 55, .fieldAddr 1, [.t 8], none⟩,
  ⟨none, .store 1, [.t 55, .t 54], none⟩]
def a19r11 : List IOp := [⟨some 56, .mv, [.t 6], none⟩,
  ⟨some 57, .mv, [.t 10], none⟩,
  ⟨some 58, .bin .add, [.t 56, .t 57], none⟩,
  ⟨some 6, .mv, [.t 58], none⟩]
def a19r12 : List IOp := [⟨some 36, .mv, [.t 9], none⟩,
  ⟨some 37, .bin .sub, [.t 36, .c (.int .i64 1)], none⟩,
  ⟨some 9, .mv, [.t 37], none⟩]
def a19r13 : List IOp := [⟨some 59, .mv, [.t 5], none⟩,
  ⟨some 60, .loadA 2, [.t 8], none⟩,
  ⟨some 61, .bslice 46 2 [.int .i64 0, .nils] 1 [0], [.t 60], none⟩,
  ⟨some 62, .append 46 2 32, [.t 59, .t 61], none⟩,
  ⟨some 5, .mv, [.t 62], none⟩]
def a19r14 : List IOp := [⟨some 63, .mv, [.t 6], none⟩,
  ⟨some 64, .mv, [.t 0], none⟩,
  ⟨some 65, .bslice 3 1 [.int .i64 0] 4 [0, 1, 2, 3], [.c (.int .i64 600), .c (.int .i64 0), .c (.int .i64 1440), .c (.int .i64 60)], none⟩,
  ⟨some 66, .call 40, [.t 64, .t 65], none⟩,
  ⟨some 67, .bin .add, [.t 63, .t 66], none⟩,
  ⟨some 6, .mv, [.t 67], none⟩]
def a19r15 : List IOp := [⟨some 22, .mv, [.t 7], none⟩,
  ⟨some 23, .bin .sub, [.t 22, .c (.int .i64 1)], none⟩,
  ⟨some 7, .mv, [.t 23], none⟩]
def a19r16 : List IOp := [⟨some 68, .mv, [.t 5], none⟩,
  ⟨some 69, .len, [.t 68], none⟩,
  ⟨some 70, .bin .gtr, [.t 69, .c (.int .i64 1)], none⟩,
  ⟨some 71, .mv, [.t 70], none⟩,
  ⟨some 72, .mv, [.t 0], some (71, true)⟩,
  ⟨some 73, .call 14, [.t 72, .c (.int .i64 2)], some (71, true)⟩,
  ⟨some 74, .bin .eql, [.t 73, .c (.int .i64 0)], some (71, true)⟩,
  ⟨some 75, .pick, [.t 71, .t 74, .c (.bool false)], none⟩]
def a19r17 : List IOp := [⟨some 76, .mv, [.t 0], none⟩,
  ⟨some 77, .mv, [.t 5], none⟩,
  ⟨some 78, .len, [.t 77], none⟩,
  ⟨some 79, .call 14, [.t 76, .t 78], none⟩,
  ⟨some 11, .mv, [.t 79], none⟩]
def a19r18 : List (Nat × DOp) := [(0, ⟨⟨some 80, .mv, [.t 5], none⟩, none, [1, 2, 3, 4, 5, 6, 7, 8, 9]⟩),
  (1, ⟨⟨some 81, .mv, [.t 5], none⟩, none, [0, 2, 3, 4, 5, 6, 7, 8, 9, 10, 11]⟩),
  (2, ⟨⟨some 82, .mv, [.t 11], none⟩, none, [0, 1, 3, 4, 5, 6, 7, 8, 9, 10, 11]⟩),
  (3, ⟨⟨some 83, .mv, [.t 5], none⟩, none, [0, 1, 2, 4, 7, 8, 9]⟩),
  (4, ⟨⟨some 84, .mv, [.t 11], none⟩, none, [0, 1, 2, 3, 7, 8, 9]⟩),
  (5, ⟨⟨some 85, .indexAddr 2, [.t 83, .t 84], none⟩, none, [0, 1, 2, 7, 8, 9]⟩),
  (6, ⟨⟨some 86, .loadA 2, [.t 85], none⟩, none, [0, 1, 2, 7, 8, 9]⟩),
  (7, ⟨⟨some 87, .mv, [.t 5], none⟩, none, [0, 1, 2, 3, 4, 5, 6]⟩),
  (8, ⟨⟨some 88, .indexAddr 2, [.t 87, .c (.int .i64 0)], none⟩, none, [0, 1, 2, 3, 4, 5, 6]⟩),
  (9, ⟨⟨some 89, .loadA 2, [.t 88], none⟩, none, [0, 1, 2, 3, 4, 5, 6]⟩),
  (10, ⟨⟨some 90, .indexAddr 2, [.t 80, .c (.int .i64 0)], none⟩, none, [1, 2]⟩),
  (11, ⟨⟨none, .store 2, [.t 90, .t 86], none⟩, none, [1, 2]⟩),
  (12, ⟨⟨some 91, .indexAddr 2, [.t 81, .t 82], none⟩, none, []⟩),
  (13, ⟨⟨none, .store 2, [.t 91, .t 89], none⟩, none, []⟩)]
def a19r19 : List IOp := [⟨some 92, .mv, [.t 5], none⟩,
  ⟨some 4, .mv, [.t 92], none⟩]
def a19 : AFunc := ⟨93, [.tmp 4], (.seq (.region a19r0 [0, 1]) (.seq (.region a19r1 [0, 1, 5]) (.seq (.region a19r2 [0, 1, 5, 6]) (.seq (.seq (.region a19r3 [0, 5, 6, 7]) (.block 0 (.loop (.seq (.seq (.region a19r4 [0, 5, 6, 7, 21]) (.cond (.t 21) .skip (.exit 0))) (.seq (.block 1 (.seq (.region a19r5 [0, 5, 6, 7, 8]) (.seq (.seq (.region a19r6 [0, 5, 6, 7, 8, 9]) (.block 2 (.loop (.seq (.seq (.region a19r7 [0, 5, 6, 7, 8, 9, 35]) (.cond (.t 35) .skip (.exit 2))) (.seq (.block 3 (.seq (.region a19r8 [0, 5, 6, 7, 8, 9]) (.seq (.region a19r9 [0, 5, 6, 7, 8, 9, 10]) (.seq (.region a19r10 [0, 5, 6, 7, 8, 9, 10]) (.region a19r11 [0, 5, 6, 7, 8, 9]))))) (.region a19r12 [0, 5, 6, 7, 8, 9])))))) (.seq (.region a19r13 [0, 5, 6, 7]) (.region a19r14 [0, 5, 6, 7]))))) (.region a19r15 [0, 5, 6, 7])))))) (.seq (.seq (.region a19r16 [0, 5, 75]) (.cond (.t 75) (.seq (.region a19r17 [5, 11]) (.draw a19r18 [] [5])) .skip)) (.seq (.region a19r19 [4]) .ret))))))⟩
theorem a19_ok : compileF Try.prog (lk [(0, ⟨[0, 1], [], []⟩), (1, ⟨[0, 1, 5], [], []⟩), (2, ⟨[0, 1, 5, 6], [], []⟩), (3, ⟨[0, 5, 6, 7], [], []⟩), (4, ⟨[0, 5, 6, 7, 21], [], []⟩), (5, ⟨[0, 5, 6, 7], [], []⟩), (6, ⟨[0, 5, 6, 7, 8], [], []⟩), (7, ⟨[0, 5, 6, 7, 8, 9], [], []⟩), (8, ⟨[0, 5, 6, 7, 8, 9, 35], [], []⟩), (9, ⟨[0, 5, 6, 7, 8, 9], [], []⟩), (10, ⟨[0, 5, 6, 7, 8, 9], [], []⟩), (11, ⟨[0, 5, 6, 7, 8, 9, 10], [], []⟩), (12, ⟨[0, 5, 6, 7, 8, 9, 10], [], []⟩), (13, ⟨[0, 5, 6, 7, 8, 9], [], []⟩), (14, ⟨[0, 5, 6, 7], [], []⟩), (15, ⟨[0, 5, 6, 7], [], []⟩), (16, ⟨[0, 5, 75], [], []⟩), (17, ⟨[5, 11], [], []⟩), (18, ⟨[5], [[], [], [], [], [], [3, 4], [5, 3, 4], [], [7], [8, 7], [0, 3, 4, 5, 6, 9, 8, 7], [10, 6, 0, 3, 4, 5, 9, 8, 7], [1, 2, 0, 3, 4, 5, 6, 7, 8, 9, 10, 11], [12, 9, 11, 0, 1, 2, 3, 4, 5, 6, 7, 8, 10]], [0, 1, 2, 3, 4, 5, 6, 7, 8, 9, 10, 11, 12, 13]⟩), (19, ⟨[4], [], []⟩)]) Try.f19 = some a19 := by kernel_rfl

/- payroll/overtime.Divide -/
def a20r0 : List IOp := [⟨some 2, .box 36 3, [.t 0], none⟩,
  ⟨some 4, .mv, [.c (.nils)], none⟩,
  ⟨some 5, .mv, [.c (.int .i64 0)], none⟩]
def a20r1 : List IOp := [⟨some 15, .loadA 3, [.t 2], none⟩,
  ⟨some 16, .call 44, [.t 15], none⟩,
  ⟨some 6, .mv, [.t 16], none⟩]
def a20r2 : List IOp := [⟨some 17, .mv, [.t 6], none⟩,
  ⟨some 18, .bin .neq, [.t 17, .c (.int .i64 0)], none⟩]
def a20r3 : List IOp := [⟨some 19, .mv, [.t 6], none⟩,
  ⟨some 4, .mv, [.c (.nils)], none⟩,
  ⟨some 5, .mv, [.t 19], none⟩]
def a20r4 : List IOp := [⟨some 21, .mv, [.t 1], none⟩,
  ⟨some 22, .call 45, [.t 21], none⟩,
  ⟨some 20, .mv, [.t 22], none⟩,
  ⟨some 23, .extract 0, [.t 20], none⟩,
  ⟨some 24, .extract 1, [.t 20], none⟩,
  ⟨some 7, .mv, [.t 23], none⟩,
  ⟨some 8, .mv, [.t 24], none⟩]
def a20r5 : List IOp := [⟨some 25, .mv, [.t 8], none⟩,
  ⟨some 26, .bin .neq, [.t 25, .c (.int .i64 0)], none⟩]
def a20r6 : List IOp := [⟨some 27, .mv, [.t 8], none⟩,
  ⟨some 4, .mv, [.c (.nils)], none⟩,
  ⟨some 5, .mv, [.t 27], none⟩]
def a20r7 : List IOp := [⟨some 28, .loadA 3, [.t 2], none⟩,
  ⟨some 29, .mkmap false [.int .i64], [], none⟩,
  ⟨some 30, .mkmap false [.int .i64], [], none⟩,
  ⟨some 31, .build [.str ⟨#[]⟩, .nils, .nils, .nilm, .nilm, .nils] [(0, 3), (3, 1), (4, 1)], [.t 28, .t 29, .t 30], none⟩,
  ⟨some 9, .alloc 94 [.str ⟨#[]⟩, .nils, .nils, .nilm, .nilm, .nils], [], none⟩,
  ⟨none, .store 6, [.t 9, .t 31], none⟩]
def a20r8 : List IOp := [⟨some 32, .mv, [.t 7], none⟩,
  ⟨some 33, .len, [.t 32], none⟩,
  ⟨some 34, .mv, [.c (.int .i64 0)], none⟩]
def a20r9 : List IOp := [⟨some 35, .bin .lss, [.t 34, .t 33], none⟩]
def a20r10 : List IOp := [⟨some 36, .indexAddr 3, [.t 32, .t 34], none⟩,
  ⟨some 37, .loadA 3, [.t 36], none⟩,
  ⟨some 11, .alloc 96 [.int .i64 0, .int .i64 0, .int .i64 0], [], none⟩,
  ⟨none, .store 3, [.t 11, .t 37], none⟩]
def a20r11 : List IOp := [⟨some 38, .fieldAddr 1, [.t 11], none⟩,
  ⟨some 39, .fieldAddr 0, [.t 38], none⟩,
  ⟨some 40, .load1, [.t 39], none⟩,
  ⟨some 12, .mv, [.t 40], none⟩]
def a20r12 : List IOp := [⟨some 41, .mv, [.t 12], none⟩,
  ⟨some 42, .fieldAddr 1, [.t 11], none⟩,
  ⟨some 43, .fieldAddr 1, [.t 42], none⟩,
  ⟨some 44, .load1, [.t 43], none⟩,
  ⟨some 45, .bin .lss, [.t 41, .t 44], none⟩]
def a20r13 : List IOp := [⟨some 47, .fieldAddr 0, [.t 11], none⟩,
  ⟨some 48, .load1, [.t 47], none⟩,
  ⟨some 49, .fieldAddr 1, [.t 11], none⟩,
  ⟨some 50, .fieldAddr 1, [.t 49], none⟩,
  ⟨some 51, .load1, [.t 50], none⟩,
  ⟨some 52, .mv, [.t 12], none⟩,
  ⟨some 53, .bin .sub, [.t 51, .t 52], none⟩,
  ⟨some 54, .call 46, [.t 9, .t 48, .t 53], none⟩,
  ⟨some 46, .mv, [.t 54], none⟩,
  ⟨some 55, .extract 0, [.t 46], none⟩,
  ⟨some 56, .extract 1, [.t 46], none⟩,
  ⟨some 13, .mv, [.t 55], none⟩,
  ⟨some 14, .mv, [.t 56], none⟩]
def a20r14 : List IOp := [⟨some 57, .fieldAddr 0, [.t 11], none⟩,
  ⟨some 58, .load1, [.t 57], none⟩,
  ⟨some 59, .mv, [.t 12], none⟩,
  ⟨some 60, .mv, [.t 12], none⟩,
  ⟨some 61, .mv, [.t 14], none⟩,
  ⟨some 62, .bin .add, [.t 60, .t 61], none⟩,
  ⟨some 63, .build [.int .i64 0, .int .i64 0] [(0, 1), (1, 1)], [.t 59, .t 62], none⟩,
  ⟨some 64, .mv, [.t 13], none⟩,
  ⟨some 65, .build [.int .i64 0, .int .i64 0, .int .i64 0, .str ⟨#[]⟩] [(0, 1), (1, 2), (3, 1)], [.t 58, .t 63, .t 64], none⟩,
  ⟨some 66, .call 47, [.t 9, .t 65], none⟩]
def a20r15 : List IOp := [⟨some 67, .mv, [.t 12], none⟩,
  ⟨some 68, .mv, [.t 14], none⟩,
  ⟨some 69, .bin .add, [.t 67, .t 68], none⟩,
  ⟨some 12, .mv, [.t 69], none⟩]
def a20r16 : List IOp := [⟨some 70, .bin .add, [.t 34, .c (.int .i64 1)], none⟩,
  ⟨some 34, .mv, [.t 70], none⟩]
def a20r17 : List IOp := [⟨some 71, .fieldAddr 5, [.t 9], none⟩,
  ⟨some 72, .load1, [.t 71], none⟩,
  ⟨some 4, .mv, [.t 72], none⟩,
  ⟨some 5, .mv, [.c (.int .i64 0)], none⟩]
def a20 : AFunc := ⟨73, [.tmp 4, .tmp 5], (.seq (.region a20r0 [1, 2]) (.seq (.seq (.region a20r1 [1, 2, 6]) (.seq (.region a20r2 [1, 2, 6, 18]) (.cond (.t 18) (.seq (.region a20r3 [4, 5]) .ret) .skip))) (.seq (.region a20r4 [2, 7, 8]) (.seq (.seq (.region a20r5 [2, 7, 8, 26]) (.cond (.t 26) (.seq (.region a20r6 [4, 5]) .ret) .skip)) (.seq (.region a20r7 [7, 9]) (.seq (.seq (.region a20r8 [9, 32, 33, 34]) (.block 0 (.loop (.seq (.region a20r9 [9, 32, 33, 34, 35]) (.seq (.cond (.t 35) .skip (.exit 0)) (.seq (.block 1 (.seq (.region a20r10 [9, 11, 32, 33, 34]) (.seq (.region a20r11 [9, 11, 12, 32, 33, 34]) (.block 2 (.loop (.seq (.seq (.region a20r12 [9, 11, 12, 32, 33, 34, 45]) (.cond (.t 45) .skip (.exit 2))) (.block 3 (.seq (.region a20r13 [9, 11, 12, 13, 14, 32, 33, 34]) (.seq (.region a20r14 [9, 11, 12, 14, 32, 33, 34]) (.region a20r15 [9, 11, 12, 32, 33, 34])))))))))) (.region a20r16 [9, 32, 33, 34]))))))) (.seq (.region a20r17 [4, 5]) .ret)))))))⟩
theorem a20_ok : compileF Try.prog (lk [(0, ⟨[1, 2], [], []⟩), (1, ⟨[1, 2, 6], [], []⟩), (2, ⟨[1, 2, 6, 18], [], []⟩), (3, ⟨[4, 5], [], []⟩), (4, ⟨[2, 7, 8], [], []⟩), (5, ⟨[2, 7, 8, 26], [], []⟩), (6, ⟨[4, 5], [], []⟩), (7, ⟨[7, 9], [], []⟩), (8, ⟨[9, 32, 33, 34], [], []⟩), (9, ⟨[9, 32, 33, 34, 35], [], []⟩), (10, ⟨[9, 11, 32, 33, 34], [], []⟩), (11, ⟨[9, 11, 12, 32, 33, 34], [], []⟩), (12, ⟨[9, 11, 12, 32, 33, 34, 45], [], []⟩), (13, ⟨[9, 11, 12, 13, 14, 32, 33, 34], [], []⟩), (14, ⟨[9, 11, 12, 14, 32, 33, 34], [], []⟩), (15, ⟨[9, 11, 12, 32, 33, 34], [], []⟩), (16, ⟨[9, 32, 33, 34], [], []⟩), (17, ⟨[4, 5], [], []⟩)]) Try.f20 = some a20 := by kernel_rfl

/- payroll/payrollgen.Minutes -/
def a21r0 : List IOp := [⟨some 2, .mv, [.c (.int .i64 0)], none⟩]
def a21r1 : List IOp := [⟨some 3, .mv, [.c (.int .i64 0)], none⟩]
def a21r2 : List IOp := [⟨some 4, .mv, [.c (.int .i64 0)], none⟩]
def a21r3 : List IOp := [⟨some 5, .mv, [.t 4], none⟩,
  ⟨some 6, .mv, [.t 0], none⟩,
  ⟨some 7, .len, [.t 6], none⟩,
  ⟨some 8, .bin .lss, [.t 5, .t 7], none⟩]
def a21r4 : List IOp := [⟨some 11, .mv, [.t 0], none⟩,
  ⟨some 12, .mv, [.t 4], none⟩,
  ⟨some 13, .indexAddr 2, [.t 11, .t 12], none⟩,
  ⟨some 14, .loadA 2, [.t 13], none⟩,
  ⟨some 15, .call 42, [.t 14], none⟩]
def a21r5 : List (Nat × DOp) := [(0, ⟨⟨some 16, .mv, [.t 3], none⟩, none, [1, 2, 3, 4, 5, 6, 7, 8, 9, 10, 11]⟩),
  (1, ⟨⟨some 17, .mv, [.t 0], none⟩, none, [0, 2, 6, 7, 8, 9, 10]⟩),
  (2, ⟨⟨some 18, .mv, [.t 4], none⟩, none, [0, 1, 6, 7, 8, 9, 10]⟩),
  (3, ⟨⟨some 19, .indexAddr 2, [.t 17, .t 18], none⟩, none, [0, 6, 7, 8, 9, 10]⟩),
  (4, ⟨⟨some 20, .fieldAddr 1, [.t 19], none⟩, none, [0, 6, 7, 8, 9, 10]⟩),
  (5, ⟨⟨some 21, .load1, [.t 20], none⟩, none, [0, 6, 7, 8, 9, 10]⟩),
  (6, ⟨⟨some 22, .mv, [.t 0], none⟩, none, [0, 1, 2, 3, 4, 5, 7]⟩),
  (7, ⟨⟨some 23, .mv, [.t 4], none⟩, none, [0, 1, 2, 3, 4, 5, 6]⟩),
  (8, ⟨⟨some 24, .indexAddr 2, [.t 22, .t 23], none⟩, none, [0, 1, 2, 3, 4, 5]⟩),
  (9, ⟨⟨some 25, .fieldAddr 0, [.t 24], none⟩, none, [0, 1, 2, 3, 4, 5]⟩),
  (10, ⟨⟨some 26, .load1, [.t 25], none⟩, none, [0, 1, 2, 3, 4, 5]⟩),
  (11, ⟨⟨some 27, .bin .sub, [.t 21, .t 26], none⟩, none, [0]⟩),
  (12, ⟨⟨some 28, .bin .add, [.t 16, .t 27], none⟩, none, []⟩),
  (13, ⟨⟨some 3, .mv, [.t 28], none⟩, none, []⟩)]
def a21r6 : List IOp := [⟨some 9, .mv, [.t 4], none⟩,
  ⟨some 10, .bin .add, [.t 9, .c (.int .i64 1)], none⟩,
  ⟨some 4, .mv, [.t 10], none⟩]
def a21r7 : List IOp := [⟨some 29, .mv, [.t 3], none⟩,
  ⟨some 2, .mv, [.t 29], none⟩]
def a21 : AFunc := ⟨30, [.tmp 2], (.seq (.region a21r0 [0]) (.seq (.region a21r1 [0, 3]) (.seq (.seq (.region a21r2 [0, 3, 4]) (.block 0 (.loop (.seq (.seq (.region a21r3 [0, 3, 4, 8]) (.cond (.t 8) .skip (.exit 0))) (.seq (.block 1 (.seq (.region a21r4 [0, 3, 4, 15]) (.cond (.t 15) (.draw a21r5 [] [0, 3, 4]) .skip))) (.region a21r6 [0, 3, 4])))))) (.seq (.region a21r7 [2]) .ret))))⟩
theorem a21_ok : compileF Try.prog (lk [(0, ⟨[0], [], []⟩), (1, ⟨[0, 3], [], []⟩), (2, ⟨[0, 3, 4], [], []⟩), (3, ⟨[0, 3, 4, 8], [], []⟩), (4, ⟨[0, 3, 4], [], []⟩), (5, ⟨[0, 3, 4, 15], [], []⟩), (6, ⟨[0, 3, 4], [[], [], [], [1, 2], [3, 1, 2], [4, 3, 1, 2], [], [], [6, 7], [8, 6, 7], [9, 8, 6, 7], [5, 10, 4, 3, 1, 2, 9, 8, 6, 7], [0, 11, 5, 10, 4, 3, 1, 2, 9, 8, 6, 7], [12, 0, 1, 2, 3, 4, 5, 6, 7, 8, 9, 10, 11]], [0, 1, 2, 3, 4, 5, 6, 7, 8, 9, 10, 11, 12, 13]⟩), (7, ⟨[2], [], []⟩)]) Try.f21 = some a21 := by kernel_rfl

/- payroll/payrolllaw12.same -/
def a23r0 : List IOp := [⟨some 4, .mv, [.c (.bool false)], none⟩]
def a23r1 : List IOp := [⟨some 6, .mv, [.t 0], none⟩,
  ⟨some 7, .len, [.t 6], none⟩,
  ⟨some 8, .mv, [.t 1], none⟩,
  ⟨some 9, .len, [.t 8], none⟩,
  ⟨some 10, .bin .neq, [.t 7, .t 9], none⟩]
def a23r2 : List IOp := [⟨some 4, .mv, [.c (.bool false)], none⟩]
def a23r3 : List IOp := [⟨some 5, .mv, [.c (.int .i64 0)], none⟩]
def a23r4 : List IOp := [⟨some 11, .mv, [.t 5], none⟩,
  ⟨some 12, .mv, [.t 0], none⟩,
  ⟨some 13, .len, [.t 12], none⟩,
  ⟨some 14, .bin .lss, [.t 11, .t 13], none⟩]
def a23r5 : List (Nat × DOp) := [(0, ⟨⟨some 17, .mv, [.t 0], none⟩, none, [1, 4, 5, 6, 7]⟩),
  (1, ⟨⟨some 18, .mv, [.t 5], none⟩, none, [0, 4, 5, 6, 7]⟩),
  (2, ⟨⟨some 19, .indexAddr 4, [.t 17, .t 18], none⟩, none, [4, 5, 6, 7]⟩),
  (3, ⟨⟨some 20, .loadA 4, [.t 19], none⟩, none, [4, 5, 6, 7]⟩),
  (4, ⟨⟨some 21, .mv, [.t 1], none⟩, none, [0, 1, 2, 3, 5]⟩),
  (5, ⟨⟨some 22, .mv, [.t 5], none⟩, none, [0, 1, 2, 3, 4]⟩),
  (6, ⟨⟨some 23, .indexAddr 4, [.t 21, .t 22], none⟩, none, [0, 1, 2, 3]⟩),
  (7, ⟨⟨some 24, .loadA 4, [.t 23], none⟩, none, [0, 1, 2, 3]⟩),
  (8, ⟨⟨some 25, .eqA true [.int .i64, .int .i64, .int .i64, .str], [.t 20, .t 24], none⟩, none, []⟩)]
def a23r6 : List IOp := [⟨some 4, .mv, [.c (.bool false)], none⟩]
def a23r7 : List IOp := [⟨some 15, .mv, [.t 5], none⟩,
  ⟨some 16, .bin .add, [.t 15, .c (.int .i64 1)], none⟩,
  ⟨some 5, .mv, [.t 16], none⟩]
def a23r8 : List IOp := [⟨some 4, .mv, [.c (.bool true)], none⟩]
def a23 : AFunc := ⟨26, [.tmp 4], (.seq (.region a23r0 [0, 1]) (.seq (.seq (.region a23r1 [0, 1, 10]) (.cond (.t 10) (.seq (.region a23r2 [4]) .ret) .skip)) (.seq (.seq (.region a23r3 [0, 1, 5]) (.block 0 (.loop (.seq (.seq (.region a23r4 [0, 1, 5, 14]) (.cond (.t 14) .skip (.exit 0))) (.seq (.block 1 (.seq (.draw a23r5 [] [0, 1, 5, 25]) (.cond (.t 25) (.seq (.region a23r6 [4]) .ret) .skip))) (.region a23r7 [0, 1, 5])))))) (.seq (.region a23r8 [4]) .ret))))⟩
theorem a23_ok : compileF Try.prog (lk [(0, ⟨[0, 1], [], []⟩), (1, ⟨[0, 1, 10], [], []⟩), (2, ⟨[4], [], []⟩), (3, ⟨[0, 1, 5], [], []⟩), (4, ⟨[0, 1, 5, 14], [], []⟩), (5, ⟨[0, 1, 5], [], []⟩), (6, ⟨[0, 1, 5, 25], [[], [], [0, 1], [2, 0, 1], [], [], [4, 5], [6, 4, 5], [3, 7, 2, 0, 1, 6, 4, 5]], [0, 1, 2, 3, 4, 5, 6, 7, 8]⟩), (7, ⟨[4], [], []⟩), (8, ⟨[4], [], []⟩)]) Try.f23 = some a23 := by kernel_rfl

/- payroll/payrollref12.Monday -/
def a24r0 : List IOp := [⟨some 2, .mv, [.c (.int .i64 0)], none⟩]
def a24r1 : List IOp := [⟨some 3, .mv, [.t 0], none⟩,
  ⟨some 4, .mv, [.t 0], none⟩,
  ⟨some 5, .bin .add, [.t 4, .c (.int .i64 3)], none⟩,
  ⟨some 6, .bin .rem, [.t 5, .c (.int .i64 7)], none⟩,
  ⟨some 7, .bin .sub, [.t 3, .t 6], none⟩,
  ⟨some 2, .mv, [.t 7], none⟩]
def a24 : AFunc := ⟨8, [.tmp 2], (.seq (.region a24r0 [0]) (.seq (.region a24r1 [2]) .ret))⟩
theorem a24_ok : compileF Try.prog (lk [(0, ⟨[0], [], []⟩), (1, ⟨[2], [], []⟩)]) Try.f24 = some a24 := by kernel_rfl

/- payroll/payrolllaw12.named -/
def a25r0 : List IOp := [⟨some 4, .mv, [.c (.int .i64 0)], none⟩]
def a25r1 : List IOp := [⟨some 5, .mv, [.c (.int .i64 0)], none⟩]
def a25r2 : List IOp := [⟨some 6, .mv, [.t 5], none⟩,
  ⟨some 7, .mv, [.t 0], none⟩,
  ⟨some 8, .len, [.t 7], none⟩,
  ⟨some 9, .bin .lss, [.t 6, .t 8], none⟩]
def a25r3 : List IOp := [⟨some 12, .mv, [.t 0], none⟩,
  ⟨some 13, .mv, [.t 5], none⟩,
  ⟨some 14, .indexAddr 2, [.t 12, .t 13], none⟩,
  ⟨some 15, .fieldAddr 0, [.t 14], none⟩,
  ⟨some 16, .load1, [.t 15], none⟩,
  ⟨some 17, .mv, [.t 1], none⟩,
  ⟨some 18, .bin .eql, [.t 16, .t 17], none⟩]
def a25r4 : List IOp := [⟨some 19, .mv, [.t 0], none⟩,
  ⟨some 20, .mv, [.t 5], none⟩,
  ⟨some 21, .indexAddr 2, [.t 19, .t 20], none⟩,
  ⟨some 22, .fieldAddr 1, [.t 21], none⟩,
  ⟨some 23, .load1, [.t 22], none⟩,
  ⟨some 4, .mv, [.t 23], none⟩]
def a25r5 : List IOp := [⟨some 10, .mv, [.t 5], none⟩,
  ⟨some 11, .bin .add, [.t 10, .c (.int .i64 1)], none⟩,
  ⟨some 5, .mv, [.t 11], none⟩]
def a25r6 : List IOp := [⟨some 4, .mv, [.c (.int .i64 0)], none⟩]
def a25 : AFunc := ⟨24, [.tmp 4], (.seq (.region a25r0 [0, 1]) (.seq (.seq (.region a25r1 [0, 1, 5]) (.block 0 (.loop (.seq (.seq (.region a25r2 [0, 1, 5, 9]) (.cond (.t 9) .skip (.exit 0))) (.seq (.block 1 (.seq (.region a25r3 [0, 1, 5, 18]) (.cond (.t 18) (.seq (.region a25r4 [4]) .ret) .skip))) (.region a25r5 [0, 1, 5])))))) (.seq (.region a25r6 [4]) .ret)))⟩
theorem a25_ok : compileF Try.prog (lk [(0, ⟨[0, 1], [], []⟩), (1, ⟨[0, 1, 5], [], []⟩), (2, ⟨[0, 1, 5, 9], [], []⟩), (3, ⟨[0, 1, 5], [], []⟩), (4, ⟨[0, 1, 5, 18], [], []⟩), (5, ⟨[4], [], []⟩), (6, ⟨[4], [], []⟩)]) Try.f25 = some a25 := by kernel_rfl

/- payroll/overtime.validInterval -/
def a41r0 : List IOp := [⟨some 1, .box 48 2, [.t 0], none⟩,
  ⟨some 2, .mv, [.c (.bool false)], none⟩]
def a41r1 : List IOp := [⟨some 3, .fieldAddr 0, [.t 1], none⟩,
  ⟨some 4, .load1, [.t 3], none⟩,
  ⟨some 5, .bin .geq, [.t 4, .c (.int .i64 0)], none⟩,
  ⟨some 6, .mv, [.t 5], none⟩,
  ⟨some 7, .fieldAddr 1, [.t 1], some (6, true)⟩,
  ⟨some 8, .load1, [.t 7], some (6, true)⟩,
  ⟨some 9, .fieldAddr 0, [.t 1], some (6, true)⟩,
  ⟨some 10, .load1, [.t 9], some (6, true)⟩,
  ⟨some 11, .bin .gtr, [.t 8, .t 10], some (6, true)⟩,
  ⟨some 12, .pick, [.t 6, .t 11, .c (.bool false)], none⟩,
  ⟨some 13, .mv, [.t 12], none⟩,
  ⟨some 14, .fieldAddr 1, [.t 1], some (13, true)⟩,
  ⟨some 15, .load1, [.t 14], some (13, true)⟩,
  ⟨some 16, .bin .leq, [.t 15, .c (.int .i64 120968640)], some (13, true)⟩,
  ⟨some 17, .pick, [.t 13, .t 16, .c (.bool false)], none⟩,
  ⟨some 2, .mv, [.t 17], none⟩]
def a41 : AFunc := ⟨18, [.tmp 2], (.seq (.region a41r0 [1]) (.seq (.region a41r1 [2]) .ret))⟩
theorem a41_ok : compileF Try.prog (lk [(0, ⟨[1], [], []⟩), (1, ⟨[2], [], []⟩)]) Try.f41 = some a41 := by kernel_rfl

/- payroll/payrollref9.IsInterval -/
def a42r0 : List IOp := [⟨some 1, .box 48 2, [.t 0], none⟩,
  ⟨some 2, .mv, [.c (.bool false)], none⟩]
def a42r1 : List IOp := [⟨some 3, .fieldAddr 0, [.t 1], none⟩,
  ⟨some 4, .load1, [.t 3], none⟩,
  ⟨some 5, .bin .geq, [.t 4, .c (.int .i64 0)], none⟩,
  ⟨some 6, .mv, [.t 5], none⟩,
  ⟨some 7, .fieldAddr 0, [.t 1], some (6, true)⟩,
  ⟨some 8, .load1, [.t 7], some (6, true)⟩,
  ⟨some 9, .fieldAddr 1, [.t 1], some (6, true)⟩,
  ⟨some 10, .load1, [.t 9], some (6, true)⟩,
  ⟨some 11, .bin .lss, [.t 8, .t 10], some (6, true)⟩,
  ⟨some 12, .pick, [.t 6, .t 11, .c (.bool false)], none⟩,
  ⟨some 13, .mv, [.t 12], none⟩,
  ⟨some 14, .fieldAddr 1, [.t 1], some (13, true)⟩,
  ⟨some 15, .load1, [.t 14], some (13, true)⟩,
  ⟨some 16, .bin .leq, [.t 15, .c (.int .i64 120968640)], some (13, true)⟩,
  ⟨some 17, .pick, [.t 13, .t 16, .c (.bool false)], none⟩,
  ⟨some 2, .mv, [.t 17], none⟩]
def a42 : AFunc := ⟨18, [.tmp 2], (.seq (.region a42r0 [1]) (.seq (.region a42r1 [2]) .ret))⟩
theorem a42_ok : compileF Try.prog (lk [(0, ⟨[1], [], []⟩), (1, ⟨[2], [], []⟩)]) Try.f42 = some a42 := by kernel_rfl

/- payroll/payrolllaw12.day -/
def a43r0 : List IOp := [⟨some 6, .alloc 46 [.int .i64 0, .nils], [], none⟩]
def a43r1 : List IOp := [⟨some 7, .mv, [.t 0], none⟩,
  ⟨some 8, .mv, [.t 1], none⟩,
  ⟨some 9, .mv, [.t 1], none⟩,
  ⟨some 10, .mv, [.t 2], none⟩,
  ⟨some 11, .bin .add, [.t 9, .t 10], none⟩,
  ⟨some 12, .build [.int .i64 0, .int .i64 0] [(0, 1), (1, 1)], [.t 8, .t 11], none⟩,
  ⟨some 13, .bslice 48 2 [.int .i64 0, .int .i64 0] 1 [0], [.t 12], none⟩,
  ⟨some 14, .build [.int .i64 0, .nils] [(0, 1), (1, 1)], [.t 7, .t 13], none⟩,
  ⟨none, .store 2, [.t 6, .t 14], none⟩]
def a43 : AFunc := ⟨15, [.cellA 6 2], (.seq (.region a43r0 [0, 1, 2, 6]) (.seq (.region a43r1 [6]) .ret))⟩
theorem a43_ok : compileF Try.prog (lk [(0, ⟨[0, 1, 2, 6], [], []⟩), (1, ⟨[6], [], []⟩)]) Try.f43 = some a43 := by kernel_rfl

/- payroll/overtime.Valid -/
def a44r0 : List IOp := [⟨some 1, .box 36 3, [.t 0], none⟩,
  ⟨some 2, .mv, [.c (.int .i64 0)], none⟩]
def a44r1 : List IOp := [⟨some 3, .fieldAddr 1, [.t 1], none⟩,
  ⟨some 4, .load1, [.t 3], none⟩,
  ⟨some 5, .len, [.t 4], none⟩,
  ⟨some 6, .bin .gtr, [.t 5, .c (.int .i64 16)], none⟩,
  ⟨some 7, .mv, [.t 6], none⟩,
  ⟨some 8, .fieldAddr 2, [.t 1], some (7, false)⟩,
  ⟨some 9, .load1, [.t 8], some (7, false)⟩,
  ⟨some 10, .len, [.t 9], some (7, false)⟩,
  ⟨some 11, .bin .gtr, [.t 10, .c (.int .i64 16)], some (7, false)⟩,
  ⟨some 12, .pick, [.t 7, .c (.bool true), .t 11], none⟩]
def a44r2 : List IOp := [⟨some 2, .mv, [.c (.int .i64 3)], none⟩]
def a44r3 : List IOp := [⟨some 13, .fieldAddr 0, [.t 1], none⟩,
  ⟨some 14, .load1, [.t 13], none⟩,
  ⟨some 15, .call 64, [.t 14], none⟩,
  ⟨some 16, .not, [.t 15], none⟩,
  ⟨some 17, .mv, [.t 16], none⟩,
  ⟨some 18, .fieldAddr 1, [.t 1], some (17, false)⟩,
  ⟨some 19, .load1, [.t 18], some (17, false)⟩,
  ⟨some 20, .call 65, [.t 19], some (17, false)⟩,
  ⟨some 21, .not, [.t 20], some (17, false)⟩,
  ⟨some 22, .pick, [.t 17, .c (.bool true), .t 21], none⟩,
  ⟨some 23, .mv, [.t 22], none⟩,
  ⟨some 24, .fieldAddr 2, [.t 1], some (23, false)⟩,
  ⟨some 25, .load1, [.t 24], some (23, false)⟩,
  ⟨some 26, .call 65, [.t 25], some (23, false)⟩,
  ⟨some 27, .not, [.t 26], some (23, false)⟩,
  ⟨some 28, .pick, [.t 23, .c (.bool true), .t 27], none⟩]
def a44r4 : List IOp := [⟨some 2, .mv, [.c (.int .i64 1)], none⟩]
def a44r5 : List IOp := [⟨some 2, .mv, [.c (.int .i64 0)], none⟩]
def a44 : AFunc := ⟨29, [.tmp 2], (.seq (.region a44r0 [1]) (.seq (.seq (.region a44r1 [1, 12]) (.cond (.t 12) (.seq (.region a44r2 [2]) .ret) .skip)) (.seq (.seq (.region a44r3 [28]) (.cond (.t 28) (.seq (.region a44r4 [2]) .ret) .skip)) (.seq (.region a44r5 [2]) .ret))))⟩
theorem a44_ok : compileF Try.prog (lk [(0, ⟨[1], [], []⟩), (1, ⟨[1, 12], [], []⟩), (2, ⟨[2], [], []⟩), (3, ⟨[28], [], []⟩), (4, ⟨[2], [], []⟩), (5, ⟨[2], [], []⟩)]) Try.f44 = some a44 := by kernel_rfl

/- payroll/overtime.spans -/
def a45r0 : List IOp := [⟨some 2, .mv, [.c (.nils)], none⟩,
  ⟨some 3, .mv, [.c (.int .i64 0)], none⟩]
def a45r1 : List IOp := [⟨some 14, .mv, [.t 0], none⟩,
  ⟨some 15, .len, [.t 14], none⟩,
  ⟨some 16, .bin .gtr, [.t 15, .c (.int .i64 1024)], none⟩]
def a45r2 : List IOp := [⟨some 2, .mv, [.c (.nils)], none⟩,
  ⟨some 3, .mv, [.c (.int .i64 3)], none⟩]
def a45r3 : List IOp := [⟨some 17, .mv, [.t 0], none⟩,
  ⟨some 18, .len, [.t 17], none⟩,
  ⟨some 19, .mv, [.c (.int .i64 0)], none⟩]
def a45r4 : List IOp := [⟨some 20, .bin .lss, [.t 19, .t 18], none⟩]
def a45r5 : List IOp := [⟨some 21, .indexAddr 2, [.t 17, .t 19], none⟩,
  ⟨some 22, .loadA 2, [.t 21], none⟩,
  ⟨some 5, .alloc 46 [.int .i64 0, .nils], [], none⟩,
  ⟨none, .store 2, [.t 5, .t 22], none⟩]
def a45r6 : List IOp := [⟨some 23, .fieldAddr 1, [.t 5], none⟩,
  ⟨some 24, .load1, [.t 23], none⟩,
  ⟨some 25, .len, [.t 24], none⟩,
  ⟨some 26, .bin .gtr, [.t 25, .c (.int .i64 1024)], none⟩]
def a45r7 : List IOp := [⟨some 2, .mv, [.c (.nils)], none⟩,
  ⟨some 3, .mv, [.c (.int .i64 3)], none⟩]
def a45r8 : List IOp := [⟨some 27, .bin .add, [.t 19, .c (.int .i64 1)], none⟩,
  ⟨some 19, .mv, [.t 27], none⟩]
def a45r9 : List IOp := [⟨some 6, .mv, [.c (.nils)], none⟩]
def a45r10 : List IOp := [⟨some 28, .mv, [.t 0], none⟩,
  ⟨some 29, .len, [.t 28], none⟩,
  ⟨some 30, .mv, [.c (.int .i64 0)], none⟩]
def a45r11 : List IOp := [⟨some 31, .bin .lss, [.t 30, .t 29], none⟩]
def a45r12 : List IOp := [⟨some 32, .indexAddr 2, [.t 28, .t 30], none⟩,
  ⟨some 33, .loadA 2, [.t 32], none⟩,
  ⟨some 8, .alloc 46 [.int .i64 0, .nils], [], none⟩,
  ⟨none, .store 2, [.t 8, .t 33], none⟩]
def a45r13 : List IOp := [⟨some 34, .fieldAddr 0, [.t 8], none⟩,
  ⟨some 35, .load1, [.t 34], none⟩,
  ⟨some 36, .bin .lss, [.t 35, .c (.int .i64 0)], none⟩,
  ⟨some 37, .mv, [.t 36], none⟩,
  ⟨some 38, .fieldAddr 0, [.t 8], some (37, false)⟩,
  ⟨some 39, .load1, [.t 38], some (37, false)⟩,
  ⟨some 40, .bin .gtr, [.t 39, .c (.int .i64 84005)], some (37, false)⟩,
  ⟨some 41, .pick, [.t 37, .c (.bool true), .t 40], none⟩]
def a45r14 : List IOp := [⟨some 2, .mv, [.c (.nils)], none⟩,
  ⟨some 3, .mv, [.c (.int .i64 1)], none⟩]
def a45r15 : List IOp := [⟨some 42, .fieldAddr 1, [.t 8], none⟩,
  ⟨some 43, .load1, [.t 42], none⟩,
  ⟨some 44, .len, [.t 43], none⟩,
  ⟨some 45, .mv, [.c (.int .i64 0)], none⟩]
def a45r16 : List IOp := [⟨some 46, .bin .lss, [.t 45, .t 44], none⟩]
def a45r17 : List IOp := [⟨some 47, .indexAddr 2, [.t 43, .t 45], none⟩,
  ⟨some 48, .loadA 2, [.t 47], none⟩,
  ⟨some 10, .alloc 48 [.int .i64 0, .int .i64 0], [], none⟩,
  ⟨none, .store 2, [.t 10, .t 48], none⟩]
def a45r18 : List IOp := [⟨some 49, .loadA 2, [.t 10], none⟩,
  ⟨some 50, .call 41, [.t 49], none⟩,
  ⟨some 51, .not, [.t 50], none⟩]
def a45r19 : List IOp := [⟨some 2, .mv, [.c (.nils)], none⟩,
  ⟨some 3, .mv, [.c (.int .i64 1)], none⟩]
def a45r20 : List IOp := [⟨some 52, .mv, [.t 6], none⟩,
  ⟨some 53, .fieldAddr 0, [.t 8], none⟩,
  ⟨some 54, .load1, [.t 53], none⟩,
  ⟨some 55, .loadA 2, [.t 10], none⟩,
  ⟨some 56, .build [.int .i64 0, .int .i64 0, .int .i64 0] [(0, 1), (1, 2)], [.t 54, .t 55], none⟩,
  ⟨some 57, .bslice 96 3 [.int .i64 0, .int .i64 0, .int .i64 0] 1 [0], [.t 56], none⟩,
  ⟨some 58, .append 96 3 24, [.t 52, .t 57], none⟩,
  ⟨some 6, .mv, [.t 58], none⟩]
def a45r21 : List IOp := [⟨some 59, .bin .add, [.t 45, .c (.int .i64 1)], none⟩,
  ⟨some 45, .mv, [.t 59], none⟩]
def a45r22 : List IOp := [⟨some 60, .bin .add, [.t 30, .c (.int .i64 1)], none⟩,
  ⟨some 30, .mv, [.t 60], none⟩]
def a45r23 : List IOp := [⟨some 61, .mv, [.t 6], none⟩,
  ⟨some 62, .call 66, [.t 61, .c (.fn 67 [])], none⟩]
def a45r24 : List IOp := [⟨some 11, .mv, [.c (.int .i64 0)], none⟩]
def a45r25 : List IOp := [⟨some 63, .mv, [.t 6], none⟩,
  ⟨some 64, .len, [.t 63], none⟩,
  ⟨some 65, .mv, [.c (.int .i64 0)], none⟩]
def a45r26 : List IOp := [⟨some 66, .bin .lss, [.t 65, .t 64], none⟩]
def a45r27 : List IOp := [⟨some 67, .mv, [.t 65], none⟩,
  ⟨some 68, .indexAddr 3, [.t 63, .t 65], none⟩,
  ⟨some 69, .loadA 3, [.t 68], none⟩,
  ⟨some 13, .alloc 96 [.int .i64 0, .int .i64 0, .int .i64 0], [], none⟩,
  ⟨some 12, .mv, [.t 67], none⟩,
  ⟨none, .store 3, [.t 13, .t 69], none⟩]
def a45r28 : List (Nat × DOp) := [(0, ⟨⟨some 70, .mv, [.t 12], none⟩, none, []⟩),
  (1, ⟨⟨some 71, .bin .gtr, [.t 70, .c (.int .i64 0)], none⟩, none, []⟩),
  (2, ⟨⟨some 72, .mv, [.t 71], none⟩, none, []⟩),
  (3, ⟨⟨some 73, .fieldAddr 1, [.t 13], some (72, true)⟩, none, [6, 7, 8, 9, 10, 11, 12]⟩),
  (4, ⟨⟨some 74, .fieldAddr 0, [.t 73], some (72, true)⟩, none, [6, 7, 8, 9, 10, 11, 12]⟩),
  (5, ⟨⟨some 75, .load1, [.t 74], some (72, true)⟩, none, [6, 7, 8, 9, 10, 11, 12]⟩),
  (6, ⟨⟨some 76, .mv, [.t 6], some (72, true)⟩, none, [3, 4, 5, 7, 8]⟩),
  (7, ⟨⟨some 77, .mv, [.t 12], some (72, true)⟩, none, [3, 4, 5, 6]⟩),
  (8, ⟨⟨some 78, .bin .sub, [.t 77, .c (.int .i64 1)], some (72, true)⟩, none, [3, 4, 5, 6]⟩),
  (9, ⟨⟨some 79, .indexAddr 3, [.t 76, .t 78], some (72, true)⟩, none, [3, 4, 5]⟩),
  (10, ⟨⟨some 80, .fieldAddr 1, [.t 79], some (72, true)⟩, none, [3, 4, 5]⟩),
  (11, ⟨⟨some 81, .fieldAddr 1, [.t 80], some (72, true)⟩, none, [3, 4, 5]⟩),
  (12, ⟨⟨some 82, .load1, [.t 81], some (72, true)⟩, none, [3, 4, 5]⟩),
  (13, ⟨⟨some 83, .bin .lss, [.t 75, .t 82], some (72, true)⟩, none, []⟩),
  (14, ⟨⟨some 84, .pick, [.t 72, .t 83, .c (.bool false)], none⟩, none, []⟩)]
def a45r29 : List IOp := [⟨some 2, .mv, [.c (.nils)], none⟩,
  ⟨some 3, .mv, [.c (.int .i64 1)], none⟩]
def a45r30 : List IOp := [⟨some 85, .mv, [.t 11], none⟩,
  ⟨some 86, .fieldAddr 1, [.t 13], none⟩,
  ⟨some 87, .fieldAddr 1, [.t 86], none⟩,
  ⟨some 88, .load1, [.t 87], none⟩,
  ⟨some 89, .fieldAddr 1, [.t 13], none⟩,
  ⟨some 90, .fieldAddr 0, [.t 89], none⟩,
  ⟨some 91, .load1, [.t 90], none⟩,
  ⟨some 92, .bin .sub, [.t 88, .t 91], none⟩,
  ⟨some 93, .bin .add, [.t 85, .t 92], none⟩,
  ⟨some 11, .mv, [.t 93], none⟩]
def a45r31 : List IOp := [⟨some 94, .bin .add, [.t 65, .c (.int .i64 1)], none⟩,
  ⟨some 65, .mv, [.t 94], none⟩]
def a45r32 : List IOp := [⟨some 95, .mv, [.t 11], none⟩,
  ⟨some 96, .bin .gtr, [.t 95, .c (.int .i64 100000)], none⟩]
def a45r33 : List IOp := [⟨some 2, .mv, [.c (.nils)], none⟩,
  ⟨some 3, .mv, [.c (.int .i64 3)], none⟩]
def a45r34 : List IOp := [⟨some 97, .mv, [.t 6], none⟩,
  ⟨some 2, .mv, [.t 97], none⟩,
  ⟨some 3, .mv, [.c (.int .i64 0)], none⟩]
def a45 : AFunc := ⟨98, [.tmp 2, .tmp 3], (.seq (.region a45r0 [0]) (.seq (.seq (.region a45r1 [0, 16]) (.cond (.t 16) (.seq (.region a45r2 [2, 3]) .ret) .skip)) (.seq (.seq (.region a45r3 [0, 17, 18, 19]) (.block 0 (.loop (.seq (.region a45r4 [0, 17, 18, 19, 20]) (.seq (.cond (.t 20) .skip (.exit 0)) (.seq (.block 1 (.seq (.region a45r5 [0, 5, 17, 18, 19]) (.seq (.region a45r6 [0, 17, 18, 19, 26]) (.cond (.t 26) (.seq (.region a45r7 [2, 3]) .ret) .skip)))) (.region a45r8 [0, 17, 18, 19]))))))) (.seq (.region a45r9 [0, 6]) (.seq (.seq (.region a45r10 [6, 28, 29, 30]) (.block 2 (.loop (.seq (.region a45r11 [6, 28, 29, 30, 31]) (.seq (.cond (.t 31) .skip (.exit 2)) (.seq (.block 3 (.seq (.region a45r12 [6, 8, 28, 29, 30]) (.seq (.seq (.region a45r13 [6, 8, 28, 29, 30, 41]) (.cond (.t 41) (.seq (.region a45r14 [2, 3]) .ret) .skip)) (.seq (.region a45r15 [6, 8, 28, 29, 30, 43, 44, 45]) (.block 4 (.loop (.seq (.region a45r16 [6, 8, 28, 29, 30, 43, 44, 45, 46]) (.seq (.cond (.t 46) .skip (.exit 4)) (.seq (.block 5 (.seq (.region a45r17 [6, 8, 10, 28, 29, 30, 43, 44, 45]) (.seq (.seq (.region a45r18 [6, 8, 10, 28, 29, 30, 43, 44, 45, 51]) (.cond (.t 51) (.seq (.region a45r19 [2, 3]) .ret) .skip)) (.region a45r20 [6, 8, 28, 29, 30, 43, 44, 45])))) (.region a45r21 [6, 8, 28, 29, 30, 43, 44, 45])))))))))) (.region a45r22 [6, 28, 29, 30]))))))) (.seq (.region a45r23 [6]) (.seq (.region a45r24 [6, 11]) (.seq (.seq (.region a45r25 [6, 11, 63, 64, 65]) (.block 6 (.loop (.seq (.region a45r26 [6, 11, 63, 64, 65, 66]) (.seq (.cond (.t 66) .skip (.exit 6)) (.seq (.block 7 (.seq (.region a45r27 [6, 11, 12, 13, 63, 64, 65]) (.seq (.seq (.draw a45r28 [] [6, 11, 13, 63, 64, 65, 84]) (.cond (.t 84) (.seq (.region a45r29 [2, 3]) .ret) .skip)) (.region a45r30 [6, 11, 63, 64, 65])))) (.region a45r31 [6, 11, 63, 64, 65]))))))) (.seq (.seq (.region a45r32 [6, 96]) (.cond (.t 96) (.seq (.region a45r33 [2, 3]) .ret) .skip)) (.seq (.region a45r34 [2, 3]) .ret))))))))))⟩
theorem a45_ok : compileF Try.prog (lk [(0, ⟨[0], [], []⟩), (1, ⟨[0, 16], [], []⟩), (2, ⟨[2, 3], [], []⟩), (3, ⟨[0, 17, 18, 19], [], []⟩), (4, ⟨[0, 17, 18, 19, 20], [], []⟩), (5, ⟨[0, 5, 17, 18, 19], [], []⟩), (6, ⟨[0, 17, 18, 19, 26], [], []⟩), (7, ⟨[2, 3], [], []⟩), (8, ⟨[0, 17, 18, 19], [], []⟩), (9, ⟨[0, 6], [], []⟩), (10, ⟨[6, 28, 29, 30], [], []⟩), (11, ⟨[6, 28, 29, 30, 31], [], []⟩), (12, ⟨[6, 8, 28, 29, 30], [], []⟩), (13, ⟨[6, 8, 28, 29, 30, 41], [], []⟩), (14, ⟨[2, 3], [], []⟩), (15, ⟨[6, 8, 28, 29, 30, 43, 44, 45], [], []⟩), (16, ⟨[6, 8, 28, 29, 30, 43, 44, 45, 46], [], []⟩), (17, ⟨[6, 8, 10, 28, 29, 30, 43, 44, 45], [], []⟩), (18, ⟨[6, 8, 10, 28, 29, 30, 43, 44, 45, 51], [], []⟩), (19, ⟨[2, 3], [], []⟩), (20, ⟨[6, 8, 28, 29, 30, 43, 44, 45], [], []⟩), (21, ⟨[6, 8, 28, 29, 30, 43, 44, 45], [], []⟩), (22, ⟨[6, 28, 29, 30], [], []⟩), (23, ⟨[6], [], []⟩), (24, ⟨[6, 11], [], []⟩), (25, ⟨[6, 11, 63, 64, 65], [], []⟩), (26, ⟨[6, 11, 63, 64, 65, 66], [], []⟩), (27, ⟨[6, 11, 12, 13, 63, 64, 65], [], []⟩), (28, ⟨[6, 11, 13, 63, 64, 65, 84], [[], [0], [1, 0], [2, 1, 0], [3, 2, 1, 0], [4, 2, 3, 1, 0], [2, 1, 0], [2, 1, 0], [7, 2, 1, 0], [6, 8, 2, 1, 0, 7], [9, 2, 6, 8, 1, 0, 7], [10, 2, 9, 6, 8, 1, 0, 7], [11, 2, 10, 9, 6, 8, 1, 0, 7], [5, 12, 2, 4, 3, 1, 0, 11, 10, 9, 6, 8, 7], [2, 13, 1, 0, 5, 12, 4, 3, 11, 10, 9, 6, 8, 7]], [0, 1, 2, 3, 4, 5, 6, 7, 8, 9, 10, 11, 12, 13, 14]⟩), (29, ⟨[2, 3], [], []⟩), (30, ⟨[6, 11, 63, 64, 65], [], []⟩), (31, ⟨[6, 11, 63, 64, 65], [], []⟩), (32, ⟨[6, 96], [], []⟩), (33, ⟨[2, 3], [], []⟩), (34, ⟨[2, 3], [], []⟩)]) Try.f45 = some a45 := by kernel_rfl

/- (*payroll/overtime.division).next -/
def a46r0 : List IOp := [⟨some 6, .mv, [.c (.str ⟨#[]⟩)], none⟩,
  ⟨some 7, .mv, [.c (.int .i64 0)], none⟩]
def a46r1 : List (Nat × DOp) := [(0, ⟨⟨some 13, .mv, [.t 0], none⟩, none, [5, 6, 7, 8, 9, 10]⟩),
  (1, ⟨⟨some 14, .nilchk, [.t 13], none⟩, none, [5, 6, 7, 8, 9, 10]⟩),
  (2, ⟨⟨some 15, .fieldAddr 0, [.t 14], none⟩, none, [5, 6, 7, 8, 9, 10]⟩),
  (3, ⟨⟨some 16, .fieldAddr 1, [.t 15], none⟩, none, [5, 6, 7, 8, 9, 10]⟩),
  (4, ⟨⟨some 17, .load1, [.t 16], none⟩, none, [5, 6, 7, 8, 9, 10]⟩),
  (5, ⟨⟨some 18, .mv, [.t 0], none⟩, none, [0, 1, 2, 3, 4, 9]⟩),
  (6, ⟨⟨some 19, .nilchk, [.t 18], none⟩, none, [0, 1, 2, 3, 4, 9]⟩),
  (7, ⟨⟨some 20, .fieldAddr 3, [.t 19], none⟩, none, [0, 1, 2, 3, 4, 9]⟩),
  (8, ⟨⟨some 21, .load1, [.t 20], none⟩, none, [0, 1, 2, 3, 4, 9]⟩),
  (9, ⟨⟨some 22, .mv, [.t 1], none⟩, none, [0, 1, 2, 3, 4, 5, 6, 7, 8]⟩),
  (10, ⟨⟨some 23, .look false false [.int .i64] (.int .i64 0), [.t 21, .t 22], none⟩, none, [0, 1, 2, 3, 4]⟩),
  (11, ⟨⟨some 24, .call 68, [.t 17, .t 23], none⟩, none, []⟩),
  (12, ⟨⟨some 12, .mv, [.t 24], none⟩, none, []⟩),
  (13, ⟨⟨some 25, .extract 0, [.t 12], none⟩, none, [14]⟩),
  (14, ⟨⟨some 26, .extract 1, [.t 12], none⟩, none, [13, 15]⟩),
  (15, ⟨⟨some 8, .mv, [.t 25], none⟩, none, [14]⟩),
  (16, ⟨⟨some 9, .mv, [.t 26], none⟩, none, []⟩)]
def a46r2 : List IOp := [⟨some 27, .mv, [.t 9], none⟩,
  ⟨some 28, .mv, [.t 2], none⟩,
  ⟨some 29, .minmax false, [.t 27, .t 28], none⟩,
  ⟨some 9, .mv, [.t 29], none⟩]
def a46r3 : List IOp := [⟨some 30, .mv, [.t 8], none⟩,
  ⟨some 31, .bin .geq, [.t 30, .c (.int .i64 0)], none⟩]
def a46r4 : List IOp := [⟨some 32, .mv, [.t 0], none⟩,
  ⟨some 33, .nilchk, [.t 32], none⟩,
  ⟨some 34, .fieldAddr 3, [.t 33], none⟩,
  ⟨some 35, .load1, [.t 34], none⟩,
  ⟨some 36, .mv, [.t 1], none⟩,
  ⟨some 37, .look false false [.int .i64] (.int .i64 0), [.t 35, .t 36], none⟩,
  ⟨some 38, .mv, [.t 9], none⟩,
  ⟨some 39, .bin .add, [.t 37, .t 38], none⟩,
  ⟨none, .mset false [.int .i64], [.t 35, .t 36, .t 39], none⟩]
def a46r5 : List IOp := [⟨some 40, .mv, [.t 0], none⟩,
  ⟨some 41, .nilchk, [.t 40], none⟩,
  ⟨some 42, .fieldAddr 0, [.t 41], none⟩,
  ⟨some 43, .fieldAddr 1, [.t 42], none⟩,
  ⟨some 44, .load1, [.t 43], none⟩,
  ⟨some 45, .mv, [.t 8], none⟩,
  ⟨some 46, .indexAddr 2, [.t 44, .t 45], none⟩,
  ⟨some 47, .fieldAddr 0, [.t 46], none⟩,
  ⟨some 48, .load1, [.t 47], none⟩,
  ⟨some 49, .mv, [.t 9], none⟩,
  ⟨some 6, .mv, [.t 48], none⟩,
  ⟨some 7, .mv, [.t 49], none⟩]
def a46r6 : List IOp := [⟨some 50, .mv, [.t 1], none⟩,
  ⟨some 51, .mv, [.t 1], none⟩,
  ⟨some 52, .bin .add, [.t 51, .c (.int .i64 3)], none⟩,
  ⟨some 53, .bin .rem, [.t 52, .c (.int .i64 7)], none⟩,
  ⟨some 54, .bin .sub, [.t 50, .t 53], none⟩,
  ⟨some 10, .mv, [.t 54], none⟩]
def a46r7 : List (Nat × DOp) := [(0, ⟨⟨some 56, .mv, [.t 0], none⟩, none, [5, 6, 7, 8, 9, 10]⟩),
  (1, ⟨⟨some 57, .nilchk, [.t 56], none⟩, none, [5, 6, 7, 8, 9, 10]⟩),
  (2, ⟨⟨some 58, .fieldAddr 0, [.t 57], none⟩, none, [5, 6, 7, 8, 9, 10]⟩),
  (3, ⟨⟨some 59, .fieldAddr 2, [.t 58], none⟩, none, [5, 6, 7, 8, 9, 10]⟩),
  (4, ⟨⟨some 60, .load1, [.t 59], none⟩, none, [5, 6, 7, 8, 9, 10]⟩),
  (5, ⟨⟨some 61, .mv, [.t 0], none⟩, none, [0, 1, 2, 3, 4, 9]⟩),
  (6, ⟨⟨some 62, .nilchk, [.t 61], none⟩, none, [0, 1, 2, 3, 4, 9]⟩),
  (7, ⟨⟨some 63, .fieldAddr 4, [.t 62], none⟩, none, [0, 1, 2, 3, 4, 9]⟩),
  (8, ⟨⟨some 64, .load1, [.t 63], none⟩, none, [0, 1, 2, 3, 4, 9]⟩),
  (9, ⟨⟨some 65, .mv, [.t 10], none⟩, none, [0, 1, 2, 3, 4, 5, 6, 7, 8]⟩),
  (10, ⟨⟨some 66, .look false false [.int .i64] (.int .i64 0), [.t 64, .t 65], none⟩, none, [0, 1, 2, 3, 4]⟩),
  (11, ⟨⟨some 67, .call 68, [.t 60, .t 66], none⟩, none, []⟩),
  (12, ⟨⟨some 55, .mv, [.t 67], none⟩, none, []⟩),
  (13, ⟨⟨some 68, .extract 0, [.t 55], none⟩, none, [14]⟩),
  (14, ⟨⟨some 69, .extract 1, [.t 55], none⟩, none, [13, 15]⟩),
  (15, ⟨⟨some 8, .mv, [.t 68], none⟩, none, [14]⟩),
  (16, ⟨⟨some 11, .mv, [.t 69], none⟩, none, []⟩)]
def a46r8 : List IOp := [⟨some 70, .mv, [.t 9], none⟩,
  ⟨some 71, .mv, [.t 11], none⟩,
  ⟨some 72, .minmax false, [.t 70, .t 71], none⟩,
  ⟨some 9, .mv, [.t 72], none⟩]
def a46r9 : List IOp := [⟨some 73, .mv, [.t 0], none⟩,
  ⟨some 74, .nilchk, [.t 73], none⟩,
  ⟨some 75, .fieldAddr 3, [.t 74], none⟩,
  ⟨some 76, .load1, [.t 75], none⟩,
  ⟨some 77, .mv, [.t 1], none⟩,
  ⟨some 78, .look false false [.int .i64] (.int .i64 0), [.t 76, .t 77], none⟩,
  ⟨some 79, .mv, [.t 9], none⟩,
  ⟨some 80, .bin .add, [.t 78, .t 79], none⟩,
  ⟨none, .mset false [.int .i64], [.t 76, .t 77, .t 80], none⟩]
def a46r10 : List IOp := [⟨some 81, .mv, [.t 0], none⟩,
  ⟨some 82, .nilchk, [.t 81], none⟩,
  ⟨some 83, .fieldAddr 4, [.t 82], none⟩,
  ⟨some 84, .load1, [.t 83], none⟩,
  ⟨some 85, .mv, [.t 10], none⟩,
  ⟨some 86, .look false false [.int .i64] (.int .i64 0), [.t 84, .t 85], none⟩,
  ⟨some 87, .mv, [.t 9], none⟩,
  ⟨some 88, .bin .add, [.t 86, .t 87], none⟩,
  ⟨none, .mset false [.int .i64], [.t 84, .t 85, .t 88], none⟩]
def a46r11 : List IOp := [⟨some 89, .mv, [.t 8], none⟩,
  ⟨some 90, .bin .geq, [.t 89, .c (.int .i64 0)], none⟩]
def a46r12 : List IOp := [⟨some 91, .mv, [.t 0], none⟩,
  ⟨some 92, .nilchk, [.t 91], none⟩,
  ⟨some 93, .fieldAddr 0, [.t 92], none⟩,
  ⟨some 94, .fieldAddr 2, [.t 93], none⟩,
  ⟨some 95, .load1, [.t 94], none⟩,
  ⟨some 96, .mv, [.t 8], none⟩,
  ⟨some 97, .indexAddr 2, [.t 95, .t 96], none⟩,
  ⟨some 98, .fieldAddr 0, [.t 97], none⟩,
  ⟨some 99, .load1, [.t 98], none⟩,
  ⟨some 100, .mv, [.t 9], none⟩,
  ⟨some 6, .mv, [.t 99], none⟩,
  ⟨some 7, .mv, [.t 100], none⟩]
def a46r13 : List IOp := [⟨some 101, .mv, [.t 0], none⟩,
  ⟨some 102, .nilchk, [.t 101], none⟩,
  ⟨some 103, .fieldAddr 0, [.t 102], none⟩,
  ⟨some 104, .fieldAddr 0, [.t 103], none⟩,
  ⟨some 105, .load1, [.t 104], none⟩,
  ⟨some 106, .mv, [.t 9], none⟩,
  ⟨some 6, .mv, [.t 105], none⟩,
  ⟨some 7, .mv, [.t 106], none⟩]
def a46 : AFunc := ⟨107, [.tmp 6, .tmp 7], (.seq (.region a46r0 [0, 1, 2]) (.seq (.draw a46r1 [] [0, 1, 2, 8, 9]) (.seq (.region a46r2 [0, 1, 8, 9]) (.seq (.seq (.region a46r3 [0, 1, 8, 9, 31]) (.cond (.t 31) (.seq (.region a46r4 [0, 8, 9]) (.seq (.region a46r5 [6, 7]) .ret)) .skip)) (.seq (.region a46r6 [0, 1, 9, 10]) (.seq (.draw a46r7 [] [0, 1, 8, 9, 10, 11]) (.seq (.region a46r8 [0, 1, 8, 9, 10]) (.seq (.region a46r9 [0, 8, 9, 10]) (.seq (.region a46r10 [0, 8, 9]) (.seq (.seq (.region a46r11 [0, 8, 9, 90]) (.cond (.t 90) (.seq (.region a46r12 [6, 7]) .ret) .skip)) (.seq (.region a46r13 [6, 7]) .ret)))))))))))⟩
theorem a46_ok : compileF Try.prog (lk [(0, ⟨[0, 1, 2], [], []⟩), (1, ⟨[0, 1, 2, 8, 9], [[], [0], [1, 0], [2, 1, 0], [3, 2, 1, 0], [], [5], [6, 5], [7, 6, 5], [], [8, 9, 7, 6, 5], [4, 10, 3, 2, 1, 0, 8, 9, 7, 6, 5], [11, 4, 10, 3, 2, 1, 0, 8, 9, 7, 6, 5], [12, 11, 4, 10, 3, 2, 1, 0, 8, 9, 7, 6, 5], [12, 11, 4, 10, 3, 2, 1, 0, 8, 9, 7, 6, 5], [13, 11, 0, 1, 2, 3, 4, 5, 6, 7, 8, 9, 10, 12], [14, 15, 0, 1, 2, 3, 4, 5, 6, 7, 8, 9, 10, 11, 12, 13]], [0, 1, 2, 3, 4, 5, 6, 7, 8, 9, 10, 11, 12, 13, 14, 15, 16]⟩), (2, ⟨[0, 1, 8, 9], [], []⟩), (3, ⟨[0, 1, 8, 9, 31], [], []⟩), (4, ⟨[0, 8, 9], [], []⟩), (5, ⟨[6, 7], [], []⟩), (6, ⟨[0, 1, 9, 10], [], []⟩), (7, ⟨[0, 1, 8, 9, 10, 11], [[], [0], [1, 0], [2, 1, 0], [3, 2, 1, 0], [], [5], [6, 5], [7, 6, 5], [], [8, 9, 7, 6, 5], [4, 10, 3, 2, 1, 0, 8, 9, 7, 6, 5], [11, 4, 10, 3, 2, 1, 0, 8, 9, 7, 6, 5], [12, 11, 4, 10, 3, 2, 1, 0, 8, 9, 7, 6, 5], [12, 11, 4, 10, 3, 2, 1, 0, 8, 9, 7, 6, 5], [13, 11, 0, 1, 2, 3, 4, 5, 6, 7, 8, 9, 10, 12], [14, 15, 0, 1, 2, 3, 4, 5, 6, 7, 8, 9, 10, 11, 12, 13]], [0, 1, 2, 3, 4, 5, 6, 7, 8, 9, 10, 11, 12, 13, 14, 15, 16]⟩), (8, ⟨[0, 1, 8, 9, 10], [], []⟩), (9, ⟨[0, 8, 9, 10], [], []⟩), (10, ⟨[0, 8, 9], [], []⟩), (11, ⟨[0, 8, 9, 90], [], []⟩), (12, ⟨[6, 7], [], []⟩), (13, ⟨[6, 7], [], []⟩)]) Try.f46 = some a46 := by kernel_rfl

/- (*payroll/overtime.division).add -/
def a47r0 : List IOp := [⟨some 3, .box 50 4, [.t 1], none⟩]
def a47r1 : List IOp := [⟨some 6, .mv, [.t 0], none⟩,
  ⟨some 7, .nilchk, [.t 6], none⟩,
  ⟨some 8, .fieldAddr 5, [.t 7], none⟩,
  ⟨some 9, .load1, [.t 8], none⟩,
  ⟨some 10, .len, [.t 9], none⟩,
  ⟨some 4, .mv, [.t 10], none⟩]
def a47r2 : List IOp := [⟨some 11, .mv, [.t 4], none⟩,
  ⟨some 12, .bin .gtr, [.t 11, .c (.int .i64 0)], none⟩]
def a47r3 : List IOp := [⟨some 13, .mv, [.t 0], none⟩,
  ⟨some 14, .nilchk, [.t 13], none⟩,
  ⟨some 15, .fieldAddr 5, [.t 14], none⟩,
  ⟨some 16, .load1, [.t 15], none⟩,
  ⟨some 17, .mv, [.t 4], none⟩,
  ⟨some 18, .bin .sub, [.t 17, .c (.int .i64 1)], none⟩,
  ⟨some 19, .indexAddr 4, [.t 16, .t 18], none⟩,
  ⟨some 5, .mv, [.t 19], none⟩]
def a47r4 : List (Nat × DOp) := [(0, ⟨⟨some 20, .mv, [.t 5], none⟩, none, [4, 5]⟩),
  (1, ⟨⟨some 21, .nilchk, [.t 20], none⟩, none, [4, 5]⟩),
  (2, ⟨⟨some 22, .fieldAddr 0, [.t 21], none⟩, none, [4, 5]⟩),
  (3, ⟨⟨some 23, .load1, [.t 22], none⟩, none, [4, 5]⟩),
  (4, ⟨⟨some 24, .fieldAddr 0, [.t 3], none⟩, none, [0, 1, 2, 3]⟩),
  (5, ⟨⟨some 25, .load1, [.t 24], none⟩, none, [0, 1, 2, 3]⟩),
  (6, ⟨⟨some 26, .bin .eql, [.t 23, .t 25], none⟩, none, []⟩),
  (7, ⟨⟨some 27, .mv, [.t 26], none⟩, none, []⟩),
  (8, ⟨⟨some 28, .mv, [.t 5], some (27, true)⟩, none, [12, 13]⟩),
  (9, ⟨⟨some 29, .nilchk, [.t 28], some (27, true)⟩, none, [12, 13]⟩),
  (10, ⟨⟨some 30, .fieldAddr 3, [.t 29], some (27, true)⟩, none, [12, 13]⟩),
  (11, ⟨⟨some 31, .load1, [.t 30], some (27, true)⟩, none, [12, 13]⟩),
  (12, ⟨⟨some 32, .fieldAddr 3, [.t 3], some (27, true)⟩, none, [8, 9, 10, 11]⟩),
  (13, ⟨⟨some 33, .load1, [.t 32], some (27, true)⟩, none, [8, 9, 10, 11]⟩),
  (14, ⟨⟨some 34, .bin .eql, [.t 31, .t 33], some (27, true)⟩, none, []⟩),
  (15, ⟨⟨some 35, .pick, [.t 27, .t 34, .c (.bool false)], none⟩, none, []⟩),
  (16, ⟨⟨some 36, .mv, [.t 35], none⟩, none, []⟩),
  (17, ⟨⟨some 37, .mv, [.t 5], some (36, true)⟩, none, [22, 23, 24]⟩),
  (18, ⟨⟨some 38, .nilchk, [.t 37], some (36, true)⟩, none, [22, 23, 24]⟩),
  (19, ⟨⟨some 39, .fieldAddr 1, [.t 38], some (36, true)⟩, none, [22, 23, 24]⟩),
  (20, ⟨⟨some 40, .fieldAddr 1, [.t 39], some (36, true)⟩, none, [22, 23, 24]⟩),
  (21, ⟨⟨some 41, .load1, [.t 40], some (36, true)⟩, none, [22, 23, 24]⟩),
  (22, ⟨⟨some 42, .fieldAddr 1, [.t 3], some (36, true)⟩, none, [17, 18, 19, 20, 21]⟩),
  (23, ⟨⟨some 43, .fieldAddr 0, [.t 42], some (36, true)⟩, none, [17, 18, 19, 20, 21]⟩),
  (24, ⟨⟨some 44, .load1, [.t 43], some (36, true)⟩, none, [17, 18, 19, 20, 21]⟩),
  (25, ⟨⟨some 45, .bin .eql, [.t 41, .t 44], some (36, true)⟩, none, []⟩),
  (26, ⟨⟨some 46, .pick, [.t 36, .t 45, .c (.bool false)], none⟩, none, []⟩)]
def a47r5 : List IOp := [⟨some 47, .mv, [.t 5], none⟩,
  ⟨some 48, .fieldAddr 1, [.t 3], none⟩,
  ⟨some 49, .fieldAddr 1, [.t 48], none⟩,
  ⟨some 50, .load1, [.t 49], none⟩,
  ⟨some 51, .nilchk, [.t 47], none⟩,
  ⟨some 52, .fieldAddr 1, [.t 51], none⟩,
  ⟨some 53, .fieldAddr 1, [.t 52], none⟩,
  ⟨none, .store 1, [.t 53, .t 50], none⟩]
def a47r6 : List (Nat × DOp) := [(0, ⟨⟨some 54, .mv, [.t 0], none⟩, none, [1, 2, 3, 4, 5, 6, 7]⟩),
  (1, ⟨⟨some 55, .mv, [.t 0], none⟩, none, [0, 5, 6]⟩),
  (2, ⟨⟨some 56, .nilchk, [.t 55], none⟩, none, [0, 5, 6]⟩),
  (3, ⟨⟨some 57, .fieldAddr 5, [.t 56], none⟩, none, [0, 5, 6]⟩),
  (4, ⟨⟨some 58, .load1, [.t 57], none⟩, none, [0, 5, 6]⟩),
  (5, ⟨⟨some 59, .loadA 4, [.t 3], none⟩, none, [0, 1, 2, 3, 4]⟩),
  (6, ⟨⟨some 60, .bslice 50 4 [.int .i64 0, .int .i64 0, .int .i64 0, .str ⟨#[]⟩] 1 [0], [.t 59], none⟩, some 0, [0, 1, 2, 3, 4]⟩),
  (7, ⟨⟨some 61, .append 50 4 40, [.t 58, .t 60], none⟩, none, [0]⟩),
  (8, ⟨⟨some 62, .nilchk, [.t 54], none⟩, none, []⟩),
  (9, ⟨⟨some 63, .fieldAddr 5, [.t 62], none⟩, none, []⟩),
  (10, ⟨⟨none, .store 1, [.t 63, .t 61], none⟩, none, []⟩)]
def a47 : AFunc := ⟨64, [], (.seq (.region a47r0 [0, 3]) (.seq (.seq (.region a47r1 [0, 3, 4]) (.seq (.region a47r2 [0, 3, 4, 12]) (.cond (.t 12) (.seq (.region a47r3 [0, 3, 5]) (.seq (.draw a47r4 [] [0, 3, 5, 46]) (.cond (.t 46) (.seq (.region a47r5 []) .ret) .skip))) .skip))) (.draw a47r6 [(50, 4)] [])))⟩
theorem a47_ok : compileF Try.prog (lk [(0, ⟨[0, 3], [], []⟩), (1, ⟨[0, 3, 4], [], []⟩), (2, ⟨[0, 3, 4, 12], [], []⟩), (3, ⟨[0, 3, 5], [], []⟩), (4, ⟨[0, 3, 5, 46], [[], [0], [1, 0], [2, 1, 0], [], [4], [3, 5, 2, 1, 0, 4], [6, 3, 5, 2, 1, 0, 4], [7, 6, 3, 5, 2, 1, 0, 4], [8, 7, 6, 3, 5, 2, 1, 0, 4], [9, 7, 8, 6, 3, 5, 2, 1, 0, 4], [10, 7, 9, 8, 6, 3, 5, 2, 1, 0, 4], [7, 6, 3, 5, 2, 1, 0, 4], [12, 7, 6, 3, 5, 2, 1, 0, 4], [11, 13, 7, 10, 9, 8, 6, 3, 5, 2, 1, 0, 4, 12], [7, 14, 6, 3, 5, 2, 1, 0, 4, 11, 13, 10, 9, 8, 12], [15, 7, 14, 6, 3, 5, 2, 1, 0, 4, 11, 13, 10, 9, 8, 12], [16, 15, 7, 14, 6, 3, 5, 2, 1, 0, 4, 11, 13, 10, 9, 8, 12], [17, 16, 15, 7, 14, 6, 3, 5, 2, 1, 0, 4, 11, 13, 10, 9, 8, 12], [18, 16, 17, 15, 7, 14, 6, 3, 5, 2, 1, 0, 4, 11, 13, 10, 9, 8, 12], [19, 16, 18, 17, 15, 7, 14, 6, 3, 5, 2, 1, 0, 4, 11, 13, 10, 9, 8, 12], [20, 16, 19, 18, 17, 15, 7, 14, 6, 3, 5, 2, 1, 0, 4, 11, 13, 10, 9, 8, 12], [16, 15, 7, 14, 6, 3, 5, 2, 1, 0, 4, 11, 13, 10, 9, 8, 12], [22, 16, 15, 7, 14, 6, 3, 5, 2, 1, 0, 4, 11, 13, 10, 9, 8, 12], [23, 16, 22, 15, 7, 14, 6, 3, 5, 2, 1, 0, 4, 11, 13, 10, 9, 8, 12], [21, 24, 16, 20, 19, 18, 17, 15, 7, 14, 6, 3, 5, 2, 1, 0, 4, 11, 13, 10, 9, 8, 12, 23, 22], [16, 25, 15, 7, 14, 6, 3, 5, 2, 1, 0, 4, 11, 13, 10, 9, 8, 12, 21, 24, 20, 19, 18, 17, 23, 22]], [0, 1, 2, 3, 4, 5, 6, 7, 8, 9, 10, 11, 12, 13, 14, 15, 16, 17, 18, 19, 20, 21, 22, 23, 24, 25, 26]⟩), (5, ⟨[], [], []⟩), (6, ⟨[], [[], [], [1], [2, 1], [3, 2, 1], [], [5], [4, 6, 3, 2, 1, 5], [0, 1, 2, 3, 4, 5, 6, 7], [8, 0, 1, 2, 3, 4, 5, 6, 7], [9, 7, 0, 1, 2, 3, 4, 5, 6, 8]], [0, 1, 2, 3, 4, 5, 6, 7, 8, 9, 10]⟩)]) Try.f47 = some a47 := by kernel_rfl

/- payroll/overtime.isName -/
def a64r0 : List IOp := [⟨some 2, .mv, [.c (.bool false)], none⟩]
def a64r1 : List IOp := [⟨some 7, .mv, [.t 0], none⟩,
  ⟨some 8, .lenS, [.t 7], none⟩,
  ⟨some 9, .bin .lss, [.t 8, .c (.int .i64 1)], none⟩,
  ⟨some 10, .mv, [.t 9], none⟩,
  ⟨some 11, .mv, [.t 0], some (10, false)⟩,
  ⟨some 12, .lenS, [.t 11], some (10, false)⟩,
  ⟨some 13, .bin .gtr, [.t 12, .c (.int .i64 24)], some (10, false)⟩,
  ⟨some 14, .pick, [.t 10, .c (.bool true), .t 13], none⟩]
def a64r2 : List IOp := [⟨some 2, .mv, [.c (.bool false)], none⟩]
def a64r3 : List IOp := [⟨some 15, .mv, [.t 0], none⟩,
  ⟨some 16, .lenS, [.t 15], none⟩,
  ⟨some 17, .mv, [.c (.int .i64 0)], none⟩]
def a64r4 : List IOp := [⟨some 18, .bin .lss, [.t 17, .t 16], none⟩]
def a64r5 : List IOp := [⟨some 19, .mv, [.t 17], none⟩,
  ⟨some 3, .mv, [.t 19], none⟩]
def a64r6 : List IOp := [⟨some 20, .mv, [.t 0], none⟩,
  ⟨some 21, .mv, [.t 3], none⟩,
  ⟨some 22, .index, [.t 20, .t 21], none⟩,
  ⟨some 4, .mv, [.t 22], none⟩]
def a64r7 : List IOp := [⟨some 23, .mv, [.t 4], none⟩,
  ⟨some 24, .bin .geq, [.t 23, .c (.int .u8 97)], none⟩,
  ⟨some 25, .mv, [.t 24], none⟩,
  ⟨some 26, .mv, [.t 4], some (25, true)⟩,
  ⟨some 27, .bin .leq, [.t 26, .c (.int .u8 122)], some (25, true)⟩,
  ⟨some 28, .pick, [.t 25, .t 27, .c (.bool false)], none⟩,
  ⟨some 5, .mv, [.t 28], none⟩]
def a64r8 : List IOp := [⟨some 29, .mv, [.t 4], none⟩,
  ⟨some 30, .bin .geq, [.t 29, .c (.int .u8 48)], none⟩,
  ⟨some 31, .mv, [.t 30], none⟩,
  ⟨some 32, .mv, [.t 4], some (31, true)⟩,
  ⟨some 33, .bin .leq, [.t 32, .c (.int .u8 57)], some (31, true)⟩,
  ⟨some 34, .pick, [.t 31, .t 33, .c (.bool false)], none⟩,
  ⟨some 35, .mv, [.t 34], none⟩,
  ⟨some 36, .mv, [.t 4], some (35, false)⟩,
  ⟨some 37, .bin .eql, [.t 36, .c (.int .u8 95)], some (35, false)⟩,
  ⟨some 38, .pick, [.t 35, .c (.bool true), .t 37], none⟩,
  ⟨some 6, .mv, [.t 38], none⟩]
def a64r9 : List IOp := [⟨some 39, .mv, [.t 5], none⟩,
  ⟨some 40, .not, [.t 39], none⟩,
  ⟨some 41, .mv, [.t 40], none⟩,
  ⟨some 42, .mv, [.t 3], some (41, true)⟩,
  ⟨some 43, .bin .eql, [.t 42, .c (.int .i64 0)], some (41, true)⟩,
  ⟨some 44, .mv, [.t 43], some (41, true)⟩,
  ⟨some 45, .mv, [.t 6], some (44, false)⟩,
  ⟨some 46, .not, [.t 45], some (44, false)⟩,
  ⟨some 47, .pick, [.t 44, .c (.bool true), .t 46], some (41, true)⟩,
  ⟨some 48, .pick, [.t 41, .t 47, .c (.bool false)], none⟩]
def a64r10 : List IOp := [⟨some 2, .mv, [.c (.bool false)], none⟩]
def a64r11 : List IOp := [⟨some 49, .bin .add, [.t 17, .c (.int .i64 1)], none⟩,
  ⟨some 17, .mv, [.t 49], none⟩]
def a64r12 : List IOp := [⟨some 2, .mv, [.c (.bool true)], none⟩]
def a64 : AFunc := ⟨50, [.tmp 2], (.seq (.region a64r0 [0]) (.seq (.seq (.region a64r1 [0, 14]) (.cond (.t 14) (.seq (.region a64r2 [2]) .ret) .skip)) (.seq (.seq (.region a64r3 [0, 16, 17]) (.block 0 (.loop (.seq (.region a64r4 [0, 16, 17, 18]) (.seq (.cond (.t 18) .skip (.exit 0)) (.seq (.block 1 (.seq (.region a64r5 [0, 3, 16, 17]) (.seq (.region a64r6 [0, 3, 4, 16, 17]) (.seq (.region a64r7 [0, 3, 4, 5, 16, 17]) (.seq (.region a64r8 [0, 3, 5, 6, 16, 17]) (.seq (.region a64r9 [0, 16, 17, 48]) (.cond (.t 48) (.seq (.region a64r10 [2]) .ret) .skip))))))) (.region a64r11 [0, 16, 17]))))))) (.seq (.region a64r12 [2]) .ret))))⟩
theorem a64_ok : compileF Try.prog (lk [(0, ⟨[0], [], []⟩), (1, ⟨[0, 14], [], []⟩), (2, ⟨[2], [], []⟩), (3, ⟨[0, 16, 17], [], []⟩), (4, ⟨[0, 16, 17, 18], [], []⟩), (5, ⟨[0, 3, 16, 17], [], []⟩), (6, ⟨[0, 3, 4, 16, 17], [], []⟩), (7, ⟨[0, 3, 4, 5, 16, 17], [], []⟩), (8, ⟨[0, 3, 5, 6, 16, 17], [], []⟩), (9, ⟨[0, 16, 17, 48], [], []⟩), (10, ⟨[2], [], []⟩), (11, ⟨[0, 16, 17], [], []⟩), (12, ⟨[2], [], []⟩)]) Try.f64 = some a64 := by kernel_rfl

/- payroll/overtime.validBands -/
def a65r0 : List IOp := [⟨some 2, .mv, [.c (.bool false)], none⟩]
def a65r1 : List IOp := [⟨some 3, .mv, [.c (.int .i64 (-1))], none⟩]
def a65r2 : List IOp := [⟨some 6, .mv, [.t 0], none⟩,
  ⟨some 7, .len, [.t 6], none⟩,
  ⟨some 8, .mv, [.c (.int .i64 0)], none⟩]
def a65r3 : List IOp := [⟨some 9, .bin .lss, [.t 8, .t 7], none⟩]
def a65r4 : List IOp := [⟨some 10, .indexAddr 2, [.t 6, .t 8], none⟩,
  ⟨some 11, .loadA 2, [.t 10], none⟩,
  ⟨some 5, .alloc 55 [.str ⟨#[]⟩, .int .i64 0], [], none⟩,
  ⟨none, .store 2, [.t 5, .t 11], none⟩]
def a65r5 : List IOp := [⟨some 12, .fieldAddr 0, [.t 5], none⟩,
  ⟨some 13, .load1, [.t 12], none⟩,
  ⟨some 14, .call 64, [.t 13], none⟩,
  ⟨some 15, .not, [.t 14], none⟩,
  ⟨some 16, .mv, [.t 15], none⟩,
  ⟨some 17, .fieldAddr 1, [.t 5], some (16, false)⟩,
  ⟨some 18, .load1, [.t 17], some (16, false)⟩,
  ⟨some 19, .mv, [.t 3], some (16, false)⟩,
  ⟨some 20, .bin .leq, [.t 18, .t 19], some (16, false)⟩,
  ⟨some 21, .pick, [.t 16, .c (.bool true), .t 20], none⟩,
  ⟨some 22, .mv, [.t 21], none⟩,
  ⟨some 23, .fieldAddr 1, [.t 5], some (22, false)⟩,
  ⟨some 24, .load1, [.t 23], some (22, false)⟩,
  ⟨some 25, .bin .gtr, [.t 24, .c (.int .i64 10080)], some (22, false)⟩,
  ⟨some 26, .pick, [.t 22, .c (.bool true), .t 25], none⟩]
def a65r6 : List IOp := [⟨some 2, .mv, [.c (.bool false)], none⟩]
def a65r7 : List IOp := [⟨some 27, .fieldAddr 1, [.t 5], none⟩,
  ⟨some 28, .load1, [.t 27], none⟩,
  ⟨some 3, .mv, [.t 28], none⟩]
def a65r8 : List IOp := [⟨some 29, .bin .add, [.t 8, .c (.int .i64 1)], none⟩,
  ⟨some 8, .mv, [.t 29], none⟩]
def a65r9 : List IOp := [⟨some 2, .mv, [.c (.bool true)], none⟩]
def a65 : AFunc := ⟨30, [.tmp 2], (.seq (.region a65r0 [0]) (.seq (.region a65r1 [0, 3]) (.seq (.seq (.region a65r2 [3, 6, 7, 8]) (.block 0 (.loop (.seq (.region a65r3 [3, 6, 7, 8, 9]) (.seq (.cond (.t 9) .skip (.exit 0)) (.seq (.block 1 (.seq (.region a65r4 [3, 5, 6, 7, 8]) (.seq (.seq (.region a65r5 [5, 6, 7, 8, 26]) (.cond (.t 26) (.seq (.region a65r6 [2]) .ret) .skip)) (.region a65r7 [3, 6, 7, 8])))) (.region a65r8 [3, 6, 7, 8]))))))) (.seq (.region a65r9 [2]) .ret))))⟩
theorem a65_ok : compileF Try.prog (lk [(0, ⟨[0], [], []⟩), (1, ⟨[0, 3], [], []⟩), (2, ⟨[3, 6, 7, 8], [], []⟩), (3, ⟨[3, 6, 7, 8, 9], [], []⟩), (4, ⟨[3, 5, 6, 7, 8], [], []⟩), (5, ⟨[5, 6, 7, 8, 26], [], []⟩), (6, ⟨[2], [], []⟩), (7, ⟨[3, 6, 7, 8], [], []⟩), (8, ⟨[3, 6, 7, 8], [], []⟩), (9, ⟨[2], [], []⟩)]) Try.f65 = some a65 := by kernel_rfl

/- payroll/overtime.find -/
def a68r0 : List IOp := [⟨some 4, .mv, [.c (.int .i64 0)], none⟩,
  ⟨some 5, .mv, [.c (.int .i64 0)], none⟩]
def a68r1 : List IOp := [⟨some 8, .mv, [.t 0], none⟩,
  ⟨some 9, .len, [.t 8], none⟩,
  ⟨some 10, .mv, [.c (.int .i64 0)], none⟩]
def a68r2 : List IOp := [⟨some 11, .bin .lss, [.t 10, .t 9], none⟩]
def a68r3 : List IOp := [⟨some 12, .mv, [.t 10], none⟩,
  ⟨some 13, .indexAddr 2, [.t 8, .t 10], none⟩,
  ⟨some 14, .loadA 2, [.t 13], none⟩,
  ⟨some 7, .alloc 55 [.str ⟨#[]⟩, .int .i64 0], [], none⟩,
  ⟨some 6, .mv, [.t 12], none⟩,
  ⟨none, .store 2, [.t 7, .t 14], none⟩]
def a68r4 : List IOp := [⟨some 15, .fieldAddr 1, [.t 7], none⟩,
  ⟨some 16, .load1, [.t 15], none⟩,
  ⟨some 17, .mv, [.t 1], none⟩,
  ⟨some 18, .bin .gtr, [.t 16, .t 17], none⟩]
def a68r5 : List (Nat × DOp) := [(0, ⟨⟨some 19, .mv, [.t 6], none⟩, none, [2, 3, 4, 5]⟩),
  (1, ⟨⟨some 20, .bin .sub, [.t 19, .c (.int .i64 1)], none⟩, none, [2, 3, 4, 5]⟩),
  (2, ⟨⟨some 21, .fieldAddr 1, [.t 7], none⟩, none, [0, 1, 4, 6]⟩),
  (3, ⟨⟨some 22, .load1, [.t 21], none⟩, none, [0, 1, 4, 6]⟩),
  (4, ⟨⟨some 23, .mv, [.t 1], none⟩, none, [0, 1, 2, 3, 6]⟩),
  (5, ⟨⟨some 24, .bin .sub, [.t 22, .t 23], none⟩, none, [0, 1, 6]⟩),
  (6, ⟨⟨some 4, .mv, [.t 20], none⟩, none, [2, 3, 4, 5]⟩),
  (7, ⟨⟨some 5, .mv, [.t 24], none⟩, none, []⟩)]
def a68r6 : List IOp := [⟨some 25, .bin .add, [.t 10, .c (.int .i64 1)], none⟩,
  ⟨some 10, .mv, [.t 25], none⟩]
def a68r7 : List IOp := [⟨some 26, .mv, [.t 0], none⟩,
  ⟨some 27, .len, [.t 26], none⟩,
  ⟨some 28, .bin .sub, [.t 27, .c (.int .i64 1)], none⟩,
  ⟨some 4, .mv, [.t 28], none⟩,
  ⟨some 5, .mv, [.c (.int .i64 100000)], none⟩]
def a68 : AFunc := ⟨29, [.tmp 4, .tmp 5], (.seq (.region a68r0 [0, 1]) (.seq (.seq (.region a68r1 [0, 1, 8, 9, 10]) (.block 0 (.loop (.seq (.region a68r2 [0, 1, 8, 9, 10, 11]) (.seq (.cond (.t 11) .skip (.exit 0)) (.seq (.block 1 (.seq (.region a68r3 [0, 1, 6, 7, 8, 9, 10]) (.seq (.region a68r4 [0, 1, 6, 7, 8, 9, 10, 18]) (.cond (.t 18) (.seq (.draw a68r5 [] [4, 5]) .ret) .skip)))) (.region a68r6 [0, 1, 8, 9, 10]))))))) (.seq (.region a68r7 [4, 5]) .ret)))⟩
theorem a68_ok : compileF Try.prog (lk [(0, ⟨[0, 1], [], []⟩), (1, ⟨[0, 1, 8, 9, 10], [], []⟩), (2, ⟨[0, 1, 8, 9, 10, 11], [], []⟩), (3, ⟨[0, 1, 6, 7, 8, 9, 10], [], []⟩), (4, ⟨[0, 1, 6, 7, 8, 9, 10, 18], [], []⟩), (5, ⟨[4, 5], [[], [0], [], [2], [], [3, 4, 2], [1, 0], [5, 6, 0, 1, 2, 3, 4]], [0, 1, 2, 3, 4, 5, 6, 7]⟩), (6, ⟨[0, 1, 8, 9, 10], [], []⟩), (7, ⟨[4, 5], [], []⟩)]) Try.f68 = some a68 := by kernel_rfl

end Go.Proofs.Ytodbafiepdcfbaa
