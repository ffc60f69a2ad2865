/- The abstract forms of the functions, printed by a program, and that the given program has these forms. -/
import Derived.Test.YtjacobmkfkmdiaaAbsMd
import Derived.Test.YtjacobmkfkmdiaaProg
import Derived.KernelRfl
set_option linter.unusedSimpArgs false
set_option linter.unusedVariables false
set_option linter.unusedSectionVars false
namespace Go.Proofs.Ytjacobmkfkmdiaa
open Go Go.Abs
/- payroll/payrolllaw9.PresenceLimits -/
def a3r0 : List IOp := [⟨some 4, .mv, [.c (.bool false)], none⟩]
def a3r1 : List IOp := [⟨some 14, .mv, [.t 0], none⟩,
  ⟨some 15, .call 14, [.t 14, .c (.int .i64 3)], none⟩,
  ⟨some 16, .bin .add, [.c (.int .i64 1023), .t 15], none⟩,
  ⟨some 5, .mv, [.t 16], none⟩]
def a3r2 : List IOp := [⟨some 6, .mv, [.c (.nils)], none⟩]
def a3r3 : List IOp := [⟨some 7, .mv, [.c (.nils)], none⟩]
def a3r4 : List IOp := [⟨some 17, .build [.int .i64 0, .int .i64 0] [(1, 1)], [.c (.int .i64 5000)], none⟩,
  ⟨some 18, .build [.int .i64 0, .int .i64 0, .nils] [(0, 2)], [.t 17], none⟩,
  ⟨some 8, .alloc 29 [.int .i64 0, .int .i64 0, .nils], [], none⟩,
  ⟨none, .store 3, [.t 8, .t 18], none⟩]
def a3r5 : List IOp := [⟨some 9, .mv, [.c (.int .i64 0)], none⟩]
def a3r6 : List IOp := [⟨some 19, .mv, [.t 9], none⟩,
  ⟨some 20, .mv, [.t 5], none⟩,
  ⟨some 21, .bin .lss, [.t 19, .t 20], none⟩]
def a3r7 : List IOp := [⟨some 24, .mv, [.t 6], none⟩,
  ⟨some 25, .mv, [.t 9], none⟩,
  ⟨some 26, .bin .mul, [.c (.int .i64 3), .t 25], none⟩,
  ⟨some 27, .bslice 3 1 [.int .i64 0] 2 [0, 1], [.c (.int .i64 1), .c (.int .i64 2)], none⟩,
  ⟨some 28, .mv, [.t 9], none⟩,
  ⟨some 29, .bin .rem, [.t 28, .c (.int .i64 2)], none⟩,
  ⟨some 30, .indexAddr 1, [.t 27, .t 29], none⟩,
  ⟨some 31, .load1, [.t 30], none⟩,
  ⟨some 32, .build [.int .i64 0, .int .i64 0, .int .i64 0, .int .i64 0] [(0, 1), (1, 1)], [.t 26, .t 31], none⟩,
  ⟨some 33, .bslice 34 4 [.int .i64 0, .int .i64 0, .int .i64 0, .int .i64 0] 1 [0], [.t 32], none⟩,
  ⟨some 34, .append 34 4 32, [.t 24, .t 33], none⟩,
  ⟨some 6, .mv, [.t 34], none⟩]
def a3r8 : List IOp := [⟨some 35, .mv, [.t 7], none⟩,
  ⟨some 36, .mv, [.t 9], none⟩,
  ⟨some 37, .bin .mul, [.c (.int .i64 3), .t 36], none⟩,
  ⟨some 38, .mv, [.t 9], none⟩,
  ⟨some 39, .bin .mul, [.c (.int .i64 3), .t 38], none⟩,
  ⟨some 40, .bin .add, [.t 39, .c (.int .i64 2)], none⟩,
  ⟨some 41, .build [.int .i64 0, .int .i64 0] [(0, 1), (1, 1)], [.t 37, .t 40], none⟩,
  ⟨some 42, .build [.int .i64 0, .int .i64 0, .nils] [(0, 2)], [.t 41], none⟩,
  ⟨some 43, .bslice 29 3 [.int .i64 0, .int .i64 0, .nils] 1 [0], [.t 42], none⟩,
  ⟨some 44, .append 29 3 40, [.t 35, .t 43], none⟩,
  ⟨some 7, .mv, [.t 44], none⟩]
def a3r9 : List IOp := [⟨some 45, .fieldAddr 2, [.t 8], none⟩,
  ⟨some 46, .load1, [.t 45], none⟩,
  ⟨some 47, .mv, [.t 9], none⟩,
  ⟨some 48, .bin .mul, [.c (.int .i64 3), .t 47], none⟩,
  ⟨some 49, .mv, [.t 9], none⟩,
  ⟨some 50, .bin .mul, [.c (.int .i64 3), .t 49], none⟩,
  ⟨some 51, .bin .add, [.t 50, .c (.int .i64 2)], none⟩,
  ⟨some 52, .build [.int .i64 0, .int .i64 0] [(0, 1), (1, 1)], [.t 48, .t 51], none⟩,
  ⟨some 53, .bslice 26 2 [.int .i64 0, .int .i64 0] 1 [0], [.t 52], none⟩,
  ⟨some 54, .append 26 2 16, [.t 46, .t 53], none⟩,
  ⟨some 55, .fieldAddr 2, [.t 8], none⟩,
  ⟨none, .store 1, [.t 55, .t 54], none⟩]
def a3r10 : List IOp := [⟨some 22, .mv, [.t 9], none⟩,
  ⟨some 23, .bin .add, [.t 22, .c (.int .i64 1)], none⟩,
  ⟨some 9, .mv, [.t 23], none⟩]
def a3r11 : List IOp := [⟨some 57, .mv, [.t 6], none⟩,
  ⟨some 58, .mv, [.t 1], none⟩,
  ⟨some 59, .call 14, [.t 58, .c (.int .i64 10080)], none⟩,
  ⟨some 60, .bin .add, [.c (.int .i64 1), .t 59], none⟩,
  ⟨some 61, .call 15, [.t 57, .t 60], none⟩,
  ⟨some 56, .mv, [.t 61], none⟩,
  ⟨some 62, .extract 0, [.t 56], none⟩,
  ⟨some 63, .extract 1, [.t 56], none⟩,
  ⟨some 64, .extract 2, [.t 56], none⟩,
  ⟨some 10, .mv, [.t 62], none⟩,
  ⟨some 11, .mv, [.t 63], none⟩,
  ⟨some 12, .mv, [.t 64], none⟩]
def a3r12 : List IOp := [⟨some 65, .mv, [.t 5], none⟩,
  ⟨some 66, .bin .leq, [.t 65, .c (.int .i64 1024)], none⟩,
  ⟨some 13, .mv, [.t 66], none⟩]
def a3r13 : List IOp := [⟨some 67, .mv, [.t 12], none⟩,
  ⟨some 68, .bin .eql, [.t 67, .c (.int .i64 0)], none⟩,
  ⟨some 69, .mv, [.t 13], none⟩,
  ⟨some 70, .eqB false, [.t 68, .t 69], none⟩,
  ⟨some 71, .mv, [.t 70], none⟩,
  ⟨some 72, .mv, [.t 7], some (71, true)⟩,
  ⟨some 73, .call 16, [.t 72], some (71, true)⟩,
  ⟨some 74, .bin .eql, [.t 73, .c (.int .i64 0)], some (71, true)⟩,
  ⟨some 75, .mv, [.t 13], some (71, true)⟩,
  ⟨some 76, .eqB false, [.t 74, .t 75], some (71, true)⟩,
  ⟨some 77, .pick, [.t 71, .t 76, .c (.bool false)], none⟩,
  ⟨some 78, .mv, [.t 77], none⟩,
  ⟨some 79, .loadA 3, [.t 8], some (78, true)⟩,
  ⟨some 80, .bslice 29 3 [.int .i64 0, .int .i64 0, .nils] 1 [0], [.t 79], some (78, true)⟩,
  ⟨some 81, .call 16, [.t 80], some (78, true)⟩,
  ⟨some 82, .bin .eql, [.t 81, .c (.int .i64 0)], some (78, true)⟩,
  ⟨some 83, .mv, [.t 13], some (78, true)⟩,
  ⟨some 84, .eqB false, [.t 82, .t 83], some (78, true)⟩,
  ⟨some 85, .pick, [.t 78, .t 84, .c (.bool false)], none⟩,
  ⟨some 86, .mv, [.t 85], none⟩,
  ⟨some 87, .loadA 3, [.t 8], some (86, true)⟩,
  ⟨some 88, .call 17, [.t 87], some (86, true)⟩,
  ⟨some 89, .bin .gtr, [.t 88, .c (.int .i64 0)], some (86, true)⟩,
  ⟨some 90, .mv, [.t 13], some (86, true)⟩,
  ⟨some 91, .eqB false, [.t 89, .t 90], some (86, true)⟩,
  ⟨some 92, .pick, [.t 86, .t 91, .c (.bool false)], none⟩,
  ⟨some 93, .mv, [.t 92], none⟩,
  ⟨some 94, .mv, [.t 6], some (93, true)⟩,
  ⟨some 95, .mv, [.t 1], some (93, true)⟩,
  ⟨some 96, .call 14, [.t 95, .c (.int .i64 10080)], some (93, true)⟩,
  ⟨some 97, .bin .add, [.c (.int .i64 1), .t 96], some (93, true)⟩,
  ⟨some 98, .call 18, [.t 94, .t 97], some (93, true)⟩,
  ⟨some 99, .pick, [.t 93, .t 98, .c (.bool false)], none⟩,
  ⟨some 100, .mv, [.t 99], none⟩,
  ⟨some 101, .call 19, [], some (100, true)⟩,
  ⟨some 102, .pick, [.t 100, .t 101, .c (.bool false)], none⟩,
  ⟨some 4, .mv, [.t 102], none⟩]
def a3 : AFunc := ⟨103, [.tmp 4], (.seq (.region a3r0 [0, 1]) (.seq (.region a3r1 [1, 5]) (.seq (.region a3r2 [1, 5, 6]) (.seq (.region a3r3 [1, 5, 6, 7]) (.seq (.region a3r4 [1, 5, 6, 7, 8]) (.seq (.seq (.region a3r5 [1, 5, 6, 7, 8, 9]) (.block 0 (.loop (.seq (.seq (.region a3r6 [1, 5, 6, 7, 8, 9, 21]) (.cond (.t 21) .skip (.exit 0))) (.seq (.block 1 (.seq (.region a3r7 [1, 5, 6, 7, 8, 9]) (.seq (.region a3r8 [1, 5, 6, 7, 8, 9]) (.region a3r9 [1, 5, 6, 7, 8, 9])))) (.region a3r10 [1, 5, 6, 7, 8, 9])))))) (.seq (.region a3r11 [1, 5, 6, 7, 8, 12]) (.seq (.region a3r12 [1, 6, 7, 8, 12, 13]) (.seq (.region a3r13 [4]) .ret)))))))))⟩
theorem a3_ok : compileF Try.prog (lk [(0, ⟨[0, 1], [], []⟩), (1, ⟨[1, 5], [], []⟩), (2, ⟨[1, 5, 6], [], []⟩), (3, ⟨[1, 5, 6, 7], [], []⟩), (4, ⟨[1, 5, 6, 7, 8], [], []⟩), (5, ⟨[1, 5, 6, 7, 8, 9], [], []⟩), (6, ⟨[1, 5, 6, 7, 8, 9, 21], [], []⟩), (7, ⟨[1, 5, 6, 7, 8, 9], [], []⟩), (8, ⟨[1, 5, 6, 7, 8, 9], [], []⟩), (9, ⟨[1, 5, 6, 7, 8, 9], [], []⟩), (10, ⟨[1, 5, 6, 7, 8, 9], [], []⟩), (11, ⟨[1, 5, 6, 7, 8, 12], [], []⟩), (12, ⟨[1, 6, 7, 8, 12, 13], [], []⟩), (13, ⟨[4], [], []⟩)]) Try.f3 = some a3 := by kernel_rfl

/- payroll/payrolllaw9.PresenceValid -/
def a4r0 : List IOp := [⟨some 4, .mv, [.c (.bool false)], none⟩]
def a4r1 : List IOp := [⟨some 9, .mv, [.t 0], none⟩,
  ⟨some 10, .call 20, [.t 9], none⟩,
  ⟨some 5, .mv, [.t 10], none⟩]
def a4r2 : List IOp := [⟨some 6, .mv, [.c (.int .i64 0)], none⟩]
def a4r3 : List IOp := [⟨some 11, .mv, [.t 6], none⟩,
  ⟨some 12, .bin .lss, [.t 11, .c (.int .i64 4)], none⟩]
def a4r4 : List IOp := [⟨some 15, .mv, [.t 5], none⟩,
  ⟨some 16, .call 21, [.t 15, .c (.int .i64 4)], none⟩,
  ⟨some 7, .mv, [.t 16], none⟩]
def a4r5 : List IOp := [⟨some 17, .mv, [.t 6], none⟩]
def a4r6 : List IOp := [⟨some 19, .bin .eql, [.t 17, .c (.int .i64 2)], none⟩,
  ⟨some 18, .mv, [.t 19], none⟩]
def a4r7 : List IOp := [⟨some 20, .mv, [.t 5], none⟩,
  ⟨some 21, .mv, [.t 7], none⟩,
  ⟨some 22, .call 22, [.t 20, .t 21], none⟩,
  ⟨some 7, .mv, [.t 22], none⟩]
def a4r8 : List IOp := [⟨some 24, .bin .eql, [.t 17, .c (.int .i64 3)], none⟩,
  ⟨some 23, .mv, [.t 24], none⟩]
def a4r9 : List IOp := [⟨some 25, .mv, [.t 1], none⟩,
  ⟨some 7, .mv, [.t 25], none⟩]
def a4r10 : List IOp := [⟨some 26, .mv, [.t 7], none⟩,
  ⟨some 27, .len, [.t 26], none⟩,
  ⟨some 28, .bin .gtr, [.t 27, .c (.int .i64 100)], none⟩]
def a4r11 : List IOp := [⟨some 29, .mv, [.t 7], none⟩,
  ⟨some 30, .call 16, [.t 29], none⟩,
  ⟨some 31, .mv, [.t 7], none⟩,
  ⟨some 32, .call 23, [.t 31], none⟩,
  ⟨some 33, .bin .neq, [.t 30, .t 32], none⟩]
def a4r12 : List IOp := [⟨some 4, .mv, [.c (.bool false)], none⟩]
def a4r13 : List IOp := [⟨some 8, .mv, [.c (.int .i64 0)], none⟩]
def a4r14 : List IOp := [⟨some 34, .mv, [.t 8], none⟩,
  ⟨some 35, .mv, [.t 7], none⟩,
  ⟨some 36, .len, [.t 35], none⟩,
  ⟨some 37, .bin .lss, [.t 34, .t 36], none⟩]
def a4r15 : List (Nat × DOp) := [(0, ⟨⟨some 40, .mv, [.t 7], none⟩, none, [1]⟩),
  (1, ⟨⟨some 41, .mv, [.t 8], none⟩, none, [0]⟩),
  (2, ⟨⟨some 42, .indexAddr 3, [.t 40, .t 41], none⟩, none, []⟩),
  (3, ⟨⟨some 43, .fieldAddr 2, [.t 42], none⟩, none, []⟩),
  (4, ⟨⟨some 44, .load1, [.t 43], none⟩, none, []⟩),
  (5, ⟨⟨some 45, .len, [.t 44], none⟩, none, []⟩),
  (6, ⟨⟨some 46, .bin .leq, [.t 45, .c (.int .i64 100)], none⟩, none, []⟩),
  (7, ⟨⟨some 47, .mv, [.t 46], none⟩, none, []⟩),
  (8, ⟨⟨some 48, .mv, [.t 7], some (47, true)⟩, none, [9, 13, 14, 15, 16]⟩),
  (9, ⟨⟨some 49, .mv, [.t 8], some (47, true)⟩, none, [8, 13, 14, 15, 16]⟩),
  (10, ⟨⟨some 50, .indexAddr 3, [.t 48, .t 49], some (47, true)⟩, none, [13, 14, 15, 16]⟩),
  (11, ⟨⟨some 51, .loadA 3, [.t 50], some (47, true)⟩, none, [13, 14, 15, 16]⟩),
  (13, ⟨⟨some 53, .mv, [.t 7], some (47, true)⟩, none, [8, 9, 10, 11, 12, 14]⟩),
  (14, ⟨⟨some 54, .mv, [.t 8], some (47, true)⟩, none, [8, 9, 10, 11, 12, 13]⟩),
  (15, ⟨⟨some 55, .indexAddr 3, [.t 53, .t 54], some (47, true)⟩, none, [8, 9, 10, 11, 12]⟩),
  (16, ⟨⟨some 56, .loadA 3, [.t 55], some (47, true)⟩, none, [8, 9, 10, 11, 12]⟩),
  (12, ⟨⟨some 52, .call 17, [.t 51], some (47, true)⟩, none, [13, 14, 15, 16]⟩),
  (17, ⟨⟨some 57, .call 24, [.t 56], some (47, true)⟩, none, []⟩),
  (18, ⟨⟨some 58, .bin .neq, [.t 52, .t 57], some (47, true)⟩, none, []⟩),
  (19, ⟨⟨some 59, .pick, [.t 47, .t 58, .c (.bool false)], none⟩, none, []⟩)]
def a4r16 : List IOp := [⟨some 4, .mv, [.c (.bool false)], none⟩]
def a4r17 : List IOp := [⟨some 38, .mv, [.t 8], none⟩,
  ⟨some 39, .bin .add, [.t 38, .c (.int .i64 1)], none⟩,
  ⟨some 8, .mv, [.t 39], none⟩]
def a4r18 : List IOp := [⟨some 13, .mv, [.t 6], none⟩,
  ⟨some 14, .bin .add, [.t 13, .c (.int .i64 1)], none⟩,
  ⟨some 6, .mv, [.t 14], none⟩]
def a4r19 : List IOp := [⟨some 60, .call 19, [], none⟩,
  ⟨some 4, .mv, [.t 60], none⟩]
def a4 : AFunc := ⟨61, [.tmp 4], (.seq (.region a4r0 [0, 1]) (.seq (.region a4r1 [1, 5]) (.seq (.seq (.region a4r2 [1, 5, 6]) (.block 0 (.loop (.seq (.seq (.region a4r3 [1, 5, 6, 12]) (.cond (.t 12) .skip (.exit 0))) (.seq (.block 1 (.seq (.region a4r4 [1, 5, 6, 7]) (.seq (.seq (.region a4r5 [1, 5, 6, 7, 17]) (.block 2 (.seq (.region a4r6 [1, 5, 6, 7, 17, 18]) (.cond (.t 18) (.region a4r7 [1, 5, 6, 7]) (.seq (.region a4r8 [1, 5, 6, 7, 23]) (.cond (.t 23) (.region a4r9 [1, 5, 6, 7]) .skip)))))) (.seq (.seq (.region a4r10 [1, 5, 6, 7, 28]) (.cond (.t 28) (.exit 1) .skip)) (.seq (.seq (.region a4r11 [1, 5, 6, 7, 33]) (.cond (.t 33) (.seq (.region a4r12 [4]) .ret) .skip)) (.seq (.region a4r13 [1, 5, 6, 7, 8]) (.block 3 (.loop (.seq (.seq (.region a4r14 [1, 5, 6, 7, 8, 37]) (.cond (.t 37) .skip (.exit 3))) (.seq (.block 4 (.seq (.draw a4r15 [] [1, 5, 6, 7, 8, 59]) (.cond (.t 59) (.seq (.region a4r16 [4]) .ret) .skip))) (.region a4r17 [1, 5, 6, 7, 8]))))))))))) (.region a4r18 [1, 5, 6])))))) (.seq (.region a4r19 [4]) .ret))))⟩
theorem a4_ok : compileF Try.prog (lk [(0, ⟨[0, 1], [], []⟩), (1, ⟨[1, 5], [], []⟩), (2, ⟨[1, 5, 6], [], []⟩), (3, ⟨[1, 5, 6, 12], [], []⟩), (4, ⟨[1, 5, 6], [], []⟩), (5, ⟨[1, 5, 6, 7], [], []⟩), (6, ⟨[1, 5, 6, 7, 17], [], []⟩), (7, ⟨[1, 5, 6, 7, 17, 18], [], []⟩), (8, ⟨[1, 5, 6, 7], [], []⟩), (9, ⟨[1, 5, 6, 7, 23], [], []⟩), (10, ⟨[1, 5, 6, 7], [], []⟩), (11, ⟨[1, 5, 6, 7, 28], [], []⟩), (12, ⟨[1, 5, 6, 7, 33], [], []⟩), (13, ⟨[4], [], []⟩), (14, ⟨[1, 5, 6, 7, 8], [], []⟩), (15, ⟨[1, 5, 6, 7, 8, 37], [], []⟩), (16, ⟨[1, 5, 6, 7, 8], [], []⟩), (17, ⟨[1, 5, 6, 7, 8, 59], [[], [], [0, 1], [2, 0, 1], [3, 2, 0, 1], [4, 3, 2, 0, 1], [5, 4, 3, 2, 0, 1], [6, 5, 4, 3, 2, 0, 1], [7, 6, 5, 4, 3, 2, 0, 1], [7, 6, 5, 4, 3, 2, 0, 1], [8, 9, 7, 6, 5, 4, 3, 2, 0, 1], [10, 7, 8, 9, 6, 5, 4, 3, 2, 0, 1], [11, 7, 10, 8, 9, 6, 5, 4, 3, 2, 0, 1], [7, 6, 5, 4, 3, 2, 0, 1], [7, 6, 5, 4, 3, 2, 0, 1], [13, 14, 7, 6, 5, 4, 3, 2, 0, 1], [15, 7, 13, 14, 6, 5, 4, 3, 2, 0, 1], [16, 12, 7, 15, 13, 14, 6, 5, 4, 3, 2, 0, 1, 11, 10, 8, 9], [12, 17, 7, 11, 10, 8, 9, 6, 5, 4, 3, 2, 0, 1, 16, 15, 13, 14], [7, 18, 6, 5, 4, 3, 2, 0, 1, 12, 17, 11, 10, 8, 9, 16, 15, 13, 14]], [0, 1, 2, 3, 4, 5, 6, 7, 8, 9, 10, 11, 13, 14, 15, 16, 12, 17, 18, 19]⟩), (18, ⟨[4], [], []⟩), (19, ⟨[4], [], []⟩)]) Try.f4 = some a4 := by kernel_rfl

/- payroll/payrolllaw9.PresenceSound -/
def a5r0 : List IOp := [⟨some 4, .mv, [.c (.bool false)], none⟩]
def a5r1 : List IOp := [⟨some 13, .mv, [.t 0], none⟩,
  ⟨some 14, .call 20, [.t 13], none⟩,
  ⟨some 15, .call 25, [.t 14, .c (.int .i64 14)], none⟩,
  ⟨some 5, .mv, [.t 15], none⟩]
def a5r2 : List IOp := [⟨some 16, .mv, [.t 1], none⟩,
  ⟨some 17, .call 14, [.t 16, .c (.int .i64 1500)], none⟩,
  ⟨some 18, .bin .add, [.c (.int .i64 1), .t 17], none⟩,
  ⟨some 6, .mv, [.t 18], none⟩]
def a5r3 : List IOp := [⟨some 20, .mv, [.t 5], none⟩,
  ⟨some 21, .mv, [.t 6], none⟩,
  ⟨some 22, .call 15, [.t 20, .t 21], none⟩,
  ⟨some 19, .mv, [.t 22], none⟩,
  ⟨some 23, .extract 0, [.t 19], none⟩,
  ⟨some 24, .extract 1, [.t 19], none⟩,
  ⟨some 25, .extract 2, [.t 19], none⟩,
  ⟨some 7, .mv, [.t 23], none⟩,
  ⟨some 8, .mv, [.t 24], none⟩,
  ⟨some 9, .mv, [.t 25], none⟩]
def a5r4 : List IOp := [⟨some 26, .mv, [.t 9], none⟩,
  ⟨some 27, .bin .neq, [.t 26, .c (.int .i64 0)], none⟩,
  ⟨some 28, .mv, [.t 27], none⟩,
  ⟨some 29, .mv, [.t 7], some (28, false)⟩,
  ⟨some 30, .call 16, [.t 29], some (28, false)⟩,
  ⟨some 31, .bin .neq, [.t 30, .c (.int .i64 0)], some (28, false)⟩,
  ⟨some 32, .pick, [.t 28, .c (.bool true), .t 31], none⟩]
def a5r5 : List IOp := [⟨some 4, .mv, [.c (.bool false)], none⟩]
def a5r6 : List IOp := [⟨some 10, .mv, [.c (.int .i64 0)], none⟩]
def a5r7 : List IOp := [⟨some 33, .mv, [.t 10], none⟩,
  ⟨some 34, .mv, [.t 7], none⟩,
  ⟨some 35, .len, [.t 34], none⟩,
  ⟨some 36, .bin .lss, [.t 33, .t 35], none⟩]
def a5r8 : List (Nat × DOp) := [(0, ⟨⟨some 39, .mv, [.t 7], none⟩, none, [1, 6, 7, 8, 9, 10, 11, 13]⟩),
  (1, ⟨⟨some 40, .mv, [.t 10], none⟩, none, [0, 6, 7, 8, 9, 10, 11, 13]⟩),
  (2, ⟨⟨some 41, .indexAddr 3, [.t 39, .t 40], none⟩, none, [6, 7, 8, 9, 10, 11, 13]⟩),
  (3, ⟨⟨some 42, .fieldAddr 0, [.t 41], none⟩, none, [6, 7, 8, 9, 10, 11, 13]⟩),
  (4, ⟨⟨some 43, .fieldAddr 1, [.t 42], none⟩, none, [6, 7, 8, 9, 10, 11, 13]⟩),
  (5, ⟨⟨some 44, .load1, [.t 43], none⟩, none, [6, 7, 8, 9, 10, 11, 13]⟩),
  (6, ⟨⟨some 45, .mv, [.t 7], none⟩, none, [0, 1, 2, 3, 4, 5, 7, 13]⟩),
  (7, ⟨⟨some 46, .mv, [.t 10], none⟩, none, [0, 1, 2, 3, 4, 5, 6, 13]⟩),
  (8, ⟨⟨some 47, .indexAddr 3, [.t 45, .t 46], none⟩, none, [0, 1, 2, 3, 4, 5, 13]⟩),
  (9, ⟨⟨some 48, .fieldAddr 0, [.t 47], none⟩, none, [0, 1, 2, 3, 4, 5, 13]⟩),
  (10, ⟨⟨some 49, .fieldAddr 0, [.t 48], none⟩, none, [0, 1, 2, 3, 4, 5, 13]⟩),
  (11, ⟨⟨some 50, .load1, [.t 49], none⟩, none, [0, 1, 2, 3, 4, 5, 13]⟩),
  (12, ⟨⟨some 51, .bin .sub, [.t 44, .t 50], none⟩, none, [13]⟩),
  (13, ⟨⟨some 52, .mv, [.t 6], none⟩, none, [0, 1, 2, 3, 4, 5, 6, 7, 8, 9, 10, 11, 12]⟩),
  (14, ⟨⟨some 53, .bin .gtr, [.t 51, .t 52], none⟩, none, []⟩),
  (15, ⟨⟨some 54, .mv, [.t 53], none⟩, none, []⟩),
  (16, ⟨⟨some 55, .mv, [.t 5], some (54, false)⟩, none, [17, 18, 19, 20, 21, 22]⟩),
  (17, ⟨⟨some 56, .mv, [.t 7], some (54, false)⟩, none, [16, 18]⟩),
  (18, ⟨⟨some 57, .mv, [.t 10], some (54, false)⟩, none, [16, 17]⟩),
  (19, ⟨⟨some 58, .indexAddr 3, [.t 56, .t 57], some (54, false)⟩, none, [16]⟩),
  (20, ⟨⟨some 59, .fieldAddr 0, [.t 58], some (54, false)⟩, none, [16]⟩),
  (21, ⟨⟨some 60, .fieldAddr 0, [.t 59], some (54, false)⟩, none, [16]⟩),
  (22, ⟨⟨some 61, .load1, [.t 60], some (54, false)⟩, none, [16]⟩),
  (23, ⟨⟨some 62, .call 26, [.t 55, .t 61, .c (.int .i64 1)], some (54, false)⟩, none, []⟩),
  (24, ⟨⟨some 63, .not, [.t 62], some (54, false)⟩, none, []⟩),
  (25, ⟨⟨some 64, .pick, [.t 54, .c (.bool true), .t 63], none⟩, none, []⟩),
  (26, ⟨⟨some 65, .mv, [.t 64], none⟩, none, []⟩),
  (27, ⟨⟨some 66, .mv, [.t 5], some (65, false)⟩, none, [28, 29, 30, 31, 32, 33]⟩),
  (28, ⟨⟨some 67, .mv, [.t 7], some (65, false)⟩, none, [27, 29]⟩),
  (29, ⟨⟨some 68, .mv, [.t 10], some (65, false)⟩, none, [27, 28]⟩),
  (30, ⟨⟨some 69, .indexAddr 3, [.t 67, .t 68], some (65, false)⟩, none, [27]⟩),
  (31, ⟨⟨some 70, .fieldAddr 0, [.t 69], some (65, false)⟩, none, [27]⟩),
  (32, ⟨⟨some 71, .fieldAddr 1, [.t 70], some (65, false)⟩, none, [27]⟩),
  (33, ⟨⟨some 72, .load1, [.t 71], some (65, false)⟩, none, [27]⟩),
  (34, ⟨⟨some 73, .call 26, [.t 66, .t 72, .c (.int .i64 2)], some (65, false)⟩, none, []⟩),
  (35, ⟨⟨some 74, .not, [.t 73], some (65, false)⟩, none, []⟩),
  (36, ⟨⟨some 75, .pick, [.t 65, .c (.bool true), .t 74], none⟩, none, []⟩)]
def a5r9 : List IOp := [⟨some 4, .mv, [.c (.bool false)], none⟩]
def a5r10 : List IOp := [⟨some 11, .mv, [.c (.int .i64 0)], none⟩]
def a5r11 : List IOp := [⟨some 76, .mv, [.t 11], none⟩,
  ⟨some 77, .mv, [.t 7], none⟩,
  ⟨some 78, .mv, [.t 10], none⟩,
  ⟨some 79, .indexAddr 3, [.t 77, .t 78], none⟩,
  ⟨some 80, .fieldAddr 2, [.t 79], none⟩,
  ⟨some 81, .load1, [.t 80], none⟩,
  ⟨some 82, .len, [.t 81], none⟩,
  ⟨some 83, .bin .lss, [.t 76, .t 82], none⟩]
def a5r12 : List IOp := [⟨some 86, .mv, [.t 7], none⟩,
  ⟨some 87, .mv, [.t 10], none⟩,
  ⟨some 88, .indexAddr 3, [.t 86, .t 87], none⟩,
  ⟨some 89, .fieldAddr 2, [.t 88], none⟩,
  ⟨some 90, .load1, [.t 89], none⟩,
  ⟨some 91, .mv, [.t 11], none⟩,
  ⟨some 92, .indexAddr 2, [.t 90, .t 91], none⟩,
  ⟨some 93, .loadA 2, [.t 92], none⟩,
  ⟨some 12, .alloc 26 [.int .i64 0, .int .i64 0], [], none⟩,
  ⟨none, .store 2, [.t 12, .t 93], none⟩]
def a5r13 : List (Nat × DOp) := [(0, ⟨⟨some 94, .mv, [.t 5], none⟩, none, [1, 2]⟩),
  (1, ⟨⟨some 95, .fieldAddr 0, [.t 12], none⟩, none, [0]⟩),
  (2, ⟨⟨some 96, .load1, [.t 95], none⟩, none, [0]⟩),
  (3, ⟨⟨some 97, .call 26, [.t 94, .t 96, .c (.int .i64 3)], none⟩, none, []⟩),
  (4, ⟨⟨some 98, .not, [.t 97], none⟩, none, []⟩),
  (5, ⟨⟨some 99, .mv, [.t 98], none⟩, none, []⟩),
  (6, ⟨⟨some 100, .mv, [.t 5], some (99, false)⟩, none, [7, 8]⟩),
  (7, ⟨⟨some 101, .fieldAddr 1, [.t 12], some (99, false)⟩, none, [6]⟩),
  (8, ⟨⟨some 102, .load1, [.t 101], some (99, false)⟩, none, [6]⟩),
  (9, ⟨⟨some 103, .call 26, [.t 100, .t 102, .c (.int .i64 4)], some (99, false)⟩, none, []⟩),
  (10, ⟨⟨some 104, .not, [.t 103], some (99, false)⟩, none, []⟩),
  (11, ⟨⟨some 105, .mv, [.t 104], some (99, false)⟩, none, []⟩),
  (12, ⟨⟨some 106, .fieldAddr 1, [.t 12], some (105, true)⟩, none, [14, 15, 16, 17, 18, 19]⟩),
  (13, ⟨⟨some 107, .load1, [.t 106], some (105, true)⟩, none, [14, 15, 16, 17, 18, 19]⟩),
  (14, ⟨⟨some 108, .mv, [.t 7], some (105, true)⟩, none, [12, 13, 15]⟩),
  (15, ⟨⟨some 109, .mv, [.t 10], some (105, true)⟩, none, [12, 13, 14]⟩),
  (16, ⟨⟨some 110, .indexAddr 3, [.t 108, .t 109], some (105, true)⟩, none, [12, 13]⟩),
  (17, ⟨⟨some 111, .fieldAddr 0, [.t 110], some (105, true)⟩, none, [12, 13]⟩),
  (18, ⟨⟨some 112, .fieldAddr 1, [.t 111], some (105, true)⟩, none, [12, 13]⟩),
  (19, ⟨⟨some 113, .load1, [.t 112], some (105, true)⟩, none, [12, 13]⟩),
  (20, ⟨⟨some 114, .bin .neq, [.t 107, .t 113], some (105, true)⟩, none, []⟩),
  (21, ⟨⟨some 115, .pick, [.t 105, .t 114, .c (.bool false)], some (99, false)⟩, none, []⟩),
  (22, ⟨⟨some 116, .pick, [.t 99, .c (.bool true), .t 115], none⟩, none, []⟩)]
def a5r14 : List IOp := [⟨some 4, .mv, [.c (.bool false)], none⟩]
def a5r15 : List IOp := [⟨some 84, .mv, [.t 11], none⟩,
  ⟨some 85, .bin .add, [.t 84, .c (.int .i64 1)], none⟩,
  ⟨some 11, .mv, [.t 85], none⟩]
def a5r16 : List IOp := [⟨some 37, .mv, [.t 10], none⟩,
  ⟨some 38, .bin .add, [.t 37, .c (.int .i64 1)], none⟩,
  ⟨some 10, .mv, [.t 38], none⟩]
def a5r17 : List IOp := [⟨some 117, .mv, [.t 7], none⟩,
  ⟨some 118, .len, [.t 117], none⟩,
  ⟨some 119, .mv, [.t 8], none⟩,
  ⟨some 120, .len, [.t 119], none⟩,
  ⟨some 121, .bin .add, [.t 118, .t 120], none⟩,
  ⟨some 122, .mv, [.t 5], none⟩,
  ⟨some 123, .len, [.t 122], none⟩,
  ⟨some 124, .bin .mul, [.c (.int .i64 2), .t 123], none⟩,
  ⟨some 125, .bin .leq, [.t 121, .t 124], none⟩,
  ⟨some 126, .mv, [.t 125], none⟩,
  ⟨some 127, .call 19, [], some (126, true)⟩,
  ⟨some 128, .pick, [.t 126, .t 127, .c (.bool false)], none⟩,
  ⟨some 4, .mv, [.t 128], none⟩]
def a5 : AFunc := ⟨129, [.tmp 4], (.seq (.region a5r0 [0, 1]) (.seq (.region a5r1 [1, 5]) (.seq (.region a5r2 [5, 6]) (.seq (.region a5r3 [5, 6, 7, 8, 9]) (.seq (.seq (.region a5r4 [5, 6, 7, 8, 32]) (.cond (.t 32) (.seq (.region a5r5 [4]) .ret) .skip)) (.seq (.seq (.region a5r6 [5, 6, 7, 8, 10]) (.block 0 (.loop (.seq (.seq (.region a5r7 [5, 6, 7, 8, 10, 36]) (.cond (.t 36) .skip (.exit 0))) (.seq (.block 1 (.seq (.seq (.draw a5r8 [] [5, 6, 7, 8, 10, 75]) (.cond (.t 75) (.seq (.region a5r9 [4]) .ret) .skip)) (.seq (.region a5r10 [5, 6, 7, 8, 10, 11]) (.block 2 (.loop (.seq (.seq (.region a5r11 [5, 6, 7, 8, 10, 11, 83]) (.cond (.t 83) .skip (.exit 2))) (.seq (.block 3 (.seq (.region a5r12 [5, 6, 7, 8, 10, 11, 12]) (.seq (.draw a5r13 [] [5, 6, 7, 8, 10, 11, 116]) (.cond (.t 116) (.seq (.region a5r14 [4]) .ret) .skip)))) (.region a5r15 [5, 6, 7, 8, 10, 11])))))))) (.region a5r16 [5, 6, 7, 8, 10])))))) (.seq (.region a5r17 [4]) .ret)))))))⟩
theorem a5_ok : compileF Try.prog (lk [(0, ⟨[0, 1], [], []⟩), (1, ⟨[1, 5], [], []⟩), (2, ⟨[5, 6], [], []⟩), (3, ⟨[5, 6, 7, 8, 9], [], []⟩), (4, ⟨[5, 6, 7, 8, 32], [], []⟩), (5, ⟨[4], [], []⟩), (6, ⟨[5, 6, 7, 8, 10], [], []⟩), (7, ⟨[5, 6, 7, 8, 10, 36], [], []⟩), (8, ⟨[5, 6, 7, 8, 10], [], []⟩), (9, ⟨[5, 6, 7, 8, 10, 75], [[], [], [0, 1], [2, 0, 1], [3, 2, 0, 1], [4, 3, 2, 0, 1], [], [], [6, 7], [8, 6, 7], [9, 8, 6, 7], [10, 9, 8, 6, 7], [5, 11, 4, 3, 2, 0, 1, 10, 9, 8, 6, 7], [], [12, 13, 5, 11, 4, 3, 2, 0, 1, 10, 9, 8, 6, 7], [14, 12, 13, 5, 11, 4, 3, 2, 0, 1, 10, 9, 8, 6, 7], [15, 14, 12, 13, 5, 11, 4, 3, 2, 0, 1, 10, 9, 8, 6, 7], [15, 14, 12, 13, 5, 11, 4, 3, 2, 0, 1, 10, 9, 8, 6, 7], [15, 14, 12, 13, 5, 11, 4, 3, 2, 0, 1, 10, 9, 8, 6, 7], [17, 18, 15, 14, 12, 13, 5, 11, 4, 3, 2, 0, 1, 10, 9, 8, 6, 7], [19, 15, 17, 18, 14, 12, 13, 5, 11, 4, 3, 2, 0, 1, 10, 9, 8, 6, 7], [20, 15, 19, 17, 18, 14, 12, 13, 5, 11, 4, 3, 2, 0, 1, 10, 9, 8, 6, 7], [21, 15, 20, 19, 17, 18, 14, 12, 13, 5, 11, 4, 3, 2, 0, 1, 10, 9, 8, 6, 7], [16, 22, 15, 14, 12, 13, 5, 11, 4, 3, 2, 0, 1, 10, 9, 8, 6, 7, 21, 20, 19, 17, 18], [23, 15, 16, 22, 14, 12, 13, 5, 11, 4, 3, 2, 0, 1, 10, 9, 8, 6, 7, 21, 20, 19, 17, 18], [15, 24, 14, 12, 13, 5, 11, 4, 3, 2, 0, 1, 10, 9, 8, 6, 7, 23, 16, 22, 21, 20, 19, 17, 18], [25, 23, 15, 24, 14, 12, 13, 5, 11, 4, 3, 2, 0, 1, 10, 9, 8, 6, 7, 16, 22, 21, 20, 19, 17, 18], [26, 25, 23, 15, 24, 14, 12, 13, 5, 11, 4, 3, 2, 0, 1, 10, 9, 8, 6, 7, 16, 22, 21, 20, 19, 17, 18], [26, 25, 23, 15, 24, 14, 12, 13, 5, 11, 4, 3, 2, 0, 1, 10, 9, 8, 6, 7, 16, 22, 21, 20, 19, 17, 18], [26, 25, 23, 15, 24, 14, 12, 13, 5, 11, 4, 3, 2, 0, 1, 10, 9, 8, 6, 7, 16, 22, 21, 20, 19, 17, 18], [28, 29, 26, 25, 23, 15, 24, 14, 12, 13, 5, 11, 4, 3, 2, 0, 1, 10, 9, 8, 6, 7, 16, 22, 21, 20, 19, 17, 18], [30, 26, 28, 29, 25, 23, 15, 24, 14, 12, 13, 5, 11, 4, 3, 2, 0, 1, 10, 9, 8, 6, 7, 16, 22, 21, 20, 19, 17, 18], [31, 26, 30, 28, 29, 25, 23, 15, 24, 14, 12, 13, 5, 11, 4, 3, 2, 0, 1, 10, 9, 8, 6, 7, 16, 22, 21, 20, 19, 17, 18], [32, 26, 31, 30, 28, 29, 25, 23, 15, 24, 14, 12, 13, 5, 11, 4, 3, 2, 0, 1, 10, 9, 8, 6, 7, 16, 22, 21, 20, 19, 17, 18], [27, 33, 26, 25, 23, 15, 24, 14, 12, 13, 5, 11, 4, 3, 2, 0, 1, 10, 9, 8, 6, 7, 16, 22, 21, 20, 19, 17, 18, 32, 31, 30, 28, 29], [34, 26, 27, 33, 25, 23, 15, 24, 14, 12, 13, 5, 11, 4, 3, 2, 0, 1, 10, 9, 8, 6, 7, 16, 22, 21, 20, 19, 17, 18, 32, 31, 30, 28, 29], [26, 35, 25, 23, 15, 24, 14, 12, 13, 5, 11, 4, 3, 2, 0, 1, 10, 9, 8, 6, 7, 16, 22, 21, 20, 19, 17, 18, 34, 27, 33, 32, 31, 30, 28, 29]], [0, 1, 2, 3, 4, 5, 6, 7, 8, 9, 10, 11, 12, 13, 14, 15, 16, 17, 18, 19, 20, 21, 22, 23, 24, 25, 26, 27, 28, 29, 30, 31, 32, 33, 34, 35, 36]⟩), (10, ⟨[4], [], []⟩), (11, ⟨[5, 6, 7, 8, 10, 11], [], []⟩), (12, ⟨[5, 6, 7, 8, 10, 11, 83], [], []⟩), (13, ⟨[5, 6, 7, 8, 10, 11], [], []⟩), (14, ⟨[5, 6, 7, 8, 10, 11, 12], [], []⟩), (15, ⟨[5, 6, 7, 8, 10, 11, 116], [[], [], [1], [0, 2, 1], [3, 0, 2, 1], [4, 3, 0, 2, 1], [5, 4, 3, 0, 2, 1], [5, 4, 3, 0, 2, 1], [7, 5, 4, 3, 0, 2, 1], [6, 8, 5, 4, 3, 0, 2, 1, 7], [9, 5, 6, 8, 4, 3, 0, 2, 1, 7], [10, 9, 5, 6, 8, 4, 3, 0, 2, 1, 7], [11, 10, 9, 5, 6, 8, 4, 3, 0, 2, 1, 7], [12, 11, 10, 9, 5, 6, 8, 4, 3, 0, 2, 1, 7], [11, 10, 9, 5, 6, 8, 4, 3, 0, 2, 1, 7], [11, 10, 9, 5, 6, 8, 4, 3, 0, 2, 1, 7], [14, 15, 11, 10, 9, 5, 6, 8, 4, 3, 0, 2, 1, 7], [16, 11, 14, 15, 10, 9, 5, 6, 8, 4, 3, 0, 2, 1, 7], [17, 11, 16, 14, 15, 10, 9, 5, 6, 8, 4, 3, 0, 2, 1, 7], [18, 11, 17, 16, 14, 15, 10, 9, 5, 6, 8, 4, 3, 0, 2, 1, 7], [13, 19, 11, 12, 10, 9, 5, 6, 8, 4, 3, 0, 2, 1, 7, 18, 17, 16, 14, 15], [11, 20, 5, 10, 9, 6, 8, 4, 3, 0, 2, 1, 7, 13, 19, 12, 18, 17, 16, 14, 15], [5, 21, 4, 3, 0, 2, 1, 11, 20, 10, 9, 6, 8, 7, 13, 19, 12, 18, 17, 16, 14, 15]], [0, 1, 2, 3, 4, 5, 6, 7, 8, 9, 10, 11, 12, 13, 14, 15, 16, 17, 18, 19, 20, 21, 22]⟩), (16, ⟨[4], [], []⟩), (17, ⟨[4], [], []⟩)]) Try.f5 = some a5 := by kernel_rfl

/- payroll/payrolllaw9.PresenceComesBack -/
def a6r0 : List IOp := [⟨some 2, .mv, [.c (.bool false)], none⟩]
def a6r1 : List IOp := [⟨some 7, .mv, [.t 0], none⟩,
  ⟨some 8, .call 20, [.t 7], none⟩,
  ⟨some 9, .call 21, [.t 8, .c (.int .i64 6)], none⟩,
  ⟨some 3, .mv, [.t 9], none⟩]
def a6r2 : List IOp := [⟨some 11, .mv, [.t 3], none⟩,
  ⟨some 12, .call 27, [.t 11], none⟩,
  ⟨some 13, .call 15, [.t 12, .c (.int .i64 10080)], none⟩,
  ⟨some 10, .mv, [.t 13], none⟩,
  ⟨some 14, .extract 0, [.t 10], none⟩,
  ⟨some 15, .extract 1, [.t 10], none⟩,
  ⟨some 16, .extract 2, [.t 10], none⟩,
  ⟨some 4, .mv, [.t 14], none⟩,
  ⟨some 5, .mv, [.t 15], none⟩,
  ⟨some 6, .mv, [.t 16], none⟩]
def a6r3 : List IOp := [⟨some 17, .mv, [.t 6], none⟩,
  ⟨some 18, .bin .eql, [.t 17, .c (.int .i64 0)], none⟩,
  ⟨some 19, .mv, [.t 18], none⟩,
  ⟨some 20, .mv, [.t 5], some (19, true)⟩,
  ⟨some 21, .len, [.t 20], some (19, true)⟩,
  ⟨some 22, .bin .eql, [.t 21, .c (.int .i64 0)], some (19, true)⟩,
  ⟨some 23, .pick, [.t 19, .t 22, .c (.bool false)], none⟩,
  ⟨some 24, .mv, [.t 23], none⟩,
  ⟨some 25, .mv, [.t 4], some (24, true)⟩,
  ⟨some 26, .mv, [.t 3], some (24, true)⟩,
  ⟨some 27, .call 28, [.t 25, .t 26], some (24, true)⟩,
  ⟨some 28, .pick, [.t 24, .t 27, .c (.bool false)], none⟩,
  ⟨some 29, .mv, [.t 28], none⟩,
  ⟨some 30, .call 19, [], some (29, true)⟩,
  ⟨some 31, .pick, [.t 29, .t 30, .c (.bool false)], none⟩,
  ⟨some 2, .mv, [.t 31], none⟩]
def a6 : AFunc := ⟨32, [.tmp 2], (.seq (.region a6r0 [0]) (.seq (.region a6r1 [3]) (.seq (.region a6r2 [3, 4, 5, 6]) (.seq (.region a6r3 [2]) .ret))))⟩
theorem a6_ok : compileF Try.prog (lk [(0, ⟨[0], [], []⟩), (1, ⟨[3], [], []⟩), (2, ⟨[3, 4, 5, 6], [], []⟩), (3, ⟨[2], [], []⟩)]) Try.f6 = some a6 := by kernel_rfl

/- payroll/payrollgen.Mod -/
def a14r0 : List IOp := [⟨some 4, .mv, [.c (.int .i64 0)], none⟩]
def a14r1 : List IOp := [⟨some 6, .mv, [.t 0], none⟩,
  ⟨some 7, .mv, [.t 1], none⟩,
  ⟨some 8, .bin .rem, [.t 6, .t 7], none⟩,
  ⟨some 5, .mv, [.t 8], none⟩]
def a14r2 : List IOp := [⟨some 9, .mv, [.t 5], none⟩,
  ⟨some 10, .bin .lss, [.t 9, .c (.int .i64 0)], none⟩]
def a14r3 : List IOp := [⟨some 11, .mv, [.t 5], none⟩,
  ⟨some 12, .mv, [.t 1], none⟩,
  ⟨some 13, .bin .add, [.t 11, .t 12], none⟩,
  ⟨some 5, .mv, [.t 13], none⟩]
def a14r4 : List IOp := [⟨some 14, .mv, [.t 5], none⟩,
  ⟨some 4, .mv, [.t 14], none⟩]
def a14 : AFunc := ⟨15, [.tmp 4], (.seq (.region a14r0 [0, 1]) (.seq (.region a14r1 [1, 5]) (.seq (.seq (.region a14r2 [1, 5, 10]) (.cond (.t 10) (.region a14r3 [5]) .skip)) (.seq (.region a14r4 [4]) .ret))))⟩
theorem a14_ok : compileF Try.prog (lk [(0, ⟨[0, 1], [], []⟩), (1, ⟨[1, 5], [], []⟩), (2, ⟨[1, 5, 10], [], []⟩), (3, ⟨[5], [], []⟩), (4, ⟨[4], [], []⟩)]) Try.f14 = some a14 := by kernel_rfl

/- payroll/presence.Pair -/
def a15r0 : List IOp := [⟨some 4, .mv, [.c (.nils)], none⟩,
  ⟨some 5, .mv, [.c (.nils)], none⟩,
  ⟨some 6, .mv, [.c (.int .i64 0)], none⟩]
def a15r1 : List IOp := [⟨some 11, .mv, [.t 0], none⟩,
  ⟨some 12, .mv, [.t 1], none⟩,
  ⟨some 13, .call 47, [.t 11, .t 12], none⟩,
  ⟨some 7, .mv, [.t 13], none⟩]
def a15r2 : List IOp := [⟨some 14, .mv, [.t 7], none⟩,
  ⟨some 15, .bin .neq, [.t 14, .c (.int .i64 0)], none⟩]
def a15r3 : List IOp := [⟨some 16, .mv, [.t 7], none⟩,
  ⟨some 4, .mv, [.c (.nils)], none⟩,
  ⟨some 5, .mv, [.c (.nils)], none⟩,
  ⟨some 6, .mv, [.t 16], none⟩]
def a15r4 : List IOp := [⟨some 17, .mv, [.t 1], none⟩,
  ⟨some 18, .build [.int .i64 0, .int .i64 0, .int .i64 0, .int .i64 0, .nils, .nils, .nils] [(0, 1)], [.t 17], none⟩,
  ⟨some 8, .alloc 93 [.int .i64 0, .int .i64 0, .int .i64 0, .int .i64 0, .nils, .nils, .nils], [], none⟩,
  ⟨none, .store 7, [.t 8, .t 18], none⟩]
def a15r5 : List IOp := [⟨some 19, .mv, [.t 0], none⟩,
  ⟨some 20, .len, [.t 19], none⟩,
  ⟨some 21, .mv, [.c (.int .i64 0)], none⟩]
def a15r6 : List IOp := [⟨some 22, .bin .lss, [.t 21, .t 20], none⟩]
def a15r7 : List IOp := [⟨some 23, .indexAddr 4, [.t 19, .t 21], none⟩,
  ⟨some 24, .loadA 4, [.t 23], none⟩,
  ⟨some 10, .alloc 34 [.int .i64 0, .int .i64 0, .int .i64 0, .int .i64 0], [], none⟩,
  ⟨none, .store 4, [.t 10, .t 24], none⟩]
def a15r8 : List IOp := [⟨some 25, .loadA 4, [.t 10], none⟩,
  ⟨some 26, .call 48, [.t 8, .t 25], none⟩]
def a15r9 : List IOp := [⟨some 27, .bin .add, [.t 21, .c (.int .i64 1)], none⟩,
  ⟨some 21, .mv, [.t 27], none⟩]
def a15r10 : List IOp := [⟨some 28, .fieldAddr 1, [.t 8], none⟩,
  ⟨some 29, .load1, [.t 28], none⟩,
  ⟨some 30, .bin .neq, [.t 29, .c (.int .i64 0)], none⟩]
def a15r11 : List IOp := [⟨some 31, .fieldAddr 2, [.t 8], none⟩,
  ⟨some 32, .load1, [.t 31], none⟩,
  ⟨some 33, .call 49, [.t 8, .c (.int .i64 1), .t 32], none⟩]
def a15r12 : List (Nat × DOp) := [(0, ⟨⟨some 34, .fieldAddr 5, [.t 8], none⟩, none, [2, 3]⟩),
  (1, ⟨⟨some 35, .load1, [.t 34], none⟩, none, [2, 3]⟩),
  (2, ⟨⟨some 36, .fieldAddr 6, [.t 8], none⟩, none, [0, 1, 4]⟩),
  (3, ⟨⟨some 37, .load1, [.t 36], none⟩, none, [0, 1, 4]⟩),
  (4, ⟨⟨some 4, .mv, [.t 35], none⟩, none, [2, 3]⟩),
  (5, ⟨⟨some 5, .mv, [.t 37], none⟩, none, []⟩),
  (6, ⟨⟨some 6, .mv, [.c (.int .i64 0)], none⟩, none, []⟩)]
def a15 : AFunc := ⟨38, [.tmp 4, .tmp 5, .tmp 6], (.seq (.region a15r0 [0, 1]) (.seq (.seq (.region a15r1 [0, 1, 7]) (.seq (.region a15r2 [0, 1, 7, 15]) (.cond (.t 15) (.seq (.region a15r3 [4, 5, 6]) .ret) .skip))) (.seq (.region a15r4 [0, 8]) (.seq (.seq (.region a15r5 [8, 19, 20, 21]) (.block 0 (.loop (.seq (.region a15r6 [8, 19, 20, 21, 22]) (.seq (.cond (.t 22) .skip (.exit 0)) (.seq (.block 1 (.seq (.region a15r7 [8, 10, 19, 20, 21]) (.region a15r8 [8, 19, 20, 21]))) (.region a15r9 [8, 19, 20, 21]))))))) (.seq (.seq (.region a15r10 [8, 30]) (.cond (.t 30) (.region a15r11 [8]) .skip)) (.seq (.draw a15r12 [] [4, 5, 6]) .ret))))))⟩
theorem a15_ok : compileF Try.prog (lk [(0, ⟨[0, 1], [], []⟩), (1, ⟨[0, 1, 7], [], []⟩), (2, ⟨[0, 1, 7, 15], [], []⟩), (3, ⟨[4, 5, 6], [], []⟩), (4, ⟨[0, 8], [], []⟩), (5, ⟨[8, 19, 20, 21], [], []⟩), (6, ⟨[8, 19, 20, 21, 22], [], []⟩), (7, ⟨[8, 10, 19, 20, 21], [], []⟩), (8, ⟨[8, 19, 20, 21], [], []⟩), (9, ⟨[8, 19, 20, 21], [], []⟩), (10, ⟨[8, 30], [], []⟩), (11, ⟨[8], [], []⟩), (12, ⟨[4, 5, 6], [[], [0], [], [2], [1, 0], [3, 4, 0, 1, 2], [5, 0, 1, 2, 3, 4]], [0, 1, 2, 3, 4, 5, 6]⟩)]) Try.f15 = some a15 := by kernel_rfl

/- payroll/presence.Valid -/
def a16r0 : List IOp := [⟨some 2, .mv, [.c (.int .i64 0)], none⟩]
def a16r1 : List IOp := [⟨some 8, .mv, [.t 0], none⟩,
  ⟨some 9, .len, [.t 8], none⟩,
  ⟨some 10, .bin .gtr, [.t 9, .c (.int .i64 1024)], none⟩]
def a16r2 : List IOp := [⟨some 2, .mv, [.c (.int .i64 1)], none⟩]
def a16r3 : List IOp := [⟨some 3, .mv, [.c (.int .i64 0)], none⟩]
def a16r4 : List IOp := [⟨some 11, .mv, [.t 0], none⟩,
  ⟨some 12, .len, [.t 11], none⟩,
  ⟨some 13, .mv, [.c (.int .i64 0)], none⟩]
def a16r5 : List IOp := [⟨some 14, .bin .lss, [.t 13, .t 12], none⟩]
def a16r6 : List IOp := [⟨some 15, .indexAddr 3, [.t 11, .t 13], none⟩,
  ⟨some 16, .loadA 3, [.t 15], none⟩,
  ⟨some 5, .alloc 29 [.int .i64 0, .int .i64 0, .nils], [], none⟩,
  ⟨none, .store 3, [.t 5, .t 16], none⟩]
def a16r7 : List IOp := [⟨some 17, .fieldAddr 0, [.t 5], none⟩,
  ⟨some 18, .loadA 2, [.t 17], none⟩,
  ⟨some 19, .mv, [.t 3], none⟩,
  ⟨some 20, .call 50, [.t 18, .t 19, .c (.int .i64 120968640)], none⟩,
  ⟨some 21, .not, [.t 20], none⟩,
  ⟨some 22, .mv, [.t 21], none⟩,
  ⟨some 23, .fieldAddr 2, [.t 5], some (22, false)⟩,
  ⟨some 24, .load1, [.t 23], some (22, false)⟩,
  ⟨some 25, .len, [.t 24], some (22, false)⟩,
  ⟨some 26, .bin .gtr, [.t 25, .c (.int .i64 1024)], some (22, false)⟩,
  ⟨some 27, .pick, [.t 22, .c (.bool true), .t 26], none⟩]
def a16r8 : List IOp := [⟨some 2, .mv, [.c (.int .i64 1)], none⟩]
def a16r9 : List IOp := [⟨some 28, .fieldAddr 0, [.t 5], none⟩,
  ⟨some 29, .fieldAddr 0, [.t 28], none⟩,
  ⟨some 30, .load1, [.t 29], none⟩,
  ⟨some 3, .mv, [.t 30], none⟩]
def a16r10 : List IOp := [⟨some 31, .fieldAddr 2, [.t 5], none⟩,
  ⟨some 32, .load1, [.t 31], none⟩,
  ⟨some 33, .len, [.t 32], none⟩,
  ⟨some 34, .mv, [.c (.int .i64 0)], none⟩]
def a16r11 : List IOp := [⟨some 35, .bin .lss, [.t 34, .t 33], none⟩]
def a16r12 : List IOp := [⟨some 36, .indexAddr 2, [.t 32, .t 34], none⟩,
  ⟨some 37, .loadA 2, [.t 36], none⟩,
  ⟨some 7, .alloc 26 [.int .i64 0, .int .i64 0], [], none⟩,
  ⟨none, .store 2, [.t 7, .t 37], none⟩]
def a16r13 : List IOp := [⟨some 38, .loadA 2, [.t 7], none⟩,
  ⟨some 39, .mv, [.t 3], none⟩,
  ⟨some 40, .fieldAddr 0, [.t 5], none⟩,
  ⟨some 41, .fieldAddr 1, [.t 40], none⟩,
  ⟨some 42, .load1, [.t 41], none⟩,
  ⟨some 43, .call 50, [.t 38, .t 39, .t 42], none⟩,
  ⟨some 44, .not, [.t 43], none⟩]
def a16r14 : List IOp := [⟨some 2, .mv, [.c (.int .i64 1)], none⟩]
def a16r15 : List IOp := [⟨some 45, .fieldAddr 1, [.t 7], none⟩,
  ⟨some 46, .load1, [.t 45], none⟩,
  ⟨some 3, .mv, [.t 46], none⟩]
def a16r16 : List IOp := [⟨some 47, .bin .add, [.t 34, .c (.int .i64 1)], none⟩,
  ⟨some 34, .mv, [.t 47], none⟩]
def a16r17 : List IOp := [⟨some 48, .fieldAddr 0, [.t 5], none⟩,
  ⟨some 49, .fieldAddr 1, [.t 48], none⟩,
  ⟨some 50, .load1, [.t 49], none⟩,
  ⟨some 3, .mv, [.t 50], none⟩]
def a16r18 : List IOp := [⟨some 51, .bin .add, [.t 13, .c (.int .i64 1)], none⟩,
  ⟨some 13, .mv, [.t 51], none⟩]
def a16r19 : List IOp := [⟨some 2, .mv, [.c (.int .i64 0)], none⟩]
def a16 : AFunc := ⟨52, [.tmp 2], (.seq (.region a16r0 [0]) (.seq (.seq (.region a16r1 [0, 10]) (.cond (.t 10) (.seq (.region a16r2 [2]) .ret) .skip)) (.seq (.region a16r3 [0, 3]) (.seq (.seq (.region a16r4 [3, 11, 12, 13]) (.block 0 (.loop (.seq (.region a16r5 [3, 11, 12, 13, 14]) (.seq (.cond (.t 14) .skip (.exit 0)) (.seq (.block 1 (.seq (.region a16r6 [3, 5, 11, 12, 13]) (.seq (.seq (.region a16r7 [5, 11, 12, 13, 27]) (.cond (.t 27) (.seq (.region a16r8 [2]) .ret) .skip)) (.seq (.region a16r9 [3, 5, 11, 12, 13]) (.seq (.seq (.region a16r10 [3, 5, 11, 12, 13, 32, 33, 34]) (.block 2 (.loop (.seq (.region a16r11 [3, 5, 11, 12, 13, 32, 33, 34, 35]) (.seq (.cond (.t 35) .skip (.exit 2)) (.seq (.block 3 (.seq (.region a16r12 [3, 5, 7, 11, 12, 13, 32, 33, 34]) (.seq (.seq (.region a16r13 [5, 7, 11, 12, 13, 32, 33, 34, 44]) (.cond (.t 44) (.seq (.region a16r14 [2]) .ret) .skip)) (.region a16r15 [3, 5, 11, 12, 13, 32, 33, 34])))) (.region a16r16 [3, 5, 11, 12, 13, 32, 33, 34]))))))) (.region a16r17 [3, 11, 12, 13])))))) (.region a16r18 [3, 11, 12, 13]))))))) (.seq (.region a16r19 [2]) .ret)))))⟩
theorem a16_ok : compileF Try.prog (lk [(0, ⟨[0], [], []⟩), (1, ⟨[0, 10], [], []⟩), (2, ⟨[2], [], []⟩), (3, ⟨[0, 3], [], []⟩), (4, ⟨[3, 11, 12, 13], [], []⟩), (5, ⟨[3, 11, 12, 13, 14], [], []⟩), (6, ⟨[3, 5, 11, 12, 13], [], []⟩), (7, ⟨[5, 11, 12, 13, 27], [], []⟩), (8, ⟨[2], [], []⟩), (9, ⟨[3, 5, 11, 12, 13], [], []⟩), (10, ⟨[3, 5, 11, 12, 13, 32, 33, 34], [], []⟩), (11, ⟨[3, 5, 11, 12, 13, 32, 33, 34, 35], [], []⟩), (12, ⟨[3, 5, 7, 11, 12, 13, 32, 33, 34], [], []⟩), (13, ⟨[5, 7, 11, 12, 13, 32, 33, 34, 44], [], []⟩), (14, ⟨[2], [], []⟩), (15, ⟨[3, 5, 11, 12, 13, 32, 33, 34], [], []⟩), (16, ⟨[3, 5, 11, 12, 13, 32, 33, 34], [], []⟩), (17, ⟨[3, 11, 12, 13], [], []⟩), (18, ⟨[3, 11, 12, 13], [], []⟩), (19, ⟨[2], [], []⟩)]) Try.f16 = some a16 := by kernel_rfl

/- payroll/presence.Minutes -/
def a17r0 : List IOp := [⟨some 1, .box 29 3, [.t 0], none⟩,
  ⟨some 2, .mv, [.c (.int .i64 0)], none⟩]
def a17r1 : List IOp := [⟨some 6, .loadA 3, [.t 1], none⟩,
  ⟨some 7, .bslice 29 3 [.int .i64 0, .int .i64 0, .nils] 1 [0], [.t 6], none⟩,
  ⟨some 8, .call 16, [.t 7], none⟩,
  ⟨some 9, .bin .neq, [.t 8, .c (.int .i64 0)], none⟩]
def a17r2 : List IOp := [⟨some 2, .mv, [.c (.int .i64 0)], none⟩]
def a17r3 : List IOp := [⟨some 10, .fieldAddr 0, [.t 1], none⟩,
  ⟨some 11, .fieldAddr 1, [.t 10], none⟩,
  ⟨some 12, .load1, [.t 11], none⟩,
  ⟨some 13, .fieldAddr 0, [.t 1], none⟩,
  ⟨some 14, .fieldAddr 0, [.t 13], none⟩,
  ⟨some 15, .load1, [.t 14], none⟩,
  ⟨some 16, .bin .sub, [.t 12, .t 15], none⟩,
  ⟨some 3, .mv, [.t 16], none⟩]
def a17r4 : List IOp := [⟨some 17, .fieldAddr 2, [.t 1], none⟩,
  ⟨some 18, .load1, [.t 17], none⟩,
  ⟨some 19, .len, [.t 18], none⟩,
  ⟨some 20, .mv, [.c (.int .i64 0)], none⟩]
def a17r5 : List IOp := [⟨some 21, .bin .lss, [.t 20, .t 19], none⟩]
def a17r6 : List IOp := [⟨some 22, .indexAddr 2, [.t 18, .t 20], none⟩,
  ⟨some 23, .loadA 2, [.t 22], none⟩,
  ⟨some 5, .alloc 26 [.int .i64 0, .int .i64 0], [], none⟩,
  ⟨none, .store 2, [.t 5, .t 23], none⟩]
def a17r7 : List IOp := [⟨some 24, .mv, [.t 3], none⟩,
  ⟨some 25, .fieldAddr 1, [.t 5], none⟩,
  ⟨some 26, .load1, [.t 25], none⟩,
  ⟨some 27, .fieldAddr 0, [.t 5], none⟩,
  ⟨some 28, .load1, [.t 27], none⟩,
  ⟨some 29, .bin .sub, [.t 26, .t 28], none⟩,
  ⟨some 30, .bin .sub, [.t 24, .t 29], none⟩,
  ⟨some 3, .mv, [.t 30], none⟩]
def a17r8 : List IOp := [⟨some 31, .bin .add, [.t 20, .c (.int .i64 1)], none⟩,
  ⟨some 20, .mv, [.t 31], none⟩]
def a17r9 : List IOp := [⟨some 32, .mv, [.t 3], none⟩,
  ⟨some 2, .mv, [.t 32], none⟩]
def a17 : AFunc := ⟨33, [.tmp 2], (.seq (.region a17r0 [1]) (.seq (.seq (.region a17r1 [1, 9]) (.cond (.t 9) (.seq (.region a17r2 [2]) .ret) .skip)) (.seq (.region a17r3 [1, 3]) (.seq (.seq (.region a17r4 [3, 18, 19, 20]) (.block 0 (.loop (.seq (.region a17r5 [3, 18, 19, 20, 21]) (.seq (.cond (.t 21) .skip (.exit 0)) (.seq (.block 1 (.seq (.region a17r6 [3, 5, 18, 19, 20]) (.region a17r7 [3, 18, 19, 20]))) (.region a17r8 [3, 18, 19, 20]))))))) (.seq (.region a17r9 [2]) .ret)))))⟩
theorem a17_ok : compileF Try.prog (lk [(0, ⟨[1], [], []⟩), (1, ⟨[1, 9], [], []⟩), (2, ⟨[2], [], []⟩), (3, ⟨[1, 3], [], []⟩), (4, ⟨[3, 18, 19, 20], [], []⟩), (5, ⟨[3, 18, 19, 20, 21], [], []⟩), (6, ⟨[3, 5, 18, 19, 20], [], []⟩), (7, ⟨[3, 18, 19, 20], [], []⟩), (8, ⟨[3, 18, 19, 20], [], []⟩), (9, ⟨[2], [], []⟩)]) Try.f17 = some a17 := by kernel_rfl

/- payroll/payrolllaw9.pairs -/
def a18r0 : List IOp := [⟨some 4, .mv, [.c (.bool false)], none⟩]
def a18r1 : List IOp := [⟨some 13, .mv, [.t 0], none⟩,
  ⟨some 14, .mv, [.t 1], none⟩,
  ⟨some 15, .call 15, [.t 13, .t 14], none⟩,
  ⟨some 12, .mv, [.t 15], none⟩,
  ⟨some 16, .extract 0, [.t 12], none⟩,
  ⟨some 17, .extract 1, [.t 12], none⟩,
  ⟨some 18, .extract 2, [.t 12], none⟩,
  ⟨some 5, .mv, [.t 16], none⟩,
  ⟨some 6, .mv, [.t 17], none⟩,
  ⟨some 7, .mv, [.t 18], none⟩]
def a18r2 : List IOp := [⟨some 20, .mv, [.t 0], none⟩,
  ⟨some 21, .mv, [.t 1], none⟩,
  ⟨some 22, .call 51, [.t 20, .t 21], none⟩,
  ⟨some 19, .mv, [.t 22], none⟩,
  ⟨some 23, .extract 0, [.t 19], none⟩,
  ⟨some 24, .extract 1, [.t 19], none⟩,
  ⟨some 25, .extract 2, [.t 19], none⟩,
  ⟨some 8, .mv, [.t 23], none⟩,
  ⟨some 9, .mv, [.t 24], none⟩,
  ⟨some 10, .mv, [.t 25], none⟩]
def a18r3 : List IOp := [⟨some 26, .mv, [.t 5], none⟩,
  ⟨some 27, .mv, [.t 8], none⟩,
  ⟨some 28, .call 28, [.t 26, .t 27], none⟩,
  ⟨some 29, .not, [.t 28], none⟩,
  ⟨some 30, .mv, [.t 29], none⟩,
  ⟨some 31, .mv, [.t 6], some (30, false)⟩,
  ⟨some 32, .len, [.t 31], some (30, false)⟩,
  ⟨some 33, .mv, [.t 9], some (30, false)⟩,
  ⟨some 34, .len, [.t 33], some (30, false)⟩,
  ⟨some 35, .bin .neq, [.t 32, .t 34], some (30, false)⟩,
  ⟨some 36, .pick, [.t 30, .c (.bool true), .t 35], none⟩,
  ⟨some 37, .mv, [.t 36], none⟩,
  ⟨some 38, .mv, [.t 7], some (37, false)⟩,
  ⟨some 39, .mv, [.t 10], some (37, false)⟩,
  ⟨some 40, .bin .neq, [.t 38, .t 39], some (37, false)⟩,
  ⟨some 41, .pick, [.t 37, .c (.bool true), .t 40], none⟩]
def a18r4 : List IOp := [⟨some 4, .mv, [.c (.bool false)], none⟩]
def a18r5 : List IOp := [⟨some 11, .mv, [.c (.int .i64 0)], none⟩]
def a18r6 : List IOp := [⟨some 42, .mv, [.t 11], none⟩,
  ⟨some 43, .mv, [.t 6], none⟩,
  ⟨some 44, .len, [.t 43], none⟩,
  ⟨some 45, .bin .lss, [.t 42, .t 44], none⟩]
def a18r7 : List (Nat × DOp) := [(0, ⟨⟨some 48, .mv, [.t 6], none⟩, none, [1, 4, 5, 6, 7]⟩),
  (1, ⟨⟨some 49, .mv, [.t 11], none⟩, none, [0, 4, 5, 6, 7]⟩),
  (2, ⟨⟨some 50, .indexAddr 2, [.t 48, .t 49], none⟩, none, [4, 5, 6, 7]⟩),
  (3, ⟨⟨some 51, .loadA 2, [.t 50], none⟩, none, [4, 5, 6, 7]⟩),
  (4, ⟨⟨some 52, .mv, [.t 9], none⟩, none, [0, 1, 2, 3, 5]⟩),
  (5, ⟨⟨some 53, .mv, [.t 11], none⟩, none, [0, 1, 2, 3, 4]⟩),
  (6, ⟨⟨some 54, .indexAddr 2, [.t 52, .t 53], none⟩, none, [0, 1, 2, 3]⟩),
  (7, ⟨⟨some 55, .loadA 2, [.t 54], none⟩, none, [0, 1, 2, 3]⟩),
  (8, ⟨⟨some 56, .eqA true [.int .i64, .int .i64], [.t 51, .t 55], none⟩, none, []⟩)]
def a18r8 : List IOp := [⟨some 4, .mv, [.c (.bool false)], none⟩]
def a18r9 : List IOp := [⟨some 46, .mv, [.t 11], none⟩,
  ⟨some 47, .bin .add, [.t 46, .c (.int .i64 1)], none⟩,
  ⟨some 11, .mv, [.t 47], none⟩]
def a18r10 : List IOp := [⟨some 4, .mv, [.c (.bool true)], none⟩]
def a18 : AFunc := ⟨57, [.tmp 4], (.seq (.region a18r0 [0, 1]) (.seq (.region a18r1 [0, 1, 5, 6, 7]) (.seq (.region a18r2 [5, 6, 7, 8, 9, 10]) (.seq (.seq (.region a18r3 [6, 9, 41]) (.cond (.t 41) (.seq (.region a18r4 [4]) .ret) .skip)) (.seq (.seq (.region a18r5 [6, 9, 11]) (.block 0 (.loop (.seq (.seq (.region a18r6 [6, 9, 11, 45]) (.cond (.t 45) .skip (.exit 0))) (.seq (.block 1 (.seq (.draw a18r7 [] [6, 9, 11, 56]) (.cond (.t 56) (.seq (.region a18r8 [4]) .ret) .skip))) (.region a18r9 [6, 9, 11])))))) (.seq (.region a18r10 [4]) .ret))))))⟩
theorem a18_ok : compileF Try.prog (lk [(0, ⟨[0, 1], [], []⟩), (1, ⟨[0, 1, 5, 6, 7], [], []⟩), (2, ⟨[5, 6, 7, 8, 9, 10], [], []⟩), (3, ⟨[6, 9, 41], [], []⟩), (4, ⟨[4], [], []⟩), (5, ⟨[6, 9, 11], [], []⟩), (6, ⟨[6, 9, 11, 45], [], []⟩), (7, ⟨[6, 9, 11], [], []⟩), (8, ⟨[6, 9, 11, 56], [[], [], [0, 1], [2, 0, 1], [], [], [4, 5], [6, 4, 5], [3, 7, 2, 0, 1, 6, 4, 5]], [0, 1, 2, 3, 4, 5, 6, 7, 8]⟩), (9, ⟨[4], [], []⟩), (10, ⟨[4], [], []⟩)]) Try.f18 = some a18 := by kernel_rfl

/- payroll/payrolllaw9.sane -/
def a19r0 : List IOp := [⟨some 0, .mv, [.c (.bool false)], none⟩]
def a19r1 : List IOp := [⟨some 8, .build [.int .i64 0, .int .i64 0, .int .i64 0, .int .i64 0] [(0, 1), (1, 1)], [.c (.int .i64 480), .c (.int .i64 1)], none⟩,
  ⟨some 9, .build [.int .i64 0, .int .i64 0, .int .i64 0, .int .i64 0] [(0, 1), (1, 1)], [.c (.int .i64 720), .c (.int .i64 3)], none⟩,
  ⟨some 10, .build [.int .i64 0, .int .i64 0, .int .i64 0, .int .i64 0] [(0, 1), (1, 1)], [.c (.int .i64 750), .c (.int .i64 4)], none⟩,
  ⟨some 11, .build [.int .i64 0, .int .i64 0, .int .i64 0, .int .i64 0] [(0, 1), (1, 1)], [.c (.int .i64 1020), .c (.int .i64 2)], none⟩,
  ⟨some 12, .bslice 34 4 [.int .i64 0, .int .i64 0, .int .i64 0, .int .i64 0] 4 [0, 1, 2, 3], [.t 8, .t 9, .t 10, .t 11], none⟩,
  ⟨some 13, .call 15, [.t 12, .c (.int .i64 900)], none⟩,
  ⟨some 7, .mv, [.t 13], none⟩,
  ⟨some 14, .extract 0, [.t 7], none⟩,
  ⟨some 15, .extract 1, [.t 7], none⟩,
  ⟨some 16, .extract 2, [.t 7], none⟩,
  ⟨some 1, .mv, [.t 14], none⟩,
  ⟨some 2, .mv, [.t 15], none⟩,
  ⟨some 3, .mv, [.t 16], none⟩]
def a19r2 : List IOp := [⟨some 18, .build [.int .i64 0, .int .i64 0, .int .i64 0, .int .i64 0] [(0, 1), (1, 1)], [.c (.int .i64 480), .c (.int .i64 1)], none⟩,
  ⟨some 19, .build [.int .i64 0, .int .i64 0, .int .i64 0, .int .i64 0] [(0, 1), (1, 1)], [.c (.int .i64 500), .c (.int .i64 1)], none⟩,
  ⟨some 20, .build [.int .i64 0, .int .i64 0, .int .i64 0, .int .i64 0] [(0, 1), (1, 1)], [.c (.int .i64 1000), .c (.int .i64 2)], none⟩,
  ⟨some 21, .bslice 34 4 [.int .i64 0, .int .i64 0, .int .i64 0, .int .i64 0] 3 [0, 1, 2], [.t 18, .t 19, .t 20], none⟩,
  ⟨some 22, .call 15, [.t 21, .c (.int .i64 900)], none⟩,
  ⟨some 17, .mv, [.t 22], none⟩,
  ⟨some 23, .extract 0, [.t 17], none⟩,
  ⟨some 24, .extract 1, [.t 17], none⟩,
  ⟨some 25, .extract 2, [.t 17], none⟩,
  ⟨some 4, .mv, [.t 23], none⟩,
  ⟨some 5, .mv, [.t 24], none⟩,
  ⟨some 6, .mv, [.t 25], none⟩]
def a19r3 : List IOp := [⟨some 26, .mv, [.t 3], none⟩,
  ⟨some 27, .bin .eql, [.t 26, .c (.int .i64 0)], none⟩,
  ⟨some 28, .mv, [.t 27], none⟩,
  ⟨some 29, .mv, [.t 1], some (28, true)⟩,
  ⟨some 30, .len, [.t 29], some (28, true)⟩,
  ⟨some 31, .bin .eql, [.t 30, .c (.int .i64 1)], some (28, true)⟩,
  ⟨some 32, .pick, [.t 28, .t 31, .c (.bool false)], none⟩,
  ⟨some 33, .mv, [.t 32], none⟩,
  ⟨some 34, .mv, [.t 2], some (33, true)⟩,
  ⟨some 35, .len, [.t 34], some (33, true)⟩,
  ⟨some 36, .bin .eql, [.t 35, .c (.int .i64 0)], some (33, true)⟩,
  ⟨some 37, .pick, [.t 33, .t 36, .c (.bool false)], none⟩,
  ⟨some 38, .mv, [.t 37], none⟩,
  ⟨some 39, .mv, [.t 1], some (38, true)⟩,
  ⟨some 40, .indexAddr 3, [.t 39, .c (.int .i64 0)], some (38, true)⟩,
  ⟨some 41, .loadA 3, [.t 40], some (38, true)⟩,
  ⟨some 42, .call 17, [.t 41], some (38, true)⟩,
  ⟨some 43, .bin .eql, [.t 42, .c (.int .i64 510)], some (38, true)⟩,
  ⟨some 44, .pick, [.t 38, .t 43, .c (.bool false)], none⟩,
  ⟨some 45, .mv, [.t 44], none⟩,
  ⟨some 46, .mv, [.t 6], some (45, true)⟩,
  ⟨some 47, .bin .eql, [.t 46, .c (.int .i64 0)], some (45, true)⟩,
  ⟨some 48, .pick, [.t 45, .t 47, .c (.bool false)], none⟩,
  ⟨some 49, .mv, [.t 48], none⟩,
  ⟨some 50, .mv, [.t 4], some (49, true)⟩,
  ⟨some 51, .len, [.t 50], some (49, true)⟩,
  ⟨some 52, .bin .eql, [.t 51, .c (.int .i64 1)], some (49, true)⟩,
  ⟨some 53, .pick, [.t 49, .t 52, .c (.bool false)], none⟩,
  ⟨some 54, .mv, [.t 53], none⟩,
  ⟨some 55, .mv, [.t 4], some (54, true)⟩,
  ⟨some 56, .indexAddr 3, [.t 55, .c (.int .i64 0)], some (54, true)⟩,
  ⟨some 57, .fieldAddr 0, [.t 56], some (54, true)⟩,
  ⟨some 58, .fieldAddr 0, [.t 57], some (54, true)⟩,
  ⟨some 59, .load1, [.t 58], some (54, true)⟩,
  ⟨some 60, .bin .eql, [.t 59, .c (.int .i64 500)], some (54, true)⟩,
  ⟨some 61, .pick, [.t 54, .t 60, .c (.bool false)], none⟩,
  ⟨some 62, .mv, [.t 61], none⟩,
  ⟨some 63, .mv, [.t 5], some (62, true)⟩,
  ⟨some 64, .len, [.t 63], some (62, true)⟩,
  ⟨some 65, .bin .eql, [.t 64, .c (.int .i64 1)], some (62, true)⟩,
  ⟨some 66, .pick, [.t 62, .t 65, .c (.bool false)], none⟩,
  ⟨some 67, .mv, [.t 66], none⟩,
  ⟨some 68, .mv, [.t 5], some (67, true)⟩,
  ⟨some 69, .indexAddr 2, [.t 68, .c (.int .i64 0)], some (67, true)⟩,
  ⟨some 70, .loadA 2, [.t 69], some (67, true)⟩,
  ⟨some 71, .build [.int .i64 0, .int .i64 0] [(0, 1), (1, 1)], [.c (.int .i64 1), .c (.int .i64 480)], some (67, true)⟩,
  ⟨some 72, .eqA false [.int .i64, .int .i64], [.t 70, .t 71], some (67, true)⟩,
  ⟨some 73, .pick, [.t 67, .t 72, .c (.bool false)], none⟩,
  ⟨some 74, .mv, [.t 73], none⟩,
  ⟨some 75, .mv, [.t 1], some (74, true)⟩,
  ⟨some 76, .call 16, [.t 75], some (74, true)⟩,
  ⟨some 77, .bin .eql, [.t 76, .c (.int .i64 0)], some (74, true)⟩,
  ⟨some 78, .pick, [.t 74, .t 77, .c (.bool false)], none⟩,
  ⟨some 0, .mv, [.t 78], none⟩]
def a19 : AFunc := ⟨79, [.tmp 0], (.seq (.region a19r0 []) (.seq (.region a19r1 [1, 2, 3]) (.seq (.region a19r2 [1, 2, 3, 4, 5, 6]) (.seq (.region a19r3 [0]) .ret))))⟩
theorem a19_ok : compileF Try.prog (lk [(0, ⟨[], [], []⟩), (1, ⟨[1, 2, 3], [], []⟩), (2, ⟨[1, 2, 3, 4, 5, 6], [], []⟩), (3, ⟨[0], [], []⟩)]) Try.f19 = some a19 := by kernel_rfl

/- payroll/payrollgen.New -/
def a20r0 : List IOp := [⟨some 2, .mv, [.c (.nilp)], none⟩]
def a20r1 : List IOp := [⟨some 3, .mv, [.t 0], none⟩,
  ⟨some 4, .build [.nils, .int .i64 0] [(0, 1)], [.t 3], none⟩,
  ⟨some 5, .box 100 2, [.t 4], none⟩,
  ⟨some 2, .mv, [.t 5], none⟩]
def a20 : AFunc := ⟨6, [.tmp 2], (.seq (.region a20r0 [0]) (.seq (.region a20r1 [2]) .ret))⟩
theorem a20_ok : compileF Try.prog (lk [(0, ⟨[0], [], []⟩), (1, ⟨[2], [], []⟩)]) Try.f20 = some a20 := by kernel_rfl

/- (*payroll/payrollgen.Tape).Presences -/
def a21r0 : List IOp := [⟨some 4, .mv, [.c (.nils)], none⟩]
def a21r1 : List IOp := [⟨some 13, .mv, [.t 0], none⟩,
  ⟨some 14, .bslice 3 1 [.int .i64 0] 4 [0, 1, 2, 3], [.c (.int .i64 0), .c (.int .i64 420), .c (.int .i64 470), .c (.int .i64 480)], none⟩,
  ⟨some 15, .call 52, [.t 13, .t 14], none⟩,
  ⟨some 16, .bin .add, [.c (.int .i64 29453760), .t 15], none⟩,
  ⟨some 5, .mv, [.t 16], none⟩]
def a21r2 : List IOp := [⟨some 6, .mv, [.c (.nils)], none⟩]
def a21r3 : List IOp := [⟨some 17, .mv, [.t 0], none⟩,
  ⟨some 18, .mv, [.t 1], none⟩,
  ⟨some 19, .bin .add, [.t 18, .c (.int .i64 1)], none⟩,
  ⟨some 20, .call 38, [.t 17, .t 19], none⟩,
  ⟨some 7, .mv, [.t 20], none⟩]
def a21r4 : List IOp := [⟨some 21, .mv, [.t 7], none⟩,
  ⟨some 22, .bin .gtr, [.t 21, .c (.int .i64 0)], none⟩]
def a21r5 : List IOp := [⟨some 25, .mv, [.t 5], none⟩,
  ⟨some 26, .mv, [.t 5], none⟩,
  ⟨some 27, .mv, [.t 0], none⟩,
  ⟨some 28, .bslice 3 1 [.int .i64 0] 5 [0, 1, 2, 3, 4], [.c (.int .i64 480), .c (.int .i64 1), .c (.int .i64 300), .c (.int .i64 545), .c (.int .i64 90)], none⟩,
  ⟨some 29, .call 52, [.t 27, .t 28], none⟩,
  ⟨some 30, .bin .add, [.t 26, .t 29], none⟩,
  ⟨some 31, .build [.int .i64 0, .int .i64 0] [(0, 1), (1, 1)], [.t 25, .t 30], none⟩,
  ⟨some 32, .build [.int .i64 0, .int .i64 0, .nils] [(0, 2)], [.t 31], none⟩,
  ⟨some 8, .alloc 29 [.int .i64 0, .int .i64 0, .nils], [], none⟩,
  ⟨none, .store 3, [.t 8, .t 32], none⟩]
def a21r6 : List IOp := [⟨some 33, .fieldAddr 0, [.t 8], none⟩,
  ⟨some 34, .fieldAddr 0, [.t 33], none⟩,
  ⟨some 35, .load1, [.t 34], none⟩,
  ⟨some 9, .mv, [.t 35], none⟩]
def a21r7 : List IOp := [⟨some 36, .mv, [.t 0], none⟩,
  ⟨some 37, .call 38, [.t 36, .c (.int .i64 3)], none⟩,
  ⟨some 10, .mv, [.t 37], none⟩]
def a21r8 : List IOp := [⟨some 38, .mv, [.t 10], none⟩,
  ⟨some 39, .bin .gtr, [.t 38, .c (.int .i64 0)], none⟩]
def a21r9 : List IOp := [⟨some 42, .mv, [.t 9], none⟩,
  ⟨some 43, .mv, [.t 0], none⟩,
  ⟨some 44, .bslice 3 1 [.int .i64 0] 4 [0, 1, 2, 3], [.c (.int .i64 0), .c (.int .i64 60), .c (.int .i64 120), .c (.int .i64 7)], none⟩,
  ⟨some 45, .call 52, [.t 43, .t 44], none⟩,
  ⟨some 46, .bin .add, [.t 42, .t 45], none⟩,
  ⟨some 11, .mv, [.t 46], none⟩]
def a21r10 : List IOp := [⟨some 47, .mv, [.t 11], none⟩,
  ⟨some 48, .mv, [.t 0], none⟩,
  ⟨some 49, .bslice 3 1 [.int .i64 0] 3 [0, 1, 2], [.c (.int .i64 15), .c (.int .i64 30), .c (.int .i64 45)], none⟩,
  ⟨some 50, .call 52, [.t 48, .t 49], none⟩,
  ⟨some 51, .bin .add, [.t 47, .t 50], none⟩,
  ⟨some 12, .mv, [.t 51], none⟩]
def a21r11 : List IOp := [⟨some 52, .mv, [.t 12], none⟩,
  ⟨some 53, .fieldAddr 0, [.t 8], none⟩,
  ⟨some 54, .fieldAddr 1, [.t 53], none⟩,
  ⟨some 55, .load1, [.t 54], none⟩,
  ⟨some 56, .bin .leq, [.t 52, .t 55], none⟩]
def a21r12 : List IOp := [⟨some 57, .fieldAddr 2, [.t 8], none⟩,
  ⟨some 58, .load1, [.t 57], none⟩,
  ⟨some 59, .mv, [.t 11], none⟩,
  ⟨some 60, .mv, [.t 12], none⟩,
  ⟨some 61, .build [.int .i64 0, .int .i64 0] [(0, 1), (1, 1)], [.t 59, .t 60], none⟩,
  ⟨some 62, .bslice 26 2 [.int .i64 0, .int .i64 0] 1 [0], [.t 61], none⟩,
  ⟨some 63, .append 26 2 16, [.t 58, .t 62], none⟩,
  ⟨some 64, .mv, [.t 12], none⟩,
  ⟨some 65, .fieldAddr 2, [.t 8], none⟩,
  ⟨none, .store 1, [.t 65, .t 63], none⟩,
  ⟨some 9, .mv, [.t 64], none⟩]
def a21r13 : List IOp := [⟨some 40, .mv, [.t 10], none⟩,
  ⟨some 41, .bin .sub, [.t 40, .c (.int .i64 1)], none⟩,
  ⟨some 10, .mv, [.t 41], none⟩]
def a21r14 : List (Nat × DOp) := [(0, ⟨⟨some 66, .mv, [.t 6], none⟩, none, [1, 2, 4, 5, 6, 7, 8]⟩),
  (1, ⟨⟨some 67, .loadA 3, [.t 8], none⟩, none, [0, 4, 5, 6, 7, 8]⟩),
  (2, ⟨⟨some 68, .bslice 29 3 [.int .i64 0, .int .i64 0, .nils] 1 [0], [.t 67], none⟩, some 0, [0, 4, 5, 6, 7, 8]⟩),
  (4, ⟨⟨some 70, .fieldAddr 0, [.t 8], none⟩, none, [0, 1, 2, 3, 7, 8, 9, 11]⟩),
  (5, ⟨⟨some 71, .fieldAddr 1, [.t 70], none⟩, none, [0, 1, 2, 3, 7, 8, 9, 11]⟩),
  (6, ⟨⟨some 72, .load1, [.t 71], none⟩, none, [0, 1, 2, 3, 7, 8, 9, 11]⟩),
  (7, ⟨⟨some 73, .mv, [.t 0], none⟩, none, [0, 1, 2, 3, 4, 5, 6, 8]⟩),
  (8, ⟨⟨some 74, .bslice 3 1 [.int .i64 0] 5 [0, 1, 2, 3, 4], [.c (.int .i64 0), .c (.int .i64 15), .c (.int .i64 960), .c (.int .i64 480), .c (.int .i64 1)], none⟩, some 1, [0, 1, 2, 3, 4, 5, 6, 7]⟩),
  (3, ⟨⟨some 69, .append 29 3 40, [.t 66, .t 68], none⟩, none, [4, 5, 6, 7, 8]⟩),
  (9, ⟨⟨some 75, .call 52, [.t 73, .t 74], none⟩, none, [4, 5, 6]⟩),
  (10, ⟨⟨some 76, .bin .add, [.t 72, .t 75], none⟩, none, [11]⟩),
  (11, ⟨⟨some 6, .mv, [.t 69], none⟩, none, [4, 5, 6, 10]⟩),
  (12, ⟨⟨some 5, .mv, [.t 76], none⟩, none, []⟩)]
def a21r15 : List IOp := [⟨some 23, .mv, [.t 7], none⟩,
  ⟨some 24, .bin .sub, [.t 23, .c (.int .i64 1)], none⟩,
  ⟨some 7, .mv, [.t 24], none⟩]
def a21r16 : List IOp := [⟨some 77, .mv, [.t 6], none⟩,
  ⟨some 4, .mv, [.t 77], none⟩]
def a21 : AFunc := ⟨78, [.tmp 4], (.seq (.region a21r0 [0, 1]) (.seq (.region a21r1 [0, 1, 5]) (.seq (.region a21r2 [0, 1, 5, 6]) (.seq (.seq (.region a21r3 [0, 5, 6, 7]) (.block 0 (.loop (.seq (.seq (.region a21r4 [0, 5, 6, 7, 22]) (.cond (.t 22) .skip (.exit 0))) (.seq (.block 1 (.seq (.region a21r5 [0, 6, 7, 8]) (.seq (.region a21r6 [0, 6, 7, 8, 9]) (.seq (.seq (.region a21r7 [0, 6, 7, 8, 9, 10]) (.block 2 (.loop (.seq (.seq (.region a21r8 [0, 6, 7, 8, 9, 10, 39]) (.cond (.t 39) .skip (.exit 2))) (.seq (.block 3 (.seq (.region a21r9 [0, 6, 7, 8, 9, 10, 11]) (.seq (.region a21r10 [0, 6, 7, 8, 9, 10, 11, 12]) (.seq (.region a21r11 [0, 6, 7, 8, 9, 10, 11, 12, 56]) (.cond (.t 56) (.region a21r12 [0, 6, 7, 8, 9, 10]) .skip))))) (.region a21r13 [0, 6, 7, 8, 9, 10])))))) (.draw a21r14 [(29, 3), (3, 1)] [0, 5, 6, 7]))))) (.region a21r15 [0, 5, 6, 7])))))) (.seq (.region a21r16 [4]) .ret)))))⟩
theorem a21_ok : compileF Try.prog (lk [(0, ⟨[0, 1], [], []⟩), (1, ⟨[0, 1, 5], [], []⟩), (2, ⟨[0, 1, 5, 6], [], []⟩), (3, ⟨[0, 5, 6, 7], [], []⟩), (4, ⟨[0, 5, 6, 7, 22], [], []⟩), (5, ⟨[0, 5, 6, 7], [], []⟩), (6, ⟨[0, 6, 7, 8], [], []⟩), (7, ⟨[0, 6, 7, 8, 9], [], []⟩), (8, ⟨[0, 6, 7, 8, 9, 10], [], []⟩), (9, ⟨[0, 6, 7, 8, 9, 10, 39], [], []⟩), (10, ⟨[0, 6, 7, 8, 9, 10], [], []⟩), (11, ⟨[0, 6, 7, 8, 9, 10, 11], [], []⟩), (12, ⟨[0, 6, 7, 8, 9, 10, 11, 12], [], []⟩), (13, ⟨[0, 6, 7, 8, 9, 10, 11, 12, 56], [], []⟩), (14, ⟨[0, 6, 7, 8, 9, 10], [], []⟩), (15, ⟨[0, 5, 6, 7], [[], [], [1], [0, 2, 1], [], [4], [5, 4], [], [], [7, 8, 3, 0, 2, 1], [6, 9, 5, 4, 7, 8, 3, 0, 2, 1], [3, 9, 0, 1, 2, 7, 8], [10, 11, 0, 1, 2, 3, 4, 5, 6, 7, 8, 9]], [0, 1, 2, 4, 5, 6, 7, 8, 3, 9, 10, 11, 12]⟩), (16, ⟨[4], [], []⟩)]) Try.f21 = some a21 := by kernel_rfl

/- (*payroll/payrollgen.Tape).SpoilPresences -/
def a22r0 : List IOp := [⟨some 4, .mv, [.c (.nils)], none⟩]
def a22r1 : List IOp := [⟨some 7, .nilsl, [], none⟩,
  ⟨some 8, .mv, [.t 1], none⟩,
  ⟨some 9, .append 29 3 40, [.t 7, .t 8], none⟩,
  ⟨some 5, .mv, [.t 9], none⟩]
def a22r2 : List IOp := [⟨some 10, .mv, [.t 5], none⟩,
  ⟨some 11, .len, [.t 10], none⟩,
  ⟨some 12, .bin .eql, [.t 11, .c (.int .i64 0)], none⟩]
def a22r3 : List IOp := [⟨some 13, .mv, [.t 5], none⟩,
  ⟨some 14, .build [.int .i64 0, .int .i64 0] [(0, 1), (1, 1)], [.c (.int .i64 (-1)), .c (.int .i64 5)], none⟩,
  ⟨some 15, .build [.int .i64 0, .int .i64 0, .nils] [(0, 2)], [.t 14], none⟩,
  ⟨some 16, .bslice 29 3 [.int .i64 0, .int .i64 0, .nils] 1 [0], [.t 15], none⟩,
  ⟨some 17, .append 29 3 40, [.t 13, .t 16], none⟩,
  ⟨some 4, .mv, [.t 17], none⟩]
def a22r4 : List IOp := [⟨some 18, .mv, [.t 5], none⟩,
  ⟨some 19, .mv, [.t 0], none⟩,
  ⟨some 20, .mv, [.t 5], none⟩,
  ⟨some 21, .len, [.t 20], none⟩,
  ⟨some 22, .call 38, [.t 19, .t 21], none⟩,
  ⟨some 23, .indexAddr 3, [.t 18, .t 22], none⟩,
  ⟨some 6, .mv, [.t 23], none⟩]
def a22r5 : List IOp := [⟨some 24, .mv, [.t 0], none⟩,
  ⟨some 25, .call 38, [.t 24, .c (.int .i64 4)], none⟩]
def a22r6 : List IOp := [⟨some 31, .bin .eql, [.t 25, .c (.int .i64 0)], none⟩,
  ⟨some 30, .mv, [.t 31], none⟩]
def a22r7 : List IOp := [⟨some 32, .mv, [.t 6], none⟩,
  ⟨some 33, .mv, [.t 6], none⟩,
  ⟨some 34, .nilchk, [.t 33], none⟩,
  ⟨some 35, .fieldAddr 0, [.t 34], none⟩,
  ⟨some 36, .fieldAddr 0, [.t 35], none⟩,
  ⟨some 37, .load1, [.t 36], none⟩,
  ⟨some 38, .nilchk, [.t 32], none⟩,
  ⟨some 39, .fieldAddr 0, [.t 38], none⟩,
  ⟨some 40, .fieldAddr 1, [.t 39], none⟩,
  ⟨none, .store 1, [.t 40, .t 37], none⟩]
def a22r8 : List IOp := [⟨some 42, .bin .eql, [.t 25, .c (.int .i64 1)], none⟩,
  ⟨some 41, .mv, [.t 42], none⟩]
def a22r9 : List (Nat × DOp) := [(0, ⟨⟨some 43, .mv, [.t 6], none⟩, none, [1, 2, 3, 4, 5, 6, 7, 8, 9, 10, 11, 12, 13, 14, 15, 16, 17, 18, 19, 20]⟩),
  (1, ⟨⟨some 44, .nilsl, [], none⟩, none, [0, 2, 3, 4, 5, 7, 8, 9, 10, 11, 12, 13, 14, 15, 16, 17, 18, 19]⟩),
  (2, ⟨⟨some 45, .mv, [.t 6], none⟩, none, [0, 1, 7, 8, 9, 10, 11, 12, 13, 14, 15, 16, 17, 18, 19]⟩),
  (3, ⟨⟨some 46, .nilchk, [.t 45], none⟩, none, [0, 1, 7, 8, 9, 10, 11, 12, 13, 14, 15, 16, 17, 18, 19]⟩),
  (4, ⟨⟨some 47, .fieldAddr 2, [.t 46], none⟩, none, [0, 1, 7, 8, 9, 10, 11, 12, 13, 14, 15, 16, 17, 18, 19]⟩),
  (5, ⟨⟨some 48, .load1, [.t 47], none⟩, none, [0, 1, 7, 8, 9, 10, 11, 12, 13, 14, 15, 16, 17, 18, 19]⟩),
  (7, ⟨⟨some 50, .mv, [.t 6], none⟩, none, [0, 1, 2, 3, 4, 5, 6, 12, 13, 14, 15, 16, 17]⟩),
  (8, ⟨⟨some 51, .nilchk, [.t 50], none⟩, none, [0, 1, 2, 3, 4, 5, 6, 12, 13, 14, 15, 16, 17]⟩),
  (9, ⟨⟨some 52, .fieldAddr 0, [.t 51], none⟩, none, [0, 1, 2, 3, 4, 5, 6, 12, 13, 14, 15, 16, 17]⟩),
  (10, ⟨⟨some 53, .fieldAddr 0, [.t 52], none⟩, none, [0, 1, 2, 3, 4, 5, 6, 12, 13, 14, 15, 16, 17]⟩),
  (11, ⟨⟨some 54, .load1, [.t 53], none⟩, none, [0, 1, 2, 3, 4, 5, 6, 12, 13, 14, 15, 16, 17]⟩),
  (12, ⟨⟨some 55, .mv, [.t 6], none⟩, none, [0, 1, 2, 3, 4, 5, 6, 7, 8, 9, 10, 11]⟩),
  (13, ⟨⟨some 56, .nilchk, [.t 55], none⟩, none, [0, 1, 2, 3, 4, 5, 6, 7, 8, 9, 10, 11]⟩),
  (14, ⟨⟨some 57, .fieldAddr 0, [.t 56], none⟩, none, [0, 1, 2, 3, 4, 5, 6, 7, 8, 9, 10, 11]⟩),
  (15, ⟨⟨some 58, .fieldAddr 1, [.t 57], none⟩, none, [0, 1, 2, 3, 4, 5, 6, 7, 8, 9, 10, 11]⟩),
  (16, ⟨⟨some 59, .load1, [.t 58], none⟩, none, [0, 1, 2, 3, 4, 5, 6, 7, 8, 9, 10, 11]⟩),
  (17, ⟨⟨some 60, .bin .add, [.t 59, .c (.int .i64 1)], none⟩, none, [0, 1, 2, 3, 4, 5, 6, 7, 8, 9, 10, 11]⟩),
  (18, ⟨⟨some 61, .build [.int .i64 0, .int .i64 0] [(0, 1), (1, 1)], [.t 54, .t 60], none⟩, none, [0, 1, 2, 3, 4, 5, 6]⟩),
  (19, ⟨⟨some 62, .bslice 26 2 [.int .i64 0, .int .i64 0] 1 [0], [.t 61], none⟩, some 0, [0, 1, 2, 3, 4, 5, 6]⟩),
  (6, ⟨⟨some 49, .append 26 2 16, [.t 44, .t 48], none⟩, none, [0, 7, 8, 9, 10, 11, 12, 13, 14, 15, 16, 17, 18, 19]⟩),
  (20, ⟨⟨some 63, .append 26 2 16, [.t 49, .t 62], none⟩, none, [0]⟩),
  (21, ⟨⟨some 64, .nilchk, [.t 43], none⟩, none, []⟩),
  (22, ⟨⟨some 65, .fieldAddr 2, [.t 64], none⟩, none, []⟩),
  (23, ⟨⟨none, .store 1, [.t 65, .t 63], none⟩, none, []⟩)]
def a22r10 : List IOp := [⟨some 67, .bin .eql, [.t 25, .c (.int .i64 2)], none⟩,
  ⟨some 66, .mv, [.t 67], none⟩]
def a22r11 : List IOp := [⟨some 68, .mv, [.t 5], none⟩,
  ⟨some 69, .mv, [.t 5], none⟩,
  ⟨some 70, .indexAddr 3, [.t 69, .c (.int .i64 0)], none⟩,
  ⟨some 71, .loadA 3, [.t 70], none⟩,
  ⟨some 72, .bslice 29 3 [.int .i64 0, .int .i64 0, .nils] 1 [0], [.t 71], none⟩,
  ⟨some 73, .append 29 3 40, [.t 68, .t 72], none⟩,
  ⟨some 5, .mv, [.t 73], none⟩]
def a22r12 : List IOp := [⟨some 26, .mv, [.t 6], none⟩,
  ⟨some 27, .nilchk, [.t 26], none⟩,
  ⟨some 28, .fieldAddr 0, [.t 27], none⟩,
  ⟨some 29, .fieldAddr 1, [.t 28], none⟩,
  ⟨none, .store 1, [.t 29, .c (.int .i64 120968641)], none⟩]
def a22r13 : List IOp := [⟨some 74, .mv, [.t 5], none⟩,
  ⟨some 4, .mv, [.t 74], none⟩]
def a22 : AFunc := ⟨75, [.tmp 4], (.seq (.region a22r0 [0, 1]) (.seq (.region a22r1 [0, 5]) (.seq (.seq (.region a22r2 [0, 5, 12]) (.cond (.t 12) (.seq (.region a22r3 [4]) .ret) .skip)) (.seq (.region a22r4 [0, 5, 6]) (.seq (.seq (.region a22r5 [5, 6, 25]) (.block 0 (.seq (.region a22r6 [5, 6, 25, 30]) (.cond (.t 30) (.region a22r7 [5]) (.seq (.region a22r8 [5, 6, 25, 41]) (.cond (.t 41) (.draw a22r9 [(26, 2)] [5]) (.seq (.region a22r10 [5, 6, 66]) (.cond (.t 66) (.region a22r11 [5]) (.region a22r12 [5]))))))))) (.seq (.region a22r13 [4]) .ret))))))⟩
theorem a22_ok : compileF Try.prog (lk [(0, ⟨[0, 1], [], []⟩), (1, ⟨[0, 5], [], []⟩), (2, ⟨[0, 5, 12], [], []⟩), (3, ⟨[4], [], []⟩), (4, ⟨[0, 5, 6], [], []⟩), (5, ⟨[5, 6, 25], [], []⟩), (6, ⟨[5], [], []⟩), (7, ⟨[5, 6, 25, 30], [], []⟩), (8, ⟨[5], [], []⟩), (9, ⟨[5, 6, 25, 41], [], []⟩), (10, ⟨[5], [[], [], [], [2], [3, 2], [4, 3, 2], [1, 5, 4, 3, 2], [], [7], [8, 7], [9, 8, 7], [10, 9, 8, 7], [], [12], [13, 12], [14, 13, 12], [15, 14, 13, 12], [16, 15, 14, 13, 12], [11, 17, 10, 9, 8, 7, 16, 15, 14, 13, 12], [18, 11, 17, 10, 9, 8, 7, 16, 15, 14, 13, 12], [6, 19, 1, 5, 4, 3, 2, 18, 11, 17, 10, 9, 8, 7, 16, 15, 14, 13, 12], [0, 1, 2, 3, 4, 5, 6, 7, 8, 9, 10, 11, 12, 13, 14, 15, 16, 17, 18, 19, 20], [21, 0, 1, 2, 3, 4, 5, 6, 7, 8, 9, 10, 11, 12, 13, 14, 15, 16, 17, 18, 19, 20], [22, 20, 0, 1, 2, 3, 4, 5, 6, 7, 8, 9, 10, 11, 12, 13, 14, 15, 16, 17, 18, 19, 21]], [0, 1, 2, 3, 4, 5, 7, 8, 9, 10, 11, 12, 13, 14, 15, 16, 17, 18, 19, 6, 20, 21, 22, 23]⟩), (11, ⟨[5, 6, 66], [], []⟩), (12, ⟨[5], [], []⟩), (13, ⟨[4], [], []⟩)]) Try.f22 = some a22 := by kernel_rfl

/- payroll/payrollref9.Valid -/
def a23r0 : List IOp := [⟨some 2, .mv, [.c (.int .i64 0)], none⟩]
def a23r1 : List IOp := [⟨some 4, .mv, [.t 0], none⟩,
  ⟨some 5, .len, [.t 4], none⟩,
  ⟨some 6, .bin .gtr, [.t 5, .c (.int .i64 1024)], none⟩]
def a23r2 : List IOp := [⟨some 2, .mv, [.c (.int .i64 1)], none⟩]
def a23r3 : List IOp := [⟨some 3, .mv, [.c (.int .i64 0)], none⟩]
def a23r4 : List IOp := [⟨some 7, .mv, [.t 3], none⟩,
  ⟨some 8, .mv, [.t 0], none⟩,
  ⟨some 9, .len, [.t 8], none⟩,
  ⟨some 10, .bin .lss, [.t 7, .t 9], none⟩]
def a23r5 : List (Nat × DOp) := [(0, ⟨⟨some 13, .mv, [.t 0], none⟩, none, [1]⟩),
  (1, ⟨⟨some 14, .mv, [.t 3], none⟩, none, [0]⟩),
  (2, ⟨⟨some 15, .indexAddr 3, [.t 13, .t 14], none⟩, none, []⟩),
  (3, ⟨⟨some 16, .loadA 3, [.t 15], none⟩, none, []⟩),
  (4, ⟨⟨some 17, .call 53, [.t 16], none⟩, none, []⟩),
  (5, ⟨⟨some 18, .not, [.t 17], none⟩, none, []⟩),
  (6, ⟨⟨some 19, .mv, [.t 18], none⟩, none, []⟩),
  (7, ⟨⟨some 20, .mv, [.t 3], some (19, false)⟩, none, []⟩),
  (8, ⟨⟨some 21, .bin .gtr, [.t 20, .c (.int .i64 0)], some (19, false)⟩, none, []⟩),
  (9, ⟨⟨some 22, .mv, [.t 21], some (19, false)⟩, none, []⟩),
  (10, ⟨⟨some 23, .mv, [.t 0], some (22, true)⟩, none, [11, 16, 17, 18, 19, 20, 21, 22]⟩),
  (11, ⟨⟨some 24, .mv, [.t 3], some (22, true)⟩, none, [10, 16, 17, 18, 19, 20, 21, 22]⟩),
  (12, ⟨⟨some 25, .indexAddr 3, [.t 23, .t 24], some (22, true)⟩, none, [16, 17, 18, 19, 20, 21, 22]⟩),
  (13, ⟨⟨some 26, .fieldAddr 0, [.t 25], some (22, true)⟩, none, [16, 17, 18, 19, 20, 21, 22]⟩),
  (14, ⟨⟨some 27, .fieldAddr 0, [.t 26], some (22, true)⟩, none, [16, 17, 18, 19, 20, 21, 22]⟩),
  (15, ⟨⟨some 28, .load1, [.t 27], some (22, true)⟩, none, [16, 17, 18, 19, 20, 21, 22]⟩),
  (16, ⟨⟨some 29, .mv, [.t 0], some (22, true)⟩, none, [10, 11, 12, 13, 14, 15, 17, 18]⟩),
  (17, ⟨⟨some 30, .mv, [.t 3], some (22, true)⟩, none, [10, 11, 12, 13, 14, 15, 16]⟩),
  (18, ⟨⟨some 31, .bin .sub, [.t 30, .c (.int .i64 1)], some (22, true)⟩, none, [10, 11, 12, 13, 14, 15, 16]⟩),
  (19, ⟨⟨some 32, .indexAddr 3, [.t 29, .t 31], some (22, true)⟩, none, [10, 11, 12, 13, 14, 15]⟩),
  (20, ⟨⟨some 33, .fieldAddr 0, [.t 32], some (22, true)⟩, none, [10, 11, 12, 13, 14, 15]⟩),
  (21, ⟨⟨some 34, .fieldAddr 1, [.t 33], some (22, true)⟩, none, [10, 11, 12, 13, 14, 15]⟩),
  (22, ⟨⟨some 35, .load1, [.t 34], some (22, true)⟩, none, [10, 11, 12, 13, 14, 15]⟩),
  (23, ⟨⟨some 36, .bin .lss, [.t 28, .t 35], some (22, true)⟩, none, []⟩),
  (24, ⟨⟨some 37, .pick, [.t 22, .t 36, .c (.bool false)], some (19, false)⟩, none, []⟩),
  (25, ⟨⟨some 38, .pick, [.t 19, .c (.bool true), .t 37], none⟩, none, []⟩)]
def a23r6 : List IOp := [⟨some 2, .mv, [.c (.int .i64 1)], none⟩]
def a23r7 : List IOp := [⟨some 11, .mv, [.t 3], none⟩,
  ⟨some 12, .bin .add, [.t 11, .c (.int .i64 1)], none⟩,
  ⟨some 3, .mv, [.t 12], none⟩]
def a23r8 : List IOp := [⟨some 2, .mv, [.c (.int .i64 0)], none⟩]
def a23 : AFunc := ⟨39, [.tmp 2], (.seq (.region a23r0 [0]) (.seq (.seq (.region a23r1 [0, 6]) (.cond (.t 6) (.seq (.region a23r2 [2]) .ret) .skip)) (.seq (.seq (.region a23r3 [0, 3]) (.block 0 (.loop (.seq (.seq (.region a23r4 [0, 3, 10]) (.cond (.t 10) .skip (.exit 0))) (.seq (.block 1 (.seq (.draw a23r5 [] [0, 3, 38]) (.cond (.t 38) (.seq (.region a23r6 [2]) .ret) .skip))) (.region a23r7 [0, 3])))))) (.seq (.region a23r8 [2]) .ret))))⟩
theorem a23_ok : compileF Try.prog (lk [(0, ⟨[0], [], []⟩), (1, ⟨[0, 6], [], []⟩), (2, ⟨[2], [], []⟩), (3, ⟨[0, 3], [], []⟩), (4, ⟨[0, 3, 10], [], []⟩), (5, ⟨[0, 3], [], []⟩), (6, ⟨[0, 3, 38], [[], [], [0, 1], [2, 0, 1], [3, 2, 0, 1], [4, 3, 2, 0, 1], [5, 4, 3, 2, 0, 1], [6, 5, 4, 3, 2, 0, 1], [7, 6, 5, 4, 3, 2, 0, 1], [8, 6, 7, 5, 4, 3, 2, 0, 1], [9, 8, 6, 7, 5, 4, 3, 2, 0, 1], [9, 8, 6, 7, 5, 4, 3, 2, 0, 1], [10, 11, 9, 8, 6, 7, 5, 4, 3, 2, 0, 1], [12, 9, 10, 11, 8, 6, 7, 5, 4, 3, 2, 0, 1], [13, 9, 12, 10, 11, 8, 6, 7, 5, 4, 3, 2, 0, 1], [14, 9, 13, 12, 10, 11, 8, 6, 7, 5, 4, 3, 2, 0, 1], [9, 8, 6, 7, 5, 4, 3, 2, 0, 1], [9, 8, 6, 7, 5, 4, 3, 2, 0, 1], [17, 9, 8, 6, 7, 5, 4, 3, 2, 0, 1], [16, 18, 9, 8, 6, 7, 5, 4, 3, 2, 0, 1, 17], [19, 9, 16, 18, 8, 6, 7, 5, 4, 3, 2, 0, 1, 17], [20, 9, 19, 16, 18, 8, 6, 7, 5, 4, 3, 2, 0, 1, 17], [21, 9, 20, 19, 16, 18, 8, 6, 7, 5, 4, 3, 2, 0, 1, 17], [15, 22, 9, 14, 13, 12, 10, 11, 8, 6, 7, 5, 4, 3, 2, 0, 1, 21, 20, 19, 16, 18, 17], [9, 23, 6, 8, 7, 5, 4, 3, 2, 0, 1, 15, 22, 14, 13, 12, 10, 11, 21, 20, 19, 16, 18, 17], [6, 24, 5, 4, 3, 2, 0, 1, 9, 23, 8, 7, 15, 22, 14, 13, 12, 10, 11, 21, 20, 19, 16, 18, 17]], [0, 1, 2, 3, 4, 5, 6, 7, 8, 9, 10, 11, 12, 13, 14, 15, 16, 17, 18, 19, 20, 21, 22, 23, 24, 25]⟩), (7, ⟨[2], [], []⟩), (8, ⟨[2], [], []⟩)]) Try.f23 = some a23 := by kernel_rfl

/- payroll/payrollref9.Minutes -/
def a24r0 : List IOp := [⟨some 1, .box 29 3, [.t 0], none⟩,
  ⟨some 2, .mv, [.c (.int .i64 0)], none⟩]
def a24r1 : List IOp := [⟨some 5, .loadA 3, [.t 1], none⟩,
  ⟨some 6, .call 53, [.t 5], none⟩,
  ⟨some 7, .not, [.t 6], none⟩]
def a24r2 : List IOp := [⟨some 2, .mv, [.c (.int .i64 0)], none⟩]
def a24r3 : List IOp := [⟨some 8, .fieldAddr 0, [.t 1], none⟩,
  ⟨some 9, .fieldAddr 1, [.t 8], none⟩,
  ⟨some 10, .load1, [.t 9], none⟩,
  ⟨some 11, .fieldAddr 0, [.t 1], none⟩,
  ⟨some 12, .fieldAddr 0, [.t 11], none⟩,
  ⟨some 13, .load1, [.t 12], none⟩,
  ⟨some 14, .bin .sub, [.t 10, .t 13], none⟩,
  ⟨some 3, .mv, [.t 14], none⟩]
def a24r4 : List IOp := [⟨some 4, .mv, [.c (.int .i64 0)], none⟩]
def a24r5 : List IOp := [⟨some 15, .mv, [.t 4], none⟩,
  ⟨some 16, .fieldAddr 2, [.t 1], none⟩,
  ⟨some 17, .load1, [.t 16], none⟩,
  ⟨some 18, .len, [.t 17], none⟩,
  ⟨some 19, .bin .lss, [.t 15, .t 18], none⟩]
def a24r6 : List (Nat × DOp) := [(0, ⟨⟨some 22, .mv, [.t 3], none⟩, none, [1, 2, 3, 4, 5, 6, 7, 8, 9, 10, 11, 12, 13]⟩),
  (1, ⟨⟨some 23, .fieldAddr 2, [.t 1], none⟩, none, [0, 3, 7, 8, 9, 10, 11, 12]⟩),
  (2, ⟨⟨some 24, .load1, [.t 23], none⟩, none, [0, 3, 7, 8, 9, 10, 11, 12]⟩),
  (3, ⟨⟨some 25, .mv, [.t 4], none⟩, none, [0, 1, 2, 7, 8, 9, 10, 11, 12]⟩),
  (4, ⟨⟨some 26, .indexAddr 2, [.t 24, .t 25], none⟩, none, [0, 7, 8, 9, 10, 11, 12]⟩),
  (5, ⟨⟨some 27, .fieldAddr 1, [.t 26], none⟩, none, [0, 7, 8, 9, 10, 11, 12]⟩),
  (6, ⟨⟨some 28, .load1, [.t 27], none⟩, none, [0, 7, 8, 9, 10, 11, 12]⟩),
  (7, ⟨⟨some 29, .fieldAddr 2, [.t 1], none⟩, none, [0, 1, 2, 3, 4, 5, 6, 9]⟩),
  (8, ⟨⟨some 30, .load1, [.t 29], none⟩, none, [0, 1, 2, 3, 4, 5, 6, 9]⟩),
  (9, ⟨⟨some 31, .mv, [.t 4], none⟩, none, [0, 1, 2, 3, 4, 5, 6, 7, 8]⟩),
  (10, ⟨⟨some 32, .indexAddr 2, [.t 30, .t 31], none⟩, none, [0, 1, 2, 3, 4, 5, 6]⟩),
  (11, ⟨⟨some 33, .fieldAddr 0, [.t 32], none⟩, none, [0, 1, 2, 3, 4, 5, 6]⟩),
  (12, ⟨⟨some 34, .load1, [.t 33], none⟩, none, [0, 1, 2, 3, 4, 5, 6]⟩),
  (13, ⟨⟨some 35, .bin .sub, [.t 28, .t 34], none⟩, none, [0]⟩),
  (14, ⟨⟨some 36, .bin .sub, [.t 22, .t 35], none⟩, none, []⟩),
  (15, ⟨⟨some 3, .mv, [.t 36], none⟩, none, []⟩)]
def a24r7 : List IOp := [⟨some 20, .mv, [.t 4], none⟩,
  ⟨some 21, .bin .add, [.t 20, .c (.int .i64 1)], none⟩,
  ⟨some 4, .mv, [.t 21], none⟩]
def a24r8 : List IOp := [⟨some 37, .mv, [.t 3], none⟩,
  ⟨some 2, .mv, [.t 37], none⟩]
def a24 : AFunc := ⟨38, [.tmp 2], (.seq (.region a24r0 [1]) (.seq (.seq (.region a24r1 [1, 7]) (.cond (.t 7) (.seq (.region a24r2 [2]) .ret) .skip)) (.seq (.region a24r3 [1, 3]) (.seq (.seq (.region a24r4 [1, 3, 4]) (.block 0 (.loop (.seq (.seq (.region a24r5 [1, 3, 4, 19]) (.cond (.t 19) .skip (.exit 0))) (.seq (.block 1 (.draw a24r6 [] [1, 3, 4])) (.region a24r7 [1, 3, 4])))))) (.seq (.region a24r8 [2]) .ret)))))⟩
theorem a24_ok : compileF Try.prog (lk [(0, ⟨[1], [], []⟩), (1, ⟨[1, 7], [], []⟩), (2, ⟨[2], [], []⟩), (3, ⟨[1, 3], [], []⟩), (4, ⟨[1, 3, 4], [], []⟩), (5, ⟨[1, 3, 4, 19], [], []⟩), (6, ⟨[1, 3, 4], [], []⟩), (7, ⟨[1, 3, 4], [[], [], [1], [], [2, 3, 1], [4, 2, 3, 1], [5, 4, 2, 3, 1], [], [7], [], [8, 9, 7], [10, 8, 9, 7], [11, 10, 8, 9, 7], [6, 12, 5, 4, 2, 3, 1, 11, 10, 8, 9, 7], [0, 13, 6, 12, 5, 4, 2, 3, 1, 11, 10, 8, 9, 7], [14, 0, 1, 2, 3, 4, 5, 6, 7, 8, 9, 10, 11, 12, 13]], [0, 1, 2, 3, 4, 5, 6, 7, 8, 9, 10, 11, 12, 13, 14, 15]⟩), (8, ⟨[2], [], []⟩)]) Try.f24 = some a24 := by kernel_rfl

/- (*payroll/payrollgen.Tape).Stamps -/
def a25r0 : List IOp := [⟨some 4, .mv, [.c (.nils)], none⟩]
def a25r1 : List IOp := [⟨some 5, .mv, [.c (.int .i64 29453760)], none⟩]
def a25r2 : List IOp := [⟨some 6, .mv, [.c (.nils)], none⟩]
def a25r3 : List IOp := [⟨some 8, .mv, [.t 0], none⟩,
  ⟨some 9, .mv, [.t 1], none⟩,
  ⟨some 10, .bin .add, [.t 9, .c (.int .i64 1)], none⟩,
  ⟨some 11, .call 38, [.t 8, .t 10], none⟩,
  ⟨some 7, .mv, [.t 11], none⟩]
def a25r4 : List IOp := [⟨some 12, .mv, [.t 7], none⟩,
  ⟨some 13, .bin .gtr, [.t 12, .c (.int .i64 0)], none⟩]
def a25r5 : List IOp := [⟨some 16, .mv, [.t 5], none⟩,
  ⟨some 17, .mv, [.t 0], none⟩,
  ⟨some 18, .bslice 3 1 [.int .i64 0] 6 [0, 1, 2, 3, 4, 5], [.c (.int .i64 0), .c (.int .i64 30), .c (.int .i64 240), .c (.int .i64 480), .c (.int .i64 1), .c (.int .i64 720)], none⟩,
  ⟨some 19, .call 52, [.t 17, .t 18], none⟩,
  ⟨some 20, .bin .add, [.t 16, .t 19], none⟩,
  ⟨some 5, .mv, [.t 20], none⟩]
def a25r6 : List IOp := [⟨some 21, .mv, [.t 6], none⟩,
  ⟨some 22, .mv, [.t 5], none⟩,
  ⟨some 23, .mv, [.t 0], none⟩,
  ⟨some 24, .call 38, [.t 23, .c (.int .i64 4)], none⟩,
  ⟨some 25, .bin .add, [.c (.int .i64 1), .t 24], none⟩,
  ⟨some 26, .mv, [.t 0], none⟩,
  ⟨some 27, .call 54, [.t 26], none⟩,
  ⟨some 28, .build [.int .i64 0, .int .i64 0, .int .i64 0, .int .i64 0] [(0, 1), (1, 1), (2, 2)], [.t 22, .t 25, .t 27], none⟩,
  ⟨some 29, .bslice 34 4 [.int .i64 0, .int .i64 0, .int .i64 0, .int .i64 0] 1 [0], [.t 28], none⟩,
  ⟨some 30, .append 34 4 32, [.t 21, .t 29], none⟩,
  ⟨some 6, .mv, [.t 30], none⟩]
def a25r7 : List IOp := [⟨some 14, .mv, [.t 7], none⟩,
  ⟨some 15, .bin .sub, [.t 14, .c (.int .i64 1)], none⟩,
  ⟨some 7, .mv, [.t 15], none⟩]
def a25r8 : List IOp := [⟨some 31, .mv, [.t 6], none⟩,
  ⟨some 4, .mv, [.t 31], none⟩]
def a25 : AFunc := ⟨32, [.tmp 4], (.seq (.region a25r0 [0, 1]) (.seq (.region a25r1 [0, 1, 5]) (.seq (.region a25r2 [0, 1, 5, 6]) (.seq (.seq (.region a25r3 [0, 5, 6, 7]) (.block 0 (.loop (.seq (.seq (.region a25r4 [0, 5, 6, 7, 13]) (.cond (.t 13) .skip (.exit 0))) (.seq (.block 1 (.seq (.region a25r5 [0, 5, 6, 7]) (.region a25r6 [0, 5, 6, 7]))) (.region a25r7 [0, 5, 6, 7])))))) (.seq (.region a25r8 [4]) .ret)))))⟩
theorem a25_ok : compileF Try.prog (lk [(0, ⟨[0, 1], [], []⟩), (1, ⟨[0, 1, 5], [], []⟩), (2, ⟨[0, 1, 5, 6], [], []⟩), (3, ⟨[0, 5, 6, 7], [], []⟩), (4, ⟨[0, 5, 6, 7, 13], [], []⟩), (5, ⟨[0, 5, 6, 7], [], []⟩), (6, ⟨[0, 5, 6, 7], [], []⟩), (7, ⟨[0, 5, 6, 7], [], []⟩), (8, ⟨[4], [], []⟩)]) Try.f25 = some a25 := by kernel_rfl

/- payroll/payrolllaw9.has -/
def a26r0 : List IOp := [⟨some 6, .mv, [.c (.bool false)], none⟩]
def a26r1 : List IOp := [⟨some 7, .mv, [.c (.int .i64 0)], none⟩]
def a26r2 : List IOp := [⟨some 8, .mv, [.t 7], none⟩,
  ⟨some 9, .mv, [.t 0], none⟩,
  ⟨some 10, .len, [.t 9], none⟩,
  ⟨some 11, .bin .lss, [.t 8, .t 10], none⟩]
def a26r3 : List IOp := [⟨some 14, .mv, [.t 0], none⟩,
  ⟨some 15, .mv, [.t 7], none⟩,
  ⟨some 16, .indexAddr 4, [.t 14, .t 15], none⟩,
  ⟨some 17, .fieldAddr 0, [.t 16], none⟩,
  ⟨some 18, .load1, [.t 17], none⟩,
  ⟨some 19, .mv, [.t 1], none⟩,
  ⟨some 20, .bin .eql, [.t 18, .t 19], none⟩,
  ⟨some 21, .mv, [.t 20], none⟩,
  ⟨some 22, .mv, [.t 0], some (21, true)⟩,
  ⟨some 23, .mv, [.t 7], some (21, true)⟩,
  ⟨some 24, .indexAddr 4, [.t 22, .t 23], some (21, true)⟩,
  ⟨some 25, .fieldAddr 1, [.t 24], some (21, true)⟩,
  ⟨some 26, .load1, [.t 25], some (21, true)⟩,
  ⟨some 27, .mv, [.t 2], some (21, true)⟩,
  ⟨some 28, .bin .eql, [.t 26, .t 27], some (21, true)⟩,
  ⟨some 29, .pick, [.t 21, .t 28, .c (.bool false)], none⟩]
def a26r4 : List IOp := [⟨some 6, .mv, [.c (.bool true)], none⟩]
def a26r5 : List IOp := [⟨some 12, .mv, [.t 7], none⟩,
  ⟨some 13, .bin .add, [.t 12, .c (.int .i64 1)], none⟩,
  ⟨some 7, .mv, [.t 13], none⟩]
def a26r6 : List IOp := [⟨some 6, .mv, [.c (.bool false)], none⟩]
def a26 : AFunc := ⟨30, [.tmp 6], (.seq (.region a26r0 [0, 1, 2]) (.seq (.seq (.region a26r1 [0, 1, 2, 7]) (.block 0 (.loop (.seq (.seq (.region a26r2 [0, 1, 2, 7, 11]) (.cond (.t 11) .skip (.exit 0))) (.seq (.block 1 (.seq (.region a26r3 [0, 1, 2, 7, 29]) (.cond (.t 29) (.seq (.region a26r4 [6]) .ret) .skip))) (.region a26r5 [0, 1, 2, 7])))))) (.seq (.region a26r6 [6]) .ret)))⟩
theorem a26_ok : compileF Try.prog (lk [(0, ⟨[0, 1, 2], [], []⟩), (1, ⟨[0, 1, 2, 7], [], []⟩), (2, ⟨[0, 1, 2, 7, 11], [], []⟩), (3, ⟨[0, 1, 2, 7], [], []⟩), (4, ⟨[0, 1, 2, 7, 29], [], []⟩), (5, ⟨[6], [], []⟩), (6, ⟨[6], [], []⟩)]) Try.f26 = some a26 := by kernel_rfl

/- payroll/payrolllaw9.stamps -/
def a27r0 : List IOp := [⟨some 2, .mv, [.c (.nils)], none⟩]
def a27r1 : List IOp := [⟨some 3, .mv, [.c (.nils)], none⟩]
def a27r2 : List IOp := [⟨some 4, .mv, [.c (.int .i64 0)], none⟩]
def a27r3 : List IOp := [⟨some 6, .mv, [.t 4], none⟩,
  ⟨some 7, .mv, [.t 0], none⟩,
  ⟨some 8, .len, [.t 7], none⟩,
  ⟨some 9, .bin .lss, [.t 6, .t 8], none⟩]
def a27r4 : List IOp := [⟨some 12, .mv, [.t 3], none⟩,
  ⟨some 13, .mv, [.t 0], none⟩,
  ⟨some 14, .mv, [.t 4], none⟩,
  ⟨some 15, .indexAddr 3, [.t 13, .t 14], none⟩,
  ⟨some 16, .fieldAddr 0, [.t 15], none⟩,
  ⟨some 17, .fieldAddr 0, [.t 16], none⟩,
  ⟨some 18, .load1, [.t 17], none⟩,
  ⟨some 19, .build [.int .i64 0, .int .i64 0, .int .i64 0, .int .i64 0] [(0, 1), (1, 1)], [.t 18, .c (.int .i64 1)], none⟩,
  ⟨some 20, .bslice 34 4 [.int .i64 0, .int .i64 0, .int .i64 0, .int .i64 0] 1 [0], [.t 19], none⟩,
  ⟨some 21, .append 34 4 32, [.t 12, .t 20], none⟩,
  ⟨some 3, .mv, [.t 21], none⟩]
def a27r5 : List IOp := [⟨some 5, .mv, [.c (.int .i64 0)], none⟩]
def a27r6 : List IOp := [⟨some 22, .mv, [.t 5], none⟩,
  ⟨some 23, .mv, [.t 0], none⟩,
  ⟨some 24, .mv, [.t 4], none⟩,
  ⟨some 25, .indexAddr 3, [.t 23, .t 24], none⟩,
  ⟨some 26, .fieldAddr 2, [.t 25], none⟩,
  ⟨some 27, .load1, [.t 26], none⟩,
  ⟨some 28, .len, [.t 27], none⟩,
  ⟨some 29, .bin .lss, [.t 22, .t 28], none⟩]
def a27r7 : List (Nat × DOp) := [(0, ⟨⟨some 32, .mv, [.t 3], none⟩, none, [1, 2, 3, 4, 5, 6, 7, 8, 9, 10, 11, 12, 13, 14, 15, 16, 17, 18, 19, 20, 21]⟩),
  (1, ⟨⟨some 33, .mv, [.t 0], none⟩, none, [0, 2, 6, 11, 12, 13, 14, 15, 16, 17, 18, 19, 20]⟩),
  (2, ⟨⟨some 34, .mv, [.t 4], none⟩, none, [0, 1, 6, 11, 12, 13, 14, 15, 16, 17, 18, 19, 20]⟩),
  (3, ⟨⟨some 35, .indexAddr 3, [.t 33, .t 34], none⟩, none, [0, 6, 11, 12, 13, 14, 15, 16, 17, 18, 19, 20]⟩),
  (4, ⟨⟨some 36, .fieldAddr 2, [.t 35], none⟩, none, [0, 6, 11, 12, 13, 14, 15, 16, 17, 18, 19, 20]⟩),
  (5, ⟨⟨some 37, .load1, [.t 36], none⟩, none, [0, 6, 11, 12, 13, 14, 15, 16, 17, 18, 19, 20]⟩),
  (6, ⟨⟨some 38, .mv, [.t 5], none⟩, none, [0, 1, 2, 3, 4, 5, 11, 12, 13, 14, 15, 16, 17, 18, 19, 20]⟩),
  (7, ⟨⟨some 39, .indexAddr 2, [.t 37, .t 38], none⟩, none, [0, 11, 12, 13, 14, 15, 16, 17, 18, 19, 20]⟩),
  (8, ⟨⟨some 40, .fieldAddr 0, [.t 39], none⟩, none, [0, 11, 12, 13, 14, 15, 16, 17, 18, 19, 20]⟩),
  (9, ⟨⟨some 41, .load1, [.t 40], none⟩, none, [0, 11, 12, 13, 14, 15, 16, 17, 18, 19, 20]⟩),
  (10, ⟨⟨some 42, .build [.int .i64 0, .int .i64 0, .int .i64 0, .int .i64 0] [(0, 1), (1, 1)], [.t 41, .c (.int .i64 3)], none⟩, none, [0, 11, 12, 13, 14, 15, 16, 17, 18, 19, 20]⟩),
  (11, ⟨⟨some 43, .mv, [.t 0], none⟩, none, [0, 1, 2, 3, 4, 5, 6, 7, 8, 9, 10, 12, 16]⟩),
  (12, ⟨⟨some 44, .mv, [.t 4], none⟩, none, [0, 1, 2, 3, 4, 5, 6, 7, 8, 9, 10, 11, 16]⟩),
  (13, ⟨⟨some 45, .indexAddr 3, [.t 43, .t 44], none⟩, none, [0, 1, 2, 3, 4, 5, 6, 7, 8, 9, 10, 16]⟩),
  (14, ⟨⟨some 46, .fieldAddr 2, [.t 45], none⟩, none, [0, 1, 2, 3, 4, 5, 6, 7, 8, 9, 10, 16]⟩),
  (15, ⟨⟨some 47, .load1, [.t 46], none⟩, none, [0, 1, 2, 3, 4, 5, 6, 7, 8, 9, 10, 16]⟩),
  (16, ⟨⟨some 48, .mv, [.t 5], none⟩, none, [0, 1, 2, 3, 4, 5, 6, 7, 8, 9, 10, 11, 12, 13, 14, 15]⟩),
  (17, ⟨⟨some 49, .indexAddr 2, [.t 47, .t 48], none⟩, none, [0, 1, 2, 3, 4, 5, 6, 7, 8, 9, 10]⟩),
  (18, ⟨⟨some 50, .fieldAddr 1, [.t 49], none⟩, none, [0, 1, 2, 3, 4, 5, 6, 7, 8, 9, 10]⟩),
  (19, ⟨⟨some 51, .load1, [.t 50], none⟩, none, [0, 1, 2, 3, 4, 5, 6, 7, 8, 9, 10]⟩),
  (20, ⟨⟨some 52, .build [.int .i64 0, .int .i64 0, .int .i64 0, .int .i64 0] [(0, 1), (1, 1)], [.t 51, .c (.int .i64 4)], none⟩, none, [0, 1, 2, 3, 4, 5, 6, 7, 8, 9, 10]⟩),
  (21, ⟨⟨some 53, .bslice 34 4 [.int .i64 0, .int .i64 0, .int .i64 0, .int .i64 0] 2 [0, 1], [.t 42, .t 52], none⟩, some 0, [0]⟩),
  (22, ⟨⟨some 54, .append 34 4 32, [.t 32, .t 53], none⟩, none, []⟩),
  (23, ⟨⟨some 3, .mv, [.t 54], none⟩, none, []⟩)]
def a27r8 : List IOp := [⟨some 30, .mv, [.t 5], none⟩,
  ⟨some 31, .bin .add, [.t 30, .c (.int .i64 1)], none⟩,
  ⟨some 5, .mv, [.t 31], none⟩]
def a27r9 : List IOp := [⟨some 55, .mv, [.t 3], none⟩,
  ⟨some 56, .mv, [.t 0], none⟩,
  ⟨some 57, .mv, [.t 4], none⟩,
  ⟨some 58, .indexAddr 3, [.t 56, .t 57], none⟩,
  ⟨some 59, .fieldAddr 0, [.t 58], none⟩,
  ⟨some 60, .fieldAddr 1, [.t 59], none⟩,
  ⟨some 61, .load1, [.t 60], none⟩,
  ⟨some 62, .build [.int .i64 0, .int .i64 0, .int .i64 0, .int .i64 0] [(0, 1), (1, 1)], [.t 61, .c (.int .i64 2)], none⟩,
  ⟨some 63, .bslice 34 4 [.int .i64 0, .int .i64 0, .int .i64 0, .int .i64 0] 1 [0], [.t 62], none⟩,
  ⟨some 64, .append 34 4 32, [.t 55, .t 63], none⟩,
  ⟨some 3, .mv, [.t 64], none⟩]
def a27r10 : List IOp := [⟨some 10, .mv, [.t 4], none⟩,
  ⟨some 11, .bin .add, [.t 10, .c (.int .i64 1)], none⟩,
  ⟨some 4, .mv, [.t 11], none⟩]
def a27r11 : List IOp := [⟨some 65, .mv, [.t 3], none⟩,
  ⟨some 2, .mv, [.t 65], none⟩]
def a27 : AFunc := ⟨66, [.tmp 2], (.seq (.region a27r0 [0]) (.seq (.region a27r1 [0, 3]) (.seq (.seq (.region a27r2 [0, 3, 4]) (.block 0 (.loop (.seq (.seq (.region a27r3 [0, 3, 4, 9]) (.cond (.t 9) .skip (.exit 0))) (.seq (.block 1 (.seq (.region a27r4 [0, 3, 4]) (.seq (.seq (.region a27r5 [0, 3, 4, 5]) (.block 2 (.loop (.seq (.seq (.region a27r6 [0, 3, 4, 5, 29]) (.cond (.t 29) .skip (.exit 2))) (.seq (.block 3 (.draw a27r7 [(34, 4)] [0, 3, 4, 5])) (.region a27r8 [0, 3, 4, 5])))))) (.region a27r9 [0, 3, 4])))) (.region a27r10 [0, 3, 4])))))) (.seq (.region a27r11 [2]) .ret))))⟩
theorem a27_ok : compileF Try.prog (lk [(0, ⟨[0], [], []⟩), (1, ⟨[0, 3], [], []⟩), (2, ⟨[0, 3, 4], [], []⟩), (3, ⟨[0, 3, 4, 9], [], []⟩), (4, ⟨[0, 3, 4], [], []⟩), (5, ⟨[0, 3, 4], [], []⟩), (6, ⟨[0, 3, 4, 5], [], []⟩), (7, ⟨[0, 3, 4, 5, 29], [], []⟩), (8, ⟨[0, 3, 4, 5], [], []⟩), (9, ⟨[0, 3, 4, 5], [[], [], [], [1, 2], [3, 1, 2], [4, 3, 1, 2], [], [5, 6, 4, 3, 1, 2], [7, 5, 6, 4, 3, 1, 2], [8, 7, 5, 6, 4, 3, 1, 2], [9, 8, 7, 5, 6, 4, 3, 1, 2], [], [], [11, 12], [13, 11, 12], [14, 13, 11, 12], [], [15, 16, 14, 13, 11, 12], [17, 15, 16, 14, 13, 11, 12], [18, 17, 15, 16, 14, 13, 11, 12], [19, 18, 17, 15, 16, 14, 13, 11, 12], [10, 20, 9, 8, 7, 5, 6, 4, 3, 1, 2, 19, 18, 17, 15, 16, 14, 13, 11, 12], [0, 21, 10, 20, 9, 8, 7, 5, 6, 4, 3, 1, 2, 19, 18, 17, 15, 16, 14, 13, 11, 12], [22, 0, 1, 2, 3, 4, 5, 6, 7, 8, 9, 10, 11, 12, 13, 14, 15, 16, 17, 18, 19, 20, 21]], [0, 1, 2, 3, 4, 5, 6, 7, 8, 9, 10, 11, 12, 13, 14, 15, 16, 17, 18, 19, 20, 21, 22, 23]⟩), (10, ⟨[0, 3, 4], [], []⟩), (11, ⟨[2], [], []⟩)]) Try.f27 = some a27 := by kernel_rfl

/- payroll/payrolllaw9.same -/
def a28r0 : List IOp := [⟨some 4, .mv, [.c (.bool false)], none⟩]
def a28r1 : List IOp := [⟨some 7, .mv, [.t 0], none⟩,
  ⟨some 8, .len, [.t 7], none⟩,
  ⟨some 9, .mv, [.t 1], none⟩,
  ⟨some 10, .len, [.t 9], none⟩,
  ⟨some 11, .bin .neq, [.t 8, .t 10], none⟩]
def a28r2 : List IOp := [⟨some 4, .mv, [.c (.bool false)], none⟩]
def a28r3 : List IOp := [⟨some 5, .mv, [.c (.int .i64 0)], none⟩]
def a28r4 : List IOp := [⟨some 12, .mv, [.t 5], none⟩,
  ⟨some 13, .mv, [.t 0], none⟩,
  ⟨some 14, .len, [.t 13], none⟩,
  ⟨some 15, .bin .lss, [.t 12, .t 14], none⟩]
def a28r5 : List (Nat × DOp) := [(0, ⟨⟨some 18, .mv, [.t 0], none⟩, none, [1, 5, 6, 7, 8, 9]⟩),
  (1, ⟨⟨some 19, .mv, [.t 5], none⟩, none, [0, 5, 6, 7, 8, 9]⟩),
  (2, ⟨⟨some 20, .indexAddr 3, [.t 18, .t 19], none⟩, none, [5, 6, 7, 8, 9]⟩),
  (3, ⟨⟨some 21, .fieldAddr 0, [.t 20], none⟩, none, [5, 6, 7, 8, 9]⟩),
  (4, ⟨⟨some 22, .loadA 2, [.t 21], none⟩, none, [5, 6, 7, 8, 9]⟩),
  (5, ⟨⟨some 23, .mv, [.t 1], none⟩, none, [0, 1, 2, 3, 4, 6]⟩),
  (6, ⟨⟨some 24, .mv, [.t 5], none⟩, none, [0, 1, 2, 3, 4, 5]⟩),
  (7, ⟨⟨some 25, .indexAddr 3, [.t 23, .t 24], none⟩, none, [0, 1, 2, 3, 4]⟩),
  (8, ⟨⟨some 26, .fieldAddr 0, [.t 25], none⟩, none, [0, 1, 2, 3, 4]⟩),
  (9, ⟨⟨some 27, .loadA 2, [.t 26], none⟩, none, [0, 1, 2, 3, 4]⟩),
  (10, ⟨⟨some 28, .eqA true [.int .i64, .int .i64], [.t 22, .t 27], none⟩, none, []⟩),
  (11, ⟨⟨some 29, .mv, [.t 28], none⟩, none, []⟩),
  (12, ⟨⟨some 30, .mv, [.t 0], some (29, false)⟩, none, [13, 18, 19, 20, 21, 22, 23]⟩),
  (13, ⟨⟨some 31, .mv, [.t 5], some (29, false)⟩, none, [12, 18, 19, 20, 21, 22, 23]⟩),
  (14, ⟨⟨some 32, .indexAddr 3, [.t 30, .t 31], some (29, false)⟩, none, [18, 19, 20, 21, 22, 23]⟩),
  (15, ⟨⟨some 33, .fieldAddr 2, [.t 32], some (29, false)⟩, none, [18, 19, 20, 21, 22, 23]⟩),
  (16, ⟨⟨some 34, .load1, [.t 33], some (29, false)⟩, none, [18, 19, 20, 21, 22, 23]⟩),
  (17, ⟨⟨some 35, .len, [.t 34], some (29, false)⟩, none, [18, 19, 20, 21, 22, 23]⟩),
  (18, ⟨⟨some 36, .mv, [.t 1], some (29, false)⟩, none, [12, 13, 14, 15, 16, 17, 19]⟩),
  (19, ⟨⟨some 37, .mv, [.t 5], some (29, false)⟩, none, [12, 13, 14, 15, 16, 17, 18]⟩),
  (20, ⟨⟨some 38, .indexAddr 3, [.t 36, .t 37], some (29, false)⟩, none, [12, 13, 14, 15, 16, 17]⟩),
  (21, ⟨⟨some 39, .fieldAddr 2, [.t 38], some (29, false)⟩, none, [12, 13, 14, 15, 16, 17]⟩),
  (22, ⟨⟨some 40, .load1, [.t 39], some (29, false)⟩, none, [12, 13, 14, 15, 16, 17]⟩),
  (23, ⟨⟨some 41, .len, [.t 40], some (29, false)⟩, none, [12, 13, 14, 15, 16, 17]⟩),
  (24, ⟨⟨some 42, .bin .neq, [.t 35, .t 41], some (29, false)⟩, none, []⟩),
  (25, ⟨⟨some 43, .pick, [.t 29, .c (.bool true), .t 42], none⟩, none, []⟩)]
def a28r6 : List IOp := [⟨some 4, .mv, [.c (.bool false)], none⟩]
def a28r7 : List IOp := [⟨some 6, .mv, [.c (.int .i64 0)], none⟩]
def a28r8 : List IOp := [⟨some 44, .mv, [.t 6], none⟩,
  ⟨some 45, .mv, [.t 0], none⟩,
  ⟨some 46, .mv, [.t 5], none⟩,
  ⟨some 47, .indexAddr 3, [.t 45, .t 46], none⟩,
  ⟨some 48, .fieldAddr 2, [.t 47], none⟩,
  ⟨some 49, .load1, [.t 48], none⟩,
  ⟨some 50, .len, [.t 49], none⟩,
  ⟨some 51, .bin .lss, [.t 44, .t 50], none⟩]
def a28r9 : List (Nat × DOp) := [(0, ⟨⟨some 54, .mv, [.t 0], none⟩, none, [1, 5, 8, 9, 10, 11, 12, 13, 14, 15]⟩),
  (1, ⟨⟨some 55, .mv, [.t 5], none⟩, none, [0, 5, 8, 9, 10, 11, 12, 13, 14, 15]⟩),
  (2, ⟨⟨some 56, .indexAddr 3, [.t 54, .t 55], none⟩, none, [5, 8, 9, 10, 11, 12, 13, 14, 15]⟩),
  (3, ⟨⟨some 57, .fieldAddr 2, [.t 56], none⟩, none, [5, 8, 9, 10, 11, 12, 13, 14, 15]⟩),
  (4, ⟨⟨some 58, .load1, [.t 57], none⟩, none, [5, 8, 9, 10, 11, 12, 13, 14, 15]⟩),
  (5, ⟨⟨some 59, .mv, [.t 6], none⟩, none, [0, 1, 2, 3, 4, 8, 9, 10, 11, 12, 13, 14, 15]⟩),
  (6, ⟨⟨some 60, .indexAddr 2, [.t 58, .t 59], none⟩, none, [8, 9, 10, 11, 12, 13, 14, 15]⟩),
  (7, ⟨⟨some 61, .loadA 2, [.t 60], none⟩, none, [8, 9, 10, 11, 12, 13, 14, 15]⟩),
  (8, ⟨⟨some 62, .mv, [.t 1], none⟩, none, [0, 1, 2, 3, 4, 5, 6, 7, 9, 13]⟩),
  (9, ⟨⟨some 63, .mv, [.t 5], none⟩, none, [0, 1, 2, 3, 4, 5, 6, 7, 8, 13]⟩),
  (10, ⟨⟨some 64, .indexAddr 3, [.t 62, .t 63], none⟩, none, [0, 1, 2, 3, 4, 5, 6, 7, 13]⟩),
  (11, ⟨⟨some 65, .fieldAddr 2, [.t 64], none⟩, none, [0, 1, 2, 3, 4, 5, 6, 7, 13]⟩),
  (12, ⟨⟨some 66, .load1, [.t 65], none⟩, none, [0, 1, 2, 3, 4, 5, 6, 7, 13]⟩),
  (13, ⟨⟨some 67, .mv, [.t 6], none⟩, none, [0, 1, 2, 3, 4, 5, 6, 7, 8, 9, 10, 11, 12]⟩),
  (14, ⟨⟨some 68, .indexAddr 2, [.t 66, .t 67], none⟩, none, [0, 1, 2, 3, 4, 5, 6, 7]⟩),
  (15, ⟨⟨some 69, .loadA 2, [.t 68], none⟩, none, [0, 1, 2, 3, 4, 5, 6, 7]⟩),
  (16, ⟨⟨some 70, .eqA true [.int .i64, .int .i64], [.t 61, .t 69], none⟩, none, []⟩)]
def a28r10 : List IOp := [⟨some 4, .mv, [.c (.bool false)], none⟩]
def a28r11 : List IOp := [⟨some 52, .mv, [.t 6], none⟩,
  ⟨some 53, .bin .add, [.t 52, .c (.int .i64 1)], none⟩,
  ⟨some 6, .mv, [.t 53], none⟩]
def a28r12 : List IOp := [⟨some 16, .mv, [.t 5], none⟩,
  ⟨some 17, .bin .add, [.t 16, .c (.int .i64 1)], none⟩,
  ⟨some 5, .mv, [.t 17], none⟩]
def a28r13 : List IOp := [⟨some 4, .mv, [.c (.bool true)], none⟩]
def a28 : AFunc := ⟨71, [.tmp 4], (.seq (.region a28r0 [0, 1]) (.seq (.seq (.region a28r1 [0, 1, 11]) (.cond (.t 11) (.seq (.region a28r2 [4]) .ret) .skip)) (.seq (.seq (.region a28r3 [0, 1, 5]) (.block 0 (.loop (.seq (.seq (.region a28r4 [0, 1, 5, 15]) (.cond (.t 15) .skip (.exit 0))) (.seq (.block 1 (.seq (.seq (.draw a28r5 [] [0, 1, 5, 43]) (.cond (.t 43) (.seq (.region a28r6 [4]) .ret) .skip)) (.seq (.region a28r7 [0, 1, 5, 6]) (.block 2 (.loop (.seq (.seq (.region a28r8 [0, 1, 5, 6, 51]) (.cond (.t 51) .skip (.exit 2))) (.seq (.block 3 (.seq (.draw a28r9 [] [0, 1, 5, 6, 70]) (.cond (.t 70) (.seq (.region a28r10 [4]) .ret) .skip))) (.region a28r11 [0, 1, 5, 6])))))))) (.region a28r12 [0, 1, 5])))))) (.seq (.region a28r13 [4]) .ret))))⟩
theorem a28_ok : compileF Try.prog (lk [(0, ⟨[0, 1], [], []⟩), (1, ⟨[0, 1, 11], [], []⟩), (2, ⟨[4], [], []⟩), (3, ⟨[0, 1, 5], [], []⟩), (4, ⟨[0, 1, 5, 15], [], []⟩), (5, ⟨[0, 1, 5], [], []⟩), (6, ⟨[0, 1, 5, 43], [[], [], [0, 1], [2, 0, 1], [3, 2, 0, 1], [], [], [5, 6], [7, 5, 6], [8, 7, 5, 6], [4, 9, 3, 2, 0, 1, 8, 7, 5, 6], [10, 4, 9, 3, 2, 0, 1, 8, 7, 5, 6], [11, 10, 4, 9, 3, 2, 0, 1, 8, 7, 5, 6], [11, 10, 4, 9, 3, 2, 0, 1, 8, 7, 5, 6], [12, 13, 11, 10, 4, 9, 3, 2, 0, 1, 8, 7, 5, 6], [14, 11, 12, 13, 10, 4, 9, 3, 2, 0, 1, 8, 7, 5, 6], [15, 11, 14, 12, 13, 10, 4, 9, 3, 2, 0, 1, 8, 7, 5, 6], [16, 11, 15, 14, 12, 13, 10, 4, 9, 3, 2, 0, 1, 8, 7, 5, 6], [11, 10, 4, 9, 3, 2, 0, 1, 8, 7, 5, 6], [11, 10, 4, 9, 3, 2, 0, 1, 8, 7, 5, 6], [18, 19, 11, 10, 4, 9, 3, 2, 0, 1, 8, 7, 5, 6], [20, 11, 18, 19, 10, 4, 9, 3, 2, 0, 1, 8, 7, 5, 6], [21, 11, 20, 18, 19, 10, 4, 9, 3, 2, 0, 1, 8, 7, 5, 6], [22, 11, 21, 20, 18, 19, 10, 4, 9, 3, 2, 0, 1, 8, 7, 5, 6], [17, 23, 11, 16, 15, 14, 12, 13, 10, 4, 9, 3, 2, 0, 1, 8, 7, 5, 6, 22, 21, 20, 18, 19], [11, 24, 10, 4, 9, 3, 2, 0, 1, 8, 7, 5, 6, 17, 23, 16, 15, 14, 12, 13, 22, 21, 20, 18, 19]], [0, 1, 2, 3, 4, 5, 6, 7, 8, 9, 10, 11, 12, 13, 14, 15, 16, 17, 18, 19, 20, 21, 22, 23, 24, 25]⟩), (7, ⟨[4], [], []⟩), (8, ⟨[0, 1, 5, 6], [], []⟩), (9, ⟨[0, 1, 5, 6, 51], [], []⟩), (10, ⟨[0, 1, 5, 6], [], []⟩), (11, ⟨[0, 1, 5, 6, 70], [[], [], [0, 1], [2, 0, 1], [3, 2, 0, 1], [], [4, 5, 3, 2, 0, 1], [6, 4, 5, 3, 2, 0, 1], [], [], [8, 9], [10, 8, 9], [11, 10, 8, 9], [], [12, 13, 11, 10, 8, 9], [14, 12, 13, 11, 10, 8, 9], [7, 15, 6, 4, 5, 3, 2, 0, 1, 14, 12, 13, 11, 10, 8, 9]], [0, 1, 2, 3, 4, 5, 6, 7, 8, 9, 10, 11, 12, 13, 14, 15, 16]⟩), (12, ⟨[4], [], []⟩), (13, ⟨[4], [], []⟩)]) Try.f28 = some a28 := by kernel_rfl

/- (*payroll/payrollgen.Tape).Next -/
def a38r0 : List IOp := [⟨some 4, .mv, [.c (.int .i64 0)], none⟩]
def a38r1 : List (Nat × DOp) := [(0, ⟨⟨some 5, .mv, [.t 1], none⟩, none, []⟩),
  (1, ⟨⟨some 6, .bin .lss, [.t 5, .c (.int .i64 1)], none⟩, none, []⟩),
  (2, ⟨⟨some 7, .mv, [.t 6], none⟩, none, []⟩),
  (3, ⟨⟨some 8, .mv, [.t 0], some (7, false)⟩, none, [7, 8, 9, 10, 11]⟩),
  (4, ⟨⟨some 9, .nilchk, [.t 8], some (7, false)⟩, none, [7, 8, 9, 10, 11]⟩),
  (5, ⟨⟨some 10, .fieldAddr 1, [.t 9], some (7, false)⟩, none, [7, 8, 9, 10, 11]⟩),
  (6, ⟨⟨some 11, .load1, [.t 10], some (7, false)⟩, none, [7, 8, 9, 10, 11]⟩),
  (7, ⟨⟨some 12, .mv, [.t 0], some (7, false)⟩, none, [3, 4, 5, 6]⟩),
  (8, ⟨⟨some 13, .nilchk, [.t 12], some (7, false)⟩, none, [3, 4, 5, 6]⟩),
  (9, ⟨⟨some 14, .fieldAddr 0, [.t 13], some (7, false)⟩, none, [3, 4, 5, 6]⟩),
  (10, ⟨⟨some 15, .load1, [.t 14], some (7, false)⟩, none, [3, 4, 5, 6]⟩),
  (11, ⟨⟨some 16, .len, [.t 15], some (7, false)⟩, none, [3, 4, 5, 6]⟩),
  (12, ⟨⟨some 17, .bin .geq, [.t 11, .t 16], some (7, false)⟩, none, []⟩),
  (13, ⟨⟨some 18, .pick, [.t 7, .c (.bool true), .t 17], none⟩, none, []⟩)]
def a38r2 : List IOp := [⟨some 4, .mv, [.c (.int .i64 0)], none⟩]
def a38r3 : List IOp := [⟨some 19, .mv, [.t 0], none⟩,
  ⟨some 20, .nilchk, [.t 19], none⟩,
  ⟨some 21, .fieldAddr 1, [.t 20], none⟩,
  ⟨some 22, .load1, [.t 21], none⟩,
  ⟨some 23, .bin .add, [.t 22, .c (.int .i64 1)], none⟩,
  ⟨some 24, .nilchk, [.t 19], none⟩,
  ⟨some 25, .fieldAddr 1, [.t 24], none⟩,
  ⟨none, .store 1, [.t 25, .t 23], none⟩]
def a38r4 : List (Nat × DOp) := [(0, ⟨⟨some 26, .mv, [.t 0], none⟩, none, [4, 5, 6, 7, 8, 11]⟩),
  (1, ⟨⟨some 27, .nilchk, [.t 26], none⟩, none, [4, 5, 6, 7, 8, 11]⟩),
  (2, ⟨⟨some 28, .fieldAddr 0, [.t 27], none⟩, none, [4, 5, 6, 7, 8, 11]⟩),
  (3, ⟨⟨some 29, .load1, [.t 28], none⟩, none, [4, 5, 6, 7, 8, 11]⟩),
  (4, ⟨⟨some 30, .mv, [.t 0], none⟩, none, [0, 1, 2, 3, 11]⟩),
  (5, ⟨⟨some 31, .nilchk, [.t 30], none⟩, none, [0, 1, 2, 3, 11]⟩),
  (6, ⟨⟨some 32, .fieldAddr 1, [.t 31], none⟩, none, [0, 1, 2, 3, 11]⟩),
  (7, ⟨⟨some 33, .load1, [.t 32], none⟩, none, [0, 1, 2, 3, 11]⟩),
  (8, ⟨⟨some 34, .bin .sub, [.t 33, .c (.int .i64 1)], none⟩, none, [0, 1, 2, 3, 11]⟩),
  (9, ⟨⟨some 35, .indexAddr 1, [.t 29, .t 34], none⟩, none, [11]⟩),
  (10, ⟨⟨some 36, .load1, [.t 35], none⟩, none, [11]⟩),
  (11, ⟨⟨some 37, .mv, [.t 1], none⟩, none, [0, 1, 2, 3, 4, 5, 6, 7, 8, 9, 10]⟩),
  (12, ⟨⟨some 38, .call 14, [.t 36, .t 37], none⟩, none, []⟩),
  (13, ⟨⟨some 4, .mv, [.t 38], none⟩, none, []⟩)]
def a38 : AFunc := ⟨39, [.tmp 4], (.seq (.region a38r0 [0, 1]) (.seq (.seq (.draw a38r1 [] [0, 1, 18]) (.cond (.t 18) (.seq (.region a38r2 [4]) .ret) .skip)) (.seq (.region a38r3 [0, 1]) (.seq (.draw a38r4 [] [4]) .ret))))⟩
theorem a38_ok : compileF Try.prog (lk [(0, ⟨[0, 1], [], []⟩), (1, ⟨[0, 1, 18], [[], [0], [1, 0], [2, 1, 0], [3, 2, 1, 0], [4, 2, 3, 1, 0], [5, 2, 4, 3, 1, 0], [2, 1, 0], [7, 2, 1, 0], [8, 2, 7, 1, 0], [9, 2, 8, 7, 1, 0], [10, 2, 9, 8, 7, 1, 0], [6, 11, 2, 5, 4, 3, 1, 0, 10, 9, 8, 7], [2, 12, 1, 0, 6, 11, 5, 4, 3, 10, 9, 8, 7]], [0, 1, 2, 3, 4, 5, 6, 7, 8, 9, 10, 11, 12, 13]⟩), (2, ⟨[4], [], []⟩), (3, ⟨[0, 1], [], []⟩), (4, ⟨[4], [[], [0], [1, 0], [2, 1, 0], [], [4], [5, 4], [6, 5, 4], [7, 6, 5, 4], [3, 8, 2, 1, 0, 7, 6, 5, 4], [9, 3, 8, 2, 1, 0, 7, 6, 5, 4], [], [10, 11, 9, 3, 8, 2, 1, 0, 7, 6, 5, 4], [12, 0, 1, 2, 3, 4, 5, 6, 7, 8, 9, 10, 11]], [0, 1, 2, 3, 4, 5, 6, 7, 8, 9, 10, 11, 12, 13]⟩)]) Try.f38 = some a38 := by kernel_rfl

/- payroll/presence.check -/
def a47r0 : List IOp := [⟨some 4, .mv, [.c (.int .i64 0)], none⟩]
def a47r1 : List IOp := [⟨some 8, .mv, [.t 0], none⟩,
  ⟨some 9, .len, [.t 8], none⟩,
  ⟨some 10, .bin .gtr, [.t 9, .c (.int .i64 1024)], none⟩]
def a47r2 : List IOp := [⟨some 4, .mv, [.c (.int .i64 3)], none⟩]
def a47r3 : List IOp := [⟨some 11, .mv, [.t 1], none⟩,
  ⟨some 12, .bin .lss, [.t 11, .c (.int .i64 1)], none⟩,
  ⟨some 13, .mv, [.t 12], none⟩,
  ⟨some 14, .mv, [.t 1], some (13, false)⟩,
  ⟨some 15, .bin .gtr, [.t 14, .c (.int .i64 10080)], some (13, false)⟩,
  ⟨some 16, .pick, [.t 13, .c (.bool true), .t 15], none⟩]
def a47r4 : List IOp := [⟨some 4, .mv, [.c (.int .i64 2)], none⟩]
def a47r5 : List IOp := [⟨some 5, .mv, [.c (.int .i64 0)], none⟩]
def a47r6 : List IOp := [⟨some 17, .mv, [.t 0], none⟩,
  ⟨some 18, .len, [.t 17], none⟩,
  ⟨some 19, .mv, [.c (.int .i64 0)], none⟩]
def a47r7 : List IOp := [⟨some 20, .bin .lss, [.t 19, .t 18], none⟩]
def a47r8 : List IOp := [⟨some 21, .indexAddr 4, [.t 17, .t 19], none⟩,
  ⟨some 22, .loadA 4, [.t 21], none⟩,
  ⟨some 7, .alloc 34 [.int .i64 0, .int .i64 0, .int .i64 0, .int .i64 0], [], none⟩,
  ⟨none, .store 4, [.t 7, .t 22], none⟩]
def a47r9 : List IOp := [⟨some 23, .fieldAddr 1, [.t 7], none⟩,
  ⟨some 24, .load1, [.t 23], none⟩,
  ⟨some 25, .bin .lss, [.t 24, .c (.int .i64 1)], none⟩,
  ⟨some 26, .mv, [.t 25], none⟩,
  ⟨some 27, .fieldAddr 1, [.t 7], some (26, false)⟩,
  ⟨some 28, .load1, [.t 27], some (26, false)⟩,
  ⟨some 29, .bin .gtr, [.t 28, .c (.int .i64 4)], some (26, false)⟩,
  ⟨some 30, .pick, [.t 26, .c (.bool true), .t 29], none⟩,
  ⟨some 31, .mv, [.t 30], none⟩,
  ⟨some 32, .fieldAddr 0, [.t 7], some (31, false)⟩,
  ⟨some 33, .load1, [.t 32], some (31, false)⟩,
  ⟨some 34, .mv, [.t 5], some (31, false)⟩,
  ⟨some 35, .bin .lss, [.t 33, .t 34], some (31, false)⟩,
  ⟨some 36, .pick, [.t 31, .c (.bool true), .t 35], none⟩,
  ⟨some 37, .mv, [.t 36], none⟩,
  ⟨some 38, .fieldAddr 0, [.t 7], some (37, false)⟩,
  ⟨some 39, .load1, [.t 38], some (37, false)⟩,
  ⟨some 40, .bin .gtr, [.t 39, .c (.int .i64 120968639)], some (37, false)⟩,
  ⟨some 41, .pick, [.t 37, .c (.bool true), .t 40], none⟩]
def a47r10 : List IOp := [⟨some 4, .mv, [.c (.int .i64 1)], none⟩]
def a47r11 : List IOp := [⟨some 42, .fieldAddr 0, [.t 7], none⟩,
  ⟨some 43, .load1, [.t 42], none⟩,
  ⟨some 5, .mv, [.t 43], none⟩]
def a47r12 : List IOp := [⟨some 44, .bin .add, [.t 19, .c (.int .i64 1)], none⟩,
  ⟨some 19, .mv, [.t 44], none⟩]
def a47r13 : List IOp := [⟨some 4, .mv, [.c (.int .i64 0)], none⟩]
def a47 : AFunc := ⟨45, [.tmp 4], (.seq (.region a47r0 [0, 1]) (.seq (.seq (.region a47r1 [0, 1, 10]) (.cond (.t 10) (.seq (.region a47r2 [4]) .ret) .skip)) (.seq (.seq (.region a47r3 [0, 16]) (.cond (.t 16) (.seq (.region a47r4 [4]) .ret) .skip)) (.seq (.region a47r5 [0, 5]) (.seq (.seq (.region a47r6 [5, 17, 18, 19]) (.block 0 (.loop (.seq (.region a47r7 [5, 17, 18, 19, 20]) (.seq (.cond (.t 20) .skip (.exit 0)) (.seq (.block 1 (.seq (.region a47r8 [5, 7, 17, 18, 19]) (.seq (.seq (.region a47r9 [7, 17, 18, 19, 41]) (.cond (.t 41) (.seq (.region a47r10 [4]) .ret) .skip)) (.region a47r11 [5, 17, 18, 19])))) (.region a47r12 [5, 17, 18, 19]))))))) (.seq (.region a47r13 [4]) .ret))))))⟩
theorem a47_ok : compileF Try.prog (lk [(0, ⟨[0, 1], [], []⟩), (1, ⟨[0, 1, 10], [], []⟩), (2, ⟨[4], [], []⟩), (3, ⟨[0, 16], [], []⟩), (4, ⟨[4], [], []⟩), (5, ⟨[0, 5], [], []⟩), (6, ⟨[5, 17, 18, 19], [], []⟩), (7, ⟨[5, 17, 18, 19, 20], [], []⟩), (8, ⟨[5, 7, 17, 18, 19], [], []⟩), (9, ⟨[7, 17, 18, 19, 41], [], []⟩), (10, ⟨[4], [], []⟩), (11, ⟨[5, 17, 18, 19], [], []⟩), (12, ⟨[5, 17, 18, 19], [], []⟩), (13, ⟨[4], [], []⟩)]) Try.f47 = some a47 := by kernel_rfl

/- (*payroll/presence.pairing).read -/
def a48r0 : List IOp := [⟨some 3, .box 34 4, [.t 1], none⟩]
def a48r1 : List (Nat × DOp) := [(0, ⟨⟨some 4, .mv, [.t 0], none⟩, none, [4, 5]⟩),
  (1, ⟨⟨some 5, .nilchk, [.t 4], none⟩, none, [4, 5]⟩),
  (2, ⟨⟨some 6, .fieldAddr 1, [.t 5], none⟩, none, [4, 5]⟩),
  (3, ⟨⟨some 7, .load1, [.t 6], none⟩, none, [4, 5]⟩),
  (4, ⟨⟨some 8, .fieldAddr 1, [.t 3], none⟩, none, [0, 1, 2, 3]⟩),
  (5, ⟨⟨some 9, .load1, [.t 8], none⟩, none, [0, 1, 2, 3]⟩),
  (6, ⟨⟨some 10, .build [.int .i64 0, .int .i64 0] [(0, 1), (1, 1)], [.t 7, .t 9], none⟩, none, []⟩)]
def a48r2 : List IOp := [⟨some 16, .build [.int .i64 0, .int .i64 0] [(0, 1), (1, 1)], [.c (.int .i64 0), .c (.int .i64 1)], none⟩,
  ⟨some 17, .eqA false [.int .i64, .int .i64], [.t 10, .t 16], none⟩,
  ⟨some 15, .mv, [.t 17], none⟩]
def a48r3 : List IOp := [⟨some 18, .mv, [.t 0], none⟩,
  ⟨some 19, .fieldAddr 0, [.t 3], none⟩,
  ⟨some 20, .load1, [.t 19], none⟩,
  ⟨some 21, .call 70, [.t 18, .t 20], none⟩]
def a48r4 : List IOp := [⟨some 23, .build [.int .i64 0, .int .i64 0] [(0, 1), (1, 1)], [.c (.int .i64 1), .c (.int .i64 1)], none⟩,
  ⟨some 24, .eqA false [.int .i64, .int .i64], [.t 10, .t 23], none⟩,
  ⟨some 22, .mv, [.t 24], none⟩]
def a48r5 : List IOp := [⟨some 25, .build [.int .i64 0, .int .i64 0] [(0, 1), (1, 1)], [.c (.int .i64 2), .c (.int .i64 1)], none⟩,
  ⟨some 26, .eqA false [.int .i64, .int .i64], [.t 10, .t 25], none⟩,
  ⟨some 22, .mv, [.t 26], none⟩]
def a48r6 : List IOp := [⟨some 27, .mv, [.t 0], none⟩,
  ⟨some 28, .mv, [.t 0], none⟩,
  ⟨some 29, .nilchk, [.t 28], none⟩,
  ⟨some 30, .fieldAddr 2, [.t 29], none⟩,
  ⟨some 31, .load1, [.t 30], none⟩,
  ⟨some 32, .call 49, [.t 27, .c (.int .i64 1), .t 31], none⟩]
def a48r7 : List IOp := [⟨some 33, .mv, [.t 0], none⟩,
  ⟨some 34, .fieldAddr 0, [.t 3], none⟩,
  ⟨some 35, .load1, [.t 34], none⟩,
  ⟨some 36, .call 70, [.t 33, .t 35], none⟩]
def a48r8 : List IOp := [⟨some 38, .build [.int .i64 0, .int .i64 0] [(0, 1), (1, 1)], [.c (.int .i64 1), .c (.int .i64 2)], none⟩,
  ⟨some 39, .eqA false [.int .i64, .int .i64], [.t 10, .t 38], none⟩,
  ⟨some 37, .mv, [.t 39], none⟩]
def a48r9 : List IOp := [⟨some 40, .mv, [.t 0], none⟩,
  ⟨some 41, .fieldAddr 0, [.t 3], none⟩,
  ⟨some 42, .load1, [.t 41], none⟩,
  ⟨some 43, .call 71, [.t 40, .t 42], none⟩]
def a48r10 : List IOp := [⟨some 45, .build [.int .i64 0, .int .i64 0] [(0, 1), (1, 1)], [.c (.int .i64 2), .c (.int .i64 2)], none⟩,
  ⟨some 46, .eqA false [.int .i64, .int .i64], [.t 10, .t 45], none⟩,
  ⟨some 44, .mv, [.t 46], none⟩]
def a48r11 : List IOp := [⟨some 47, .mv, [.t 0], none⟩,
  ⟨some 48, .mv, [.t 0], none⟩,
  ⟨some 49, .nilchk, [.t 48], none⟩,
  ⟨some 50, .fieldAddr 3, [.t 49], none⟩,
  ⟨some 51, .load1, [.t 50], none⟩,
  ⟨some 52, .call 49, [.t 47, .c (.int .i64 4), .t 51], none⟩]
def a48r12 : List IOp := [⟨some 53, .mv, [.t 0], none⟩,
  ⟨some 54, .fieldAddr 0, [.t 3], none⟩,
  ⟨some 55, .load1, [.t 54], none⟩,
  ⟨some 56, .call 72, [.t 53, .t 55], none⟩]
def a48r13 : List IOp := [⟨some 57, .mv, [.t 0], none⟩,
  ⟨some 58, .fieldAddr 0, [.t 3], none⟩,
  ⟨some 59, .load1, [.t 58], none⟩,
  ⟨some 60, .call 71, [.t 57, .t 59], none⟩]
def a48r14 : List IOp := [⟨some 62, .build [.int .i64 0, .int .i64 0] [(0, 1), (1, 1)], [.c (.int .i64 1), .c (.int .i64 3)], none⟩,
  ⟨some 63, .eqA false [.int .i64, .int .i64], [.t 10, .t 62], none⟩,
  ⟨some 61, .mv, [.t 63], none⟩]
def a48r15 : List (Nat × DOp) := [(0, ⟨⟨some 64, .mv, [.t 0], none⟩, none, [1, 2, 3]⟩),
  (1, ⟨⟨some 65, .mv, [.t 0], none⟩, none, [0, 2, 3, 4, 5, 6]⟩),
  (2, ⟨⟨some 66, .fieldAddr 0, [.t 3], none⟩, none, [0, 1, 4, 5, 6]⟩),
  (3, ⟨⟨some 67, .load1, [.t 66], none⟩, none, [0, 1, 4, 5, 6]⟩),
  (4, ⟨⟨some 68, .nilchk, [.t 64], none⟩, none, [1, 2, 3]⟩),
  (5, ⟨⟨some 69, .fieldAddr 1, [.t 68], none⟩, none, [1, 2, 3]⟩),
  (6, ⟨⟨none, .store 1, [.t 69, .c (.int .i64 2)], none⟩, none, [1, 2, 3]⟩),
  (7, ⟨⟨some 70, .nilchk, [.t 65], none⟩, none, []⟩),
  (8, ⟨⟨some 71, .fieldAddr 3, [.t 70], none⟩, none, []⟩),
  (9, ⟨⟨none, .store 1, [.t 71, .t 67], none⟩, none, []⟩)]
def a48r16 : List IOp := [⟨some 73, .build [.int .i64 0, .int .i64 0] [(0, 1), (1, 1)], [.c (.int .i64 2), .c (.int .i64 3)], none⟩,
  ⟨some 74, .eqA false [.int .i64, .int .i64], [.t 10, .t 73], none⟩,
  ⟨some 72, .mv, [.t 74], none⟩]
def a48r17 : List IOp := [⟨some 75, .mv, [.t 0], none⟩,
  ⟨some 76, .mv, [.t 0], none⟩,
  ⟨some 77, .nilchk, [.t 76], none⟩,
  ⟨some 78, .fieldAddr 3, [.t 77], none⟩,
  ⟨some 79, .load1, [.t 78], none⟩,
  ⟨some 80, .call 49, [.t 75, .c (.int .i64 4), .t 79], none⟩]
def a48r18 : List IOp := [⟨some 81, .mv, [.t 0], none⟩,
  ⟨some 82, .fieldAddr 0, [.t 3], none⟩,
  ⟨some 83, .load1, [.t 82], none⟩,
  ⟨some 84, .nilchk, [.t 81], none⟩,
  ⟨some 85, .fieldAddr 3, [.t 84], none⟩,
  ⟨none, .store 1, [.t 85, .t 83], none⟩]
def a48r19 : List IOp := [⟨some 87, .build [.int .i64 0, .int .i64 0] [(0, 1), (1, 1)], [.c (.int .i64 1), .c (.int .i64 4)], none⟩,
  ⟨some 88, .eqA false [.int .i64, .int .i64], [.t 10, .t 87], none⟩,
  ⟨some 86, .mv, [.t 88], none⟩]
def a48r20 : List IOp := [⟨some 89, .mv, [.t 0], none⟩,
  ⟨some 90, .fieldAddr 0, [.t 3], none⟩,
  ⟨some 91, .load1, [.t 90], none⟩,
  ⟨some 92, .call 49, [.t 89, .c (.int .i64 5), .t 91], none⟩]
def a48r21 : List IOp := [⟨some 94, .build [.int .i64 0, .int .i64 0] [(0, 1), (1, 1)], [.c (.int .i64 2), .c (.int .i64 4)], none⟩,
  ⟨some 95, .eqA false [.int .i64, .int .i64], [.t 10, .t 94], none⟩,
  ⟨some 93, .mv, [.t 95], none⟩]
def a48r22 : List IOp := [⟨some 96, .mv, [.t 0], none⟩,
  ⟨some 97, .fieldAddr 0, [.t 3], none⟩,
  ⟨some 98, .load1, [.t 97], none⟩,
  ⟨some 99, .call 72, [.t 96, .t 98], none⟩]
def a48r23 : List IOp := [⟨some 11, .mv, [.t 0], none⟩,
  ⟨some 12, .fieldAddr 0, [.t 3], none⟩,
  ⟨some 13, .load1, [.t 12], none⟩,
  ⟨some 14, .call 49, [.t 11, .c (.int .i64 2), .t 13], none⟩]
def a48 : AFunc := ⟨100, [], (.seq (.region a48r0 [0, 3]) (.seq (.draw a48r1 [] [0, 3, 10]) (.block 0 (.seq (.region a48r2 [0, 3, 10, 15]) (.cond (.t 15) (.region a48r3 []) (.seq (.seq (.region a48r4 [0, 3, 10, 22]) (.cond (.t 22) .skip (.region a48r5 [0, 3, 10, 22]))) (.cond (.t 22) (.seq (.region a48r6 [0, 3]) (.region a48r7 [])) (.seq (.region a48r8 [0, 3, 10, 37]) (.cond (.t 37) (.region a48r9 []) (.seq (.region a48r10 [0, 3, 10, 44]) (.cond (.t 44) (.seq (.region a48r11 [0, 3]) (.seq (.region a48r12 [0, 3]) (.region a48r13 []))) (.seq (.region a48r14 [0, 3, 10, 61]) (.cond (.t 61) (.draw a48r15 [] []) (.seq (.region a48r16 [0, 3, 10, 72]) (.cond (.t 72) (.seq (.region a48r17 [0, 3]) (.region a48r18 [])) (.seq (.region a48r19 [0, 3, 10, 86]) (.cond (.t 86) (.region a48r20 []) (.seq (.region a48r21 [0, 3, 93]) (.cond (.t 93) (.region a48r22 []) (.region a48r23 []))))))))))))))))))))⟩
theorem a48_ok : compileF Try.prog (lk [(0, ⟨[0, 3], [], []⟩), (1, ⟨[0, 3, 10], [[], [0], [1, 0], [2, 1, 0], [], [4], [3, 5, 2, 1, 0, 4]], [0, 1, 2, 3, 4, 5, 6]⟩), (2, ⟨[], [], []⟩), (3, ⟨[0, 3, 10, 15], [], []⟩), (4, ⟨[], [], []⟩), (5, ⟨[0, 3, 10, 22], [], []⟩), (6, ⟨[0, 3, 10, 22], [], []⟩), (7, ⟨[0, 3], [], []⟩), (8, ⟨[], [], []⟩), (9, ⟨[0, 3, 10, 37], [], []⟩), (10, ⟨[], [], []⟩), (11, ⟨[0, 3, 10, 44], [], []⟩), (12, ⟨[0, 3], [], []⟩), (13, ⟨[0, 3], [], []⟩), (14, ⟨[], [], []⟩), (15, ⟨[0, 3, 10, 61], [], []⟩), (16, ⟨[], [[], [], [], [2], [0], [4, 0], [5, 0, 4], [1, 0, 2, 3, 4, 5, 6], [7, 0, 1, 2, 3, 4, 5, 6], [8, 3, 6, 0, 1, 2, 4, 5, 7]], [0, 1, 2, 3, 4, 5, 6, 7, 8, 9]⟩), (17, ⟨[0, 3, 10, 72], [], []⟩), (18, ⟨[0, 3], [], []⟩), (19, ⟨[], [], []⟩), (20, ⟨[0, 3, 10, 86], [], []⟩), (21, ⟨[], [], []⟩), (22, ⟨[0, 3, 93], [], []⟩), (23, ⟨[], [], []⟩)]) Try.f48 = some a48 := by kernel_rfl

/- (*payroll/presence.pairing).report -/
def a49r0 : List IOp := [⟨some 6, .mv, [.t 0], none⟩,
  ⟨some 7, .mv, [.t 0], none⟩,
  ⟨some 8, .nilchk, [.t 7], none⟩,
  ⟨some 9, .fieldAddr 6, [.t 8], none⟩,
  ⟨some 10, .load1, [.t 9], none⟩,
  ⟨some 11, .mv, [.t 1], none⟩,
  ⟨some 12, .mv, [.t 2], none⟩,
  ⟨some 13, .build [.int .i64 0, .int .i64 0] [(0, 1), (1, 1)], [.t 11, .t 12], none⟩,
  ⟨some 14, .bslice 98 2 [.int .i64 0, .int .i64 0] 1 [0], [.t 13], none⟩,
  ⟨some 15, .append 98 2 16, [.t 10, .t 14], none⟩,
  ⟨some 16, .nilchk, [.t 6], none⟩,
  ⟨some 17, .fieldAddr 6, [.t 16], none⟩,
  ⟨none, .store 1, [.t 17, .t 15], none⟩]
def a49 : AFunc := ⟨18, [], (.region a49r0 [])⟩
theorem a49_ok : compileF Try.prog (lk [(0, ⟨[], [], []⟩)]) Try.f49 = some a49 := by kernel_rfl

/- payroll/presence.within -/
def a50r0 : List IOp := [⟨some 3, .box 26 2, [.t 0], none⟩,
  ⟨some 6, .mv, [.c (.bool false)], none⟩]
def a50r1 : List IOp := [⟨some 7, .fieldAddr 0, [.t 3], none⟩,
  ⟨some 8, .load1, [.t 7], none⟩,
  ⟨some 9, .mv, [.t 1], none⟩,
  ⟨some 10, .bin .geq, [.t 8, .t 9], none⟩,
  ⟨some 11, .mv, [.t 10], none⟩,
  ⟨some 12, .fieldAddr 1, [.t 3], some (11, true)⟩,
  ⟨some 13, .load1, [.t 12], some (11, true)⟩,
  ⟨some 14, .fieldAddr 0, [.t 3], some (11, true)⟩,
  ⟨some 15, .load1, [.t 14], some (11, true)⟩,
  ⟨some 16, .bin .gtr, [.t 13, .t 15], some (11, true)⟩,
  ⟨some 17, .pick, [.t 11, .t 16, .c (.bool false)], none⟩,
  ⟨some 18, .mv, [.t 17], none⟩,
  ⟨some 19, .fieldAddr 1, [.t 3], some (18, true)⟩,
  ⟨some 20, .load1, [.t 19], some (18, true)⟩,
  ⟨some 21, .mv, [.t 2], some (18, true)⟩,
  ⟨some 22, .bin .leq, [.t 20, .t 21], some (18, true)⟩,
  ⟨some 23, .pick, [.t 18, .t 22, .c (.bool false)], none⟩,
  ⟨some 6, .mv, [.t 23], none⟩]
def a50 : AFunc := ⟨24, [.tmp 6], (.seq (.region a50r0 [1, 2, 3]) (.seq (.region a50r1 [6]) .ret))⟩
theorem a50_ok : compileF Try.prog (lk [(0, ⟨[1, 2, 3], [], []⟩), (1, ⟨[6], [], []⟩)]) Try.f50 = some a50 := by kernel_rfl

/- payroll/payrollref9.Pair -/
def a51r0 : List IOp := [⟨some 4, .mv, [.c (.nils)], none⟩,
  ⟨some 5, .mv, [.c (.nils)], none⟩,
  ⟨some 6, .mv, [.c (.int .i64 0)], none⟩]
def a51r1 : List IOp := [⟨some 11, .mv, [.t 0], none⟩,
  ⟨some 12, .len, [.t 11], none⟩,
  ⟨some 13, .bin .gtr, [.t 12, .c (.int .i64 1024)], none⟩]
def a51r2 : List IOp := [⟨some 4, .mv, [.c (.nils)], none⟩,
  ⟨some 5, .mv, [.c (.nils)], none⟩,
  ⟨some 6, .mv, [.c (.int .i64 3)], none⟩]
def a51r3 : List IOp := [⟨some 14, .mv, [.t 1], none⟩,
  ⟨some 15, .bin .lss, [.t 14, .c (.int .i64 1)], none⟩,
  ⟨some 16, .mv, [.t 15], none⟩,
  ⟨some 17, .mv, [.t 1], some (16, false)⟩,
  ⟨some 18, .bin .gtr, [.t 17, .c (.int .i64 10080)], some (16, false)⟩,
  ⟨some 19, .pick, [.t 16, .c (.bool true), .t 18], none⟩]
def a51r4 : List IOp := [⟨some 4, .mv, [.c (.nils)], none⟩,
  ⟨some 5, .mv, [.c (.nils)], none⟩,
  ⟨some 6, .mv, [.c (.int .i64 2)], none⟩]
def a51r5 : List IOp := [⟨some 7, .mv, [.c (.int .i64 0)], none⟩]
def a51r6 : List IOp := [⟨some 20, .mv, [.t 7], none⟩,
  ⟨some 21, .mv, [.t 0], none⟩,
  ⟨some 22, .len, [.t 21], none⟩,
  ⟨some 23, .bin .lss, [.t 20, .t 22], none⟩]
def a51r7 : List IOp := [⟨some 26, .mv, [.t 0], none⟩,
  ⟨some 27, .mv, [.t 7], none⟩,
  ⟨some 28, .indexAddr 4, [.t 26, .t 27], none⟩,
  ⟨some 29, .loadA 4, [.t 28], none⟩,
  ⟨some 8, .alloc 34 [.int .i64 0, .int .i64 0, .int .i64 0, .int .i64 0], [], none⟩,
  ⟨none, .store 4, [.t 8, .t 29], none⟩]
def a51r8 : List (Nat × DOp) := [(0, ⟨⟨some 30, .fieldAddr 1, [.t 8], none⟩, none, []⟩),
  (1, ⟨⟨some 31, .load1, [.t 30], none⟩, none, []⟩),
  (2, ⟨⟨some 32, .bin .lss, [.t 31, .c (.int .i64 1)], none⟩, none, []⟩),
  (3, ⟨⟨some 33, .mv, [.t 32], none⟩, none, []⟩),
  (4, ⟨⟨some 34, .fieldAddr 1, [.t 8], some (33, false)⟩, none, []⟩),
  (5, ⟨⟨some 35, .load1, [.t 34], some (33, false)⟩, none, []⟩),
  (6, ⟨⟨some 36, .bin .gtr, [.t 35, .c (.int .i64 4)], some (33, false)⟩, none, []⟩),
  (7, ⟨⟨some 37, .pick, [.t 33, .c (.bool true), .t 36], none⟩, none, []⟩),
  (8, ⟨⟨some 38, .mv, [.t 37], none⟩, none, []⟩),
  (9, ⟨⟨some 39, .fieldAddr 0, [.t 8], some (38, false)⟩, none, []⟩),
  (10, ⟨⟨some 40, .load1, [.t 39], some (38, false)⟩, none, []⟩),
  (11, ⟨⟨some 41, .bin .lss, [.t 40, .c (.int .i64 0)], some (38, false)⟩, none, []⟩),
  (12, ⟨⟨some 42, .pick, [.t 38, .c (.bool true), .t 41], none⟩, none, []⟩),
  (13, ⟨⟨some 43, .mv, [.t 42], none⟩, none, []⟩),
  (14, ⟨⟨some 44, .fieldAddr 0, [.t 8], some (43, false)⟩, none, []⟩),
  (15, ⟨⟨some 45, .load1, [.t 44], some (43, false)⟩, none, []⟩),
  (16, ⟨⟨some 46, .bin .gtr, [.t 45, .c (.int .i64 120968639)], some (43, false)⟩, none, []⟩),
  (17, ⟨⟨some 47, .pick, [.t 43, .c (.bool true), .t 46], none⟩, none, []⟩),
  (18, ⟨⟨some 48, .mv, [.t 47], none⟩, none, []⟩),
  (19, ⟨⟨some 49, .mv, [.t 7], some (48, false)⟩, none, []⟩),
  (20, ⟨⟨some 50, .bin .gtr, [.t 49, .c (.int .i64 0)], some (48, false)⟩, none, []⟩),
  (21, ⟨⟨some 51, .mv, [.t 50], some (48, false)⟩, none, []⟩),
  (22, ⟨⟨some 52, .fieldAddr 0, [.t 8], some (51, true)⟩, none, [24, 25, 26, 27, 28, 29]⟩),
  (23, ⟨⟨some 53, .load1, [.t 52], some (51, true)⟩, none, [24, 25, 26, 27, 28, 29]⟩),
  (24, ⟨⟨some 54, .mv, [.t 0], some (51, true)⟩, none, [22, 23, 25, 26]⟩),
  (25, ⟨⟨some 55, .mv, [.t 7], some (51, true)⟩, none, [22, 23, 24]⟩),
  (26, ⟨⟨some 56, .bin .sub, [.t 55, .c (.int .i64 1)], some (51, true)⟩, none, [22, 23, 24]⟩),
  (27, ⟨⟨some 57, .indexAddr 4, [.t 54, .t 56], some (51, true)⟩, none, [22, 23]⟩),
  (28, ⟨⟨some 58, .fieldAddr 0, [.t 57], some (51, true)⟩, none, [22, 23]⟩),
  (29, ⟨⟨some 59, .load1, [.t 58], some (51, true)⟩, none, [22, 23]⟩),
  (30, ⟨⟨some 60, .bin .lss, [.t 53, .t 59], some (51, true)⟩, none, []⟩),
  (31, ⟨⟨some 61, .pick, [.t 51, .t 60, .c (.bool false)], some (48, false)⟩, none, []⟩),
  (32, ⟨⟨some 62, .pick, [.t 48, .c (.bool true), .t 61], none⟩, none, []⟩)]
def a51r9 : List IOp := [⟨some 4, .mv, [.c (.nils)], none⟩,
  ⟨some 5, .mv, [.c (.nils)], none⟩,
  ⟨some 6, .mv, [.c (.int .i64 1)], none⟩]
def a51r10 : List IOp := [⟨some 24, .mv, [.t 7], none⟩,
  ⟨some 25, .bin .add, [.t 24, .c (.int .i64 1)], none⟩,
  ⟨some 7, .mv, [.t 25], none⟩]
def a51r11 : List IOp := [⟨some 63, .build [.bool false, .bool false, .int .i64 0, .int .i64 0, .nils, .nils, .nils] [], [], none⟩,
  ⟨some 64, .box 136 7, [.t 63], none⟩,
  ⟨some 9, .mv, [.t 64], none⟩]
def a51r12 : List IOp := [⟨some 10, .mv, [.c (.int .i64 0)], none⟩]
def a51r13 : List IOp := [⟨some 65, .mv, [.t 10], none⟩,
  ⟨some 66, .mv, [.t 0], none⟩,
  ⟨some 67, .len, [.t 66], none⟩,
  ⟨some 68, .bin .lss, [.t 65, .t 67], none⟩]
def a51r14 : List IOp := [⟨some 71, .mv, [.t 9], none⟩,
  ⟨some 72, .mv, [.t 0], none⟩,
  ⟨some 73, .mv, [.t 10], none⟩,
  ⟨some 74, .indexAddr 4, [.t 72, .t 73], none⟩,
  ⟨some 75, .loadA 4, [.t 74], none⟩,
  ⟨some 76, .mv, [.t 1], none⟩,
  ⟨some 77, .call 73, [.t 71, .t 75, .t 76], none⟩]
def a51r15 : List IOp := [⟨some 69, .mv, [.t 10], none⟩,
  ⟨some 70, .bin .add, [.t 69, .c (.int .i64 1)], none⟩,
  ⟨some 10, .mv, [.t 70], none⟩]
def a51r16 : List IOp := [⟨some 78, .mv, [.t 9], none⟩,
  ⟨some 79, .nilchk, [.t 78], none⟩,
  ⟨some 80, .fieldAddr 0, [.t 79], none⟩,
  ⟨some 81, .load1, [.t 80], none⟩]
def a51r17 : List IOp := [⟨some 82, .mv, [.t 9], none⟩,
  ⟨some 83, .mv, [.t 9], none⟩,
  ⟨some 84, .nilchk, [.t 83], none⟩,
  ⟨some 85, .fieldAddr 2, [.t 84], none⟩,
  ⟨some 86, .load1, [.t 85], none⟩,
  ⟨some 87, .call 74, [.t 82, .c (.int .i64 1), .t 86], none⟩]
def a51r18 : List (Nat × DOp) := [(0, ⟨⟨some 88, .mv, [.t 9], none⟩, none, [4, 5, 6, 7]⟩),
  (1, ⟨⟨some 89, .nilchk, [.t 88], none⟩, none, [4, 5, 6, 7]⟩),
  (2, ⟨⟨some 90, .fieldAddr 5, [.t 89], none⟩, none, [4, 5, 6, 7]⟩),
  (3, ⟨⟨some 91, .load1, [.t 90], none⟩, none, [4, 5, 6, 7]⟩),
  (4, ⟨⟨some 92, .mv, [.t 9], none⟩, none, [0, 1, 2, 3, 8]⟩),
  (5, ⟨⟨some 93, .nilchk, [.t 92], none⟩, none, [0, 1, 2, 3, 8]⟩),
  (6, ⟨⟨some 94, .fieldAddr 6, [.t 93], none⟩, none, [0, 1, 2, 3, 8]⟩),
  (7, ⟨⟨some 95, .load1, [.t 94], none⟩, none, [0, 1, 2, 3, 8]⟩),
  (8, ⟨⟨some 4, .mv, [.t 91], none⟩, none, [4, 5, 6, 7]⟩),
  (9, ⟨⟨some 5, .mv, [.t 95], none⟩, none, []⟩),
  (10, ⟨⟨some 6, .mv, [.c (.int .i64 0)], none⟩, none, []⟩)]
def a51 : AFunc := ⟨96, [.tmp 4, .tmp 5, .tmp 6], (.seq (.region a51r0 [0, 1]) (.seq (.seq (.region a51r1 [0, 1, 13]) (.cond (.t 13) (.seq (.region a51r2 [4, 5, 6]) .ret) .skip)) (.seq (.seq (.region a51r3 [0, 1, 19]) (.cond (.t 19) (.seq (.region a51r4 [4, 5, 6]) .ret) .skip)) (.seq (.seq (.region a51r5 [0, 1, 7]) (.block 0 (.loop (.seq (.seq (.region a51r6 [0, 1, 7, 23]) (.cond (.t 23) .skip (.exit 0))) (.seq (.block 1 (.seq (.region a51r7 [0, 1, 7, 8]) (.seq (.draw a51r8 [] [0, 1, 7, 62]) (.cond (.t 62) (.seq (.region a51r9 [4, 5, 6]) .ret) .skip)))) (.region a51r10 [0, 1, 7])))))) (.seq (.region a51r11 [0, 1, 9]) (.seq (.seq (.region a51r12 [0, 1, 9, 10]) (.block 2 (.loop (.seq (.seq (.region a51r13 [0, 1, 9, 10, 68]) (.cond (.t 68) .skip (.exit 2))) (.seq (.block 3 (.region a51r14 [0, 1, 9, 10])) (.region a51r15 [0, 1, 9, 10])))))) (.seq (.seq (.region a51r16 [9, 81]) (.cond (.t 81) (.region a51r17 [9]) .skip)) (.seq (.draw a51r18 [] [4, 5, 6]) .ret))))))))⟩
theorem a51_ok : compileF Try.prog (lk [(0, ⟨[0, 1], [], []⟩), (1, ⟨[0, 1, 13], [], []⟩), (2, ⟨[4, 5, 6], [], []⟩), (3, ⟨[0, 1, 19], [], []⟩), (4, ⟨[4, 5, 6], [], []⟩), (5, ⟨[0, 1, 7], [], []⟩), (6, ⟨[0, 1, 7, 23], [], []⟩), (7, ⟨[0, 1, 7], [], []⟩), (8, ⟨[0, 1, 7, 8], [], []⟩), (9, ⟨[0, 1, 7, 62], [[], [0], [1, 0], [2, 1, 0], [3, 2, 1, 0], [4, 3, 2, 1, 0], [5, 3, 4, 2, 1, 0], [3, 6, 2, 1, 0, 5, 4], [7, 3, 6, 2, 1, 0, 5, 4], [8, 7, 3, 6, 2, 1, 0, 5, 4], [9, 8, 7, 3, 6, 2, 1, 0, 5, 4], [10, 8, 9, 7, 3, 6, 2, 1, 0, 5, 4], [8, 11, 7, 3, 6, 2, 1, 0, 5, 4, 10, 9], [12, 8, 11, 7, 3, 6, 2, 1, 0, 5, 4, 10, 9], [13, 12, 8, 11, 7, 3, 6, 2, 1, 0, 5, 4, 10, 9], [14, 13, 12, 8, 11, 7, 3, 6, 2, 1, 0, 5, 4, 10, 9], [15, 13, 14, 12, 8, 11, 7, 3, 6, 2, 1, 0, 5, 4, 10, 9], [13, 16, 12, 8, 11, 7, 3, 6, 2, 1, 0, 5, 4, 10, 9, 15, 14], [17, 13, 16, 12, 8, 11, 7, 3, 6, 2, 1, 0, 5, 4, 10, 9, 15, 14], [18, 17, 13, 16, 12, 8, 11, 7, 3, 6, 2, 1, 0, 5, 4, 10, 9, 15, 14], [19, 18, 17, 13, 16, 12, 8, 11, 7, 3, 6, 2, 1, 0, 5, 4, 10, 9, 15, 14], [20, 18, 19, 17, 13, 16, 12, 8, 11, 7, 3, 6, 2, 1, 0, 5, 4, 10, 9, 15, 14], [21, 20, 18, 19, 17, 13, 16, 12, 8, 11, 7, 3, 6, 2, 1, 0, 5, 4, 10, 9, 15, 14], [22, 21, 20, 18, 19, 17, 13, 16, 12, 8, 11, 7, 3, 6, 2, 1, 0, 5, 4, 10, 9, 15, 14], [21, 20, 18, 19, 17, 13, 16, 12, 8, 11, 7, 3, 6, 2, 1, 0, 5, 4, 10, 9, 15, 14], [21, 20, 18, 19, 17, 13, 16, 12, 8, 11, 7, 3, 6, 2, 1, 0, 5, 4, 10, 9, 15, 14], [25, 21, 20, 18, 19, 17, 13, 16, 12, 8, 11, 7, 3, 6, 2, 1, 0, 5, 4, 10, 9, 15, 14], [24, 26, 21, 20, 18, 19, 17, 13, 16, 12, 8, 11, 7, 3, 6, 2, 1, 0, 5, 4, 10, 9, 15, 14, 25], [27, 21, 24, 26, 20, 18, 19, 17, 13, 16, 12, 8, 11, 7, 3, 6, 2, 1, 0, 5, 4, 10, 9, 15, 14, 25], [28, 21, 27, 24, 26, 20, 18, 19, 17, 13, 16, 12, 8, 11, 7, 3, 6, 2, 1, 0, 5, 4, 10, 9, 15, 14, 25], [23, 29, 21, 22, 20, 18, 19, 17, 13, 16, 12, 8, 11, 7, 3, 6, 2, 1, 0, 5, 4, 10, 9, 15, 14, 28, 27, 24, 26, 25], [21, 30, 18, 20, 19, 17, 13, 16, 12, 8, 11, 7, 3, 6, 2, 1, 0, 5, 4, 10, 9, 15, 14, 23, 29, 22, 28, 27, 24, 26, 25], [18, 31, 17, 13, 16, 12, 8, 11, 7, 3, 6, 2, 1, 0, 5, 4, 10, 9, 15, 14, 21, 30, 20, 19, 23, 29, 22, 28, 27, 24, 26, 25]], [0, 1, 2, 3, 4, 5, 6, 7, 8, 9, 10, 11, 12, 13, 14, 15, 16, 17, 18, 19, 20, 21, 22, 23, 24, 25, 26, 27, 28, 29, 30, 31, 32]⟩), (10, ⟨[4, 5, 6], [], []⟩), (11, ⟨[0, 1, 9], [], []⟩), (12, ⟨[0, 1, 9, 10], [], []⟩), (13, ⟨[0, 1, 9, 10, 68], [], []⟩), (14, ⟨[0, 1, 9, 10], [], []⟩), (15, ⟨[0, 1, 9, 10], [], []⟩), (16, ⟨[9, 81], [], []⟩), (17, ⟨[9], [], []⟩), (18, ⟨[4, 5, 6], [[], [0], [1, 0], [2, 1, 0], [], [4], [5, 4], [6, 5, 4], [3, 0, 1, 2], [7, 8, 0, 1, 2, 3, 4, 5, 6], [9, 0, 1, 2, 3, 4, 5, 6, 7, 8]], [0, 1, 2, 3, 4, 5, 6, 7, 8, 9, 10]⟩)]) Try.f51 = some a51 := by kernel_rfl

/- (*payroll/payrollgen.Tape).Pick -/
def a52r0 : List IOp := [⟨some 4, .mv, [.c (.int .i64 0)], none⟩]
def a52r1 : List IOp := [⟨some 5, .mv, [.t 1], none⟩,
  ⟨some 6, .mv, [.t 0], none⟩,
  ⟨some 7, .mv, [.t 1], none⟩,
  ⟨some 8, .len, [.t 7], none⟩,
  ⟨some 9, .call 38, [.t 6, .t 8], none⟩,
  ⟨some 10, .indexAddr 1, [.t 5, .t 9], none⟩,
  ⟨some 11, .load1, [.t 10], none⟩,
  ⟨some 4, .mv, [.t 11], none⟩]
def a52 : AFunc := ⟨12, [.tmp 4], (.seq (.region a52r0 [0, 1]) (.seq (.region a52r1 [4]) .ret))⟩
theorem a52_ok : compileF Try.prog (lk [(0, ⟨[0, 1], [], []⟩), (1, ⟨[4], [], []⟩)]) Try.f52 = some a52 := by kernel_rfl

/- payroll/payrollref9.one -/
def a53r0 : List IOp := [⟨some 1, .box 29 3, [.t 0], none⟩,
  ⟨some 2, .mv, [.c (.bool false)], none⟩]
def a53r1 : List IOp := [⟨some 6, .fieldAddr 0, [.t 1], none⟩,
  ⟨some 7, .loadA 2, [.t 6], none⟩,
  ⟨some 8, .call 56, [.t 7], none⟩,
  ⟨some 9, .not, [.t 8], none⟩,
  ⟨some 10, .mv, [.t 9], none⟩,
  ⟨some 11, .fieldAddr 2, [.t 1], some (10, false)⟩,
  ⟨some 12, .load1, [.t 11], some (10, false)⟩,
  ⟨some 13, .len, [.t 12], some (10, false)⟩,
  ⟨some 14, .bin .gtr, [.t 13, .c (.int .i64 1024)], some (10, false)⟩,
  ⟨some 15, .pick, [.t 10, .c (.bool true), .t 14], none⟩]
def a53r2 : List IOp := [⟨some 2, .mv, [.c (.bool false)], none⟩]
def a53r3 : List IOp := [⟨some 16, .fieldAddr 0, [.t 1], none⟩,
  ⟨some 17, .fieldAddr 0, [.t 16], none⟩,
  ⟨some 18, .load1, [.t 17], none⟩,
  ⟨some 3, .mv, [.t 18], none⟩]
def a53r4 : List IOp := [⟨some 4, .mv, [.c (.int .i64 0)], none⟩]
def a53r5 : List IOp := [⟨some 19, .mv, [.t 4], none⟩,
  ⟨some 20, .fieldAddr 2, [.t 1], none⟩,
  ⟨some 21, .load1, [.t 20], none⟩,
  ⟨some 22, .len, [.t 21], none⟩,
  ⟨some 23, .bin .lss, [.t 19, .t 22], none⟩]
def a53r6 : List IOp := [⟨some 26, .fieldAddr 2, [.t 1], none⟩,
  ⟨some 27, .load1, [.t 26], none⟩,
  ⟨some 28, .mv, [.t 4], none⟩,
  ⟨some 29, .indexAddr 2, [.t 27, .t 28], none⟩,
  ⟨some 30, .loadA 2, [.t 29], none⟩,
  ⟨some 5, .alloc 26 [.int .i64 0, .int .i64 0], [], none⟩,
  ⟨none, .store 2, [.t 5, .t 30], none⟩]
def a53r7 : List IOp := [⟨some 31, .loadA 2, [.t 5], none⟩,
  ⟨some 32, .call 56, [.t 31], none⟩,
  ⟨some 33, .not, [.t 32], none⟩,
  ⟨some 34, .mv, [.t 33], none⟩,
  ⟨some 35, .fieldAddr 0, [.t 5], some (34, false)⟩,
  ⟨some 36, .load1, [.t 35], some (34, false)⟩,
  ⟨some 37, .mv, [.t 3], some (34, false)⟩,
  ⟨some 38, .bin .lss, [.t 36, .t 37], some (34, false)⟩,
  ⟨some 39, .pick, [.t 34, .c (.bool true), .t 38], none⟩,
  ⟨some 40, .mv, [.t 39], none⟩,
  ⟨some 41, .fieldAddr 1, [.t 5], some (40, false)⟩,
  ⟨some 42, .load1, [.t 41], some (40, false)⟩,
  ⟨some 43, .fieldAddr 0, [.t 1], some (40, false)⟩,
  ⟨some 44, .fieldAddr 1, [.t 43], some (40, false)⟩,
  ⟨some 45, .load1, [.t 44], some (40, false)⟩,
  ⟨some 46, .bin .gtr, [.t 42, .t 45], some (40, false)⟩,
  ⟨some 47, .pick, [.t 40, .c (.bool true), .t 46], none⟩]
def a53r8 : List IOp := [⟨some 2, .mv, [.c (.bool false)], none⟩]
def a53r9 : List IOp := [⟨some 48, .fieldAddr 1, [.t 5], none⟩,
  ⟨some 49, .load1, [.t 48], none⟩,
  ⟨some 3, .mv, [.t 49], none⟩]
def a53r10 : List IOp := [⟨some 24, .mv, [.t 4], none⟩,
  ⟨some 25, .bin .add, [.t 24, .c (.int .i64 1)], none⟩,
  ⟨some 4, .mv, [.t 25], none⟩]
def a53r11 : List IOp := [⟨some 2, .mv, [.c (.bool true)], none⟩]
def a53 : AFunc := ⟨50, [.tmp 2], (.seq (.region a53r0 [1]) (.seq (.seq (.region a53r1 [1, 15]) (.cond (.t 15) (.seq (.region a53r2 [2]) .ret) .skip)) (.seq (.region a53r3 [1, 3]) (.seq (.seq (.region a53r4 [1, 3, 4]) (.block 0 (.loop (.seq (.seq (.region a53r5 [1, 3, 4, 23]) (.cond (.t 23) .skip (.exit 0))) (.seq (.block 1 (.seq (.region a53r6 [1, 3, 4, 5]) (.seq (.seq (.region a53r7 [1, 4, 5, 47]) (.cond (.t 47) (.seq (.region a53r8 [2]) .ret) .skip)) (.region a53r9 [1, 3, 4])))) (.region a53r10 [1, 3, 4])))))) (.seq (.region a53r11 [2]) .ret)))))⟩
theorem a53_ok : compileF Try.prog (lk [(0, ⟨[1], [], []⟩), (1, ⟨[1, 15], [], []⟩), (2, ⟨[2], [], []⟩), (3, ⟨[1, 3], [], []⟩), (4, ⟨[1, 3, 4], [], []⟩), (5, ⟨[1, 3, 4, 23], [], []⟩), (6, ⟨[1, 3, 4], [], []⟩), (7, ⟨[1, 3, 4, 5], [], []⟩), (8, ⟨[1, 4, 5, 47], [], []⟩), (9, ⟨[2], [], []⟩), (10, ⟨[1, 3, 4], [], []⟩), (11, ⟨[2], [], []⟩)]) Try.f53 = some a53 := by kernel_rfl

/- (*payroll/payrollgen.Tape).Key -/
def a54r0 : List IOp := [⟨some 2, .alloc 32 [.int .i64 0, .int .i64 0], [], none⟩]
def a54r1 : List IOp := [⟨some 3, .mv, [.t 0], none⟩,
  ⟨some 4, .call 38, [.t 3, .c (.int .i64 2)], none⟩,
  ⟨some 5, .mv, [.t 0], none⟩,
  ⟨some 6, .call 38, [.t 5, .c (.int .i64 9)], none⟩,
  ⟨some 7, .build [.int .i64 0, .int .i64 0] [(0, 1), (1, 1)], [.t 4, .t 6], none⟩,
  ⟨none, .store 2, [.t 2, .t 7], none⟩]
def a54 : AFunc := ⟨8, [.cellA 2 2], (.seq (.region a54r0 [0, 2]) (.seq (.region a54r1 [2]) .ret))⟩
theorem a54_ok : compileF Try.prog (lk [(0, ⟨[0, 2], [], []⟩), (1, ⟨[2], [], []⟩)]) Try.f54 = some a54 := by kernel_rfl

/- payroll/payrollref9.IsInterval -/
def a56r0 : List IOp := [⟨some 1, .box 26 2, [.t 0], none⟩,
  ⟨some 2, .mv, [.c (.bool false)], none⟩]
def a56r1 : List IOp := [⟨some 3, .fieldAddr 0, [.t 1], none⟩,
  ⟨some 4, .load1, [.t 3], none⟩,
  ⟨some 5, .bin .geq, [.t 4, .c (.int .i64 0)], none⟩,
  ⟨some 6, .mv, [.t 5], none⟩,
  ⟨some 7, .fieldAddr 0, [.t 1], some (6, true)⟩,
  ⟨some 8, .load1, [.t 7], some (6, true)⟩,
  ⟨some 9, .fieldAddr 1, [.t 1], some (6, true)⟩,
  ⟨some 10, .load1, [.t 9], some (6, true)⟩,
  ⟨some 11, .bin .lss, [.t 8, .t 10], some (6, true)⟩,
  ⟨some 12, .pick, [.t 6, .t 11, .c (.bool false)], none⟩,
  ⟨some 13, .mv, [.t 12], none⟩,
  ⟨some 14, .fieldAddr 1, [.t 1], some (13, true)⟩,
  ⟨some 15, .load1, [.t 14], some (13, true)⟩,
  ⟨some 16, .bin .leq, [.t 15, .c (.int .i64 120968640)], some (13, true)⟩,
  ⟨some 17, .pick, [.t 13, .t 16, .c (.bool false)], none⟩,
  ⟨some 2, .mv, [.t 17], none⟩]
def a56 : AFunc := ⟨18, [.tmp 2], (.seq (.region a56r0 [1]) (.seq (.region a56r1 [2]) .ret))⟩
theorem a56_ok : compileF Try.prog (lk [(0, ⟨[1], [], []⟩), (1, ⟨[2], [], []⟩)]) Try.f56 = some a56 := by kernel_rfl

/- (*payroll/presence.pairing).enter -/
def a70r0 : List IOp := [⟨some 4, .mv, [.t 0], none⟩,
  ⟨some 5, .mv, [.t 0], none⟩,
  ⟨some 6, .mv, [.t 0], none⟩,
  ⟨some 7, .mv, [.t 1], none⟩,
  ⟨some 8, .nilchk, [.t 4], none⟩,
  ⟨some 9, .fieldAddr 1, [.t 8], none⟩,
  ⟨none, .store 1, [.t 9, .c (.int .i64 1)], none⟩,
  ⟨some 10, .nilchk, [.t 5], none⟩,
  ⟨some 11, .fieldAddr 2, [.t 10], none⟩,
  ⟨none, .store 1, [.t 11, .t 7], none⟩,
  ⟨some 12, .nilchk, [.t 6], none⟩,
  ⟨some 13, .fieldAddr 4, [.t 12], none⟩,
  ⟨none, .store 1, [.t 13, .c (.nils)], none⟩]
def a70 : AFunc := ⟨14, [], (.region a70r0 [])⟩
theorem a70_ok : compileF Try.prog (lk [(0, ⟨[], [], []⟩)]) Try.f70 = some a70 := by kernel_rfl

/- (*payroll/presence.pairing).leave -/
def a71r0 : List (Nat × DOp) := [(0, ⟨⟨some 5, .mv, [.t 1], none⟩, none, [1, 2, 3, 4, 6, 7, 8, 9]⟩),
  (1, ⟨⟨some 6, .mv, [.t 0], none⟩, none, [0, 6, 7, 8, 9]⟩),
  (2, ⟨⟨some 7, .nilchk, [.t 6], none⟩, none, [0, 6, 7, 8, 9]⟩),
  (3, ⟨⟨some 8, .fieldAddr 2, [.t 7], none⟩, none, [0, 6, 7, 8, 9]⟩),
  (4, ⟨⟨some 9, .load1, [.t 8], none⟩, none, [0, 6, 7, 8, 9]⟩),
  (5, ⟨⟨some 10, .bin .sub, [.t 5, .t 9], none⟩, none, [6, 7, 8, 9]⟩),
  (6, ⟨⟨some 11, .mv, [.t 0], none⟩, none, [0, 1, 2, 3, 4, 5]⟩),
  (7, ⟨⟨some 12, .nilchk, [.t 11], none⟩, none, [0, 1, 2, 3, 4, 5]⟩),
  (8, ⟨⟨some 13, .fieldAddr 0, [.t 12], none⟩, none, [0, 1, 2, 3, 4, 5]⟩),
  (9, ⟨⟨some 14, .load1, [.t 13], none⟩, none, [0, 1, 2, 3, 4, 5]⟩),
  (10, ⟨⟨some 15, .bin .gtr, [.t 10, .t 14], none⟩, none, []⟩)]
def a71r1 : List IOp := [⟨some 16, .mv, [.t 0], none⟩,
  ⟨some 17, .mv, [.t 0], none⟩,
  ⟨some 18, .nilchk, [.t 17], none⟩,
  ⟨some 19, .fieldAddr 2, [.t 18], none⟩,
  ⟨some 20, .load1, [.t 19], none⟩,
  ⟨some 21, .call 49, [.t 16, .c (.int .i64 3), .t 20], none⟩]
def a71r2 : List IOp := [⟨some 22, .mv, [.t 1], none⟩,
  ⟨some 23, .mv, [.t 0], none⟩,
  ⟨some 24, .nilchk, [.t 23], none⟩,
  ⟨some 25, .fieldAddr 2, [.t 24], none⟩,
  ⟨some 26, .load1, [.t 25], none⟩,
  ⟨some 27, .bin .gtr, [.t 22, .t 26], none⟩]
def a71r3 : List IOp := [⟨some 28, .mv, [.t 0], none⟩,
  ⟨some 29, .nilchk, [.t 28], none⟩,
  ⟨some 30, .fieldAddr 2, [.t 29], none⟩,
  ⟨some 31, .load1, [.t 30], none⟩,
  ⟨some 32, .mv, [.t 1], none⟩,
  ⟨some 33, .build [.int .i64 0, .int .i64 0] [(0, 1), (1, 1)], [.t 31, .t 32], none⟩,
  ⟨some 4, .alloc 26 [.int .i64 0, .int .i64 0], [], none⟩,
  ⟨none, .store 2, [.t 4, .t 33], none⟩]
def a71r4 : List (Nat × DOp) := [(0, ⟨⟨some 34, .mv, [.t 0], none⟩, none, [1, 2, 3, 4, 5, 6, 7, 8, 9, 10, 11, 12]⟩),
  (1, ⟨⟨some 35, .mv, [.t 0], none⟩, none, [0, 5, 6, 7, 8, 9, 10, 11]⟩),
  (2, ⟨⟨some 36, .nilchk, [.t 35], none⟩, none, [0, 5, 6, 7, 8, 9, 10, 11]⟩),
  (3, ⟨⟨some 37, .fieldAddr 5, [.t 36], none⟩, none, [0, 5, 6, 7, 8, 9, 10, 11]⟩),
  (4, ⟨⟨some 38, .load1, [.t 37], none⟩, none, [0, 5, 6, 7, 8, 9, 10, 11]⟩),
  (5, ⟨⟨some 39, .loadA 2, [.t 4], none⟩, none, [0, 1, 2, 3, 4, 6, 7, 8, 9]⟩),
  (6, ⟨⟨some 40, .mv, [.t 0], none⟩, none, [0, 1, 2, 3, 4, 5]⟩),
  (7, ⟨⟨some 41, .nilchk, [.t 40], none⟩, none, [0, 1, 2, 3, 4, 5]⟩),
  (8, ⟨⟨some 42, .fieldAddr 4, [.t 41], none⟩, none, [0, 1, 2, 3, 4, 5]⟩),
  (9, ⟨⟨some 43, .load1, [.t 42], none⟩, none, [0, 1, 2, 3, 4, 5]⟩),
  (10, ⟨⟨some 44, .build [.int .i64 0, .int .i64 0, .nils] [(0, 2), (2, 1)], [.t 39, .t 43], none⟩, none, [0, 1, 2, 3, 4]⟩),
  (11, ⟨⟨some 45, .bslice 29 3 [.int .i64 0, .int .i64 0, .nils] 1 [0], [.t 44], none⟩, some 0, [0, 1, 2, 3, 4]⟩),
  (12, ⟨⟨some 46, .append 29 3 40, [.t 38, .t 45], none⟩, none, [0]⟩),
  (13, ⟨⟨some 47, .nilchk, [.t 34], none⟩, none, []⟩),
  (14, ⟨⟨some 48, .fieldAddr 5, [.t 47], none⟩, none, []⟩),
  (15, ⟨⟨none, .store 1, [.t 48, .t 46], none⟩, none, []⟩)]
def a71r5 : List IOp := [⟨some 49, .mv, [.t 0], none⟩,
  ⟨some 50, .mv, [.t 0], none⟩,
  ⟨some 51, .nilchk, [.t 49], none⟩,
  ⟨some 52, .fieldAddr 1, [.t 51], none⟩,
  ⟨none, .store 1, [.t 52, .c (.int .i64 0)], none⟩,
  ⟨some 53, .nilchk, [.t 50], none⟩,
  ⟨some 54, .fieldAddr 4, [.t 53], none⟩,
  ⟨none, .store 1, [.t 54, .c (.nils)], none⟩]
def a71 : AFunc := ⟨55, [], (.seq (.seq (.draw a71r0 [] [0, 1, 15]) (.cond (.t 15) (.region a71r1 [0]) (.seq (.region a71r2 [0, 1, 27]) (.cond (.t 27) (.seq (.region a71r3 [0, 4]) (.draw a71r4 [(29, 3)] [0])) .skip)))) (.region a71r5 []))⟩
theorem a71_ok : compileF Try.prog (lk [(0, ⟨[0, 1, 15], [[], [], [1], [2, 1], [3, 2, 1], [0, 4, 3, 2, 1], [], [6], [7, 6], [8, 7, 6], [5, 9, 0, 4, 3, 2, 1, 8, 7, 6]], [0, 1, 2, 3, 4, 5, 6, 7, 8, 9, 10]⟩), (1, ⟨[0], [], []⟩), (2, ⟨[0, 1, 27], [], []⟩), (3, ⟨[0, 4], [], []⟩), (4, ⟨[0], [[], [], [1], [2, 1], [3, 2, 1], [], [], [6], [7, 6], [8, 7, 6], [5, 9, 8, 7, 6], [10, 5, 9, 8, 7, 6], [4, 11, 3, 2, 1, 10, 5, 9, 8, 7, 6], [0, 1, 2, 3, 4, 5, 6, 7, 8, 9, 10, 11, 12], [13, 0, 1, 2, 3, 4, 5, 6, 7, 8, 9, 10, 11, 12], [14, 12, 0, 1, 2, 3, 4, 5, 6, 7, 8, 9, 10, 11, 13]], [0, 1, 2, 3, 4, 5, 6, 7, 8, 9, 10, 11, 12, 13, 14, 15]⟩), (5, ⟨[], [], []⟩)]) Try.f71 = some a71 := by kernel_rfl

/- (*payroll/presence.pairing).resume -/
def a72r0 : List IOp := [⟨some 4, .mv, [.t 1], none⟩,
  ⟨some 5, .mv, [.t 0], none⟩,
  ⟨some 6, .nilchk, [.t 5], none⟩,
  ⟨some 7, .fieldAddr 3, [.t 6], none⟩,
  ⟨some 8, .load1, [.t 7], none⟩,
  ⟨some 9, .bin .gtr, [.t 4, .t 8], none⟩]
def a72r1 : List (Nat × DOp) := [(0, ⟨⟨some 10, .mv, [.t 0], none⟩, none, [1, 2, 3, 4, 5, 6, 7, 8, 9, 10, 11, 12]⟩),
  (1, ⟨⟨some 11, .mv, [.t 0], none⟩, none, [0, 5, 6, 7, 8, 9, 10, 11]⟩),
  (2, ⟨⟨some 12, .nilchk, [.t 11], none⟩, none, [0, 5, 6, 7, 8, 9, 10, 11]⟩),
  (3, ⟨⟨some 13, .fieldAddr 4, [.t 12], none⟩, none, [0, 5, 6, 7, 8, 9, 10, 11]⟩),
  (4, ⟨⟨some 14, .load1, [.t 13], none⟩, none, [0, 5, 6, 7, 8, 9, 10, 11]⟩),
  (5, ⟨⟨some 15, .mv, [.t 0], none⟩, none, [0, 1, 2, 3, 4, 9]⟩),
  (6, ⟨⟨some 16, .nilchk, [.t 15], none⟩, none, [0, 1, 2, 3, 4, 9]⟩),
  (7, ⟨⟨some 17, .fieldAddr 3, [.t 16], none⟩, none, [0, 1, 2, 3, 4, 9]⟩),
  (8, ⟨⟨some 18, .load1, [.t 17], none⟩, none, [0, 1, 2, 3, 4, 9]⟩),
  (9, ⟨⟨some 19, .mv, [.t 1], none⟩, none, [0, 1, 2, 3, 4, 5, 6, 7, 8]⟩),
  (10, ⟨⟨some 20, .build [.int .i64 0, .int .i64 0] [(0, 1), (1, 1)], [.t 18, .t 19], none⟩, none, [0, 1, 2, 3, 4]⟩),
  (11, ⟨⟨some 21, .bslice 26 2 [.int .i64 0, .int .i64 0] 1 [0], [.t 20], none⟩, some 0, [0, 1, 2, 3, 4]⟩),
  (12, ⟨⟨some 22, .append 26 2 16, [.t 14, .t 21], none⟩, none, [0]⟩),
  (13, ⟨⟨some 23, .nilchk, [.t 10], none⟩, none, []⟩),
  (14, ⟨⟨some 24, .fieldAddr 4, [.t 23], none⟩, none, []⟩),
  (15, ⟨⟨none, .store 1, [.t 24, .t 22], none⟩, none, []⟩)]
def a72r2 : List IOp := [⟨some 25, .mv, [.t 0], none⟩,
  ⟨some 26, .nilchk, [.t 25], none⟩,
  ⟨some 27, .fieldAddr 1, [.t 26], none⟩,
  ⟨none, .store 1, [.t 27, .c (.int .i64 1)], none⟩]
def a72 : AFunc := ⟨28, [], (.seq (.seq (.region a72r0 [0, 1, 9]) (.cond (.t 9) (.draw a72r1 [(26, 2)] [0]) .skip)) (.region a72r2 []))⟩
theorem a72_ok : compileF Try.prog (lk [(0, ⟨[0, 1, 9], [], []⟩), (1, ⟨[0], [[], [], [1], [2, 1], [3, 2, 1], [], [5], [6, 5], [7, 6, 5], [], [8, 9, 7, 6, 5], [10, 8, 9, 7, 6, 5], [4, 11, 3, 2, 1, 10, 8, 9, 7, 6, 5], [0, 1, 2, 3, 4, 5, 6, 7, 8, 9, 10, 11, 12], [13, 0, 1, 2, 3, 4, 5, 6, 7, 8, 9, 10, 11, 12], [14, 12, 0, 1, 2, 3, 4, 5, 6, 7, 8, 9, 10, 11, 13]], [0, 1, 2, 3, 4, 5, 6, 7, 8, 9, 10, 11, 12, 13, 14, 15]⟩), (2, ⟨[], [], []⟩)]) Try.f72 = some a72 := by kernel_rfl

/- (*payroll/payrollref9.pairing).stamp -/
def a73r0 : List IOp := [⟨some 4, .box 34 4, [.t 1], none⟩]
def a73r1 : List IOp := [⟨some 11, .fieldAddr 1, [.t 4], none⟩,
  ⟨some 12, .load1, [.t 11], none⟩,
  ⟨some 13, .bin .eql, [.t 12, .c (.int .i64 1)], none⟩,
  ⟨some 10, .mv, [.t 13], none⟩]
def a73r2 : List IOp := [⟨some 14, .mv, [.t 0], none⟩,
  ⟨some 15, .nilchk, [.t 14], none⟩,
  ⟨some 16, .fieldAddr 0, [.t 15], none⟩,
  ⟨some 17, .load1, [.t 16], none⟩]
def a73r3 : List IOp := [⟨some 18, .mv, [.t 0], none⟩,
  ⟨some 19, .mv, [.t 0], none⟩,
  ⟨some 20, .nilchk, [.t 19], none⟩,
  ⟨some 21, .fieldAddr 2, [.t 20], none⟩,
  ⟨some 22, .load1, [.t 21], none⟩,
  ⟨some 23, .call 74, [.t 18, .c (.int .i64 1), .t 22], none⟩]
def a73r4 : List (Nat × DOp) := [(0, ⟨⟨some 24, .mv, [.t 0], none⟩, none, [1, 2, 3, 4, 5]⟩),
  (1, ⟨⟨some 25, .mv, [.t 0], none⟩, none, [0, 2, 3, 4, 5, 6, 7, 8]⟩),
  (2, ⟨⟨some 26, .mv, [.t 0], none⟩, none, [0, 1, 3, 4, 5, 6, 7, 8, 9, 10, 11]⟩),
  (3, ⟨⟨some 27, .mv, [.t 0], none⟩, none, [0, 1, 2, 4, 5, 6, 7, 8, 9, 10, 11, 12, 13, 14]⟩),
  (4, ⟨⟨some 28, .fieldAddr 0, [.t 4], none⟩, none, [0, 1, 2, 3, 6, 7, 8, 9, 10, 11]⟩),
  (5, ⟨⟨some 29, .load1, [.t 28], none⟩, none, [0, 1, 2, 3, 6, 7, 8, 9, 10, 11]⟩),
  (6, ⟨⟨some 30, .nilchk, [.t 24], none⟩, none, [1, 2, 3, 4, 5]⟩),
  (7, ⟨⟨some 31, .fieldAddr 0, [.t 30], none⟩, none, [1, 2, 3, 4, 5]⟩),
  (8, ⟨⟨none, .store 1, [.t 31, .c (.bool true)], none⟩, none, [1, 2, 3, 4, 5]⟩),
  (9, ⟨⟨some 32, .nilchk, [.t 25], none⟩, none, [2, 3, 4, 5]⟩),
  (10, ⟨⟨some 33, .fieldAddr 1, [.t 32], none⟩, none, [2, 3, 4, 5]⟩),
  (11, ⟨⟨none, .store 1, [.t 33, .c (.bool false)], none⟩, none, [2, 3, 4, 5]⟩),
  (12, ⟨⟨some 34, .nilchk, [.t 26], none⟩, none, [3]⟩),
  (13, ⟨⟨some 35, .fieldAddr 2, [.t 34], none⟩, none, [3]⟩),
  (14, ⟨⟨none, .store 1, [.t 35, .t 29], none⟩, none, [3]⟩),
  (15, ⟨⟨some 36, .nilchk, [.t 27], none⟩, none, []⟩),
  (16, ⟨⟨some 37, .fieldAddr 4, [.t 36], none⟩, none, []⟩),
  (17, ⟨⟨none, .store 1, [.t 37, .c (.nils)], none⟩, none, []⟩)]
def a73r5 : List IOp := [⟨some 39, .mv, [.t 0], none⟩,
  ⟨some 40, .nilchk, [.t 39], none⟩,
  ⟨some 41, .fieldAddr 0, [.t 40], none⟩,
  ⟨some 42, .load1, [.t 41], none⟩,
  ⟨some 43, .not, [.t 42], none⟩,
  ⟨some 38, .mv, [.t 43], none⟩]
def a73r6 : List IOp := [⟨some 44, .mv, [.t 0], none⟩,
  ⟨some 45, .fieldAddr 0, [.t 4], none⟩,
  ⟨some 46, .load1, [.t 45], none⟩,
  ⟨some 47, .call 74, [.t 44, .c (.int .i64 2), .t 46], none⟩]
def a73r7 : List IOp := [⟨some 49, .fieldAddr 1, [.t 4], none⟩,
  ⟨some 50, .load1, [.t 49], none⟩,
  ⟨some 51, .bin .eql, [.t 50, .c (.int .i64 2)], none⟩,
  ⟨some 48, .mv, [.t 51], none⟩]
def a73r8 : List IOp := [⟨some 52, .mv, [.t 0], none⟩,
  ⟨some 53, .fieldAddr 0, [.t 4], none⟩,
  ⟨some 54, .load1, [.t 53], none⟩,
  ⟨some 55, .mv, [.t 2], none⟩,
  ⟨some 56, .call 85, [.t 52, .t 54, .t 55], none⟩]
def a73r9 : List IOp := [⟨some 58, .fieldAddr 1, [.t 4], none⟩,
  ⟨some 59, .load1, [.t 58], none⟩,
  ⟨some 60, .bin .eql, [.t 59, .c (.int .i64 3)], none⟩,
  ⟨some 57, .mv, [.t 60], none⟩]
def a73r10 : List IOp := [⟨some 61, .mv, [.t 0], none⟩,
  ⟨some 62, .nilchk, [.t 61], none⟩,
  ⟨some 63, .fieldAddr 1, [.t 62], none⟩,
  ⟨some 64, .load1, [.t 63], none⟩]
def a73r11 : List IOp := [⟨some 65, .mv, [.t 0], none⟩,
  ⟨some 66, .mv, [.t 0], none⟩,
  ⟨some 67, .nilchk, [.t 66], none⟩,
  ⟨some 68, .fieldAddr 3, [.t 67], none⟩,
  ⟨some 69, .load1, [.t 68], none⟩,
  ⟨some 70, .call 74, [.t 65, .c (.int .i64 4), .t 69], none⟩]
def a73r12 : List (Nat × DOp) := [(0, ⟨⟨some 71, .mv, [.t 0], none⟩, none, [1, 2, 3]⟩),
  (1, ⟨⟨some 72, .mv, [.t 0], none⟩, none, [0, 2, 3, 4, 5, 6]⟩),
  (2, ⟨⟨some 73, .fieldAddr 0, [.t 4], none⟩, none, [0, 1, 4, 5, 6]⟩),
  (3, ⟨⟨some 74, .load1, [.t 73], none⟩, none, [0, 1, 4, 5, 6]⟩),
  (4, ⟨⟨some 75, .nilchk, [.t 71], none⟩, none, [1, 2, 3]⟩),
  (5, ⟨⟨some 76, .fieldAddr 1, [.t 75], none⟩, none, [1, 2, 3]⟩),
  (6, ⟨⟨none, .store 1, [.t 76, .c (.bool true)], none⟩, none, [1, 2, 3]⟩),
  (7, ⟨⟨some 77, .nilchk, [.t 72], none⟩, none, []⟩),
  (8, ⟨⟨some 78, .fieldAddr 3, [.t 77], none⟩, none, []⟩),
  (9, ⟨⟨none, .store 1, [.t 78, .t 74], none⟩, none, []⟩)]
def a73r13 : List IOp := [⟨some 80, .mv, [.t 0], none⟩,
  ⟨some 81, .nilchk, [.t 80], none⟩,
  ⟨some 82, .fieldAddr 1, [.t 81], none⟩,
  ⟨some 83, .load1, [.t 82], none⟩,
  ⟨some 79, .mv, [.t 83], none⟩]
def a73r14 : List IOp := [⟨some 84, .mv, [.t 0], none⟩,
  ⟨some 85, .fieldAddr 0, [.t 4], none⟩,
  ⟨some 86, .load1, [.t 85], none⟩,
  ⟨some 87, .call 86, [.t 84, .t 86], none⟩]
def a73r15 : List IOp := [⟨some 6, .mv, [.t 0], none⟩,
  ⟨some 7, .fieldAddr 0, [.t 4], none⟩,
  ⟨some 8, .load1, [.t 7], none⟩,
  ⟨some 9, .call 74, [.t 6, .c (.int .i64 5), .t 8], none⟩]
def a73 : AFunc := ⟨88, [], (.seq (.region a73r0 [0, 2, 4]) (.block 0 (.seq (.region a73r1 [0, 2, 4, 10]) (.cond (.t 10) (.seq (.seq (.region a73r2 [0, 4, 17]) (.cond (.t 17) (.region a73r3 [0, 4]) .skip)) (.draw a73r4 [] [])) (.seq (.region a73r5 [0, 2, 4, 38]) (.cond (.t 38) (.region a73r6 []) (.seq (.region a73r7 [0, 2, 4, 48]) (.cond (.t 48) (.region a73r8 []) (.seq (.region a73r9 [0, 4, 57]) (.cond (.t 57) (.seq (.seq (.region a73r10 [0, 4, 64]) (.cond (.t 64) (.region a73r11 [0, 4]) .skip)) (.draw a73r12 [] [])) (.seq (.region a73r13 [0, 4, 79]) (.cond (.t 79) (.region a73r14 []) (.region a73r15 [])))))))))))))⟩
theorem a73_ok : compileF Try.prog (lk [(0, ⟨[0, 2, 4], [], []⟩), (1, ⟨[], [], []⟩), (2, ⟨[0, 2, 4, 10], [], []⟩), (3, ⟨[0, 4, 17], [], []⟩), (4, ⟨[0, 4], [], []⟩), (5, ⟨[], [[], [], [], [], [], [4], [0], [6, 0], [7, 0, 6], [1, 0, 6, 7, 8], [9, 0, 1, 6, 7, 8], [10, 8, 0, 1, 6, 7, 9], [2, 0, 1, 4, 5, 6, 7, 8, 9, 10, 11], [12, 0, 1, 2, 4, 5, 6, 7, 8, 9, 10, 11], [13, 5, 11, 0, 1, 2, 4, 6, 7, 8, 9, 10, 12], [3, 0, 1, 2, 4, 5, 6, 7, 8, 9, 10, 11, 12, 13, 14], [15, 0, 1, 2, 3, 4, 5, 6, 7, 8, 9, 10, 11, 12, 13, 14], [16, 14, 0, 1, 2, 3, 4, 5, 6, 7, 8, 9, 10, 11, 12, 13, 15]], [0, 1, 2, 3, 4, 5, 6, 7, 8, 9, 10, 11, 12, 13, 14, 15, 16, 17]⟩), (6, ⟨[0, 2, 4, 38], [], []⟩), (7, ⟨[], [], []⟩), (8, ⟨[0, 2, 4, 48], [], []⟩), (9, ⟨[], [], []⟩), (10, ⟨[0, 4, 57], [], []⟩), (11, ⟨[0, 4, 64], [], []⟩), (12, ⟨[0, 4], [], []⟩), (13, ⟨[], [[], [], [], [2], [0], [4, 0], [5, 0, 4], [1, 0, 2, 3, 4, 5, 6], [7, 0, 1, 2, 3, 4, 5, 6], [8, 3, 6, 0, 1, 2, 4, 5, 7]], [0, 1, 2, 3, 4, 5, 6, 7, 8, 9]⟩), (14, ⟨[0, 4, 79], [], []⟩), (15, ⟨[], [], []⟩)]) Try.f73 = some a73 := by kernel_rfl

/- (*payroll/payrollref9.pairing).anomaly -/
def a74r0 : List IOp := [⟨some 6, .mv, [.t 0], none⟩,
  ⟨some 7, .mv, [.t 0], none⟩,
  ⟨some 8, .nilchk, [.t 7], none⟩,
  ⟨some 9, .fieldAddr 6, [.t 8], none⟩,
  ⟨some 10, .load1, [.t 9], none⟩,
  ⟨some 11, .mv, [.t 1], none⟩,
  ⟨some 12, .mv, [.t 2], none⟩,
  ⟨some 13, .build [.int .i64 0, .int .i64 0] [(0, 1), (1, 1)], [.t 11, .t 12], none⟩,
  ⟨some 14, .bslice 98 2 [.int .i64 0, .int .i64 0] 1 [0], [.t 13], none⟩,
  ⟨some 15, .append 98 2 16, [.t 10, .t 14], none⟩,
  ⟨some 16, .nilchk, [.t 6], none⟩,
  ⟨some 17, .fieldAddr 6, [.t 16], none⟩,
  ⟨none, .store 1, [.t 17, .t 15], none⟩]
def a74 : AFunc := ⟨18, [], (.region a74r0 [])⟩
theorem a74_ok : compileF Try.prog (lk [(0, ⟨[], [], []⟩)]) Try.f74 = some a74 := by kernel_rfl

/- (*payroll/payrollref9.pairing).leave -/
def a85r0 : List IOp := [⟨some 6, .mv, [.t 0], none⟩,
  ⟨some 7, .nilchk, [.t 6], none⟩,
  ⟨some 8, .fieldAddr 1, [.t 7], none⟩,
  ⟨some 9, .load1, [.t 8], none⟩]
def a85r1 : List IOp := [⟨some 10, .mv, [.t 0], none⟩,
  ⟨some 11, .mv, [.t 0], none⟩,
  ⟨some 12, .nilchk, [.t 11], none⟩,
  ⟨some 13, .fieldAddr 3, [.t 12], none⟩,
  ⟨some 14, .load1, [.t 13], none⟩,
  ⟨some 15, .call 74, [.t 10, .c (.int .i64 4), .t 14], none⟩]
def a85r2 : List IOp := [⟨some 16, .mv, [.t 0], none⟩,
  ⟨some 17, .mv, [.t 1], none⟩,
  ⟨some 18, .call 86, [.t 16, .t 17], none⟩]
def a85r3 : List IOp := [⟨some 20, .mv, [.t 1], none⟩,
  ⟨some 21, .mv, [.t 0], none⟩,
  ⟨some 22, .nilchk, [.t 21], none⟩,
  ⟨some 23, .fieldAddr 2, [.t 22], none⟩,
  ⟨some 24, .load1, [.t 23], none⟩,
  ⟨some 25, .bin .sub, [.t 20, .t 24], none⟩,
  ⟨some 26, .mv, [.t 2], none⟩,
  ⟨some 27, .bin .gtr, [.t 25, .t 26], none⟩,
  ⟨some 19, .mv, [.t 27], none⟩]
def a85r4 : List IOp := [⟨some 28, .mv, [.t 0], none⟩,
  ⟨some 29, .mv, [.t 0], none⟩,
  ⟨some 30, .nilchk, [.t 29], none⟩,
  ⟨some 31, .fieldAddr 2, [.t 30], none⟩,
  ⟨some 32, .load1, [.t 31], none⟩,
  ⟨some 33, .call 74, [.t 28, .c (.int .i64 3), .t 32], none⟩]
def a85r5 : List IOp := [⟨some 35, .mv, [.t 1], none⟩,
  ⟨some 36, .mv, [.t 0], none⟩,
  ⟨some 37, .nilchk, [.t 36], none⟩,
  ⟨some 38, .fieldAddr 2, [.t 37], none⟩,
  ⟨some 39, .load1, [.t 38], none⟩,
  ⟨some 40, .bin .gtr, [.t 35, .t 39], none⟩,
  ⟨some 34, .mv, [.t 40], none⟩]
def a85r6 : List (Nat × DOp) := [(0, ⟨⟨some 41, .mv, [.t 0], none⟩, none, [1, 2, 3, 4, 5, 6, 7, 8, 9, 10, 11, 12, 13, 14, 15, 16, 17]⟩),
  (1, ⟨⟨some 42, .mv, [.t 0], none⟩, none, [0, 5, 6, 7, 8, 9, 10, 11, 12, 13, 14, 15, 16]⟩),
  (2, ⟨⟨some 43, .nilchk, [.t 42], none⟩, none, [0, 5, 6, 7, 8, 9, 10, 11, 12, 13, 14, 15, 16]⟩),
  (3, ⟨⟨some 44, .fieldAddr 5, [.t 43], none⟩, none, [0, 5, 6, 7, 8, 9, 10, 11, 12, 13, 14, 15, 16]⟩),
  (4, ⟨⟨some 45, .load1, [.t 44], none⟩, none, [0, 5, 6, 7, 8, 9, 10, 11, 12, 13, 14, 15, 16]⟩),
  (5, ⟨⟨some 46, .mv, [.t 0], none⟩, none, [0, 1, 2, 3, 4, 9, 11, 12, 13, 14]⟩),
  (6, ⟨⟨some 47, .nilchk, [.t 46], none⟩, none, [0, 1, 2, 3, 4, 9, 11, 12, 13, 14]⟩),
  (7, ⟨⟨some 48, .fieldAddr 2, [.t 47], none⟩, none, [0, 1, 2, 3, 4, 9, 11, 12, 13, 14]⟩),
  (8, ⟨⟨some 49, .load1, [.t 48], none⟩, none, [0, 1, 2, 3, 4, 9, 11, 12, 13, 14]⟩),
  (9, ⟨⟨some 50, .mv, [.t 1], none⟩, none, [0, 1, 2, 3, 4, 5, 6, 7, 8, 11, 12, 13, 14]⟩),
  (10, ⟨⟨some 51, .build [.int .i64 0, .int .i64 0] [(0, 1), (1, 1)], [.t 49, .t 50], none⟩, none, [0, 1, 2, 3, 4, 11, 12, 13, 14]⟩),
  (11, ⟨⟨some 52, .mv, [.t 0], none⟩, none, [0, 1, 2, 3, 4, 5, 6, 7, 8, 9, 10]⟩),
  (12, ⟨⟨some 53, .nilchk, [.t 52], none⟩, none, [0, 1, 2, 3, 4, 5, 6, 7, 8, 9, 10]⟩),
  (13, ⟨⟨some 54, .fieldAddr 4, [.t 53], none⟩, none, [0, 1, 2, 3, 4, 5, 6, 7, 8, 9, 10]⟩),
  (14, ⟨⟨some 55, .load1, [.t 54], none⟩, none, [0, 1, 2, 3, 4, 5, 6, 7, 8, 9, 10]⟩),
  (15, ⟨⟨some 56, .build [.int .i64 0, .int .i64 0, .nils] [(0, 2), (2, 1)], [.t 51, .t 55], none⟩, none, [0, 1, 2, 3, 4]⟩),
  (16, ⟨⟨some 57, .bslice 29 3 [.int .i64 0, .int .i64 0, .nils] 1 [0], [.t 56], none⟩, some 0, [0, 1, 2, 3, 4]⟩),
  (17, ⟨⟨some 58, .append 29 3 40, [.t 45, .t 57], none⟩, none, [0]⟩),
  (18, ⟨⟨some 59, .nilchk, [.t 41], none⟩, none, []⟩),
  (19, ⟨⟨some 60, .fieldAddr 5, [.t 59], none⟩, none, []⟩),
  (20, ⟨⟨none, .store 1, [.t 60, .t 58], none⟩, none, []⟩)]
def a85r7 : List IOp := [⟨some 61, .mv, [.t 0], none⟩,
  ⟨some 62, .mv, [.t 0], none⟩,
  ⟨some 63, .nilchk, [.t 61], none⟩,
  ⟨some 64, .fieldAddr 0, [.t 63], none⟩,
  ⟨none, .store 1, [.t 64, .c (.bool false)], none⟩,
  ⟨some 65, .nilchk, [.t 62], none⟩,
  ⟨some 66, .fieldAddr 4, [.t 65], none⟩,
  ⟨none, .store 1, [.t 66, .c (.nils)], none⟩]
def a85 : AFunc := ⟨67, [], (.seq (.seq (.region a85r0 [0, 1, 2, 9]) (.cond (.t 9) (.seq (.region a85r1 [0, 1, 2]) (.region a85r2 [0, 1, 2])) .skip)) (.seq (.block 0 (.seq (.region a85r3 [0, 1, 19]) (.cond (.t 19) (.region a85r4 [0]) (.seq (.region a85r5 [0, 1, 34]) (.cond (.t 34) (.draw a85r6 [(29, 3)] [0]) .skip))))) (.region a85r7 [])))⟩
theorem a85_ok : compileF Try.prog (lk [(0, ⟨[0, 1, 2, 9], [], []⟩), (1, ⟨[0, 1, 2], [], []⟩), (2, ⟨[0, 1, 2], [], []⟩), (3, ⟨[0, 1, 19], [], []⟩), (4, ⟨[0], [], []⟩), (5, ⟨[0, 1, 34], [], []⟩), (6, ⟨[0], [[], [], [1], [2, 1], [3, 2, 1], [], [5], [6, 5], [7, 6, 5], [], [8, 9, 7, 6, 5], [], [11], [12, 11], [13, 12, 11], [10, 14, 8, 9, 7, 6, 5, 13, 12, 11], [15, 10, 14, 8, 9, 7, 6, 5, 13, 12, 11], [4, 16, 3, 2, 1, 15, 10, 14, 8, 9, 7, 6, 5, 13, 12, 11], [0, 1, 2, 3, 4, 5, 6, 7, 8, 9, 10, 11, 12, 13, 14, 15, 16, 17], [18, 0, 1, 2, 3, 4, 5, 6, 7, 8, 9, 10, 11, 12, 13, 14, 15, 16, 17], [19, 17, 0, 1, 2, 3, 4, 5, 6, 7, 8, 9, 10, 11, 12, 13, 14, 15, 16, 18]], [0, 1, 2, 3, 4, 5, 6, 7, 8, 9, 10, 11, 12, 13, 14, 15, 16, 17, 18, 19, 20]⟩), (7, ⟨[], [], []⟩)]) Try.f85 = some a85 := by kernel_rfl

/- (*payroll/payrollref9.pairing).stop -/
def a86r0 : List IOp := [⟨some 4, .mv, [.t 1], none⟩,
  ⟨some 5, .mv, [.t 0], none⟩,
  ⟨some 6, .nilchk, [.t 5], none⟩,
  ⟨some 7, .fieldAddr 3, [.t 6], none⟩,
  ⟨some 8, .load1, [.t 7], none⟩,
  ⟨some 9, .bin .gtr, [.t 4, .t 8], none⟩]
def a86r1 : List (Nat × DOp) := [(0, ⟨⟨some 10, .mv, [.t 0], none⟩, none, [1, 2, 3, 4, 5, 6, 7, 8, 9, 10, 11, 12]⟩),
  (1, ⟨⟨some 11, .mv, [.t 0], none⟩, none, [0, 5, 6, 7, 8, 9, 10, 11]⟩),
  (2, ⟨⟨some 12, .nilchk, [.t 11], none⟩, none, [0, 5, 6, 7, 8, 9, 10, 11]⟩),
  (3, ⟨⟨some 13, .fieldAddr 4, [.t 12], none⟩, none, [0, 5, 6, 7, 8, 9, 10, 11]⟩),
  (4, ⟨⟨some 14, .load1, [.t 13], none⟩, none, [0, 5, 6, 7, 8, 9, 10, 11]⟩),
  (5, ⟨⟨some 15, .mv, [.t 0], none⟩, none, [0, 1, 2, 3, 4, 9]⟩),
  (6, ⟨⟨some 16, .nilchk, [.t 15], none⟩, none, [0, 1, 2, 3, 4, 9]⟩),
  (7, ⟨⟨some 17, .fieldAddr 3, [.t 16], none⟩, none, [0, 1, 2, 3, 4, 9]⟩),
  (8, ⟨⟨some 18, .load1, [.t 17], none⟩, none, [0, 1, 2, 3, 4, 9]⟩),
  (9, ⟨⟨some 19, .mv, [.t 1], none⟩, none, [0, 1, 2, 3, 4, 5, 6, 7, 8]⟩),
  (10, ⟨⟨some 20, .build [.int .i64 0, .int .i64 0] [(0, 1), (1, 1)], [.t 18, .t 19], none⟩, none, [0, 1, 2, 3, 4]⟩),
  (11, ⟨⟨some 21, .bslice 26 2 [.int .i64 0, .int .i64 0] 1 [0], [.t 20], none⟩, some 0, [0, 1, 2, 3, 4]⟩),
  (12, ⟨⟨some 22, .append 26 2 16, [.t 14, .t 21], none⟩, none, [0]⟩),
  (13, ⟨⟨some 23, .nilchk, [.t 10], none⟩, none, []⟩),
  (14, ⟨⟨some 24, .fieldAddr 4, [.t 23], none⟩, none, []⟩),
  (15, ⟨⟨none, .store 1, [.t 24, .t 22], none⟩, none, []⟩)]
def a86r2 : List IOp := [⟨some 25, .mv, [.t 0], none⟩,
  ⟨some 26, .nilchk, [.t 25], none⟩,
  ⟨some 27, .fieldAddr 1, [.t 26], none⟩,
  ⟨none, .store 1, [.t 27, .c (.bool false)], none⟩]
def a86 : AFunc := ⟨28, [], (.seq (.seq (.region a86r0 [0, 1, 9]) (.cond (.t 9) (.draw a86r1 [(26, 2)] [0]) .skip)) (.region a86r2 []))⟩
theorem a86_ok : compileF Try.prog (lk [(0, ⟨[0, 1, 9], [], []⟩), (1, ⟨[0], [[], [], [1], [2, 1], [3, 2, 1], [], [5], [6, 5], [7, 6, 5], [], [8, 9, 7, 6, 5], [10, 8, 9, 7, 6, 5], [4, 11, 3, 2, 1, 10, 8, 9, 7, 6, 5], [0, 1, 2, 3, 4, 5, 6, 7, 8, 9, 10, 11, 12], [13, 0, 1, 2, 3, 4, 5, 6, 7, 8, 9, 10, 11, 12], [14, 12, 0, 1, 2, 3, 4, 5, 6, 7, 8, 9, 10, 11, 13]], [0, 1, 2, 3, 4, 5, 6, 7, 8, 9, 10, 11, 12, 13, 14, 15]⟩), (2, ⟨[], [], []⟩)]) Try.f86 = some a86 := by kernel_rfl

end Go.Proofs.Ytjacobmkfkmdiaa
