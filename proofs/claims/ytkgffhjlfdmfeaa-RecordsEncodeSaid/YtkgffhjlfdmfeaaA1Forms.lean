/- The abstract forms of the functions, printed by a program, and that the given program has these forms. -/
import Derived.Test.YtkgffhjlfdmfeaaAbs27
import Derived.Test.YtkgffhjlfdmfeaaProg
import Derived.KernelRfl
set_option linter.unusedSimpArgs false
set_option linter.unusedVariables false
set_option linter.unusedSectionVars false
namespace Go.Proofs.Ytkgffhjlfdmfeaa
open Go Go.Abs
/- payroll/payrolllaw7.RecordsEncode -/
def a3r0 : List IOp := [⟨some 4, .box 26 7, [.t 1], none⟩,
  ⟨some 6, .mv, [.c (.bool false)], none⟩]
def a3r1 : List IOp := [⟨some 14, .mv, [.t 0], none⟩,
  ⟨some 15, .call 9, [.t 14], none⟩,
  ⟨some 7, .mv, [.t 15], none⟩]
def a3r2 : List IOp := [⟨some 8, .mv, [.c (.int .i64 0)], none⟩]
def a3r3 : List IOp := [⟨some 16, .mv, [.t 8], none⟩,
  ⟨some 17, .bin .lss, [.t 16, .c (.int .i64 5)], none⟩]
def a3r4 : List IOp := [⟨some 20, .mv, [.t 7], none⟩,
  ⟨some 21, .call 10, [.t 20], none⟩,
  ⟨some 9, .alloc 26 [.int .i64 0, .int .i64 0, .int .i64 0, .int .i64 0, .int .i64 0, .int .i64 0, .int .i64 0], [], none⟩,
  ⟨none, .store 7, [.t 9, .t 21], none⟩]
def a3r5 : List IOp := [⟨some 22, .mv, [.t 8], none⟩]
def a3r6 : List IOp := [⟨some 24, .bin .eql, [.t 22, .c (.int .i64 3)], none⟩,
  ⟨some 23, .mv, [.t 24], none⟩]
def a3r7 : List IOp := [⟨some 25, .mv, [.t 7], none⟩,
  ⟨some 26, .loadA 7, [.t 9], none⟩,
  ⟨some 27, .call 11, [.t 25, .t 26], none⟩,
  ⟨none, .store 7, [.t 9, .t 27], none⟩]
def a3r8 : List IOp := [⟨some 29, .bin .eql, [.t 22, .c (.int .i64 4)], none⟩,
  ⟨some 28, .mv, [.t 29], none⟩]
def a3r9 : List IOp := [⟨some 30, .loadA 7, [.t 4], none⟩,
  ⟨none, .store 7, [.t 9, .t 30], none⟩]
def a3r10 : List IOp := [⟨some 32, .loadA 7, [.t 9], none⟩,
  ⟨some 33, .call 12, [.t 32], none⟩,
  ⟨some 31, .mv, [.t 33], none⟩,
  ⟨some 34, .extract 0, [.t 31], none⟩,
  ⟨some 35, .extract 1, [.t 31], none⟩,
  ⟨some 10, .mv, [.t 34], none⟩,
  ⟨some 11, .mv, [.t 35], none⟩]
def a3r11 : List IOp := [⟨some 37, .loadA 7, [.t 9], none⟩,
  ⟨some 38, .call 13, [.t 37], none⟩,
  ⟨some 36, .mv, [.t 38], none⟩,
  ⟨some 39, .extract 0, [.t 36], none⟩,
  ⟨some 40, .extract 1, [.t 36], none⟩,
  ⟨some 12, .mv, [.t 39], none⟩,
  ⟨some 13, .mv, [.t 40], none⟩]
def a3r12 : List (Nat × DOp) := [(0, ⟨⟨some 41, .mv, [.t 10], none⟩, none, [2, 3]⟩),
  (1, ⟨⟨some 42, .b2s, [.t 41], none⟩, none, [2, 3]⟩),
  (2, ⟨⟨some 43, .mv, [.t 12], none⟩, none, [0, 1]⟩),
  (3, ⟨⟨some 44, .b2s, [.t 43], none⟩, none, [0, 1]⟩),
  (4, ⟨⟨some 45, .bin .neq, [.t 42, .t 44], none⟩, none, []⟩),
  (5, ⟨⟨some 46, .mv, [.t 45], none⟩, none, []⟩),
  (6, ⟨⟨some 47, .mv, [.t 11], some (46, false)⟩, none, [7]⟩),
  (7, ⟨⟨some 48, .mv, [.t 13], some (46, false)⟩, none, [6]⟩),
  (8, ⟨⟨some 49, .bin .neq, [.t 47, .t 48], some (46, false)⟩, none, []⟩),
  (9, ⟨⟨some 50, .pick, [.t 46, .c (.bool true), .t 49], none⟩, none, []⟩),
  (10, ⟨⟨some 51, .mv, [.t 50], none⟩, none, []⟩),
  (11, ⟨⟨some 52, .loadA 7, [.t 9], some (51, false)⟩, none, [13]⟩),
  (13, ⟨⟨some 54, .loadA 7, [.t 9], some (51, false)⟩, none, [11, 12]⟩),
  (12, ⟨⟨some 53, .call 14, [.t 52], some (51, false)⟩, none, [13]⟩),
  (14, ⟨⟨some 55, .call 15, [.t 54], some (51, false)⟩, none, []⟩),
  (15, ⟨⟨some 56, .eqB true, [.t 53, .t 55], some (51, false)⟩, none, []⟩),
  (16, ⟨⟨some 57, .pick, [.t 51, .c (.bool true), .t 56], none⟩, none, []⟩)]
def a3r13 : List IOp := [⟨some 6, .mv, [.c (.bool false)], none⟩]
def a3r14 : List IOp := [⟨some 18, .mv, [.t 8], none⟩,
  ⟨some 19, .bin .add, [.t 18, .c (.int .i64 1)], none⟩,
  ⟨some 8, .mv, [.t 19], none⟩]
def a3r15 : List IOp := [⟨some 58, .mv, [.t 2], none⟩,
  ⟨some 59, .len, [.t 58], none⟩,
  ⟨some 60, .bin .gtr, [.t 59, .c (.int .i64 5000)], none⟩,
  ⟨some 61, .mv, [.t 60], none⟩,
  ⟨some 62, .mv, [.t 2], some (61, false)⟩,
  ⟨some 63, .call 16, [.t 62], some (61, false)⟩,
  ⟨some 64, .mv, [.t 2], some (61, false)⟩,
  ⟨some 65, .call 17, [.t 64], some (61, false)⟩,
  ⟨some 66, .bin .eql, [.t 63, .t 65], some (61, false)⟩,
  ⟨some 67, .pick, [.t 61, .c (.bool true), .t 66], none⟩,
  ⟨some 68, .mv, [.t 67], none⟩,
  ⟨some 69, .call 18, [], some (68, true)⟩,
  ⟨some 70, .pick, [.t 68, .t 69, .c (.bool false)], none⟩,
  ⟨some 6, .mv, [.t 70], none⟩]
def a3 : AFunc := ⟨71, [.tmp 6], (.seq (.region a3r0 [0, 2, 4]) (.seq (.region a3r1 [2, 4, 7]) (.seq (.seq (.region a3r2 [2, 4, 7, 8]) (.block 0 (.loop (.seq (.seq (.region a3r3 [2, 4, 7, 8, 17]) (.cond (.t 17) .skip (.exit 0))) (.seq (.block 1 (.seq (.region a3r4 [2, 4, 7, 8, 9]) (.seq (.seq (.region a3r5 [2, 4, 7, 8, 9, 22]) (.block 2 (.seq (.region a3r6 [2, 4, 7, 8, 9, 22, 23]) (.cond (.t 23) (.region a3r7 [2, 4, 7, 8, 9]) (.seq (.region a3r8 [2, 4, 7, 8, 9, 28]) (.cond (.t 28) (.region a3r9 [2, 4, 7, 8, 9]) .skip)))))) (.seq (.region a3r10 [2, 4, 7, 8, 9, 10, 11]) (.seq (.region a3r11 [2, 4, 7, 8, 9, 10, 11, 12, 13]) (.seq (.draw a3r12 [] [2, 4, 7, 8, 57]) (.cond (.t 57) (.seq (.region a3r13 [6]) .ret) .skip))))))) (.region a3r14 [2, 4, 7, 8])))))) (.seq (.region a3r15 [6]) .ret))))⟩
theorem a3_ok : compileF Try.prog (lk [(0, ⟨[0, 2, 4], [], []⟩), (1, ⟨[2, 4, 7], [], []⟩), (2, ⟨[2, 4, 7, 8], [], []⟩), (3, ⟨[2, 4, 7, 8, 17], [], []⟩), (4, ⟨[2, 4, 7, 8], [], []⟩), (5, ⟨[2, 4, 7, 8, 9], [], []⟩), (6, ⟨[2, 4, 7, 8, 9, 22], [], []⟩), (7, ⟨[2, 4, 7, 8, 9, 22, 23], [], []⟩), (8, ⟨[2, 4, 7, 8, 9], [], []⟩), (9, ⟨[2, 4, 7, 8, 9, 28], [], []⟩), (10, ⟨[2, 4, 7, 8, 9], [], []⟩), (11, ⟨[2, 4, 7, 8, 9, 10, 11], [], []⟩), (12, ⟨[2, 4, 7, 8, 9, 10, 11, 12, 13], [], []⟩), (13, ⟨[2, 4, 7, 8, 57], [[], [0], [], [2], [1, 3, 0, 2], [4, 1, 3, 0, 2], [5, 4, 1, 3, 0, 2], [5, 4, 1, 3, 0, 2], [6, 7, 5, 4, 1, 3, 0, 2], [5, 8, 4, 1, 3, 0, 2, 6, 7], [9, 5, 8, 4, 1, 3, 0, 2, 6, 7], [10, 9, 5, 8, 4, 1, 3, 0, 2, 6, 7], [11, 10, 9, 5, 8, 4, 1, 3, 0, 2, 6, 7], [10, 9, 5, 8, 4, 1, 3, 0, 2, 6, 7], [13, 12, 10, 9, 5, 8, 4, 1, 3, 0, 2, 6, 7, 11], [12, 14, 10, 11, 9, 5, 8, 4, 1, 3, 0, 2, 6, 7, 13], [10, 15, 9, 5, 8, 4, 1, 3, 0, 2, 6, 7, 12, 14, 11, 13]], [0, 1, 2, 3, 4, 5, 6, 7, 8, 9, 10, 11, 13, 12, 14, 15, 16]⟩), (14, ⟨[6], [], []⟩), (15, ⟨[6], [], []⟩)]) Try.f3 = some a3 := by kernel_rfl

/- payroll/payrolllaw7.RecordsDecode -/
def a4r0 : List IOp := [⟨some 4, .mv, [.c (.bool false)], none⟩]
def a4r1 : List IOp := [⟨some 10, .mv, [.t 0], none⟩,
  ⟨some 11, .call 9, [.t 10], none⟩,
  ⟨some 5, .mv, [.t 11], none⟩]
def a4r2 : List IOp := [⟨some 6, .mv, [.c (.int .i64 0)], none⟩]
def a4r3 : List IOp := [⟨some 12, .mv, [.t 6], none⟩,
  ⟨some 13, .bin .lss, [.t 12, .c (.int .i64 3)], none⟩]
def a4r4 : List IOp := [⟨some 16, .mv, [.t 5], none⟩,
  ⟨some 17, .call 20, [.t 16, .c (.int .i64 4)], none⟩,
  ⟨some 18, .call 19, [.t 17], none⟩,
  ⟨some 19, .not, [.t 18], none⟩]
def a4r5 : List IOp := [⟨some 4, .mv, [.c (.bool false)], none⟩]
def a4r6 : List IOp := [⟨some 14, .mv, [.t 6], none⟩,
  ⟨some 15, .bin .add, [.t 14, .c (.int .i64 1)], none⟩,
  ⟨some 6, .mv, [.t 15], none⟩]
def a4r7 : List IOp := [⟨some 21, .call 21, [], none⟩,
  ⟨some 22, .call 13, [.t 21], none⟩,
  ⟨some 20, .mv, [.t 22], none⟩,
  ⟨some 23, .extract 0, [.t 20], none⟩,
  ⟨some 24, .extract 1, [.t 20], none⟩,
  ⟨some 7, .mv, [.t 23], none⟩,
  ⟨some 8, .mv, [.t 24], none⟩]
def a4r8 : List IOp := [⟨some 25, .nilsl, [], none⟩,
  ⟨some 26, .mv, [.t 7], none⟩,
  ⟨some 27, .append 5 1 1, [.t 25, .t 26], none⟩,
  ⟨some 7, .mv, [.t 27], none⟩]
def a4r9 : List IOp := [⟨some 28, .mv, [.t 7], none⟩,
  ⟨some 29, .mv, [.t 5], none⟩,
  ⟨some 30, .call 22, [.t 29, .c (.int .i64 22)], none⟩,
  ⟨some 31, .mv, [.t 5], none⟩,
  ⟨some 32, .call 22, [.t 31, .c (.int .i64 256)], none⟩,
  ⟨some 33, .conv .u8, [.t 32], none⟩,
  ⟨some 34, .indexAddr 1, [.t 28, .t 30], none⟩,
  ⟨none, .store 1, [.t 34, .t 33], none⟩]
def a4r10 : List IOp := [⟨some 35, .mv, [.t 7], none⟩,
  ⟨some 36, .slice false true 1, [.t 35, .c (.int .i64 22)], none⟩,
  ⟨some 37, .call 17, [.t 36], none⟩,
  ⟨some 9, .mv, [.t 37], none⟩]
def a4r11 : List IOp := [⟨some 38, .mv, [.t 7], none⟩,
  ⟨some 39, .mv, [.t 7], none⟩,
  ⟨some 40, .mv, [.t 9], none⟩,
  ⟨some 41, .bin .shr, [.t 40, .c (.int .u64 8)], none⟩,
  ⟨some 42, .conv .u8, [.t 41], none⟩,
  ⟨some 43, .mv, [.t 9], none⟩,
  ⟨some 44, .conv .u8, [.t 43], none⟩,
  ⟨some 45, .indexAddr 1, [.t 38, .c (.int .i64 22)], none⟩,
  ⟨none, .store 1, [.t 45, .t 42], none⟩,
  ⟨some 46, .indexAddr 1, [.t 39, .c (.int .i64 23)], none⟩,
  ⟨none, .store 1, [.t 46, .t 44], none⟩]
def a4r12 : List IOp := [⟨some 47, .mv, [.t 1], none⟩,
  ⟨some 48, .len, [.t 47], none⟩,
  ⟨some 49, .bin .gtr, [.t 48, .c (.int .i64 3000)], none⟩,
  ⟨some 50, .mv, [.t 49], none⟩,
  ⟨some 51, .mv, [.t 7], some (50, false)⟩,
  ⟨some 52, .call 19, [.t 51], some (50, false)⟩,
  ⟨some 53, .mv, [.t 52], some (50, false)⟩,
  ⟨some 54, .mv, [.t 1], some (53, true)⟩,
  ⟨some 55, .call 19, [.t 54], some (53, true)⟩,
  ⟨some 56, .pick, [.t 53, .t 55, .c (.bool false)], some (50, false)⟩,
  ⟨some 57, .mv, [.t 56], some (50, false)⟩,
  ⟨some 58, .call 18, [], some (57, true)⟩,
  ⟨some 59, .pick, [.t 57, .t 58, .c (.bool false)], some (50, false)⟩,
  ⟨some 60, .pick, [.t 50, .c (.bool true), .t 59], none⟩,
  ⟨some 4, .mv, [.t 60], none⟩]
def a4 : AFunc := ⟨61, [.tmp 4], (.seq (.region a4r0 [0, 1]) (.seq (.region a4r1 [1, 5]) (.seq (.seq (.region a4r2 [1, 5, 6]) (.block 0 (.loop (.seq (.seq (.region a4r3 [1, 5, 6, 13]) (.cond (.t 13) .skip (.exit 0))) (.seq (.block 1 (.seq (.region a4r4 [1, 5, 6, 19]) (.cond (.t 19) (.seq (.region a4r5 [4]) .ret) .skip))) (.region a4r6 [1, 5, 6])))))) (.seq (.region a4r7 [1, 5, 7]) (.seq (.region a4r8 [1, 5, 7]) (.seq (.region a4r9 [1, 7]) (.seq (.region a4r10 [1, 7, 9]) (.seq (.region a4r11 [1, 7]) (.seq (.region a4r12 [4]) .ret)))))))))⟩
theorem a4_ok : compileF Try.prog (lk [(0, ⟨[0, 1], [], []⟩), (1, ⟨[1, 5], [], []⟩), (2, ⟨[1, 5, 6], [], []⟩), (3, ⟨[1, 5, 6, 13], [], []⟩), (4, ⟨[1, 5, 6], [], []⟩), (5, ⟨[1, 5, 6, 19], [], []⟩), (6, ⟨[4], [], []⟩), (7, ⟨[1, 5, 7], [], []⟩), (8, ⟨[1, 5, 7], [], []⟩), (9, ⟨[1, 7], [], []⟩), (10, ⟨[1, 7, 9], [], []⟩), (11, ⟨[1, 7], [], []⟩), (12, ⟨[4], [], []⟩)]) Try.f4 = some a4 := by kernel_rfl

/- payroll/payrolllaw7.RecordsComeBack -/
def a5r0 : List IOp := [⟨some 2, .mv, [.c (.bool false)], none⟩]
def a5r1 : List IOp := [⟨some 11, .mv, [.t 0], none⟩,
  ⟨some 12, .call 9, [.t 11], none⟩,
  ⟨some 13, .call 23, [.t 12, .c (.int .i64 6)], none⟩,
  ⟨some 3, .mv, [.t 13], none⟩]
def a5r2 : List IOp := [⟨some 4, .mv, [.c (.nils)], none⟩]
def a5r3 : List IOp := [⟨some 5, .mv, [.c (.int .i64 0)], none⟩]
def a5r4 : List IOp := [⟨some 14, .mv, [.t 5], none⟩,
  ⟨some 15, .mv, [.t 3], none⟩,
  ⟨some 16, .len, [.t 15], none⟩,
  ⟨some 17, .bin .lss, [.t 14, .t 16], none⟩]
def a5r5 : List IOp := [⟨some 21, .mv, [.t 3], none⟩,
  ⟨some 22, .mv, [.t 5], none⟩,
  ⟨some 23, .indexAddr 7, [.t 21, .t 22], none⟩,
  ⟨some 24, .loadA 7, [.t 23], none⟩,
  ⟨some 25, .call 12, [.t 24], none⟩,
  ⟨some 20, .mv, [.t 25], none⟩,
  ⟨some 26, .extract 0, [.t 20], none⟩,
  ⟨some 27, .extract 1, [.t 20], none⟩,
  ⟨some 6, .mv, [.t 26], none⟩,
  ⟨some 7, .mv, [.t 27], none⟩]
def a5r6 : List IOp := [⟨some 28, .mv, [.t 7], none⟩,
  ⟨some 29, .bin .neq, [.t 28, .c (.int .i64 0)], none⟩,
  ⟨some 30, .mv, [.t 29], none⟩,
  ⟨some 31, .mv, [.t 6], some (30, false)⟩,
  ⟨some 32, .len, [.t 31], some (30, false)⟩,
  ⟨some 33, .bin .neq, [.t 32, .c (.int .i64 24)], some (30, false)⟩,
  ⟨some 34, .pick, [.t 30, .c (.bool true), .t 33], none⟩]
def a5r7 : List IOp := [⟨some 2, .mv, [.c (.bool false)], none⟩]
def a5r8 : List IOp := [⟨some 35, .mv, [.t 4], none⟩,
  ⟨some 36, .mv, [.t 6], none⟩,
  ⟨some 37, .append 5 1 1, [.t 35, .t 36], none⟩,
  ⟨some 4, .mv, [.t 37], none⟩]
def a5r9 : List IOp := [⟨some 18, .mv, [.t 5], none⟩,
  ⟨some 19, .bin .add, [.t 18, .c (.int .i64 1)], none⟩,
  ⟨some 5, .mv, [.t 19], none⟩]
def a5r10 : List IOp := [⟨some 39, .mv, [.t 4], none⟩,
  ⟨some 40, .call 24, [.t 39], none⟩,
  ⟨some 38, .mv, [.t 40], none⟩,
  ⟨some 41, .extract 0, [.t 38], none⟩,
  ⟨some 42, .extract 1, [.t 38], none⟩,
  ⟨some 43, .extract 2, [.t 38], none⟩,
  ⟨some 8, .mv, [.t 41], none⟩,
  ⟨some 9, .mv, [.t 42], none⟩,
  ⟨some 10, .mv, [.t 43], none⟩]
def a5r11 : List IOp := [⟨some 44, .mv, [.t 3], none⟩,
  ⟨some 45, .mv, [.t 8], none⟩,
  ⟨some 46, .mv, [.t 9], none⟩,
  ⟨some 47, .call 25, [.t 44, .c (.nils), .t 45, .t 46], none⟩,
  ⟨some 48, .mv, [.t 47], none⟩,
  ⟨some 49, .mv, [.t 10], some (48, true)⟩,
  ⟨some 50, .mv, [.t 4], some (48, true)⟩,
  ⟨some 51, .len, [.t 50], some (48, true)⟩,
  ⟨some 52, .bin .eql, [.t 49, .t 51], some (48, true)⟩,
  ⟨some 53, .pick, [.t 48, .t 52, .c (.bool false)], none⟩,
  ⟨some 54, .mv, [.t 53], none⟩,
  ⟨some 55, .call 18, [], some (54, true)⟩,
  ⟨some 56, .pick, [.t 54, .t 55, .c (.bool false)], none⟩,
  ⟨some 2, .mv, [.t 56], none⟩]
def a5 : AFunc := ⟨57, [.tmp 2], (.seq (.region a5r0 [0]) (.seq (.region a5r1 [3]) (.seq (.region a5r2 [3, 4]) (.seq (.seq (.region a5r3 [3, 4, 5]) (.block 0 (.loop (.seq (.seq (.region a5r4 [3, 4, 5, 17]) (.cond (.t 17) .skip (.exit 0))) (.seq (.block 1 (.seq (.region a5r5 [3, 4, 5, 6, 7]) (.seq (.seq (.region a5r6 [3, 4, 5, 6, 34]) (.cond (.t 34) (.seq (.region a5r7 [2]) .ret) .skip)) (.region a5r8 [3, 4, 5])))) (.region a5r9 [3, 4, 5])))))) (.seq (.region a5r10 [3, 4, 8, 9, 10]) (.seq (.region a5r11 [2]) .ret))))))⟩
theorem a5_ok : compileF Try.prog (lk [(0, ⟨[0], [], []⟩), (1, ⟨[3], [], []⟩), (2, ⟨[3, 4], [], []⟩), (3, ⟨[3, 4, 5], [], []⟩), (4, ⟨[3, 4, 5, 17], [], []⟩), (5, ⟨[3, 4, 5], [], []⟩), (6, ⟨[3, 4, 5, 6, 7], [], []⟩), (7, ⟨[3, 4, 5, 6, 34], [], []⟩), (8, ⟨[2], [], []⟩), (9, ⟨[3, 4, 5], [], []⟩), (10, ⟨[3, 4, 8, 9, 10], [], []⟩), (11, ⟨[2], [], []⟩)]) Try.f5 = some a5 := by kernel_rfl

/- payroll/payrolllaw7.RecordsDivide -/
def a6r0 : List IOp := [⟨some 6, .mv, [.c (.bool false)], none⟩]
def a6r1 : List IOp := [⟨some 18, .mv, [.t 0], none⟩,
  ⟨some 19, .call 9, [.t 18], none⟩,
  ⟨some 20, .call 20, [.t 19, .c (.int .i64 5)], none⟩,
  ⟨some 7, .mv, [.t 20], none⟩]
def a6r2 : List IOp := [⟨some 21, .mv, [.t 2], none⟩,
  ⟨some 22, .len, [.t 21], none⟩,
  ⟨some 23, .bin .leq, [.t 22, .c (.int .i64 2000)], none⟩]
def a6r3 : List IOp := [⟨some 24, .mv, [.t 7], none⟩,
  ⟨some 25, .mv, [.t 2], none⟩,
  ⟨some 26, .append 5 1 1, [.t 24, .t 25], none⟩,
  ⟨some 7, .mv, [.t 26], none⟩]
def a6r4 : List IOp := [⟨some 27, .mv, [.t 1], none⟩,
  ⟨some 28, .mv, [.t 7], none⟩,
  ⟨some 29, .len, [.t 28], none⟩,
  ⟨some 30, .bin .add, [.t 29, .c (.int .i64 1)], none⟩,
  ⟨some 31, .call 26, [.t 27, .t 30], none⟩,
  ⟨some 8, .mv, [.t 31], none⟩]
def a6r5 : List IOp := [⟨some 33, .mv, [.t 7], none⟩,
  ⟨some 34, .call 24, [.t 33], none⟩,
  ⟨some 32, .mv, [.t 34], none⟩,
  ⟨some 35, .extract 0, [.t 32], none⟩,
  ⟨some 36, .extract 1, [.t 32], none⟩,
  ⟨some 37, .extract 2, [.t 32], none⟩,
  ⟨some 9, .mv, [.t 35], none⟩,
  ⟨some 10, .mv, [.t 36], none⟩,
  ⟨some 11, .mv, [.t 37], none⟩]
def a6r6 : List IOp := [⟨some 39, .mv, [.t 7], none⟩,
  ⟨some 40, .mv, [.t 8], none⟩,
  ⟨some 41, .slice false true 1, [.t 39, .t 40], none⟩,
  ⟨some 42, .call 24, [.t 41], none⟩,
  ⟨some 38, .mv, [.t 42], none⟩,
  ⟨some 43, .extract 0, [.t 38], none⟩,
  ⟨some 44, .extract 1, [.t 38], none⟩,
  ⟨some 45, .extract 2, [.t 38], none⟩,
  ⟨some 12, .mv, [.t 43], none⟩,
  ⟨some 13, .mv, [.t 44], none⟩,
  ⟨some 14, .mv, [.t 45], none⟩]
def a6r7 : List IOp := [⟨some 46, .mv, [.t 14], none⟩,
  ⟨some 47, .bin .lss, [.t 46, .c (.int .i64 0)], none⟩,
  ⟨some 48, .mv, [.t 47], none⟩,
  ⟨some 49, .mv, [.t 14], some (48, false)⟩,
  ⟨some 50, .mv, [.t 8], some (48, false)⟩,
  ⟨some 51, .bin .gtr, [.t 49, .t 50], some (48, false)⟩,
  ⟨some 52, .pick, [.t 48, .c (.bool true), .t 51], none⟩,
  ⟨some 53, .mv, [.t 52], none⟩,
  ⟨some 54, .mv, [.t 8], some (53, false)⟩,
  ⟨some 55, .mv, [.t 14], some (53, false)⟩,
  ⟨some 56, .bin .sub, [.t 54, .t 55], some (53, false)⟩,
  ⟨some 57, .bin .gtr, [.t 56, .c (.int .i64 23)], some (53, false)⟩,
  ⟨some 58, .pick, [.t 53, .c (.bool true), .t 57], none⟩]
def a6r8 : List IOp := [⟨some 6, .mv, [.c (.bool false)], none⟩]
def a6r9 : List IOp := [⟨some 60, .mv, [.t 7], none⟩,
  ⟨some 61, .mv, [.t 14], none⟩,
  ⟨some 62, .slice true false 1, [.t 60, .t 61], none⟩,
  ⟨some 63, .call 24, [.t 62], none⟩,
  ⟨some 59, .mv, [.t 63], none⟩,
  ⟨some 64, .extract 0, [.t 59], none⟩,
  ⟨some 65, .extract 1, [.t 59], none⟩,
  ⟨some 66, .extract 2, [.t 59], none⟩,
  ⟨some 15, .mv, [.t 64], none⟩,
  ⟨some 16, .mv, [.t 65], none⟩,
  ⟨some 17, .mv, [.t 66], none⟩]
def a6r10 : List IOp := [⟨some 67, .mv, [.t 9], none⟩,
  ⟨some 68, .nilsl, [], none⟩,
  ⟨some 69, .mv, [.t 12], none⟩,
  ⟨some 70, .append 26 7 56, [.t 68, .t 69], none⟩,
  ⟨some 71, .mv, [.t 15], none⟩,
  ⟨some 72, .append 26 7 56, [.t 70, .t 71], none⟩,
  ⟨some 73, .call 25, [.t 67, .c (.nils), .t 72, .c (.nils)], none⟩,
  ⟨some 74, .mv, [.t 73], none⟩,
  ⟨some 75, .mv, [.t 14], some (74, true)⟩,
  ⟨some 76, .mv, [.t 17], some (74, true)⟩,
  ⟨some 77, .bin .add, [.t 75, .t 76], some (74, true)⟩,
  ⟨some 78, .mv, [.t 11], some (74, true)⟩,
  ⟨some 79, .bin .eql, [.t 77, .t 78], some (74, true)⟩,
  ⟨some 80, .pick, [.t 74, .t 79, .c (.bool false)], none⟩,
  ⟨some 81, .mv, [.t 80], none⟩,
  ⟨some 82, .call 18, [], some (81, true)⟩,
  ⟨some 83, .pick, [.t 81, .t 82, .c (.bool false)], none⟩,
  ⟨some 6, .mv, [.t 83], none⟩]
def a6 : AFunc := ⟨84, [.tmp 6], (.seq (.region a6r0 [0, 1, 2]) (.seq (.region a6r1 [1, 2, 7]) (.seq (.seq (.region a6r2 [1, 2, 7, 23]) (.cond (.t 23) (.region a6r3 [1, 7]) .skip)) (.seq (.region a6r4 [7, 8]) (.seq (.region a6r5 [7, 8, 9, 11]) (.seq (.region a6r6 [7, 8, 9, 11, 12, 14]) (.seq (.seq (.region a6r7 [7, 9, 11, 12, 14, 58]) (.cond (.t 58) (.seq (.region a6r8 [6]) .ret) .skip)) (.seq (.region a6r9 [9, 11, 12, 14, 15, 17]) (.seq (.region a6r10 [6]) .ret)))))))))⟩
theorem a6_ok : compileF Try.prog (lk [(0, ⟨[0, 1, 2], [], []⟩), (1, ⟨[1, 2, 7], [], []⟩), (2, ⟨[1, 2, 7, 23], [], []⟩), (3, ⟨[1, 7], [], []⟩), (4, ⟨[7, 8], [], []⟩), (5, ⟨[7, 8, 9, 11], [], []⟩), (6, ⟨[7, 8, 9, 11, 12, 14], [], []⟩), (7, ⟨[7, 9, 11, 12, 14, 58], [], []⟩), (8, ⟨[6], [], []⟩), (9, ⟨[9, 11, 12, 14, 15, 17], [], []⟩), (10, ⟨[6], [], []⟩)]) Try.f6 = some a6 := by kernel_rfl

/- payroll/payrolllaw7.RecordsDamage -/
def a7r0 : List IOp := [⟨some 6, .mv, [.c (.bool false)], none⟩]
def a7r1 : List IOp := [⟨some 18, .mv, [.t 0], none⟩,
  ⟨some 19, .call 9, [.t 18], none⟩,
  ⟨some 7, .mv, [.t 19], none⟩]
def a7r2 : List IOp := [⟨some 20, .mv, [.t 7], none⟩,
  ⟨some 21, .call 10, [.t 20], none⟩,
  ⟨some 8, .alloc 26 [.int .i64 0, .int .i64 0, .int .i64 0, .int .i64 0, .int .i64 0, .int .i64 0, .int .i64 0], [], none⟩,
  ⟨none, .store 7, [.t 8, .t 21], none⟩]
def a7r3 : List IOp := [⟨some 23, .loadA 7, [.t 8], none⟩,
  ⟨some 24, .call 12, [.t 23], none⟩,
  ⟨some 22, .mv, [.t 24], none⟩,
  ⟨some 25, .extract 0, [.t 22], none⟩,
  ⟨some 26, .extract 1, [.t 22], none⟩,
  ⟨some 9, .mv, [.t 25], none⟩,
  ⟨some 10, .mv, [.t 26], none⟩]
def a7r4 : List IOp := [⟨some 27, .mv, [.t 10], none⟩,
  ⟨some 28, .bin .neq, [.t 27, .c (.int .i64 0)], none⟩,
  ⟨some 29, .mv, [.t 28], none⟩,
  ⟨some 30, .mv, [.t 9], some (29, false)⟩,
  ⟨some 31, .len, [.t 30], some (29, false)⟩,
  ⟨some 32, .bin .neq, [.t 31, .c (.int .i64 24)], some (29, false)⟩,
  ⟨some 33, .pick, [.t 29, .c (.bool true), .t 32], none⟩]
def a7r5 : List IOp := [⟨some 6, .mv, [.c (.bool false)], none⟩]
def a7r6 : List IOp := [⟨some 34, .nilsl, [], none⟩,
  ⟨some 35, .mv, [.t 9], none⟩,
  ⟨some 36, .append 5 1 1, [.t 34, .t 35], none⟩,
  ⟨some 11, .mv, [.t 36], none⟩]
def a7r7 : List IOp := [⟨some 37, .mv, [.t 11], none⟩,
  ⟨some 38, .mv, [.t 1], none⟩,
  ⟨some 39, .call 26, [.t 38, .c (.int .i64 24)], none⟩,
  ⟨some 40, .indexAddr 1, [.t 37, .t 39], none⟩,
  ⟨some 41, .load1, [.t 40], none⟩,
  ⟨some 42, .mv, [.t 2], none⟩,
  ⟨some 43, .bin .or, [.t 42, .c (.int .u8 1)], none⟩,
  ⟨some 44, .bin .xor, [.t 41, .t 43], none⟩,
  ⟨some 45, .indexAddr 1, [.t 37, .t 39], none⟩,
  ⟨none, .store 1, [.t 45, .t 44], none⟩]
def a7r8 : List IOp := [⟨some 47, .mv, [.t 11], none⟩,
  ⟨some 48, .call 24, [.t 47], none⟩,
  ⟨some 46, .mv, [.t 48], none⟩,
  ⟨some 49, .extract 0, [.t 46], none⟩,
  ⟨some 50, .extract 1, [.t 46], none⟩,
  ⟨some 51, .extract 2, [.t 46], none⟩,
  ⟨some 12, .mv, [.t 49], none⟩,
  ⟨some 13, .mv, [.t 50], none⟩,
  ⟨some 14, .mv, [.t 51], none⟩]
def a7r9 : List IOp := [⟨some 53, .nilsl, [], none⟩,
  ⟨some 54, .mv, [.t 11], none⟩,
  ⟨some 55, .append 5 1 1, [.t 53, .t 54], none⟩,
  ⟨some 56, .mv, [.t 9], none⟩,
  ⟨some 57, .append 5 1 1, [.t 55, .t 56], none⟩,
  ⟨some 58, .call 24, [.t 57], none⟩,
  ⟨some 52, .mv, [.t 58], none⟩,
  ⟨some 59, .extract 0, [.t 52], none⟩,
  ⟨some 60, .extract 1, [.t 52], none⟩,
  ⟨some 61, .extract 2, [.t 52], none⟩,
  ⟨some 15, .mv, [.t 59], none⟩,
  ⟨some 16, .mv, [.t 60], none⟩,
  ⟨some 17, .mv, [.t 61], none⟩]
def a7r10 : List IOp := [⟨some 62, .mv, [.t 12], none⟩,
  ⟨some 63, .len, [.t 62], none⟩,
  ⟨some 64, .bin .neq, [.t 63, .c (.int .i64 0)], none⟩,
  ⟨some 65, .mv, [.t 64], none⟩,
  ⟨some 66, .mv, [.t 14], some (65, false)⟩,
  ⟨some 67, .bin .neq, [.t 66, .c (.int .i64 1)], some (65, false)⟩,
  ⟨some 68, .pick, [.t 65, .c (.bool true), .t 67], none⟩,
  ⟨some 69, .mv, [.t 68], none⟩,
  ⟨some 70, .mv, [.t 17], some (69, false)⟩,
  ⟨some 71, .bin .lss, [.t 70, .c (.int .i64 1)], some (69, false)⟩,
  ⟨some 72, .pick, [.t 69, .c (.bool true), .t 71], none⟩]
def a7r11 : List IOp := [⟨some 6, .mv, [.c (.bool false)], none⟩]
def a7r12 : List (Nat × DOp) := [(0, ⟨⟨some 73, .mv, [.t 15], none⟩, none, []⟩),
  (1, ⟨⟨some 74, .len, [.t 73], none⟩, none, []⟩),
  (2, ⟨⟨some 75, .bin .gtr, [.t 74, .c (.int .i64 0)], none⟩, none, []⟩),
  (3, ⟨⟨some 76, .mv, [.t 75], none⟩, none, []⟩),
  (4, ⟨⟨some 77, .mv, [.t 15], some (76, true)⟩, none, []⟩),
  (5, ⟨⟨some 78, .len, [.t 77], some (76, true)⟩, none, []⟩),
  (6, ⟨⟨some 79, .bin .gtr, [.t 78, .c (.int .i64 1)], some (76, true)⟩, none, []⟩),
  (7, ⟨⟨some 80, .mv, [.t 79], some (76, true)⟩, none, []⟩),
  (8, ⟨⟨some 81, .mv, [.t 15], some (80, false)⟩, none, [11]⟩),
  (9, ⟨⟨some 82, .indexAddr 7, [.t 81, .c (.int .i64 0)], some (80, false)⟩, none, [11]⟩),
  (10, ⟨⟨some 83, .loadA 7, [.t 82], some (80, false)⟩, none, [11]⟩),
  (11, ⟨⟨some 84, .loadA 7, [.t 8], some (80, false)⟩, none, [8, 9, 10]⟩),
  (12, ⟨⟨some 85, .eqA false [.int .i64, .int .i64, .int .i64, .int .i64, .int .i64, .int .i64, .int .i64], [.t 83, .t 84], some (80, false)⟩, none, []⟩),
  (13, ⟨⟨some 86, .mv, [.t 85], some (80, false)⟩, none, []⟩),
  (14, ⟨⟨some 87, .mv, [.t 17], some (86, true)⟩, none, []⟩),
  (15, ⟨⟨some 88, .bin .eql, [.t 87, .c (.int .i64 48)], some (86, true)⟩, none, []⟩),
  (16, ⟨⟨some 89, .pick, [.t 86, .t 88, .c (.bool false)], some (80, false)⟩, none, []⟩),
  (17, ⟨⟨some 90, .pick, [.t 80, .c (.bool true), .t 89], some (76, true)⟩, none, []⟩),
  (18, ⟨⟨some 91, .mv, [.t 90], some (76, true)⟩, none, []⟩),
  (19, ⟨⟨some 92, .mv, [.t 15], some (91, false)⟩, none, [22]⟩),
  (20, ⟨⟨some 93, .indexAddr 7, [.t 92, .c (.int .i64 0)], some (91, false)⟩, none, [22]⟩),
  (21, ⟨⟨some 94, .loadA 7, [.t 93], some (91, false)⟩, none, [22]⟩),
  (22, ⟨⟨some 95, .loadA 7, [.t 8], some (91, false)⟩, none, [19, 20, 21]⟩),
  (23, ⟨⟨some 96, .eqA true [.int .i64, .int .i64, .int .i64, .int .i64, .int .i64, .int .i64, .int .i64], [.t 94, .t 95], some (91, false)⟩, none, []⟩),
  (24, ⟨⟨some 97, .pick, [.t 91, .c (.bool true), .t 96], some (76, true)⟩, none, []⟩),
  (25, ⟨⟨some 98, .pick, [.t 76, .t 97, .c (.bool false)], none⟩, none, []⟩),
  (26, ⟨⟨some 99, .mv, [.t 98], none⟩, none, []⟩),
  (27, ⟨⟨some 100, .call 18, [], some (99, true)⟩, none, []⟩),
  (28, ⟨⟨some 101, .pick, [.t 99, .t 100, .c (.bool false)], none⟩, none, []⟩),
  (29, ⟨⟨some 6, .mv, [.t 101], none⟩, none, []⟩)]
def a7 : AFunc := ⟨102, [.tmp 6], (.seq (.region a7r0 [0, 1, 2]) (.seq (.region a7r1 [1, 2, 7]) (.seq (.region a7r2 [1, 2, 8]) (.seq (.region a7r3 [1, 2, 8, 9, 10]) (.seq (.seq (.region a7r4 [1, 2, 8, 9, 33]) (.cond (.t 33) (.seq (.region a7r5 [6]) .ret) .skip)) (.seq (.region a7r6 [1, 2, 8, 9, 11]) (.seq (.region a7r7 [8, 9, 11]) (.seq (.region a7r8 [8, 9, 11, 12, 14]) (.seq (.region a7r9 [8, 12, 14, 15, 17]) (.seq (.seq (.region a7r10 [8, 15, 17, 72]) (.cond (.t 72) (.seq (.region a7r11 [6]) .ret) .skip)) (.seq (.draw a7r12 [] [6]) .ret)))))))))))⟩
theorem a7_ok : compileF Try.prog (lk [(0, ⟨[0, 1, 2], [], []⟩), (1, ⟨[1, 2, 7], [], []⟩), (2, ⟨[1, 2, 8], [], []⟩), (3, ⟨[1, 2, 8, 9, 10], [], []⟩), (4, ⟨[1, 2, 8, 9, 33], [], []⟩), (5, ⟨[6], [], []⟩), (6, ⟨[1, 2, 8, 9, 11], [], []⟩), (7, ⟨[8, 9, 11], [], []⟩), (8, ⟨[8, 9, 11, 12, 14], [], []⟩), (9, ⟨[8, 12, 14, 15, 17], [], []⟩), (10, ⟨[8, 15, 17, 72], [], []⟩), (11, ⟨[6], [], []⟩), (12, ⟨[6], [[], [0], [1, 0], [2, 1, 0], [3, 2, 1, 0], [4, 3, 2, 1, 0], [5, 3, 4, 2, 1, 0], [6, 3, 5, 4, 2, 1, 0], [7, 6, 3, 5, 4, 2, 1, 0], [8, 7, 6, 3, 5, 4, 2, 1, 0], [9, 7, 8, 6, 3, 5, 4, 2, 1, 0], [7, 6, 3, 5, 4, 2, 1, 0], [10, 11, 7, 9, 8, 6, 3, 5, 4, 2, 1, 0], [12, 7, 10, 11, 9, 8, 6, 3, 5, 4, 2, 1, 0], [13, 12, 7, 10, 11, 9, 8, 6, 3, 5, 4, 2, 1, 0], [14, 13, 12, 7, 10, 11, 9, 8, 6, 3, 5, 4, 2, 1, 0], [13, 15, 7, 12, 10, 11, 9, 8, 6, 3, 5, 4, 2, 1, 0, 14], [7, 16, 3, 6, 5, 4, 2, 1, 0, 13, 15, 12, 10, 11, 9, 8, 14], [17, 13, 3, 7, 16, 6, 5, 4, 2, 1, 0, 15, 12, 10, 11, 9, 8, 14], [18, 17, 13, 3, 7, 16, 6, 5, 4, 2, 1, 0, 15, 12, 10, 11, 9, 8, 14], [19, 18, 17, 13, 3, 7, 16, 6, 5, 4, 2, 1, 0, 15, 12, 10, 11, 9, 8, 14], [20, 18, 19, 17, 13, 3, 7, 16, 6, 5, 4, 2, 1, 0, 15, 12, 10, 11, 9, 8, 14], [18, 17, 13, 3, 7, 16, 6, 5, 4, 2, 1, 0, 15, 12, 10, 11, 9, 8, 14], [21, 22, 18, 20, 19, 17, 13, 3, 7, 16, 6, 5, 4, 2, 1, 0, 15, 12, 10, 11, 9, 8, 14], [18, 23, 3, 17, 13, 7, 16, 6, 5, 4, 2, 1, 0, 15, 12, 10, 11, 9, 8, 14, 21, 22, 20, 19], [3, 24, 2, 1, 0, 18, 23, 17, 13, 7, 16, 6, 5, 4, 15, 12, 10, 11, 9, 8, 14, 21, 22, 20, 19], [25, 18, 3, 24, 2, 1, 0, 23, 17, 13, 7, 16, 6, 5, 4, 15, 12, 10, 11, 9, 8, 14, 21, 22, 20, 19], [26, 25, 18, 3, 24, 2, 1, 0, 23, 17, 13, 7, 16, 6, 5, 4, 15, 12, 10, 11, 9, 8, 14, 21, 22, 20, 19], [26, 27, 25, 18, 3, 24, 2, 1, 0, 23, 17, 13, 7, 16, 6, 5, 4, 15, 12, 10, 11, 9, 8, 14, 21, 22, 20, 19], [28, 27, 0, 1, 2, 3, 4, 5, 6, 7, 8, 9, 10, 11, 12, 13, 14, 15, 16, 17, 18, 19, 20, 21, 22, 23, 24, 25, 26]], [0, 1, 2, 3, 4, 5, 6, 7, 8, 9, 10, 11, 12, 13, 14, 15, 16, 17, 18, 19, 20, 21, 22, 23, 24, 25, 26, 27, 28, 29]⟩)]) Try.f7 = some a7 := by kernel_rfl

/- payroll/payrolllaw7.RecordsAccount -/
def a8r0 : List IOp := [⟨some 4, .mv, [.c (.bool false)], none⟩]
def a8r1 : List IOp := [⟨some 12, .mv, [.t 0], none⟩,
  ⟨some 13, .call 9, [.t 12], none⟩,
  ⟨some 14, .call 20, [.t 13, .c (.int .i64 4)], none⟩,
  ⟨some 5, .mv, [.t 14], none⟩]
def a8r2 : List IOp := [⟨some 15, .mv, [.t 1], none⟩,
  ⟨some 16, .len, [.t 15], none⟩,
  ⟨some 17, .bin .leq, [.t 16, .c (.int .i64 2000)], none⟩]
def a8r3 : List IOp := [⟨some 18, .mv, [.t 5], none⟩,
  ⟨some 19, .mv, [.t 1], none⟩,
  ⟨some 20, .append 5 1 1, [.t 18, .t 19], none⟩,
  ⟨some 5, .mv, [.t 20], none⟩]
def a8r4 : List IOp := [⟨some 22, .mv, [.t 5], none⟩,
  ⟨some 23, .call 24, [.t 22], none⟩,
  ⟨some 21, .mv, [.t 23], none⟩,
  ⟨some 24, .extract 0, [.t 21], none⟩,
  ⟨some 25, .extract 1, [.t 21], none⟩,
  ⟨some 26, .extract 2, [.t 21], none⟩,
  ⟨some 6, .mv, [.t 24], none⟩,
  ⟨some 7, .mv, [.t 25], none⟩,
  ⟨some 8, .mv, [.t 26], none⟩]
def a8r5 : List IOp := [⟨some 27, .mv, [.t 6], none⟩,
  ⟨some 28, .len, [.t 27], none⟩,
  ⟨some 29, .bin .mul, [.c (.int .i64 24), .t 28], none⟩,
  ⟨some 9, .mv, [.t 29], none⟩]
def a8r6 : List IOp := [⟨some 10, .mv, [.c (.int .i64 0)], none⟩]
def a8r7 : List IOp := [⟨some 11, .mv, [.c (.int .i64 0)], none⟩]
def a8r8 : List IOp := [⟨some 30, .mv, [.t 11], none⟩,
  ⟨some 31, .mv, [.t 7], none⟩,
  ⟨some 32, .len, [.t 31], none⟩,
  ⟨some 33, .bin .lss, [.t 30, .t 32], none⟩]
def a8r9 : List (Nat × DOp) := [(0, ⟨⟨some 36, .mv, [.t 7], none⟩, none, [1, 5]⟩),
  (1, ⟨⟨some 37, .mv, [.t 11], none⟩, none, [0, 5]⟩),
  (2, ⟨⟨some 38, .indexAddr 2, [.t 36, .t 37], none⟩, none, [5]⟩),
  (3, ⟨⟨some 39, .fieldAddr 0, [.t 38], none⟩, none, [5]⟩),
  (4, ⟨⟨some 40, .load1, [.t 39], none⟩, none, [5]⟩),
  (5, ⟨⟨some 41, .mv, [.t 10], none⟩, none, [0, 1, 2, 3, 4]⟩),
  (6, ⟨⟨some 42, .bin .lss, [.t 40, .t 41], none⟩, none, []⟩),
  (7, ⟨⟨some 43, .mv, [.t 42], none⟩, none, []⟩),
  (8, ⟨⟨some 44, .mv, [.t 7], some (43, false)⟩, none, [9, 13, 14, 15, 16, 17]⟩),
  (9, ⟨⟨some 45, .mv, [.t 11], some (43, false)⟩, none, [8, 13, 14, 15, 16, 17]⟩),
  (10, ⟨⟨some 46, .indexAddr 2, [.t 44, .t 45], some (43, false)⟩, none, [13, 14, 15, 16, 17]⟩),
  (11, ⟨⟨some 47, .fieldAddr 0, [.t 46], some (43, false)⟩, none, [13, 14, 15, 16, 17]⟩),
  (12, ⟨⟨some 48, .load1, [.t 47], some (43, false)⟩, none, [13, 14, 15, 16, 17]⟩),
  (13, ⟨⟨some 49, .mv, [.t 7], some (43, false)⟩, none, [8, 9, 10, 11, 12, 14]⟩),
  (14, ⟨⟨some 50, .mv, [.t 11], some (43, false)⟩, none, [8, 9, 10, 11, 12, 13]⟩),
  (15, ⟨⟨some 51, .indexAddr 2, [.t 49, .t 50], some (43, false)⟩, none, [8, 9, 10, 11, 12]⟩),
  (16, ⟨⟨some 52, .fieldAddr 1, [.t 51], some (43, false)⟩, none, [8, 9, 10, 11, 12]⟩),
  (17, ⟨⟨some 53, .load1, [.t 52], some (43, false)⟩, none, [8, 9, 10, 11, 12]⟩),
  (18, ⟨⟨some 54, .bin .geq, [.t 48, .t 53], some (43, false)⟩, none, []⟩),
  (19, ⟨⟨some 55, .pick, [.t 43, .c (.bool true), .t 54], none⟩, none, []⟩),
  (20, ⟨⟨some 56, .mv, [.t 55], none⟩, none, []⟩),
  (21, ⟨⟨some 57, .mv, [.t 7], some (56, false)⟩, none, [22, 26]⟩),
  (22, ⟨⟨some 58, .mv, [.t 11], some (56, false)⟩, none, [21, 26]⟩),
  (23, ⟨⟨some 59, .indexAddr 2, [.t 57, .t 58], some (56, false)⟩, none, [26]⟩),
  (24, ⟨⟨some 60, .fieldAddr 1, [.t 59], some (56, false)⟩, none, [26]⟩),
  (25, ⟨⟨some 61, .load1, [.t 60], some (56, false)⟩, none, [26]⟩),
  (26, ⟨⟨some 62, .mv, [.t 8], some (56, false)⟩, none, [21, 22, 23, 24, 25]⟩),
  (27, ⟨⟨some 63, .bin .gtr, [.t 61, .t 62], some (56, false)⟩, none, []⟩),
  (28, ⟨⟨some 64, .pick, [.t 56, .c (.bool true), .t 63], none⟩, none, []⟩),
  (29, ⟨⟨some 65, .mv, [.t 64], none⟩, none, []⟩),
  (30, ⟨⟨some 66, .mv, [.t 11], some (65, false)⟩, none, []⟩),
  (31, ⟨⟨some 67, .bin .gtr, [.t 66, .c (.int .i64 0)], some (65, false)⟩, none, []⟩),
  (32, ⟨⟨some 68, .mv, [.t 67], some (65, false)⟩, none, []⟩),
  (33, ⟨⟨some 69, .mv, [.t 7], some (68, true)⟩, none, [34, 38]⟩),
  (34, ⟨⟨some 70, .mv, [.t 11], some (68, true)⟩, none, [33, 38]⟩),
  (35, ⟨⟨some 71, .indexAddr 2, [.t 69, .t 70], some (68, true)⟩, none, [38]⟩),
  (36, ⟨⟨some 72, .fieldAddr 0, [.t 71], some (68, true)⟩, none, [38]⟩),
  (37, ⟨⟨some 73, .load1, [.t 72], some (68, true)⟩, none, [38]⟩),
  (38, ⟨⟨some 74, .mv, [.t 10], some (68, true)⟩, none, [33, 34, 35, 36, 37]⟩),
  (39, ⟨⟨some 75, .bin .eql, [.t 73, .t 74], some (68, true)⟩, none, []⟩),
  (40, ⟨⟨some 76, .pick, [.t 68, .t 75, .c (.bool false)], some (65, false)⟩, none, []⟩),
  (41, ⟨⟨some 77, .pick, [.t 65, .c (.bool true), .t 76], none⟩, none, []⟩)]
def a8r10 : List IOp := [⟨some 4, .mv, [.c (.bool false)], none⟩]
def a8r11 : List (Nat × DOp) := [(0, ⟨⟨some 78, .mv, [.t 9], none⟩, none, [1, 2, 3, 4, 5, 7, 8, 9, 10, 11, 13, 14, 15, 16, 17]⟩),
  (1, ⟨⟨some 79, .mv, [.t 7], none⟩, none, [0, 2, 7, 8, 9, 10, 11, 13, 14, 15, 16, 17]⟩),
  (2, ⟨⟨some 80, .mv, [.t 11], none⟩, none, [0, 1, 7, 8, 9, 10, 11, 13, 14, 15, 16, 17]⟩),
  (3, ⟨⟨some 81, .indexAddr 2, [.t 79, .t 80], none⟩, none, [0, 7, 8, 9, 10, 11, 13, 14, 15, 16, 17]⟩),
  (4, ⟨⟨some 82, .fieldAddr 1, [.t 81], none⟩, none, [0, 7, 8, 9, 10, 11, 13, 14, 15, 16, 17]⟩),
  (5, ⟨⟨some 83, .load1, [.t 82], none⟩, none, [0, 7, 8, 9, 10, 11, 13, 14, 15, 16, 17]⟩),
  (6, ⟨⟨some 84, .bin .add, [.t 78, .t 83], none⟩, none, [7, 8, 9, 10, 11, 13, 14, 15, 16, 17]⟩),
  (7, ⟨⟨some 85, .mv, [.t 7], none⟩, none, [0, 1, 2, 3, 4, 5, 6, 8, 13, 14, 15, 16, 17]⟩),
  (8, ⟨⟨some 86, .mv, [.t 11], none⟩, none, [0, 1, 2, 3, 4, 5, 6, 7, 13, 14, 15, 16, 17]⟩),
  (9, ⟨⟨some 87, .indexAddr 2, [.t 85, .t 86], none⟩, none, [0, 1, 2, 3, 4, 5, 6, 13, 14, 15, 16, 17]⟩),
  (10, ⟨⟨some 88, .fieldAddr 0, [.t 87], none⟩, none, [0, 1, 2, 3, 4, 5, 6, 13, 14, 15, 16, 17]⟩),
  (11, ⟨⟨some 89, .load1, [.t 88], none⟩, none, [0, 1, 2, 3, 4, 5, 6, 13, 14, 15, 16, 17]⟩),
  (12, ⟨⟨some 90, .bin .sub, [.t 84, .t 89], none⟩, none, [13, 14, 15, 16, 17]⟩),
  (13, ⟨⟨some 91, .mv, [.t 7], none⟩, none, [0, 1, 2, 3, 4, 5, 6, 7, 8, 9, 10, 11, 12, 14, 18]⟩),
  (14, ⟨⟨some 92, .mv, [.t 11], none⟩, none, [0, 1, 2, 3, 4, 5, 6, 7, 8, 9, 10, 11, 12, 13, 18]⟩),
  (15, ⟨⟨some 93, .indexAddr 2, [.t 91, .t 92], none⟩, none, [0, 1, 2, 3, 4, 5, 6, 7, 8, 9, 10, 11, 12, 18]⟩),
  (16, ⟨⟨some 94, .fieldAddr 1, [.t 93], none⟩, none, [0, 1, 2, 3, 4, 5, 6, 7, 8, 9, 10, 11, 12, 18]⟩),
  (17, ⟨⟨some 95, .load1, [.t 94], none⟩, none, [0, 1, 2, 3, 4, 5, 6, 7, 8, 9, 10, 11, 12, 18]⟩),
  (18, ⟨⟨some 9, .mv, [.t 90], none⟩, none, [13, 14, 15, 16, 17]⟩),
  (19, ⟨⟨some 10, .mv, [.t 95], none⟩, none, []⟩)]
def a8r12 : List IOp := [⟨some 34, .mv, [.t 11], none⟩,
  ⟨some 35, .bin .add, [.t 34, .c (.int .i64 1)], none⟩,
  ⟨some 11, .mv, [.t 35], none⟩]
def a8r13 : List IOp := [⟨some 96, .mv, [.t 9], none⟩,
  ⟨some 97, .mv, [.t 8], none⟩,
  ⟨some 98, .bin .eql, [.t 96, .t 97], none⟩,
  ⟨some 99, .mv, [.t 98], none⟩,
  ⟨some 100, .mv, [.t 5], some (99, true)⟩,
  ⟨some 101, .len, [.t 100], some (99, true)⟩,
  ⟨some 102, .mv, [.t 8], some (99, true)⟩,
  ⟨some 103, .bin .sub, [.t 101, .t 102], some (99, true)⟩,
  ⟨some 104, .bin .geq, [.t 103, .c (.int .i64 0)], some (99, true)⟩,
  ⟨some 105, .pick, [.t 99, .t 104, .c (.bool false)], none⟩,
  ⟨some 106, .mv, [.t 105], none⟩,
  ⟨some 107, .mv, [.t 5], some (106, true)⟩,
  ⟨some 108, .len, [.t 107], some (106, true)⟩,
  ⟨some 109, .mv, [.t 8], some (106, true)⟩,
  ⟨some 110, .bin .sub, [.t 108, .t 109], some (106, true)⟩,
  ⟨some 111, .bin .lss, [.t 110, .c (.int .i64 24)], some (106, true)⟩,
  ⟨some 112, .pick, [.t 106, .t 111, .c (.bool false)], none⟩,
  ⟨some 113, .mv, [.t 112], none⟩,
  ⟨some 114, .call 18, [], some (113, true)⟩,
  ⟨some 115, .pick, [.t 113, .t 114, .c (.bool false)], none⟩,
  ⟨some 4, .mv, [.t 115], none⟩]
def a8 : AFunc := ⟨116, [.tmp 4], (.seq (.region a8r0 [0, 1]) (.seq (.region a8r1 [1, 5]) (.seq (.seq (.region a8r2 [1, 5, 17]) (.cond (.t 17) (.region a8r3 [5]) .skip)) (.seq (.region a8r4 [5, 6, 7, 8]) (.seq (.region a8r5 [5, 7, 8, 9]) (.seq (.region a8r6 [5, 7, 8, 9, 10]) (.seq (.seq (.region a8r7 [5, 7, 8, 9, 10, 11]) (.block 0 (.loop (.seq (.seq (.region a8r8 [5, 7, 8, 9, 10, 11, 33]) (.cond (.t 33) .skip (.exit 0))) (.seq (.block 1 (.seq (.seq (.draw a8r9 [] [5, 7, 8, 9, 11, 77]) (.cond (.t 77) (.seq (.region a8r10 [4]) .ret) .skip)) (.draw a8r11 [] [5, 7, 8, 9, 10, 11]))) (.region a8r12 [5, 7, 8, 9, 10, 11])))))) (.seq (.region a8r13 [4]) .ret))))))))⟩
theorem a8_ok : compileF Try.prog (lk [(0, ⟨[0, 1], [], []⟩), (1, ⟨[1, 5], [], []⟩), (2, ⟨[1, 5, 17], [], []⟩), (3, ⟨[5], [], []⟩), (4, ⟨[5, 6, 7, 8], [], []⟩), (5, ⟨[5, 7, 8, 9], [], []⟩), (6, ⟨[5, 7, 8, 9, 10], [], []⟩), (7, ⟨[5, 7, 8, 9, 10, 11], [], []⟩), (8, ⟨[5, 7, 8, 9, 10, 11, 33], [], []⟩), (9, ⟨[5, 7, 8, 9, 10, 11], [], []⟩), (10, ⟨[5, 7, 8, 9, 11, 77], [[], [], [0, 1], [2, 0, 1], [3, 2, 0, 1], [], [4, 5, 3, 2, 0, 1], [6, 4, 5, 3, 2, 0, 1], [7, 6, 4, 5, 3, 2, 0, 1], [7, 6, 4, 5, 3, 2, 0, 1], [8, 9, 7, 6, 4, 5, 3, 2, 0, 1], [10, 7, 8, 9, 6, 4, 5, 3, 2, 0, 1], [11, 7, 10, 8, 9, 6, 4, 5, 3, 2, 0, 1], [7, 6, 4, 5, 3, 2, 0, 1], [7, 6, 4, 5, 3, 2, 0, 1], [13, 14, 7, 6, 4, 5, 3, 2, 0, 1], [15, 7, 13, 14, 6, 4, 5, 3, 2, 0, 1], [16, 7, 15, 13, 14, 6, 4, 5, 3, 2, 0, 1], [12, 17, 7, 11, 10, 8, 9, 6, 4, 5, 3, 2, 0, 1, 16, 15, 13, 14], [7, 18, 6, 4, 5, 3, 2, 0, 1, 12, 17, 11, 10, 8, 9, 16, 15, 13, 14], [19, 7, 18, 6, 4, 5, 3, 2, 0, 1, 12, 17, 11, 10, 8, 9, 16, 15, 13, 14], [20, 19, 7, 18, 6, 4, 5, 3, 2, 0, 1, 12, 17, 11, 10, 8, 9, 16, 15, 13, 14], [20, 19, 7, 18, 6, 4, 5, 3, 2, 0, 1, 12, 17, 11, 10, 8, 9, 16, 15, 13, 14], [21, 22, 20, 19, 7, 18, 6, 4, 5, 3, 2, 0, 1, 12, 17, 11, 10, 8, 9, 16, 15, 13, 14], [23, 20, 21, 22, 19, 7, 18, 6, 4, 5, 3, 2, 0, 1, 12, 17, 11, 10, 8, 9, 16, 15, 13, 14], [24, 20, 23, 21, 22, 19, 7, 18, 6, 4, 5, 3, 2, 0, 1, 12, 17, 11, 10, 8, 9, 16, 15, 13, 14], [20, 19, 7, 18, 6, 4, 5, 3, 2, 0, 1, 12, 17, 11, 10, 8, 9, 16, 15, 13, 14], [25, 26, 20, 24, 23, 21, 22, 19, 7, 18, 6, 4, 5, 3, 2, 0, 1, 12, 17, 11, 10, 8, 9, 16, 15, 13, 14], [20, 27, 19, 7, 18, 6, 4, 5, 3, 2, 0, 1, 12, 17, 11, 10, 8, 9, 16, 15, 13, 14, 25, 26, 24, 23, 21, 22], [28, 20, 27, 19, 7, 18, 6, 4, 5, 3, 2, 0, 1, 12, 17, 11, 10, 8, 9, 16, 15, 13, 14, 25, 26, 24, 23, 21, 22], [29, 28, 20, 27, 19, 7, 18, 6, 4, 5, 3, 2, 0, 1, 12, 17, 11, 10, 8, 9, 16, 15, 13, 14, 25, 26, 24, 23, 21, 22], [30, 29, 28, 20, 27, 19, 7, 18, 6, 4, 5, 3, 2, 0, 1, 12, 17, 11, 10, 8, 9, 16, 15, 13, 14, 25, 26, 24, 23, 21, 22], [31, 29, 30, 28, 20, 27, 19, 7, 18, 6, 4, 5, 3, 2, 0, 1, 12, 17, 11, 10, 8, 9, 16, 15, 13, 14, 25, 26, 24, 23, 21, 22], [32, 31, 29, 30, 28, 20, 27, 19, 7, 18, 6, 4, 5, 3, 2, 0, 1, 12, 17, 11, 10, 8, 9, 16, 15, 13, 14, 25, 26, 24, 23, 21, 22], [32, 31, 29, 30, 28, 20, 27, 19, 7, 18, 6, 4, 5, 3, 2, 0, 1, 12, 17, 11, 10, 8, 9, 16, 15, 13, 14, 25, 26, 24, 23, 21, 22], [33, 34, 32, 31, 29, 30, 28, 20, 27, 19, 7, 18, 6, 4, 5, 3, 2, 0, 1, 12, 17, 11, 10, 8, 9, 16, 15, 13, 14, 25, 26, 24, 23, 21, 22], [35, 32, 33, 34, 31, 29, 30, 28, 20, 27, 19, 7, 18, 6, 4, 5, 3, 2, 0, 1, 12, 17, 11, 10, 8, 9, 16, 15, 13, 14, 25, 26, 24, 23, 21, 22], [36, 32, 35, 33, 34, 31, 29, 30, 28, 20, 27, 19, 7, 18, 6, 4, 5, 3, 2, 0, 1, 12, 17, 11, 10, 8, 9, 16, 15, 13, 14, 25, 26, 24, 23, 21, 22], [32, 31, 29, 30, 28, 20, 27, 19, 7, 18, 6, 4, 5, 3, 2, 0, 1, 12, 17, 11, 10, 8, 9, 16, 15, 13, 14, 25, 26, 24, 23, 21, 22], [37, 38, 32, 36, 35, 33, 34, 31, 29, 30, 28, 20, 27, 19, 7, 18, 6, 4, 5, 3, 2, 0, 1, 12, 17, 11, 10, 8, 9, 16, 15, 13, 14, 25, 26, 24, 23, 21, 22], [32, 39, 29, 31, 30, 28, 20, 27, 19, 7, 18, 6, 4, 5, 3, 2, 0, 1, 12, 17, 11, 10, 8, 9, 16, 15, 13, 14, 25, 26, 24, 23, 21, 22, 37, 38, 36, 35, 33, 34], [29, 40, 28, 20, 27, 19, 7, 18, 6, 4, 5, 3, 2, 0, 1, 12, 17, 11, 10, 8, 9, 16, 15, 13, 14, 25, 26, 24, 23, 21, 22, 32, 39, 31, 30, 37, 38, 36, 35, 33, 34]], [0, 1, 2, 3, 4, 5, 6, 7, 8, 9, 10, 11, 12, 13, 14, 15, 16, 17, 18, 19, 20, 21, 22, 23, 24, 25, 26, 27, 28, 29, 30, 31, 32, 33, 34, 35, 36, 37, 38, 39, 40, 41]⟩), (11, ⟨[4], [], []⟩), (12, ⟨[5, 7, 8, 9, 10, 11], [[], [], [], [1, 2], [3, 1, 2], [4, 3, 1, 2], [0, 5, 4, 3, 1, 2], [], [], [7, 8], [9, 7, 8], [10, 9, 7, 8], [6, 11, 0, 5, 4, 3, 1, 2, 10, 9, 7, 8], [], [], [13, 14], [15, 13, 14], [16, 15, 13, 14], [12, 0, 1, 2, 3, 4, 5, 6, 7, 8, 9, 10, 11], [17, 18, 0, 1, 2, 3, 4, 5, 6, 7, 8, 9, 10, 11, 12, 13, 14, 15, 16]], [0, 1, 2, 3, 4, 5, 6, 7, 8, 9, 10, 11, 12, 13, 14, 15, 16, 17, 18, 19]⟩), (13, ⟨[4], [], []⟩)]) Try.f8 = some a8 := by kernel_rfl

/- payroll/payrollgen.New -/
def a9r0 : List IOp := [⟨some 2, .mv, [.c (.nilp)], none⟩]
def a9r1 : List IOp := [⟨some 3, .mv, [.t 0], none⟩,
  ⟨some 4, .build [.nils, .int .i64 0] [(0, 1)], [.t 3], none⟩,
  ⟨some 5, .box 57 2, [.t 4], none⟩,
  ⟨some 2, .mv, [.t 5], none⟩]
def a9 : AFunc := ⟨6, [.tmp 2], (.seq (.region a9r0 [0]) (.seq (.region a9r1 [2]) .ret))⟩
theorem a9_ok : compileF Try.prog (lk [(0, ⟨[0], [], []⟩), (1, ⟨[2], [], []⟩)]) Try.f9 = some a9 := by kernel_rfl

/- (*payroll/payrollgen.Tape).Event -/
def a10r0 : List IOp := [⟨some 2, .alloc 26 [.int .i64 0, .int .i64 0, .int .i64 0, .int .i64 0, .int .i64 0, .int .i64 0, .int .i64 0], [], none⟩]
def a10r1 : List IOp := [⟨some 4, .mv, [.t 0], none⟩,
  ⟨some 5, .call 27, [.t 4], none⟩,
  ⟨some 6, .mv, [.t 0], none⟩,
  ⟨some 7, .call 22, [.t 6, .c (.int .i64 6)], none⟩,
  ⟨some 8, .bin .quo, [.t 7, .c (.int .i64 5)], none⟩,
  ⟨some 9, .bin .add, [.c (.int .i64 1), .t 8], none⟩,
  ⟨some 10, .mv, [.t 0], none⟩,
  ⟨some 11, .call 28, [.t 10], none⟩,
  ⟨some 12, .mv, [.t 0], none⟩,
  ⟨some 13, .bslice 3 1 [.int .i64 0] 8 [0, 1, 2, 3, 4, 5, 6, 7], [.c (.int .i64 1), .c (.int .i64 2), .c (.int .i64 3), .c (.int .i64 4), .c (.int .i64 1), .c (.int .i64 2), .c (.int .i64 5), .c (.int .i64 6)], none⟩,
  ⟨some 14, .call 29, [.t 12, .t 13], none⟩,
  ⟨some 15, .build [.int .i64 0, .int .i64 0, .int .i64 0, .int .i64 0, .int .i64 0, .int .i64 0, .int .i64 0] [(0, 2), (2, 1), (3, 1), (4, 1)], [.t 5, .t 9, .t 11, .t 14], none⟩,
  ⟨some 3, .alloc 26 [.int .i64 0, .int .i64 0, .int .i64 0, .int .i64 0, .int .i64 0, .int .i64 0, .int .i64 0], [], none⟩,
  ⟨none, .store 7, [.t 3, .t 15], none⟩]
def a10r2 : List IOp := [⟨some 16, .fieldAddr 4, [.t 3], none⟩,
  ⟨some 17, .load1, [.t 16], none⟩,
  ⟨some 18, .bin .geq, [.t 17, .c (.int .i64 5)], none⟩]
def a10r3 : List IOp := [⟨some 19, .mv, [.t 0], none⟩,
  ⟨some 20, .call 27, [.t 19], none⟩,
  ⟨some 21, .fieldAddr 5, [.t 3], none⟩,
  ⟨none, .store 2, [.t 21, .t 20], none⟩]
def a10r4 : List IOp := [⟨some 22, .loadA 7, [.t 3], none⟩,
  ⟨none, .store 7, [.t 2, .t 22], none⟩]
def a10 : AFunc := ⟨23, [.cellA 2 7], (.seq (.region a10r0 [0, 2]) (.seq (.region a10r1 [0, 2, 3]) (.seq (.seq (.region a10r2 [0, 2, 3, 18]) (.cond (.t 18) (.region a10r3 [2, 3]) .skip)) (.seq (.region a10r4 [2]) .ret))))⟩
theorem a10_ok : compileF Try.prog (lk [(0, ⟨[0, 2], [], []⟩), (1, ⟨[0, 2, 3], [], []⟩), (2, ⟨[0, 2, 3, 18], [], []⟩), (3, ⟨[2, 3], [], []⟩), (4, ⟨[2], [], []⟩)]) Try.f10 = some a10 := by kernel_rfl

/- (*payroll/payrollgen.Tape).SpoilEvent -/
def a11r0 : List IOp := [⟨some 3, .box 26 7, [.t 1], none⟩,
  ⟨some 4, .alloc 26 [.int .i64 0, .int .i64 0, .int .i64 0, .int .i64 0, .int .i64 0, .int .i64 0, .int .i64 0], [], none⟩]
def a11r1 : List IOp := [⟨some 5, .mv, [.t 0], none⟩,
  ⟨some 6, .call 22, [.t 5, .c (.int .i64 6)], none⟩]
def a11r2 : List IOp := [⟨some 13, .bin .eql, [.t 6, .c (.int .i64 0)], none⟩,
  ⟨some 12, .mv, [.t 13], none⟩]
def a11r3 : List IOp := [⟨some 14, .mv, [.t 0], none⟩,
  ⟨some 15, .bslice 3 1 [.int .i64 0] 3 [0, 1, 2], [.c (.int .i64 0), .c (.int .i64 7), .c (.int .i64 (-1))], none⟩,
  ⟨some 16, .call 29, [.t 14, .t 15], none⟩,
  ⟨some 17, .fieldAddr 4, [.t 3], none⟩,
  ⟨none, .store 1, [.t 17, .t 16], none⟩]
def a11r4 : List IOp := [⟨some 19, .bin .eql, [.t 6, .c (.int .i64 1)], none⟩,
  ⟨some 18, .mv, [.t 19], none⟩]
def a11r5 : List IOp := [⟨some 20, .mv, [.t 0], none⟩,
  ⟨some 21, .bslice 3 1 [.int .i64 0] 3 [0, 1, 2], [.c (.int .i64 0), .c (.int .i64 (-1)), .c (.int .i64 2147483648)], none⟩,
  ⟨some 22, .call 29, [.t 20, .t 21], none⟩,
  ⟨some 23, .fieldAddr 2, [.t 3], none⟩,
  ⟨none, .store 1, [.t 23, .t 22], none⟩]
def a11r6 : List IOp := [⟨some 25, .bin .eql, [.t 6, .c (.int .i64 2)], none⟩,
  ⟨some 24, .mv, [.t 25], none⟩]
def a11r7 : List IOp := [⟨some 26, .mv, [.t 0], none⟩,
  ⟨some 27, .bslice 3 1 [.int .i64 0] 3 [0, 1, 2], [.c (.int .i64 (-1)), .c (.int .i64 120968640), .c (.int .i64 0)], none⟩,
  ⟨some 28, .call 29, [.t 26, .t 27], none⟩,
  ⟨some 29, .fieldAddr 3, [.t 3], none⟩,
  ⟨none, .store 1, [.t 29, .t 28], none⟩]
def a11r8 : List IOp := [⟨some 31, .bin .eql, [.t 6, .c (.int .i64 3)], none⟩,
  ⟨some 30, .mv, [.t 31], none⟩]
def a11r9 : List IOp := [⟨some 32, .mv, [.t 0], none⟩,
  ⟨some 33, .bslice 3 1 [.int .i64 0] 3 [0, 1, 2], [.c (.int .i64 65536), .c (.int .i64 (-1)), .c (.int .i64 65535)], none⟩,
  ⟨some 34, .call 29, [.t 32, .t 33], none⟩,
  ⟨some 35, .fieldAddr 0, [.t 3], none⟩,
  ⟨some 36, .fieldAddr 0, [.t 35], none⟩,
  ⟨none, .store 1, [.t 36, .t 34], none⟩]
def a11r10 : List IOp := [⟨some 38, .bin .eql, [.t 6, .c (.int .i64 4)], none⟩,
  ⟨some 37, .mv, [.t 38], none⟩]
def a11r11 : List IOp := [⟨some 39, .mv, [.t 0], none⟩,
  ⟨some 40, .bslice 3 1 [.int .i64 0] 3 [0, 1, 2], [.c (.int .i64 (-1)), .c (.int .i64 2147483648), .c (.int .i64 2147483647)], none⟩,
  ⟨some 41, .call 29, [.t 39, .t 40], none⟩,
  ⟨some 42, .fieldAddr 0, [.t 3], none⟩,
  ⟨some 43, .fieldAddr 1, [.t 42], none⟩,
  ⟨none, .store 1, [.t 43, .t 41], none⟩]
def a11r12 : List IOp := [⟨some 7, .mv, [.t 0], none⟩,
  ⟨some 8, .bslice 3 1 [.int .i64 0] 3 [0, 1, 2], [.c (.int .i64 1), .c (.int .i64 70000), .c (.int .i64 (-1))], none⟩,
  ⟨some 9, .call 29, [.t 7, .t 8], none⟩,
  ⟨some 10, .build [.int .i64 0, .int .i64 0] [(0, 1)], [.t 9], none⟩,
  ⟨some 11, .fieldAddr 5, [.t 3], none⟩,
  ⟨none, .store 2, [.t 11, .t 10], none⟩]
def a11r13 : List IOp := [⟨some 44, .loadA 7, [.t 3], none⟩,
  ⟨none, .store 7, [.t 4, .t 44], none⟩]
def a11 : AFunc := ⟨45, [.cellA 4 7], (.seq (.region a11r0 [0, 3, 4]) (.seq (.seq (.region a11r1 [0, 3, 4, 6]) (.block 0 (.seq (.region a11r2 [0, 3, 4, 6, 12]) (.cond (.t 12) (.region a11r3 [3, 4]) (.seq (.region a11r4 [0, 3, 4, 6, 18]) (.cond (.t 18) (.region a11r5 [3, 4]) (.seq (.region a11r6 [0, 3, 4, 6, 24]) (.cond (.t 24) (.region a11r7 [3, 4]) (.seq (.region a11r8 [0, 3, 4, 6, 30]) (.cond (.t 30) (.region a11r9 [3, 4]) (.seq (.region a11r10 [0, 3, 4, 37]) (.cond (.t 37) (.region a11r11 [3, 4]) (.region a11r12 [3, 4]))))))))))))) (.seq (.region a11r13 [4]) .ret)))⟩
theorem a11_ok : compileF Try.prog (lk [(0, ⟨[0, 3, 4], [], []⟩), (1, ⟨[0, 3, 4, 6], [], []⟩), (2, ⟨[3, 4], [], []⟩), (3, ⟨[0, 3, 4, 6, 12], [], []⟩), (4, ⟨[3, 4], [], []⟩), (5, ⟨[0, 3, 4, 6, 18], [], []⟩), (6, ⟨[3, 4], [], []⟩), (7, ⟨[0, 3, 4, 6, 24], [], []⟩), (8, ⟨[3, 4], [], []⟩), (9, ⟨[0, 3, 4, 6, 30], [], []⟩), (10, ⟨[3, 4], [], []⟩), (11, ⟨[0, 3, 4, 37], [], []⟩), (12, ⟨[3, 4], [], []⟩), (13, ⟨[4], [], []⟩)]) Try.f11 = some a11 := by kernel_rfl

/- payroll/records.Encode -/
def a12r0 : List IOp := [⟨some 1, .box 26 7, [.t 0], none⟩,
  ⟨some 2, .mv, [.c (.nils)], none⟩,
  ⟨some 3, .mv, [.c (.int .i64 0)], none⟩]
def a12r1 : List IOp := [⟨some 5, .loadA 7, [.t 1], none⟩,
  ⟨some 6, .call 14, [.t 5], none⟩,
  ⟨some 7, .not, [.t 6], none⟩]
def a12r2 : List IOp := [⟨some 2, .mv, [.c (.nils)], none⟩,
  ⟨some 3, .mv, [.c (.int .i64 1)], none⟩]
def a12r3 : List IOp := [⟨some 8, .mkslice 5 1 1 [.int .u8 0], [.c (.int .i64 0), .c (.int .i64 24)], none⟩,
  ⟨some 4, .mv, [.t 8], none⟩]
def a12r4 : List IOp := [⟨some 9, .mv, [.t 4], none⟩,
  ⟨some 10, .call 30, [.t 9, .c (.int .i64 193), .c (.int .i64 1)], none⟩,
  ⟨some 4, .mv, [.t 10], none⟩]
def a12r5 : List IOp := [⟨some 11, .mv, [.t 4], none⟩,
  ⟨some 12, .fieldAddr 4, [.t 1], none⟩,
  ⟨some 13, .load1, [.t 12], none⟩,
  ⟨some 14, .call 30, [.t 11, .t 13, .c (.int .i64 1)], none⟩,
  ⟨some 4, .mv, [.t 14], none⟩]
def a12r6 : List IOp := [⟨some 15, .mv, [.t 4], none⟩,
  ⟨some 16, .fieldAddr 0, [.t 1], none⟩,
  ⟨some 17, .fieldAddr 0, [.t 16], none⟩,
  ⟨some 18, .load1, [.t 17], none⟩,
  ⟨some 19, .call 30, [.t 15, .t 18, .c (.int .i64 2)], none⟩,
  ⟨some 4, .mv, [.t 19], none⟩]
def a12r7 : List IOp := [⟨some 20, .mv, [.t 4], none⟩,
  ⟨some 21, .fieldAddr 0, [.t 1], none⟩,
  ⟨some 22, .fieldAddr 1, [.t 21], none⟩,
  ⟨some 23, .load1, [.t 22], none⟩,
  ⟨some 24, .call 30, [.t 20, .t 23, .c (.int .i64 4)], none⟩,
  ⟨some 4, .mv, [.t 24], none⟩]
def a12r8 : List IOp := [⟨some 25, .mv, [.t 4], none⟩,
  ⟨some 26, .fieldAddr 2, [.t 1], none⟩,
  ⟨some 27, .load1, [.t 26], none⟩,
  ⟨some 28, .call 30, [.t 25, .t 27, .c (.int .i64 4)], none⟩,
  ⟨some 4, .mv, [.t 28], none⟩]
def a12r9 : List IOp := [⟨some 29, .mv, [.t 4], none⟩,
  ⟨some 30, .fieldAddr 3, [.t 1], none⟩,
  ⟨some 31, .load1, [.t 30], none⟩,
  ⟨some 32, .call 30, [.t 29, .t 31, .c (.int .i64 4)], none⟩,
  ⟨some 4, .mv, [.t 32], none⟩]
def a12r10 : List IOp := [⟨some 33, .mv, [.t 4], none⟩,
  ⟨some 34, .fieldAddr 5, [.t 1], none⟩,
  ⟨some 35, .fieldAddr 0, [.t 34], none⟩,
  ⟨some 36, .load1, [.t 35], none⟩,
  ⟨some 37, .call 30, [.t 33, .t 36, .c (.int .i64 2)], none⟩,
  ⟨some 4, .mv, [.t 37], none⟩]
def a12r11 : List IOp := [⟨some 38, .mv, [.t 4], none⟩,
  ⟨some 39, .fieldAddr 5, [.t 1], none⟩,
  ⟨some 40, .fieldAddr 1, [.t 39], none⟩,
  ⟨some 41, .load1, [.t 40], none⟩,
  ⟨some 42, .call 30, [.t 38, .t 41, .c (.int .i64 4)], none⟩,
  ⟨some 4, .mv, [.t 42], none⟩]
def a12r12 : List IOp := [⟨some 43, .mv, [.t 4], none⟩,
  ⟨some 44, .mv, [.t 4], none⟩,
  ⟨some 45, .call 16, [.t 44], none⟩,
  ⟨some 46, .call 30, [.t 43, .t 45, .c (.int .i64 2)], none⟩,
  ⟨some 2, .mv, [.t 46], none⟩,
  ⟨some 3, .mv, [.c (.int .i64 0)], none⟩]
def a12 : AFunc := ⟨47, [.tmp 2, .tmp 3], (.seq (.region a12r0 [1]) (.seq (.seq (.region a12r1 [1, 7]) (.cond (.t 7) (.seq (.region a12r2 [2, 3]) .ret) .skip)) (.seq (.region a12r3 [1, 4]) (.seq (.region a12r4 [1, 4]) (.seq (.region a12r5 [1, 4]) (.seq (.region a12r6 [1, 4]) (.seq (.region a12r7 [1, 4]) (.seq (.region a12r8 [1, 4]) (.seq (.region a12r9 [1, 4]) (.seq (.region a12r10 [1, 4]) (.seq (.region a12r11 [4]) (.seq (.region a12r12 [2, 3]) .ret))))))))))))⟩
theorem a12_ok : compileF Try.prog (lk [(0, ⟨[1], [], []⟩), (1, ⟨[1, 7], [], []⟩), (2, ⟨[2, 3], [], []⟩), (3, ⟨[1, 4], [], []⟩), (4, ⟨[1, 4], [], []⟩), (5, ⟨[1, 4], [], []⟩), (6, ⟨[1, 4], [], []⟩), (7, ⟨[1, 4], [], []⟩), (8, ⟨[1, 4], [], []⟩), (9, ⟨[1, 4], [], []⟩), (10, ⟨[1, 4], [], []⟩), (11, ⟨[4], [], []⟩), (12, ⟨[2, 3], [], []⟩)]) Try.f12 = some a12 := by kernel_rfl

/- payroll/payrollref7.Encode -/
def a13r0 : List IOp := [⟨some 1, .box 26 7, [.t 0], none⟩,
  ⟨some 2, .mv, [.c (.nils)], none⟩,
  ⟨some 3, .mv, [.c (.int .i64 0)], none⟩]
def a13r1 : List IOp := [⟨some 4, .loadA 7, [.t 1], none⟩,
  ⟨some 5, .call 15, [.t 4], none⟩,
  ⟨some 6, .not, [.t 5], none⟩]
def a13r2 : List IOp := [⟨some 2, .mv, [.c (.nils)], none⟩,
  ⟨some 3, .mv, [.c (.int .i64 1)], none⟩]
def a13r3 : List IOp := [⟨some 7, .loadA 7, [.t 1], none⟩,
  ⟨some 8, .call 31, [.t 7], none⟩,
  ⟨some 2, .mv, [.t 8], none⟩,
  ⟨some 3, .mv, [.c (.int .i64 0)], none⟩]
def a13 : AFunc := ⟨9, [.tmp 2, .tmp 3], (.seq (.region a13r0 [1]) (.seq (.seq (.region a13r1 [1, 6]) (.cond (.t 6) (.seq (.region a13r2 [2, 3]) .ret) .skip)) (.seq (.region a13r3 [2, 3]) .ret)))⟩
theorem a13_ok : compileF Try.prog (lk [(0, ⟨[1], [], []⟩), (1, ⟨[1, 6], [], []⟩), (2, ⟨[2, 3], [], []⟩), (3, ⟨[2, 3], [], []⟩)]) Try.f13 = some a13 := by kernel_rfl

/- payroll/records.Valid -/
def a14r0 : List IOp := [⟨some 1, .box 26 7, [.t 0], none⟩,
  ⟨some 2, .mv, [.c (.bool false)], none⟩]
def a14r1 : List IOp := [⟨some 3, .fieldAddr 0, [.t 1], none⟩,
  ⟨some 4, .loadA 2, [.t 3], none⟩,
  ⟨some 5, .call 32, [.t 4], none⟩,
  ⟨some 6, .not, [.t 5], none⟩,
  ⟨some 7, .mv, [.t 6], none⟩,
  ⟨some 8, .fieldAddr 2, [.t 1], some (7, false)⟩,
  ⟨some 9, .load1, [.t 8], some (7, false)⟩,
  ⟨some 10, .bin .lss, [.t 9, .c (.int .i64 1)], some (7, false)⟩,
  ⟨some 11, .pick, [.t 7, .c (.bool true), .t 10], none⟩,
  ⟨some 12, .mv, [.t 11], none⟩,
  ⟨some 13, .fieldAddr 2, [.t 1], some (12, false)⟩,
  ⟨some 14, .load1, [.t 13], some (12, false)⟩,
  ⟨some 15, .bin .gtr, [.t 14, .c (.int .i64 2147483647)], some (12, false)⟩,
  ⟨some 16, .pick, [.t 12, .c (.bool true), .t 15], none⟩,
  ⟨some 17, .mv, [.t 16], none⟩,
  ⟨some 18, .fieldAddr 3, [.t 1], some (17, false)⟩,
  ⟨some 19, .load1, [.t 18], some (17, false)⟩,
  ⟨some 20, .bin .lss, [.t 19, .c (.int .i64 0)], some (17, false)⟩,
  ⟨some 21, .pick, [.t 17, .c (.bool true), .t 20], none⟩,
  ⟨some 22, .mv, [.t 21], none⟩,
  ⟨some 23, .fieldAddr 3, [.t 1], some (22, false)⟩,
  ⟨some 24, .load1, [.t 23], some (22, false)⟩,
  ⟨some 25, .bin .gtr, [.t 24, .c (.int .i64 120968639)], some (22, false)⟩,
  ⟨some 26, .pick, [.t 22, .c (.bool true), .t 25], none⟩]
def a14r2 : List IOp := [⟨some 2, .mv, [.c (.bool false)], none⟩]
def a14r3 : List IOp := [⟨some 27, .fieldAddr 4, [.t 1], none⟩,
  ⟨some 28, .load1, [.t 27], none⟩]
def a14r4 : List IOp := [⟨some 30, .bin .eql, [.t 28, .c (.int .i64 1)], none⟩,
  ⟨some 29, .mv, [.t 30], none⟩]
def a14r5 : List IOp := [⟨some 31, .bin .eql, [.t 28, .c (.int .i64 2)], none⟩,
  ⟨some 29, .mv, [.t 31], none⟩]
def a14r6 : List IOp := [⟨some 32, .bin .eql, [.t 28, .c (.int .i64 3)], none⟩,
  ⟨some 29, .mv, [.t 32], none⟩]
def a14r7 : List IOp := [⟨some 33, .bin .eql, [.t 28, .c (.int .i64 4)], none⟩,
  ⟨some 29, .mv, [.t 33], none⟩]
def a14r8 : List IOp := [⟨some 34, .fieldAddr 5, [.t 1], none⟩,
  ⟨some 35, .loadA 2, [.t 34], none⟩,
  ⟨some 36, .build [.int .i64 0, .int .i64 0] [], [], none⟩,
  ⟨some 37, .eqA false [.int .i64, .int .i64], [.t 35, .t 36], none⟩,
  ⟨some 2, .mv, [.t 37], none⟩]
def a14r9 : List IOp := [⟨some 39, .bin .eql, [.t 28, .c (.int .i64 5)], none⟩,
  ⟨some 38, .mv, [.t 39], none⟩]
def a14r10 : List IOp := [⟨some 40, .bin .eql, [.t 28, .c (.int .i64 6)], none⟩,
  ⟨some 38, .mv, [.t 40], none⟩]
def a14r11 : List IOp := [⟨some 41, .fieldAddr 5, [.t 1], none⟩,
  ⟨some 42, .loadA 2, [.t 41], none⟩,
  ⟨some 43, .call 32, [.t 42], none⟩,
  ⟨some 2, .mv, [.t 43], none⟩]
def a14r12 : List IOp := [⟨some 2, .mv, [.c (.bool false)], none⟩]
def a14 : AFunc := ⟨44, [.tmp 2], (.seq (.region a14r0 [1]) (.seq (.seq (.region a14r1 [1, 26]) (.cond (.t 26) (.seq (.region a14r2 [2]) .ret) .skip)) (.seq (.seq (.region a14r3 [1, 28]) (.block 0 (.seq (.seq (.region a14r4 [1, 28, 29]) (.cond (.t 29) .skip (.seq (.region a14r5 [1, 28, 29]) (.cond (.t 29) .skip (.seq (.region a14r6 [1, 28, 29]) (.cond (.t 29) .skip (.region a14r7 [1, 28, 29]))))))) (.cond (.t 29) (.seq (.region a14r8 [2]) .ret) (.seq (.seq (.region a14r9 [1, 28, 38]) (.cond (.t 38) .skip (.region a14r10 [1, 38]))) (.cond (.t 38) (.seq (.region a14r11 [2]) .ret) .skip)))))) (.seq (.region a14r12 [2]) .ret))))⟩
theorem a14_ok : compileF Try.prog (lk [(0, ⟨[1], [], []⟩), (1, ⟨[1, 26], [], []⟩), (2, ⟨[2], [], []⟩), (3, ⟨[1, 28], [], []⟩), (4, ⟨[1, 28, 29], [], []⟩), (5, ⟨[1, 28, 29], [], []⟩), (6, ⟨[1, 28, 29], [], []⟩), (7, ⟨[1, 28, 29], [], []⟩), (8, ⟨[2], [], []⟩), (9, ⟨[1, 28, 38], [], []⟩), (10, ⟨[1, 38], [], []⟩), (11, ⟨[2], [], []⟩), (12, ⟨[2], [], []⟩)]) Try.f14 = some a14 := by kernel_rfl

/- payroll/payrollref7.Valid -/
def a15r0 : List IOp := [⟨some 1, .box 26 7, [.t 0], none⟩,
  ⟨some 2, .mv, [.c (.bool false)], none⟩]
def a15r1 : List IOp := [⟨some 3, .fieldAddr 0, [.t 1], none⟩,
  ⟨some 4, .loadA 2, [.t 3], none⟩,
  ⟨some 5, .call 33, [.t 4], none⟩,
  ⟨some 6, .not, [.t 5], none⟩,
  ⟨some 7, .mv, [.t 6], none⟩,
  ⟨some 8, .fieldAddr 2, [.t 1], some (7, false)⟩,
  ⟨some 9, .load1, [.t 8], some (7, false)⟩,
  ⟨some 10, .bin .lss, [.t 9, .c (.int .i64 1)], some (7, false)⟩,
  ⟨some 11, .pick, [.t 7, .c (.bool true), .t 10], none⟩,
  ⟨some 12, .mv, [.t 11], none⟩,
  ⟨some 13, .fieldAddr 2, [.t 1], some (12, false)⟩,
  ⟨some 14, .load1, [.t 13], some (12, false)⟩,
  ⟨some 15, .bin .gtr, [.t 14, .c (.int .i64 2147483647)], some (12, false)⟩,
  ⟨some 16, .pick, [.t 12, .c (.bool true), .t 15], none⟩,
  ⟨some 17, .mv, [.t 16], none⟩,
  ⟨some 18, .fieldAddr 3, [.t 1], some (17, false)⟩,
  ⟨some 19, .load1, [.t 18], some (17, false)⟩,
  ⟨some 20, .bin .lss, [.t 19, .c (.int .i64 0)], some (17, false)⟩,
  ⟨some 21, .pick, [.t 17, .c (.bool true), .t 20], none⟩,
  ⟨some 22, .mv, [.t 21], none⟩,
  ⟨some 23, .fieldAddr 3, [.t 1], some (22, false)⟩,
  ⟨some 24, .load1, [.t 23], some (22, false)⟩,
  ⟨some 25, .bin .gtr, [.t 24, .c (.int .i64 120968639)], some (22, false)⟩,
  ⟨some 26, .pick, [.t 22, .c (.bool true), .t 25], none⟩,
  ⟨some 27, .mv, [.t 26], none⟩,
  ⟨some 28, .fieldAddr 4, [.t 1], some (27, false)⟩,
  ⟨some 29, .load1, [.t 28], some (27, false)⟩,
  ⟨some 30, .bin .lss, [.t 29, .c (.int .i64 1)], some (27, false)⟩,
  ⟨some 31, .pick, [.t 27, .c (.bool true), .t 30], none⟩,
  ⟨some 32, .mv, [.t 31], none⟩,
  ⟨some 33, .fieldAddr 4, [.t 1], some (32, false)⟩,
  ⟨some 34, .load1, [.t 33], some (32, false)⟩,
  ⟨some 35, .bin .gtr, [.t 34, .c (.int .i64 6)], some (32, false)⟩,
  ⟨some 36, .pick, [.t 32, .c (.bool true), .t 35], none⟩]
def a15r2 : List IOp := [⟨some 2, .mv, [.c (.bool false)], none⟩]
def a15r3 : List IOp := [⟨some 37, .fieldAddr 4, [.t 1], none⟩,
  ⟨some 38, .load1, [.t 37], none⟩,
  ⟨some 39, .bin .eql, [.t 38, .c (.int .i64 5)], none⟩,
  ⟨some 40, .mv, [.t 39], none⟩,
  ⟨some 41, .fieldAddr 4, [.t 1], some (40, false)⟩,
  ⟨some 42, .load1, [.t 41], some (40, false)⟩,
  ⟨some 43, .bin .eql, [.t 42, .c (.int .i64 6)], some (40, false)⟩,
  ⟨some 44, .pick, [.t 40, .c (.bool true), .t 43], none⟩]
def a15r4 : List IOp := [⟨some 45, .fieldAddr 5, [.t 1], none⟩,
  ⟨some 46, .loadA 2, [.t 45], none⟩,
  ⟨some 47, .call 33, [.t 46], none⟩,
  ⟨some 2, .mv, [.t 47], none⟩]
def a15r5 : List IOp := [⟨some 48, .fieldAddr 5, [.t 1], none⟩,
  ⟨some 49, .loadA 2, [.t 48], none⟩,
  ⟨some 50, .build [.int .i64 0, .int .i64 0] [], [], none⟩,
  ⟨some 51, .eqA false [.int .i64, .int .i64], [.t 49, .t 50], none⟩,
  ⟨some 2, .mv, [.t 51], none⟩]
def a15 : AFunc := ⟨52, [.tmp 2], (.seq (.region a15r0 [1]) (.seq (.seq (.region a15r1 [1, 36]) (.cond (.t 36) (.seq (.region a15r2 [2]) .ret) .skip)) (.seq (.seq (.region a15r3 [1, 44]) (.cond (.t 44) (.seq (.region a15r4 [2]) .ret) .skip)) (.seq (.region a15r5 [2]) .ret))))⟩
theorem a15_ok : compileF Try.prog (lk [(0, ⟨[1], [], []⟩), (1, ⟨[1, 36], [], []⟩), (2, ⟨[2], [], []⟩), (3, ⟨[1, 44], [], []⟩), (4, ⟨[2], [], []⟩), (5, ⟨[2], [], []⟩)]) Try.f15 = some a15 := by kernel_rfl

/- payroll/records.Sum -/
def a16r0 : List IOp := [⟨some 2, .mv, [.c (.int .i64 0)], none⟩]
def a16r1 : List IOp := [⟨some 3, .mv, [.c (.int .u16 65535)], none⟩]
def a16r2 : List IOp := [⟨some 7, .mv, [.t 0], none⟩,
  ⟨some 8, .len, [.t 7], none⟩,
  ⟨some 9, .mv, [.c (.int .i64 0)], none⟩]
def a16r3 : List IOp := [⟨some 10, .bin .lss, [.t 9, .t 8], none⟩]
def a16r4 : List IOp := [⟨some 11, .indexAddr 1, [.t 7, .t 9], none⟩,
  ⟨some 12, .load1, [.t 11], none⟩,
  ⟨some 5, .mv, [.t 12], none⟩]
def a16r5 : List IOp := [⟨some 13, .mv, [.t 3], none⟩,
  ⟨some 14, .mv, [.t 5], none⟩,
  ⟨some 15, .conv .u16, [.t 14], none⟩,
  ⟨some 16, .bin .shl, [.t 15, .c (.int .u64 8)], none⟩,
  ⟨some 17, .bin .xor, [.t 13, .t 16], none⟩,
  ⟨some 3, .mv, [.t 17], none⟩]
def a16r6 : List IOp := [⟨some 18, .mv, [.c (.int .i64 0)], none⟩]
def a16r7 : List IOp := [⟨some 19, .bin .lss, [.t 18, .c (.int .i64 8)], none⟩]
def a16r8 : List IOp := [⟨some 20, .mv, [.t 3], none⟩,
  ⟨some 21, .bin .and, [.t 20, .c (.int .u16 32768)], none⟩,
  ⟨some 6, .mv, [.t 21], none⟩]
def a16r9 : List IOp := [⟨some 22, .mv, [.t 3], none⟩,
  ⟨some 23, .bin .shl, [.t 22, .c (.int .u64 1)], none⟩,
  ⟨some 3, .mv, [.t 23], none⟩]
def a16r10 : List IOp := [⟨some 24, .mv, [.t 6], none⟩,
  ⟨some 25, .bin .neq, [.t 24, .c (.int .u16 0)], none⟩]
def a16r11 : List IOp := [⟨some 26, .mv, [.t 3], none⟩,
  ⟨some 27, .bin .xor, [.t 26, .c (.int .u16 4129)], none⟩,
  ⟨some 3, .mv, [.t 27], none⟩]
def a16r12 : List IOp := [⟨some 28, .bin .add, [.t 18, .c (.int .i64 1)], none⟩,
  ⟨some 18, .mv, [.t 28], none⟩]
def a16r13 : List IOp := [⟨some 29, .bin .add, [.t 9, .c (.int .i64 1)], none⟩,
  ⟨some 9, .mv, [.t 29], none⟩]
def a16r14 : List IOp := [⟨some 30, .mv, [.t 3], none⟩,
  ⟨some 31, .conv .i64, [.t 30], none⟩,
  ⟨some 2, .mv, [.t 31], none⟩]
def a16 : AFunc := ⟨32, [.tmp 2], (.seq (.region a16r0 [0]) (.seq (.region a16r1 [0, 3]) (.seq (.seq (.region a16r2 [3, 7, 8, 9]) (.block 0 (.loop (.seq (.region a16r3 [3, 7, 8, 9, 10]) (.seq (.cond (.t 10) .skip (.exit 0)) (.seq (.block 1 (.seq (.region a16r4 [3, 5, 7, 8, 9]) (.seq (.region a16r5 [3, 7, 8, 9]) (.seq (.region a16r6 [3, 7, 8, 9, 18]) (.block 2 (.loop (.seq (.region a16r7 [3, 7, 8, 9, 18, 19]) (.seq (.cond (.t 19) .skip (.exit 2)) (.seq (.block 3 (.seq (.region a16r8 [3, 6, 7, 8, 9, 18]) (.seq (.region a16r9 [3, 6, 7, 8, 9, 18]) (.seq (.region a16r10 [3, 7, 8, 9, 18, 25]) (.cond (.t 25) (.region a16r11 [3, 7, 8, 9, 18]) .skip))))) (.region a16r12 [3, 7, 8, 9, 18])))))))))) (.region a16r13 [3, 7, 8, 9]))))))) (.seq (.region a16r14 [2]) .ret))))⟩
theorem a16_ok : compileF Try.prog (lk [(0, ⟨[0], [], []⟩), (1, ⟨[0, 3], [], []⟩), (2, ⟨[3, 7, 8, 9], [], []⟩), (3, ⟨[3, 7, 8, 9, 10], [], []⟩), (4, ⟨[3, 5, 7, 8, 9], [], []⟩), (5, ⟨[3, 7, 8, 9], [], []⟩), (6, ⟨[3, 7, 8, 9, 18], [], []⟩), (7, ⟨[3, 7, 8, 9, 18, 19], [], []⟩), (8, ⟨[3, 6, 7, 8, 9, 18], [], []⟩), (9, ⟨[3, 6, 7, 8, 9, 18], [], []⟩), (10, ⟨[3, 7, 8, 9, 18, 25], [], []⟩), (11, ⟨[3, 7, 8, 9, 18], [], []⟩), (12, ⟨[3, 7, 8, 9, 18], [], []⟩), (13, ⟨[3, 7, 8, 9], [], []⟩), (14, ⟨[2], [], []⟩)]) Try.f16 = some a16 := by kernel_rfl

/- payroll/payrollref7.Sum -/
def a17r0 : List IOp := [⟨some 2, .mv, [.c (.int .i64 0)], none⟩]
def a17r1 : List IOp := [⟨some 3, .mv, [.c (.int .i64 65535)], none⟩]
def a17r2 : List IOp := [⟨some 4, .mv, [.c (.int .i64 0)], none⟩]
def a17r3 : List IOp := [⟨some 6, .mv, [.t 4], none⟩,
  ⟨some 7, .mv, [.t 0], none⟩,
  ⟨some 8, .len, [.t 7], none⟩,
  ⟨some 9, .bin .lss, [.t 6, .t 8], none⟩]
def a17r4 : List IOp := [⟨some 12, .mv, [.t 3], none⟩,
  ⟨some 13, .mv, [.t 0], none⟩,
  ⟨some 14, .mv, [.t 4], none⟩,
  ⟨some 15, .indexAddr 1, [.t 13, .t 14], none⟩,
  ⟨some 16, .load1, [.t 15], none⟩,
  ⟨some 17, .conv .i64, [.t 16], none⟩,
  ⟨some 18, .bin .shl, [.t 17, .c (.int .u64 8)], none⟩,
  ⟨some 19, .bin .xor, [.t 12, .t 18], none⟩,
  ⟨some 3, .mv, [.t 19], none⟩]
def a17r5 : List IOp := [⟨some 5, .mv, [.c (.int .i64 0)], none⟩]
def a17r6 : List IOp := [⟨some 20, .mv, [.t 5], none⟩,
  ⟨some 21, .bin .lss, [.t 20, .c (.int .i64 8)], none⟩]
def a17r7 : List IOp := [⟨some 24, .mv, [.t 3], none⟩,
  ⟨some 25, .bin .shl, [.t 24, .c (.int .u64 1)], none⟩,
  ⟨some 3, .mv, [.t 25], none⟩]
def a17r8 : List IOp := [⟨some 26, .mv, [.t 3], none⟩,
  ⟨some 27, .bin .gtr, [.t 26, .c (.int .i64 65535)], none⟩]
def a17r9 : List IOp := [⟨some 28, .mv, [.t 3], none⟩,
  ⟨some 29, .bin .and, [.t 28, .c (.int .i64 65535)], none⟩,
  ⟨some 30, .bin .xor, [.t 29, .c (.int .i64 4129)], none⟩,
  ⟨some 3, .mv, [.t 30], none⟩]
def a17r10 : List IOp := [⟨some 22, .mv, [.t 5], none⟩,
  ⟨some 23, .bin .add, [.t 22, .c (.int .i64 1)], none⟩,
  ⟨some 5, .mv, [.t 23], none⟩]
def a17r11 : List IOp := [⟨some 10, .mv, [.t 4], none⟩,
  ⟨some 11, .bin .add, [.t 10, .c (.int .i64 1)], none⟩,
  ⟨some 4, .mv, [.t 11], none⟩]
def a17r12 : List IOp := [⟨some 31, .mv, [.t 3], none⟩,
  ⟨some 2, .mv, [.t 31], none⟩]
def a17 : AFunc := ⟨32, [.tmp 2], (.seq (.region a17r0 [0]) (.seq (.region a17r1 [0, 3]) (.seq (.seq (.region a17r2 [0, 3, 4]) (.block 0 (.loop (.seq (.seq (.region a17r3 [0, 3, 4, 9]) (.cond (.t 9) .skip (.exit 0))) (.seq (.block 1 (.seq (.region a17r4 [0, 3, 4]) (.seq (.region a17r5 [0, 3, 4, 5]) (.block 2 (.loop (.seq (.seq (.region a17r6 [0, 3, 4, 5, 21]) (.cond (.t 21) .skip (.exit 2))) (.seq (.block 3 (.seq (.region a17r7 [0, 3, 4, 5]) (.seq (.region a17r8 [0, 3, 4, 5, 27]) (.cond (.t 27) (.region a17r9 [0, 3, 4, 5]) .skip)))) (.region a17r10 [0, 3, 4, 5])))))))) (.region a17r11 [0, 3, 4])))))) (.seq (.region a17r12 [2]) .ret))))⟩
theorem a17_ok : compileF Try.prog (lk [(0, ⟨[0], [], []⟩), (1, ⟨[0, 3], [], []⟩), (2, ⟨[0, 3, 4], [], []⟩), (3, ⟨[0, 3, 4, 9], [], []⟩), (4, ⟨[0, 3, 4], [], []⟩), (5, ⟨[0, 3, 4], [], []⟩), (6, ⟨[0, 3, 4, 5], [], []⟩), (7, ⟨[0, 3, 4, 5, 21], [], []⟩), (8, ⟨[0, 3, 4, 5], [], []⟩), (9, ⟨[0, 3, 4, 5], [], []⟩), (10, ⟨[0, 3, 4, 5, 27], [], []⟩), (11, ⟨[0, 3, 4, 5], [], []⟩), (12, ⟨[2], [], []⟩)]) Try.f17 = some a17 := by kernel_rfl

/- payroll/payrolllaw7.sane -/
def a18r0 : List IOp := [⟨some 0, .mv, [.c (.bool false)], none⟩]
def a18r1 : List IOp := [⟨some 9, .call 21, [], none⟩,
  ⟨some 10, .call 12, [.t 9], none⟩,
  ⟨some 8, .mv, [.t 10], none⟩,
  ⟨some 11, .extract 0, [.t 8], none⟩,
  ⟨some 12, .extract 1, [.t 8], none⟩,
  ⟨some 1, .mv, [.t 11], none⟩,
  ⟨some 2, .mv, [.t 12], none⟩]
def a18r2 : List IOp := [⟨some 14, .bslice 5 1 [.int .u8 0] 3 [0, 1, 2], [.c (.int .u8 1), .c (.int .u8 2), .c (.int .u8 3)], none⟩,
  ⟨some 15, .mv, [.t 1], none⟩,
  ⟨some 16, .append 5 1 1, [.t 14, .t 15], none⟩,
  ⟨some 17, .call 24, [.t 16], none⟩,
  ⟨some 13, .mv, [.t 17], none⟩,
  ⟨some 18, .extract 0, [.t 13], none⟩,
  ⟨some 19, .extract 1, [.t 13], none⟩,
  ⟨some 20, .extract 2, [.t 13], none⟩,
  ⟨some 3, .mv, [.t 18], none⟩,
  ⟨some 4, .mv, [.t 19], none⟩,
  ⟨some 5, .mv, [.t 20], none⟩]
def a18r3 : List IOp := [⟨some 22, .build [.int .i64 0, .int .i64 0, .int .i64 0, .int .i64 0, .int .i64 0, .int .i64 0, .int .i64 0] [], [], none⟩,
  ⟨some 23, .call 12, [.t 22], none⟩,
  ⟨some 21, .mv, [.t 23], none⟩,
  ⟨some 24, .extract 0, [.t 21], none⟩,
  ⟨some 25, .extract 1, [.t 21], none⟩,
  ⟨some 6, .mv, [.t 24], none⟩,
  ⟨some 7, .mv, [.t 25], none⟩]
def a18r4 : List (Nat × DOp) := [(0, ⟨⟨some 26, .mv, [.t 2], none⟩, none, []⟩),
  (1, ⟨⟨some 27, .bin .eql, [.t 26, .c (.int .i64 0)], none⟩, none, []⟩),
  (2, ⟨⟨some 28, .mv, [.t 27], none⟩, none, []⟩),
  (3, ⟨⟨some 29, .mv, [.t 1], some (28, true)⟩, none, []⟩),
  (4, ⟨⟨some 30, .len, [.t 29], some (28, true)⟩, none, []⟩),
  (5, ⟨⟨some 31, .bin .eql, [.t 30, .c (.int .i64 24)], some (28, true)⟩, none, []⟩),
  (6, ⟨⟨some 32, .pick, [.t 28, .t 31, .c (.bool false)], none⟩, none, []⟩),
  (7, ⟨⟨some 33, .mv, [.t 32], none⟩, none, []⟩),
  (8, ⟨⟨some 34, .mv, [.t 3], some (33, true)⟩, none, []⟩),
  (9, ⟨⟨some 35, .len, [.t 34], some (33, true)⟩, none, []⟩),
  (10, ⟨⟨some 36, .bin .eql, [.t 35, .c (.int .i64 1)], some (33, true)⟩, none, []⟩),
  (11, ⟨⟨some 37, .pick, [.t 33, .t 36, .c (.bool false)], none⟩, none, []⟩),
  (12, ⟨⟨some 38, .mv, [.t 37], none⟩, none, []⟩),
  (13, ⟨⟨some 39, .mv, [.t 3], some (38, true)⟩, none, [16]⟩),
  (14, ⟨⟨some 40, .indexAddr 7, [.t 39, .c (.int .i64 0)], some (38, true)⟩, none, [16]⟩),
  (15, ⟨⟨some 41, .loadA 7, [.t 40], some (38, true)⟩, none, [16]⟩),
  (16, ⟨⟨some 42, .call 21, [], some (38, true)⟩, none, [13, 14, 15]⟩),
  (17, ⟨⟨some 43, .eqA false [.int .i64, .int .i64, .int .i64, .int .i64, .int .i64, .int .i64, .int .i64], [.t 41, .t 42], some (38, true)⟩, none, []⟩),
  (18, ⟨⟨some 44, .pick, [.t 38, .t 43, .c (.bool false)], none⟩, none, []⟩),
  (19, ⟨⟨some 45, .mv, [.t 44], none⟩, none, []⟩),
  (20, ⟨⟨some 46, .mv, [.t 4], some (45, true)⟩, none, []⟩),
  (21, ⟨⟨some 47, .len, [.t 46], some (45, true)⟩, none, []⟩),
  (22, ⟨⟨some 48, .bin .eql, [.t 47, .c (.int .i64 1)], some (45, true)⟩, none, []⟩),
  (23, ⟨⟨some 49, .pick, [.t 45, .t 48, .c (.bool false)], none⟩, none, []⟩),
  (24, ⟨⟨some 50, .mv, [.t 49], none⟩, none, []⟩),
  (25, ⟨⟨some 51, .mv, [.t 4], some (50, true)⟩, none, [28]⟩),
  (26, ⟨⟨some 52, .indexAddr 2, [.t 51, .c (.int .i64 0)], some (50, true)⟩, none, [28]⟩),
  (27, ⟨⟨some 53, .loadA 2, [.t 52], some (50, true)⟩, none, [28]⟩),
  (28, ⟨⟨some 54, .build [.int .i64 0, .int .i64 0] [(1, 1)], [.c (.int .i64 3)], some (50, true)⟩, none, [25, 26, 27]⟩),
  (29, ⟨⟨some 55, .eqA false [.int .i64, .int .i64], [.t 53, .t 54], some (50, true)⟩, none, []⟩),
  (30, ⟨⟨some 56, .pick, [.t 50, .t 55, .c (.bool false)], none⟩, none, []⟩),
  (31, ⟨⟨some 57, .mv, [.t 56], none⟩, none, []⟩),
  (32, ⟨⟨some 58, .mv, [.t 5], some (57, true)⟩, none, []⟩),
  (33, ⟨⟨some 59, .bin .eql, [.t 58, .c (.int .i64 27)], some (57, true)⟩, none, []⟩),
  (34, ⟨⟨some 60, .pick, [.t 57, .t 59, .c (.bool false)], none⟩, none, []⟩),
  (35, ⟨⟨some 61, .mv, [.t 60], none⟩, none, []⟩),
  (36, ⟨⟨some 62, .mv, [.t 7], some (61, true)⟩, none, []⟩),
  (37, ⟨⟨some 63, .bin .eql, [.t 62, .c (.int .i64 1)], some (61, true)⟩, none, []⟩),
  (38, ⟨⟨some 64, .pick, [.t 61, .t 63, .c (.bool false)], none⟩, none, []⟩),
  (39, ⟨⟨some 65, .mv, [.t 64], none⟩, none, []⟩),
  (40, ⟨⟨some 66, .call 16, [.c (.nils)], some (65, true)⟩, none, []⟩),
  (41, ⟨⟨some 67, .bin .eql, [.t 66, .c (.int .i64 65535)], some (65, true)⟩, none, []⟩),
  (42, ⟨⟨some 68, .pick, [.t 65, .t 67, .c (.bool false)], none⟩, none, []⟩),
  (43, ⟨⟨some 69, .mv, [.t 68], none⟩, none, []⟩),
  (44, ⟨⟨some 70, .bslice 5 1 [.int .u8 0] 9 [0, 1, 2, 3, 4, 5, 6, 7, 8], [.c (.int .u8 49), .c (.int .u8 50), .c (.int .u8 51), .c (.int .u8 52), .c (.int .u8 53), .c (.int .u8 54), .c (.int .u8 55), .c (.int .u8 56), .c (.int .u8 57)], some (69, true)⟩, some 0, []⟩),
  (45, ⟨⟨some 71, .frz, [.t 70], some (69, true)⟩, none, []⟩),
  (46, ⟨⟨some 72, .call 16, [.t 71], some (69, true)⟩, none, []⟩),
  (47, ⟨⟨some 73, .bin .eql, [.t 72, .c (.int .i64 10673)], some (69, true)⟩, none, []⟩),
  (48, ⟨⟨some 74, .pick, [.t 69, .t 73, .c (.bool false)], none⟩, none, []⟩),
  (49, ⟨⟨some 0, .mv, [.t 74], none⟩, none, []⟩)]
def a18 : AFunc := ⟨75, [.tmp 0], (.seq (.region a18r0 []) (.seq (.region a18r1 [1, 2]) (.seq (.region a18r2 [1, 2, 3, 4, 5]) (.seq (.region a18r3 [1, 2, 3, 4, 5, 7]) (.seq (.draw a18r4 [(5, 1)] [0]) .ret)))))⟩
theorem a18_ok : compileF Try.prog (lk [(0, ⟨[], [], []⟩), (1, ⟨[1, 2], [], []⟩), (2, ⟨[1, 2, 3, 4, 5], [], []⟩), (3, ⟨[1, 2, 3, 4, 5, 7], [], []⟩), (4, ⟨[0], [[], [0], [1, 0], [2, 1, 0], [3, 2, 1, 0], [4, 2, 3, 1, 0], [2, 5, 1, 0, 4, 3], [6, 2, 5, 1, 0, 4, 3], [7, 6, 2, 5, 1, 0, 4, 3], [8, 7, 6, 2, 5, 1, 0, 4, 3], [9, 7, 8, 6, 2, 5, 1, 0, 4, 3], [7, 10, 6, 2, 5, 1, 0, 4, 3, 9, 8], [11, 7, 10, 6, 2, 5, 1, 0, 4, 3, 9, 8], [12, 11, 7, 10, 6, 2, 5, 1, 0, 4, 3, 9, 8], [13, 12, 11, 7, 10, 6, 2, 5, 1, 0, 4, 3, 9, 8], [14, 12, 13, 11, 7, 10, 6, 2, 5, 1, 0, 4, 3, 9, 8], [12, 11, 7, 10, 6, 2, 5, 1, 0, 4, 3, 9, 8], [15, 16, 12, 14, 13, 11, 7, 10, 6, 2, 5, 1, 0, 4, 3, 9, 8], [12, 17, 11, 7, 10, 6, 2, 5, 1, 0, 4, 3, 9, 8, 15, 16, 14, 13], [18, 16, 12, 17, 11, 7, 10, 6, 2, 5, 1, 0, 4, 3, 9, 8, 15, 14, 13], [19, 18, 16, 12, 17, 11, 7, 10, 6, 2, 5, 1, 0, 4, 3, 9, 8, 15, 14, 13], [20, 19, 18, 16, 12, 17, 11, 7, 10, 6, 2, 5, 1, 0, 4, 3, 9, 8, 15, 14, 13], [21, 19, 20, 18, 16, 12, 17, 11, 7, 10, 6, 2, 5, 1, 0, 4, 3, 9, 8, 15, 14, 13], [19, 22, 18, 16, 12, 17, 11, 7, 10, 6, 2, 5, 1, 0, 4, 3, 9, 8, 15, 14, 13, 21, 20], [23, 19, 22, 18, 16, 12, 17, 11, 7, 10, 6, 2, 5, 1, 0, 4, 3, 9, 8, 15, 14, 13, 21, 20], [24, 23, 19, 22, 18, 16, 12, 17, 11, 7, 10, 6, 2, 5, 1, 0, 4, 3, 9, 8, 15, 14, 13, 21, 20], [25, 24, 23, 19, 22, 18, 16, 12, 17, 11, 7, 10, 6, 2, 5, 1, 0, 4, 3, 9, 8, 15, 14, 13, 21, 20], [26, 24, 25, 23, 19, 22, 18, 16, 12, 17, 11, 7, 10, 6, 2, 5, 1, 0, 4, 3, 9, 8, 15, 14, 13, 21, 20], [24, 23, 19, 22, 18, 16, 12, 17, 11, 7, 10, 6, 2, 5, 1, 0, 4, 3, 9, 8, 15, 14, 13, 21, 20], [27, 28, 24, 26, 25, 23, 19, 22, 18, 16, 12, 17, 11, 7, 10, 6, 2, 5, 1, 0, 4, 3, 9, 8, 15, 14, 13, 21, 20], [24, 29, 23, 19, 22, 18, 16, 12, 17, 11, 7, 10, 6, 2, 5, 1, 0, 4, 3, 9, 8, 15, 14, 13, 21, 20, 27, 28, 26, 25], [30, 24, 29, 23, 19, 22, 18, 16, 12, 17, 11, 7, 10, 6, 2, 5, 1, 0, 4, 3, 9, 8, 15, 14, 13, 21, 20, 27, 28, 26, 25], [31, 30, 24, 29, 23, 19, 22, 18, 16, 12, 17, 11, 7, 10, 6, 2, 5, 1, 0, 4, 3, 9, 8, 15, 14, 13, 21, 20, 27, 28, 26, 25], [32, 31, 30, 24, 29, 23, 19, 22, 18, 16, 12, 17, 11, 7, 10, 6, 2, 5, 1, 0, 4, 3, 9, 8, 15, 14, 13, 21, 20, 27, 28, 26, 25], [31, 33, 30, 24, 29, 23, 19, 22, 18, 16, 12, 17, 11, 7, 10, 6, 2, 5, 1, 0, 4, 3, 9, 8, 15, 14, 13, 21, 20, 27, 28, 26, 25, 32], [34, 31, 33, 30, 24, 29, 23, 19, 22, 18, 16, 12, 17, 11, 7, 10, 6, 2, 5, 1, 0, 4, 3, 9, 8, 15, 14, 13, 21, 20, 27, 28, 26, 25, 32], [35, 34, 31, 33, 30, 24, 29, 23, 19, 22, 18, 16, 12, 17, 11, 7, 10, 6, 2, 5, 1, 0, 4, 3, 9, 8, 15, 14, 13, 21, 20, 27, 28, 26, 25, 32], [36, 35, 34, 31, 33, 30, 24, 29, 23, 19, 22, 18, 16, 12, 17, 11, 7, 10, 6, 2, 5, 1, 0, 4, 3, 9, 8, 15, 14, 13, 21, 20, 27, 28, 26, 25, 32], [35, 37, 34, 31, 33, 30, 24, 29, 23, 19, 22, 18, 16, 12, 17, 11, 7, 10, 6, 2, 5, 1, 0, 4, 3, 9, 8, 15, 14, 13, 21, 20, 27, 28, 26, 25, 32, 36], [38, 35, 37, 34, 31, 33, 30, 24, 29, 23, 19, 22, 18, 16, 12, 17, 11, 7, 10, 6, 2, 5, 1, 0, 4, 3, 9, 8, 15, 14, 13, 21, 20, 27, 28, 26, 25, 32, 36], [39, 38, 35, 37, 34, 31, 33, 30, 24, 29, 23, 19, 22, 18, 16, 12, 17, 11, 7, 10, 6, 2, 5, 1, 0, 4, 3, 9, 8, 15, 14, 13, 21, 20, 27, 28, 26, 25, 32, 36], [40, 39, 38, 35, 37, 34, 31, 33, 30, 24, 29, 23, 19, 22, 18, 16, 12, 17, 11, 7, 10, 6, 2, 5, 1, 0, 4, 3, 9, 8, 15, 14, 13, 21, 20, 27, 28, 26, 25, 32, 36], [39, 41, 38, 35, 37, 34, 31, 33, 30, 24, 29, 23, 19, 22, 18, 16, 12, 17, 11, 7, 10, 6, 2, 5, 1, 0, 4, 3, 9, 8, 15, 14, 13, 21, 20, 27, 28, 26, 25, 32, 36, 40], [42, 40, 39, 41, 38, 35, 37, 34, 31, 33, 30, 24, 29, 23, 19, 22, 18, 16, 12, 17, 11, 7, 10, 6, 2, 5, 1, 0, 4, 3, 9, 8, 15, 14, 13, 21, 20, 27, 28, 26, 25, 32, 36], [43, 42, 40, 39, 41, 38, 35, 37, 34, 31, 33, 30, 24, 29, 23, 19, 22, 18, 16, 12, 17, 11, 7, 10, 6, 2, 5, 1, 0, 4, 3, 9, 8, 15, 14, 13, 21, 20, 27, 28, 26, 25, 32, 36], [44, 43, 42, 40, 39, 41, 38, 35, 37, 34, 31, 33, 30, 24, 29, 23, 19, 22, 18, 16, 12, 17, 11, 7, 10, 6, 2, 5, 1, 0, 4, 3, 9, 8, 15, 14, 13, 21, 20, 27, 28, 26, 25, 32, 36], [45, 43, 44, 42, 40, 39, 41, 38, 35, 37, 34, 31, 33, 30, 24, 29, 23, 19, 22, 18, 16, 12, 17, 11, 7, 10, 6, 2, 5, 1, 0, 4, 3, 9, 8, 15, 14, 13, 21, 20, 27, 28, 26, 25, 32, 36], [46, 43, 45, 44, 42, 40, 39, 41, 38, 35, 37, 34, 31, 33, 30, 24, 29, 23, 19, 22, 18, 16, 12, 17, 11, 7, 10, 6, 2, 5, 1, 0, 4, 3, 9, 8, 15, 14, 13, 21, 20, 27, 28, 26, 25, 32, 36], [43, 47, 42, 40, 39, 41, 38, 35, 37, 34, 31, 33, 30, 24, 29, 23, 19, 22, 18, 16, 12, 17, 11, 7, 10, 6, 2, 5, 1, 0, 4, 3, 9, 8, 15, 14, 13, 21, 20, 27, 28, 26, 25, 32, 36, 46, 45, 44], [48, 46, 0, 1, 2, 3, 4, 5, 6, 7, 8, 9, 10, 11, 12, 13, 14, 15, 16, 17, 18, 19, 20, 21, 22, 23, 24, 25, 26, 27, 28, 29, 30, 31, 32, 33, 34, 35, 36, 37, 38, 39, 40, 41, 42, 43, 44, 45, 47]], [0, 1, 2, 3, 4, 5, 6, 7, 8, 9, 10, 11, 12, 13, 14, 15, 16, 17, 18, 19, 20, 21, 22, 23, 24, 25, 26, 27, 28, 29, 30, 31, 32, 33, 34, 35, 36, 37, 38, 39, 40, 41, 42, 43, 44, 45, 46, 47, 48, 49]⟩)]) Try.f18 = some a18 := by kernel_rfl

/- payroll/payrolllaw7.decodes -/
def a19r0 : List IOp := [⟨some 2, .mv, [.c (.bool false)], none⟩]
def a19r1 : List IOp := [⟨some 10, .mv, [.t 0], none⟩,
  ⟨some 11, .call 24, [.t 10], none⟩,
  ⟨some 9, .mv, [.t 11], none⟩,
  ⟨some 12, .extract 0, [.t 9], none⟩,
  ⟨some 13, .extract 1, [.t 9], none⟩,
  ⟨some 14, .extract 2, [.t 9], none⟩,
  ⟨some 3, .mv, [.t 12], none⟩,
  ⟨some 4, .mv, [.t 13], none⟩,
  ⟨some 5, .mv, [.t 14], none⟩]
def a19r2 : List IOp := [⟨some 16, .mv, [.t 0], none⟩,
  ⟨some 17, .call 34, [.t 16], none⟩,
  ⟨some 15, .mv, [.t 17], none⟩,
  ⟨some 18, .extract 0, [.t 15], none⟩,
  ⟨some 19, .extract 1, [.t 15], none⟩,
  ⟨some 20, .extract 2, [.t 15], none⟩,
  ⟨some 6, .mv, [.t 18], none⟩,
  ⟨some 7, .mv, [.t 19], none⟩,
  ⟨some 8, .mv, [.t 20], none⟩]
def a19r3 : List IOp := [⟨some 21, .mv, [.t 3], none⟩,
  ⟨some 22, .mv, [.t 4], none⟩,
  ⟨some 23, .mv, [.t 6], none⟩,
  ⟨some 24, .mv, [.t 7], none⟩,
  ⟨some 25, .call 25, [.t 21, .t 22, .t 23, .t 24], none⟩,
  ⟨some 26, .mv, [.t 25], none⟩,
  ⟨some 27, .mv, [.t 5], some (26, true)⟩,
  ⟨some 28, .mv, [.t 8], some (26, true)⟩,
  ⟨some 29, .bin .eql, [.t 27, .t 28], some (26, true)⟩,
  ⟨some 30, .pick, [.t 26, .t 29, .c (.bool false)], none⟩,
  ⟨some 2, .mv, [.t 30], none⟩]
def a19 : AFunc := ⟨31, [.tmp 2], (.seq (.region a19r0 [0]) (.seq (.region a19r1 [0, 3, 4, 5]) (.seq (.region a19r2 [3, 4, 5, 6, 7, 8]) (.seq (.region a19r3 [2]) .ret))))⟩
theorem a19_ok : compileF Try.prog (lk [(0, ⟨[0], [], []⟩), (1, ⟨[0, 3, 4, 5], [], []⟩), (2, ⟨[3, 4, 5, 6, 7, 8], [], []⟩), (3, ⟨[2], [], []⟩)]) Try.f19 = some a19 := by kernel_rfl

/- payroll/payrolllaw7.frames -/
def a20r0 : List IOp := [⟨some 4, .mv, [.c (.nils)], none⟩]
def a20r1 : List IOp := [⟨some 5, .mv, [.c (.nils)], none⟩]
def a20r2 : List IOp := [⟨some 10, .mv, [.t 0], none⟩,
  ⟨some 11, .mv, [.t 1], none⟩,
  ⟨some 12, .bin .add, [.t 11, .c (.int .i64 1)], none⟩,
  ⟨some 13, .call 22, [.t 10, .t 12], none⟩,
  ⟨some 6, .mv, [.t 13], none⟩]
def a20r3 : List IOp := [⟨some 14, .mv, [.t 6], none⟩,
  ⟨some 15, .bin .gtr, [.t 14, .c (.int .i64 0)], none⟩]
def a20r4 : List IOp := [⟨some 18, .mv, [.t 0], none⟩,
  ⟨some 19, .call 22, [.t 18, .c (.int .i64 3)], none⟩,
  ⟨some 20, .mv, [.t 0], none⟩,
  ⟨some 21, .call 22, [.t 20, .c (.int .i64 3)], none⟩,
  ⟨some 22, .bin .mul, [.t 19, .t 21], none⟩,
  ⟨some 7, .mv, [.t 22], none⟩]
def a20r5 : List IOp := [⟨some 23, .mv, [.t 7], none⟩,
  ⟨some 24, .bin .gtr, [.t 23, .c (.int .i64 0)], none⟩]
def a20r6 : List IOp := [⟨some 27, .mv, [.t 5], none⟩,
  ⟨some 28, .mv, [.t 0], none⟩,
  ⟨some 29, .mv, [.t 0], none⟩,
  ⟨some 30, .call 22, [.t 29, .c (.int .i64 256)], none⟩,
  ⟨some 31, .bslice 3 1 [.int .i64 0] 3 [0, 1, 2], [.c (.int .i64 0), .c (.int .i64 193), .t 30], none⟩,
  ⟨some 32, .call 29, [.t 28, .t 31], none⟩,
  ⟨some 33, .conv .u8, [.t 32], none⟩,
  ⟨some 34, .bslice 5 1 [.int .u8 0] 1 [0], [.t 33], none⟩,
  ⟨some 35, .append 5 1 1, [.t 27, .t 34], none⟩,
  ⟨some 5, .mv, [.t 35], none⟩]
def a20r7 : List IOp := [⟨some 25, .mv, [.t 7], none⟩,
  ⟨some 26, .bin .sub, [.t 25, .c (.int .i64 1)], none⟩,
  ⟨some 7, .mv, [.t 26], none⟩]
def a20r8 : List IOp := [⟨some 37, .mv, [.t 0], none⟩,
  ⟨some 38, .call 10, [.t 37], none⟩,
  ⟨some 39, .call 13, [.t 38], none⟩,
  ⟨some 36, .mv, [.t 39], none⟩,
  ⟨some 40, .extract 0, [.t 36], none⟩,
  ⟨some 41, .extract 1, [.t 36], none⟩,
  ⟨some 8, .mv, [.t 40], none⟩,
  ⟨some 9, .mv, [.t 41], none⟩]
def a20r9 : List IOp := [⟨some 42, .mv, [.t 5], none⟩,
  ⟨some 43, .mv, [.t 8], none⟩,
  ⟨some 44, .append 5 1 1, [.t 42, .t 43], none⟩,
  ⟨some 5, .mv, [.t 44], none⟩]
def a20r10 : List IOp := [⟨some 16, .mv, [.t 6], none⟩,
  ⟨some 17, .bin .sub, [.t 16, .c (.int .i64 1)], none⟩,
  ⟨some 6, .mv, [.t 17], none⟩]
def a20r11 : List IOp := [⟨some 45, .mv, [.t 5], none⟩,
  ⟨some 46, .len, [.t 45], none⟩,
  ⟨some 47, .bin .gtr, [.t 46, .c (.int .i64 0)], none⟩,
  ⟨some 48, .mv, [.t 47], none⟩,
  ⟨some 49, .mv, [.t 0], some (48, true)⟩,
  ⟨some 50, .call 22, [.t 49, .c (.int .i64 2)], some (48, true)⟩,
  ⟨some 51, .bin .eql, [.t 50, .c (.int .i64 0)], some (48, true)⟩,
  ⟨some 52, .pick, [.t 48, .t 51, .c (.bool false)], none⟩]
def a20r12 : List (Nat × DOp) := [(0, ⟨⟨some 53, .mv, [.t 5], none⟩, none, [1, 2, 3, 4, 7, 8, 9, 10]⟩),
  (1, ⟨⟨some 54, .mv, [.t 0], none⟩, none, [0, 2, 3, 7]⟩),
  (2, ⟨⟨some 55, .mv, [.t 5], none⟩, none, [0, 1, 7]⟩),
  (3, ⟨⟨some 56, .len, [.t 55], none⟩, none, [0, 1, 7]⟩),
  (7, ⟨⟨some 60, .mv, [.t 0], none⟩, none, [0, 1, 2, 3, 4, 5, 6]⟩),
  (4, ⟨⟨some 57, .call 22, [.t 54, .t 56], none⟩, none, [0, 7]⟩),
  (5, ⟨⟨some 58, .indexAddr 1, [.t 53, .t 57], none⟩, none, [7, 8, 9, 10]⟩),
  (6, ⟨⟨some 59, .load1, [.t 58], none⟩, none, [7, 8, 9, 10]⟩),
  (8, ⟨⟨some 61, .call 22, [.t 60, .c (.int .i64 255)], none⟩, none, [0, 5, 6]⟩),
  (9, ⟨⟨some 62, .bin .add, [.c (.int .i64 1), .t 61], none⟩, none, [0, 5, 6]⟩),
  (10, ⟨⟨some 63, .conv .u8, [.t 62], none⟩, none, [0, 5, 6]⟩),
  (11, ⟨⟨some 64, .bin .xor, [.t 59, .t 63], none⟩, none, []⟩),
  (12, ⟨⟨some 65, .indexAddr 1, [.t 53, .t 57], none⟩, none, []⟩),
  (13, ⟨⟨none, .store 1, [.t 65, .t 64], none⟩, none, []⟩)]
def a20r13 : List IOp := [⟨some 66, .mv, [.t 5], none⟩,
  ⟨some 4, .mv, [.t 66], none⟩]
def a20 : AFunc := ⟨67, [.tmp 4], (.seq (.region a20r0 [0, 1]) (.seq (.region a20r1 [0, 1, 5]) (.seq (.seq (.region a20r2 [0, 5, 6]) (.block 0 (.loop (.seq (.seq (.region a20r3 [0, 5, 6, 15]) (.cond (.t 15) .skip (.exit 0))) (.seq (.block 1 (.seq (.seq (.region a20r4 [0, 5, 6, 7]) (.block 2 (.loop (.seq (.seq (.region a20r5 [0, 5, 6, 7, 24]) (.cond (.t 24) .skip (.exit 2))) (.seq (.block 3 (.region a20r6 [0, 5, 6, 7])) (.region a20r7 [0, 5, 6, 7])))))) (.seq (.region a20r8 [0, 5, 6, 8]) (.region a20r9 [0, 5, 6])))) (.region a20r10 [0, 5, 6])))))) (.seq (.seq (.region a20r11 [0, 5, 52]) (.cond (.t 52) (.draw a20r12 [] [5]) .skip)) (.seq (.region a20r13 [4]) .ret)))))⟩
theorem a20_ok : compileF Try.prog (lk [(0, ⟨[0, 1], [], []⟩), (1, ⟨[0, 1, 5], [], []⟩), (2, ⟨[0, 5, 6], [], []⟩), (3, ⟨[0, 5, 6, 15], [], []⟩), (4, ⟨[0, 5, 6], [], []⟩), (5, ⟨[0, 5, 6, 7], [], []⟩), (6, ⟨[0, 5, 6, 7, 24], [], []⟩), (7, ⟨[0, 5, 6, 7], [], []⟩), (8, ⟨[0, 5, 6, 7], [], []⟩), (9, ⟨[0, 5, 6, 8], [], []⟩), (10, ⟨[0, 5, 6], [], []⟩), (11, ⟨[0, 5, 52], [], []⟩), (12, ⟨[5], [[], [], [], [2], [1, 3, 2], [0, 4, 1, 3, 2], [5, 0, 4, 1, 3, 2], [], [7, 4, 1, 3, 2], [8, 7, 4, 1, 3, 2], [9, 8, 7, 4, 1, 3, 2], [6, 10, 5, 0, 4, 1, 3, 2, 9, 8, 7], [0, 4, 1, 2, 3, 5, 6, 7, 8, 9, 10, 11], [12, 11, 8, 0, 1, 2, 3, 4, 5, 6, 7, 9, 10]], [0, 1, 2, 3, 7, 4, 5, 6, 8, 9, 10, 11, 12, 13]⟩), (13, ⟨[4], [], []⟩)]) Try.f20 = some a20 := by kernel_rfl

/- payroll/payrolllaw7.some -/
def a21r0 : List IOp := [⟨some 0, .alloc 26 [.int .i64 0, .int .i64 0, .int .i64 0, .int .i64 0, .int .i64 0, .int .i64 0, .int .i64 0], [], none⟩]
def a21r1 : List IOp := [⟨some 1, .build [.int .i64 0, .int .i64 0] [(0, 1), (1, 1)], [.c (.int .i64 3), .c (.int .i64 9)], none⟩,
  ⟨some 2, .build [.int .i64 0, .int .i64 0, .int .i64 0, .int .i64 0, .int .i64 0, .int .i64 0, .int .i64 0] [(0, 2), (2, 1), (3, 1), (4, 1)], [.t 1, .c (.int .i64 7), .c (.int .i64 29453760), .c (.int .i64 1)], none⟩,
  ⟨none, .store 7, [.t 0, .t 2], none⟩]
def a21 : AFunc := ⟨3, [.cellA 0 7], (.seq (.region a21r0 [0]) (.seq (.region a21r1 [0]) .ret))⟩
theorem a21_ok : compileF Try.prog (lk [(0, ⟨[0], [], []⟩), (1, ⟨[0], [], []⟩)]) Try.f21 = some a21 := by kernel_rfl

/- (*payroll/payrollgen.Tape).Next -/
def a22r0 : List IOp := [⟨some 4, .mv, [.c (.int .i64 0)], none⟩]
def a22r1 : List (Nat × DOp) := [(0, ⟨⟨some 5, .mv, [.t 1], none⟩, none, []⟩),
  (1, ⟨⟨some 6, .bin .lss, [.t 5, .c (.int .i64 1)], none⟩, none, []⟩),
  (2, ⟨⟨some 7, .mv, [.t 6], none⟩, none, []⟩),
  (3, ⟨⟨some 8, .mv, [.t 0], some (7, false)⟩, none, [7, 8, 9, 10, 11]⟩),
  (4, ⟨⟨some 9, .nilchk, [.t 8], some (7, false)⟩, none, [7, 8, 9, 10, 11]⟩),
  (5, ⟨⟨some 10, .fieldAddr 1, [.t 9], some (7, false)⟩, none, [7, 8, 9, 10, 11]⟩),
  (6, ⟨⟨some 11, .load1, [.t 10], some (7, false)⟩, none, [7, 8, 9, 10, 11]⟩),
  (7, ⟨⟨some 12, .mv, [.t 0], some (7, false)⟩, none, [3, 4, 5, 6]⟩),
  (8, ⟨⟨some 13, .nilchk, [.t 12], some (7, false)⟩, none, [3, 4, 5, 6]⟩),
  (9, ⟨⟨some 14, .fieldAddr 0, [.t 13], some (7, false)⟩, none, [3, 4, 5, 6]⟩),
  (10, ⟨⟨some 15, .load1, [.t 14], some (7, false)⟩, none, [3, 4, 5, 6]⟩),
  (11, ⟨⟨some 16, .len, [.t 15], some (7, false)⟩, none, [3, 4, 5, 6]⟩),
  (12, ⟨⟨some 17, .bin .geq, [.t 11, .t 16], some (7, false)⟩, none, []⟩),
  (13, ⟨⟨some 18, .pick, [.t 7, .c (.bool true), .t 17], none⟩, none, []⟩)]
def a22r2 : List IOp := [⟨some 4, .mv, [.c (.int .i64 0)], none⟩]
def a22r3 : List IOp := [⟨some 19, .mv, [.t 0], none⟩,
  ⟨some 20, .nilchk, [.t 19], none⟩,
  ⟨some 21, .fieldAddr 1, [.t 20], none⟩,
  ⟨some 22, .load1, [.t 21], none⟩,
  ⟨some 23, .bin .add, [.t 22, .c (.int .i64 1)], none⟩,
  ⟨some 24, .nilchk, [.t 19], none⟩,
  ⟨some 25, .fieldAddr 1, [.t 24], none⟩,
  ⟨none, .store 1, [.t 25, .t 23], none⟩]
def a22r4 : List (Nat × DOp) := [(0, ⟨⟨some 26, .mv, [.t 0], none⟩, none, [4, 5, 6, 7, 8, 11]⟩),
  (1, ⟨⟨some 27, .nilchk, [.t 26], none⟩, none, [4, 5, 6, 7, 8, 11]⟩),
  (2, ⟨⟨some 28, .fieldAddr 0, [.t 27], none⟩, none, [4, 5, 6, 7, 8, 11]⟩),
  (3, ⟨⟨some 29, .load1, [.t 28], none⟩, none, [4, 5, 6, 7, 8, 11]⟩),
  (4, ⟨⟨some 30, .mv, [.t 0], none⟩, none, [0, 1, 2, 3, 11]⟩),
  (5, ⟨⟨some 31, .nilchk, [.t 30], none⟩, none, [0, 1, 2, 3, 11]⟩),
  (6, ⟨⟨some 32, .fieldAddr 1, [.t 31], none⟩, none, [0, 1, 2, 3, 11]⟩),
  (7, ⟨⟨some 33, .load1, [.t 32], none⟩, none, [0, 1, 2, 3, 11]⟩),
  (8, ⟨⟨some 34, .bin .sub, [.t 33, .c (.int .i64 1)], none⟩, none, [0, 1, 2, 3, 11]⟩),
  (9, ⟨⟨some 35, .indexAddr 1, [.t 29, .t 34], none⟩, none, [11]⟩),
  (10, ⟨⟨some 36, .load1, [.t 35], none⟩, none, [11]⟩),
  (11, ⟨⟨some 37, .mv, [.t 1], none⟩, none, [0, 1, 2, 3, 4, 5, 6, 7, 8, 9, 10]⟩),
  (12, ⟨⟨some 38, .call 26, [.t 36, .t 37], none⟩, none, []⟩),
  (13, ⟨⟨some 4, .mv, [.t 38], none⟩, none, []⟩)]
def a22 : AFunc := ⟨39, [.tmp 4], (.seq (.region a22r0 [0, 1]) (.seq (.seq (.draw a22r1 [] [0, 1, 18]) (.cond (.t 18) (.seq (.region a22r2 [4]) .ret) .skip)) (.seq (.region a22r3 [0, 1]) (.seq (.draw a22r4 [] [4]) .ret))))⟩
theorem a22_ok : compileF Try.prog (lk [(0, ⟨[0, 1], [], []⟩), (1, ⟨[0, 1, 18], [[], [0], [1, 0], [2, 1, 0], [3, 2, 1, 0], [4, 2, 3, 1, 0], [5, 2, 4, 3, 1, 0], [2, 1, 0], [7, 2, 1, 0], [8, 2, 7, 1, 0], [9, 2, 8, 7, 1, 0], [10, 2, 9, 8, 7, 1, 0], [6, 11, 2, 5, 4, 3, 1, 0, 10, 9, 8, 7], [2, 12, 1, 0, 6, 11, 5, 4, 3, 10, 9, 8, 7]], [0, 1, 2, 3, 4, 5, 6, 7, 8, 9, 10, 11, 12, 13]⟩), (2, ⟨[4], [], []⟩), (3, ⟨[0, 1], [], []⟩), (4, ⟨[4], [[], [0], [1, 0], [2, 1, 0], [], [4], [5, 4], [6, 5, 4], [7, 6, 5, 4], [3, 8, 2, 1, 0, 7, 6, 5, 4], [9, 3, 8, 2, 1, 0, 7, 6, 5, 4], [], [10, 11, 9, 3, 8, 2, 1, 0, 7, 6, 5, 4], [12, 0, 1, 2, 3, 4, 5, 6, 7, 8, 9, 10, 11]], [0, 1, 2, 3, 4, 5, 6, 7, 8, 9, 10, 11, 12, 13]⟩)]) Try.f22 = some a22 := by kernel_rfl

/- (*payroll/payrollgen.Tape).Events -/
def a23r0 : List IOp := [⟨some 4, .mv, [.c (.nils)], none⟩]
def a23r1 : List IOp := [⟨some 5, .mv, [.c (.nils)], none⟩]
def a23r2 : List IOp := [⟨some 7, .mv, [.t 0], none⟩,
  ⟨some 8, .mv, [.t 1], none⟩,
  ⟨some 9, .bin .add, [.t 8, .c (.int .i64 1)], none⟩,
  ⟨some 10, .call 22, [.t 7, .t 9], none⟩,
  ⟨some 6, .mv, [.t 10], none⟩]
def a23r3 : List IOp := [⟨some 11, .mv, [.t 6], none⟩,
  ⟨some 12, .bin .gtr, [.t 11, .c (.int .i64 0)], none⟩]
def a23r4 : List IOp := [⟨some 15, .mv, [.t 5], none⟩,
  ⟨some 16, .len, [.t 15], none⟩,
  ⟨some 17, .bin .gtr, [.t 16, .c (.int .i64 0)], none⟩,
  ⟨some 18, .mv, [.t 17], none⟩,
  ⟨some 19, .mv, [.t 0], some (18, true)⟩,
  ⟨some 20, .call 22, [.t 19, .c (.int .i64 8)], some (18, true)⟩,
  ⟨some 21, .bin .eql, [.t 20, .c (.int .i64 7)], some (18, true)⟩,
  ⟨some 22, .pick, [.t 18, .t 21, .c (.bool false)], none⟩]
def a23r5 : List IOp := [⟨some 23, .mv, [.t 5], none⟩,
  ⟨some 24, .mv, [.t 5], none⟩,
  ⟨some 25, .mv, [.t 0], none⟩,
  ⟨some 26, .mv, [.t 5], none⟩,
  ⟨some 27, .len, [.t 26], none⟩,
  ⟨some 28, .call 22, [.t 25, .t 27], none⟩,
  ⟨some 29, .indexAddr 7, [.t 24, .t 28], none⟩,
  ⟨some 30, .loadA 7, [.t 29], none⟩,
  ⟨some 31, .bslice 26 7 [.int .i64 0, .int .i64 0, .int .i64 0, .int .i64 0, .int .i64 0, .int .i64 0, .int .i64 0] 1 [0], [.t 30], none⟩,
  ⟨some 32, .append 26 7 56, [.t 23, .t 31], none⟩,
  ⟨some 5, .mv, [.t 32], none⟩]
def a23r6 : List IOp := [⟨some 33, .mv, [.t 5], none⟩,
  ⟨some 34, .mv, [.t 0], none⟩,
  ⟨some 35, .call 10, [.t 34], none⟩,
  ⟨some 36, .bslice 26 7 [.int .i64 0, .int .i64 0, .int .i64 0, .int .i64 0, .int .i64 0, .int .i64 0, .int .i64 0] 1 [0], [.t 35], none⟩,
  ⟨some 37, .append 26 7 56, [.t 33, .t 36], none⟩,
  ⟨some 5, .mv, [.t 37], none⟩]
def a23r7 : List IOp := [⟨some 13, .mv, [.t 6], none⟩,
  ⟨some 14, .bin .sub, [.t 13, .c (.int .i64 1)], none⟩,
  ⟨some 6, .mv, [.t 14], none⟩]
def a23r8 : List IOp := [⟨some 38, .mv, [.t 5], none⟩,
  ⟨some 4, .mv, [.t 38], none⟩]
def a23 : AFunc := ⟨39, [.tmp 4], (.seq (.region a23r0 [0, 1]) (.seq (.region a23r1 [0, 1, 5]) (.seq (.seq (.region a23r2 [0, 5, 6]) (.block 0 (.loop (.seq (.seq (.region a23r3 [0, 5, 6, 12]) (.cond (.t 12) .skip (.exit 0))) (.seq (.block 1 (.seq (.seq (.region a23r4 [0, 5, 6, 22]) (.cond (.t 22) (.seq (.region a23r5 [0, 5, 6]) (.exit 1)) .skip)) (.region a23r6 [0, 5, 6]))) (.region a23r7 [0, 5, 6])))))) (.seq (.region a23r8 [4]) .ret))))⟩
theorem a23_ok : compileF Try.prog (lk [(0, ⟨[0, 1], [], []⟩), (1, ⟨[0, 1, 5], [], []⟩), (2, ⟨[0, 5, 6], [], []⟩), (3, ⟨[0, 5, 6, 12], [], []⟩), (4, ⟨[0, 5, 6], [], []⟩), (5, ⟨[0, 5, 6, 22], [], []⟩), (6, ⟨[0, 5, 6], [], []⟩), (7, ⟨[0, 5, 6], [], []⟩), (8, ⟨[4], [], []⟩)]) Try.f23 = some a23 := by kernel_rfl

/- payroll/records.Decode -/
def a24r0 : List IOp := [⟨some 2, .mv, [.c (.nils)], none⟩,
  ⟨some 3, .mv, [.c (.nils)], none⟩,
  ⟨some 4, .mv, [.c (.int .i64 0)], none⟩]
def a24r1 : List IOp := [⟨some 5, .mv, [.c (.nils)], none⟩]
def a24r2 : List IOp := [⟨some 6, .mv, [.c (.nils)], none⟩]
def a24r3 : List IOp := [⟨some 7, .mv, [.c (.int .i64 0)], none⟩]
def a24r4 : List IOp := [⟨some 11, .mv, [.t 0], none⟩,
  ⟨some 12, .len, [.t 11], none⟩,
  ⟨some 13, .mv, [.t 7], none⟩,
  ⟨some 14, .bin .sub, [.t 12, .t 13], none⟩,
  ⟨some 15, .bin .geq, [.t 14, .c (.int .i64 24)], none⟩]
def a24r5 : List IOp := [⟨some 17, .mv, [.t 0], none⟩,
  ⟨some 18, .mv, [.t 7], none⟩,
  ⟨some 19, .mv, [.t 7], none⟩,
  ⟨some 20, .bin .add, [.t 19, .c (.int .i64 24)], none⟩,
  ⟨some 21, .slice true true 1, [.t 17, .t 18, .t 20], none⟩,
  ⟨some 22, .call 35, [.t 21], none⟩,
  ⟨some 16, .mv, [.t 22], none⟩,
  ⟨some 23, .extract 0, [.t 16], none⟩,
  ⟨some 24, .extract 1, [.t 16], none⟩,
  ⟨some 8, .alloc 26 [.int .i64 0, .int .i64 0, .int .i64 0, .int .i64 0, .int .i64 0, .int .i64 0, .int .i64 0], [], none⟩,
  ⟨none, .store 7, [.t 8, .t 23], none⟩,
  ⟨some 9, .mv, [.t 24], none⟩]
def a24r6 : List IOp := [⟨some 25, .mv, [.t 9], none⟩]
def a24r7 : List IOp := [⟨some 26, .mv, [.t 5], none⟩,
  ⟨some 27, .loadA 7, [.t 8], none⟩,
  ⟨some 28, .bslice 26 7 [.int .i64 0, .int .i64 0, .int .i64 0, .int .i64 0, .int .i64 0, .int .i64 0, .int .i64 0] 1 [0], [.t 27], none⟩,
  ⟨some 29, .append 26 7 56, [.t 26, .t 28], none⟩,
  ⟨some 5, .mv, [.t 29], none⟩]
def a24r8 : List IOp := [⟨some 30, .mv, [.t 7], none⟩,
  ⟨some 31, .bin .add, [.t 30, .c (.int .i64 24)], none⟩,
  ⟨some 7, .mv, [.t 31], none⟩]
def a24r9 : List IOp := [⟨some 32, .mv, [.t 6], none⟩,
  ⟨some 33, .len, [.t 32], none⟩,
  ⟨some 10, .mv, [.t 33], none⟩]
def a24r10 : List IOp := [⟨some 34, .mv, [.t 10], none⟩,
  ⟨some 35, .bin .gtr, [.t 34, .c (.int .i64 0)], none⟩,
  ⟨some 36, .mv, [.t 35], none⟩,
  ⟨some 37, .mv, [.t 6], some (36, true)⟩,
  ⟨some 38, .mv, [.t 10], some (36, true)⟩,
  ⟨some 39, .bin .sub, [.t 38, .c (.int .i64 1)], some (36, true)⟩,
  ⟨some 40, .indexAddr 2, [.t 37, .t 39], some (36, true)⟩,
  ⟨some 41, .fieldAddr 1, [.t 40], some (36, true)⟩,
  ⟨some 42, .load1, [.t 41], some (36, true)⟩,
  ⟨some 43, .mv, [.t 7], some (36, true)⟩,
  ⟨some 44, .bin .eql, [.t 42, .t 43], some (36, true)⟩,
  ⟨some 45, .pick, [.t 36, .t 44, .c (.bool false)], none⟩]
def a24r11 : List IOp := [⟨some 46, .mv, [.t 6], none⟩,
  ⟨some 47, .mv, [.t 10], none⟩,
  ⟨some 48, .bin .sub, [.t 47, .c (.int .i64 1)], none⟩,
  ⟨some 49, .indexAddr 2, [.t 46, .t 48], none⟩,
  ⟨some 50, .fieldAddr 1, [.t 49], none⟩,
  ⟨some 51, .load1, [.t 50], none⟩,
  ⟨some 52, .bin .add, [.t 51, .c (.int .i64 1)], none⟩,
  ⟨some 53, .indexAddr 2, [.t 46, .t 48], none⟩,
  ⟨some 54, .fieldAddr 1, [.t 53], none⟩,
  ⟨none, .store 1, [.t 54, .t 52], none⟩]
def a24r12 : List IOp := [⟨some 55, .mv, [.t 6], none⟩,
  ⟨some 56, .mv, [.t 7], none⟩,
  ⟨some 57, .mv, [.t 7], none⟩,
  ⟨some 58, .bin .add, [.t 57, .c (.int .i64 1)], none⟩,
  ⟨some 59, .build [.int .i64 0, .int .i64 0] [(0, 1), (1, 1)], [.t 56, .t 58], none⟩,
  ⟨some 60, .bslice 55 2 [.int .i64 0, .int .i64 0] 1 [0], [.t 59], none⟩,
  ⟨some 61, .append 55 2 16, [.t 55, .t 60], none⟩,
  ⟨some 6, .mv, [.t 61], none⟩]
def a24r13 : List IOp := [⟨some 62, .mv, [.t 7], none⟩,
  ⟨some 63, .bin .add, [.t 62, .c (.int .i64 1)], none⟩,
  ⟨some 7, .mv, [.t 63], none⟩]
def a24r14 : List IOp := [⟨some 64, .mv, [.t 5], none⟩,
  ⟨some 65, .mv, [.t 6], none⟩,
  ⟨some 66, .mv, [.t 7], none⟩,
  ⟨some 2, .mv, [.t 64], none⟩,
  ⟨some 3, .mv, [.t 65], none⟩,
  ⟨some 4, .mv, [.t 66], none⟩]
def a24 : AFunc := ⟨67, [.tmp 2, .tmp 3, .tmp 4], (.seq (.region a24r0 [0]) (.seq (.region a24r1 [0, 5]) (.seq (.region a24r2 [0, 5, 6]) (.seq (.region a24r3 [0, 5, 6, 7]) (.seq (.block 0 (.loop (.seq (.seq (.region a24r4 [0, 5, 6, 7, 15]) (.cond (.t 15) .skip (.exit 0))) (.block 1 (.seq (.seq (.region a24r5 [0, 5, 6, 7, 8, 9]) (.seq (.region a24r6 [0, 5, 6, 7, 8, 25]) (.cond (.t 25) (.seq (.region a24r7 [0, 5, 6, 7]) (.seq (.region a24r8 [0, 5, 6, 7]) (.exit 1))) .skip))) (.seq (.seq (.region a24r9 [0, 5, 6, 7, 10]) (.seq (.region a24r10 [0, 5, 6, 7, 10, 45]) (.cond (.t 45) (.region a24r11 [0, 5, 6, 7]) (.region a24r12 [0, 5, 6, 7])))) (.region a24r13 [0, 5, 6, 7]))))))) (.seq (.region a24r14 [2, 3, 4]) .ret))))))⟩
theorem a24_ok : compileF Try.prog (lk [(0, ⟨[0], [], []⟩), (1, ⟨[0, 5], [], []⟩), (2, ⟨[0, 5, 6], [], []⟩), (3, ⟨[0, 5, 6, 7], [], []⟩), (4, ⟨[0, 5, 6, 7, 15], [], []⟩), (5, ⟨[0, 5, 6, 7, 8, 9], [], []⟩), (6, ⟨[0, 5, 6, 7, 8, 25], [], []⟩), (7, ⟨[0, 5, 6, 7], [], []⟩), (8, ⟨[0, 5, 6, 7], [], []⟩), (9, ⟨[0, 5, 6, 7, 10], [], []⟩), (10, ⟨[0, 5, 6, 7, 10, 45], [], []⟩), (11, ⟨[0, 5, 6, 7], [], []⟩), (12, ⟨[0, 5, 6, 7], [], []⟩), (13, ⟨[0, 5, 6, 7], [], []⟩), (14, ⟨[2, 3, 4], [], []⟩)]) Try.f24 = some a24 := by kernel_rfl

/- payroll/payrolllaw7.same -/
def a25r0 : List IOp := [⟨some 8, .mv, [.c (.bool false)], none⟩]
def a25r1 : List IOp := [⟨some 11, .mv, [.t 0], none⟩,
  ⟨some 12, .len, [.t 11], none⟩,
  ⟨some 13, .mv, [.t 2], none⟩,
  ⟨some 14, .len, [.t 13], none⟩,
  ⟨some 15, .bin .neq, [.t 12, .t 14], none⟩,
  ⟨some 16, .mv, [.t 15], none⟩,
  ⟨some 17, .mv, [.t 1], some (16, false)⟩,
  ⟨some 18, .len, [.t 17], some (16, false)⟩,
  ⟨some 19, .mv, [.t 3], some (16, false)⟩,
  ⟨some 20, .len, [.t 19], some (16, false)⟩,
  ⟨some 21, .bin .neq, [.t 18, .t 20], some (16, false)⟩,
  ⟨some 22, .pick, [.t 16, .c (.bool true), .t 21], none⟩]
def a25r2 : List IOp := [⟨some 8, .mv, [.c (.bool false)], none⟩]
def a25r3 : List IOp := [⟨some 9, .mv, [.c (.int .i64 0)], none⟩]
def a25r4 : List IOp := [⟨some 23, .mv, [.t 9], none⟩,
  ⟨some 24, .mv, [.t 0], none⟩,
  ⟨some 25, .len, [.t 24], none⟩,
  ⟨some 26, .bin .lss, [.t 23, .t 25], none⟩]
def a25r5 : List (Nat × DOp) := [(0, ⟨⟨some 29, .mv, [.t 0], none⟩, none, [1, 4, 5, 6, 7]⟩),
  (1, ⟨⟨some 30, .mv, [.t 9], none⟩, none, [0, 4, 5, 6, 7]⟩),
  (2, ⟨⟨some 31, .indexAddr 7, [.t 29, .t 30], none⟩, none, [4, 5, 6, 7]⟩),
  (3, ⟨⟨some 32, .loadA 7, [.t 31], none⟩, none, [4, 5, 6, 7]⟩),
  (4, ⟨⟨some 33, .mv, [.t 2], none⟩, none, [0, 1, 2, 3, 5]⟩),
  (5, ⟨⟨some 34, .mv, [.t 9], none⟩, none, [0, 1, 2, 3, 4]⟩),
  (6, ⟨⟨some 35, .indexAddr 7, [.t 33, .t 34], none⟩, none, [0, 1, 2, 3]⟩),
  (7, ⟨⟨some 36, .loadA 7, [.t 35], none⟩, none, [0, 1, 2, 3]⟩),
  (8, ⟨⟨some 37, .eqA true [.int .i64, .int .i64, .int .i64, .int .i64, .int .i64, .int .i64, .int .i64], [.t 32, .t 36], none⟩, none, []⟩)]
def a25r6 : List IOp := [⟨some 8, .mv, [.c (.bool false)], none⟩]
def a25r7 : List IOp := [⟨some 27, .mv, [.t 9], none⟩,
  ⟨some 28, .bin .add, [.t 27, .c (.int .i64 1)], none⟩,
  ⟨some 9, .mv, [.t 28], none⟩]
def a25r8 : List IOp := [⟨some 10, .mv, [.c (.int .i64 0)], none⟩]
def a25r9 : List IOp := [⟨some 38, .mv, [.t 10], none⟩,
  ⟨some 39, .mv, [.t 1], none⟩,
  ⟨some 40, .len, [.t 39], none⟩,
  ⟨some 41, .bin .lss, [.t 38, .t 40], none⟩]
def a25r10 : List (Nat × DOp) := [(0, ⟨⟨some 44, .mv, [.t 1], none⟩, none, [1, 4, 5, 6, 7]⟩),
  (1, ⟨⟨some 45, .mv, [.t 10], none⟩, none, [0, 4, 5, 6, 7]⟩),
  (2, ⟨⟨some 46, .indexAddr 2, [.t 44, .t 45], none⟩, none, [4, 5, 6, 7]⟩),
  (3, ⟨⟨some 47, .loadA 2, [.t 46], none⟩, none, [4, 5, 6, 7]⟩),
  (4, ⟨⟨some 48, .mv, [.t 3], none⟩, none, [0, 1, 2, 3, 5]⟩),
  (5, ⟨⟨some 49, .mv, [.t 10], none⟩, none, [0, 1, 2, 3, 4]⟩),
  (6, ⟨⟨some 50, .indexAddr 2, [.t 48, .t 49], none⟩, none, [0, 1, 2, 3]⟩),
  (7, ⟨⟨some 51, .loadA 2, [.t 50], none⟩, none, [0, 1, 2, 3]⟩),
  (8, ⟨⟨some 52, .eqA true [.int .i64, .int .i64], [.t 47, .t 51], none⟩, none, []⟩)]
def a25r11 : List IOp := [⟨some 8, .mv, [.c (.bool false)], none⟩]
def a25r12 : List IOp := [⟨some 42, .mv, [.t 10], none⟩,
  ⟨some 43, .bin .add, [.t 42, .c (.int .i64 1)], none⟩,
  ⟨some 10, .mv, [.t 43], none⟩]
def a25r13 : List IOp := [⟨some 8, .mv, [.c (.bool true)], none⟩]
def a25 : AFunc := ⟨53, [.tmp 8], (.seq (.region a25r0 [0, 1, 2, 3]) (.seq (.seq (.region a25r1 [0, 1, 2, 3, 22]) (.cond (.t 22) (.seq (.region a25r2 [8]) .ret) .skip)) (.seq (.seq (.region a25r3 [0, 1, 2, 3, 9]) (.block 0 (.loop (.seq (.seq (.region a25r4 [0, 1, 2, 3, 9, 26]) (.cond (.t 26) .skip (.exit 0))) (.seq (.block 1 (.seq (.draw a25r5 [] [0, 1, 2, 3, 9, 37]) (.cond (.t 37) (.seq (.region a25r6 [8]) .ret) .skip))) (.region a25r7 [0, 1, 2, 3, 9])))))) (.seq (.seq (.region a25r8 [1, 3, 10]) (.block 2 (.loop (.seq (.seq (.region a25r9 [1, 3, 10, 41]) (.cond (.t 41) .skip (.exit 2))) (.seq (.block 3 (.seq (.draw a25r10 [] [1, 3, 10, 52]) (.cond (.t 52) (.seq (.region a25r11 [8]) .ret) .skip))) (.region a25r12 [1, 3, 10])))))) (.seq (.region a25r13 [8]) .ret)))))⟩
theorem a25_ok : compileF Try.prog (lk [(0, ⟨[0, 1, 2, 3], [], []⟩), (1, ⟨[0, 1, 2, 3, 22], [], []⟩), (2, ⟨[8], [], []⟩), (3, ⟨[0, 1, 2, 3, 9], [], []⟩), (4, ⟨[0, 1, 2, 3, 9, 26], [], []⟩), (5, ⟨[0, 1, 2, 3, 9], [], []⟩), (6, ⟨[0, 1, 2, 3, 9, 37], [[], [], [0, 1], [2, 0, 1], [], [], [4, 5], [6, 4, 5], [3, 7, 2, 0, 1, 6, 4, 5]], [0, 1, 2, 3, 4, 5, 6, 7, 8]⟩), (7, ⟨[8], [], []⟩), (8, ⟨[1, 3, 10], [], []⟩), (9, ⟨[1, 3, 10, 41], [], []⟩), (10, ⟨[1, 3, 10], [], []⟩), (11, ⟨[1, 3, 10, 52], [[], [], [0, 1], [2, 0, 1], [], [], [4, 5], [6, 4, 5], [3, 7, 2, 0, 1, 6, 4, 5]], [0, 1, 2, 3, 4, 5, 6, 7, 8]⟩), (12, ⟨[8], [], []⟩), (13, ⟨[8], [], []⟩)]) Try.f25 = some a25 := by kernel_rfl

/- payroll/payrollgen.Mod -/
def a26r0 : List IOp := [⟨some 4, .mv, [.c (.int .i64 0)], none⟩]
def a26r1 : List IOp := [⟨some 6, .mv, [.t 0], none⟩,
  ⟨some 7, .mv, [.t 1], none⟩,
  ⟨some 8, .bin .rem, [.t 6, .t 7], none⟩,
  ⟨some 5, .mv, [.t 8], none⟩]
def a26r2 : List IOp := [⟨some 9, .mv, [.t 5], none⟩,
  ⟨some 10, .bin .lss, [.t 9, .c (.int .i64 0)], none⟩]
def a26r3 : List IOp := [⟨some 11, .mv, [.t 5], none⟩,
  ⟨some 12, .mv, [.t 1], none⟩,
  ⟨some 13, .bin .add, [.t 11, .t 12], none⟩,
  ⟨some 5, .mv, [.t 13], none⟩]
def a26r4 : List IOp := [⟨some 14, .mv, [.t 5], none⟩,
  ⟨some 4, .mv, [.t 14], none⟩]
def a26 : AFunc := ⟨15, [.tmp 4], (.seq (.region a26r0 [0, 1]) (.seq (.region a26r1 [1, 5]) (.seq (.seq (.region a26r2 [1, 5, 10]) (.cond (.t 10) (.region a26r3 [5]) .skip)) (.seq (.region a26r4 [4]) .ret))))⟩
theorem a26_ok : compileF Try.prog (lk [(0, ⟨[0, 1], [], []⟩), (1, ⟨[1, 5], [], []⟩), (2, ⟨[1, 5, 10], [], []⟩), (3, ⟨[5], [], []⟩), (4, ⟨[4], [], []⟩)]) Try.f26 = some a26 := by kernel_rfl

/- (*payroll/payrollgen.Tape).Key -/
def a27r0 : List IOp := [⟨some 2, .alloc 24 [.int .i64 0, .int .i64 0], [], none⟩]
def a27r1 : List IOp := [⟨some 3, .mv, [.t 0], none⟩,
  ⟨some 4, .call 22, [.t 3, .c (.int .i64 2)], none⟩,
  ⟨some 5, .mv, [.t 0], none⟩,
  ⟨some 6, .call 22, [.t 5, .c (.int .i64 9)], none⟩,
  ⟨some 7, .build [.int .i64 0, .int .i64 0] [(0, 1), (1, 1)], [.t 4, .t 6], none⟩,
  ⟨none, .store 2, [.t 2, .t 7], none⟩]
def a27 : AFunc := ⟨8, [.cellA 2 2], (.seq (.region a27r0 [0, 2]) (.seq (.region a27r1 [2]) .ret))⟩
theorem a27_ok : compileF Try.prog (lk [(0, ⟨[0, 2], [], []⟩), (1, ⟨[2], [], []⟩)]) Try.f27 = some a27 := by kernel_rfl

/- (*payroll/payrollgen.Tape).Near -/
def a28r0 : List IOp := [⟨some 2, .mv, [.c (.int .i64 0)], none⟩]
def a28r1 : List IOp := [⟨some 3, .mv, [.t 0], none⟩,
  ⟨some 4, .call 22, [.t 3, .c (.int .i64 10)], none⟩,
  ⟨some 5, .bin .mul, [.t 4, .c (.int .i64 1440)], none⟩,
  ⟨some 6, .bin .add, [.c (.int .i64 29453760), .t 5], none⟩,
  ⟨some 7, .mv, [.t 0], none⟩,
  ⟨some 8, .call 22, [.t 7, .c (.int .i64 97)], none⟩,
  ⟨some 9, .bin .mul, [.t 8, .c (.int .i64 15)], none⟩,
  ⟨some 10, .bin .add, [.t 6, .t 9], none⟩,
  ⟨some 11, .mv, [.t 0], none⟩,
  ⟨some 12, .call 22, [.t 11, .c (.int .i64 8)], none⟩,
  ⟨some 13, .bin .quo, [.t 12, .c (.int .i64 6)], none⟩,
  ⟨some 14, .bin .add, [.t 10, .t 13], none⟩,
  ⟨some 2, .mv, [.t 14], none⟩]
def a28 : AFunc := ⟨15, [.tmp 2], (.seq (.region a28r0 [0]) (.seq (.region a28r1 [2]) .ret))⟩
theorem a28_ok : compileF Try.prog (lk [(0, ⟨[0], [], []⟩), (1, ⟨[2], [], []⟩)]) Try.f28 = some a28 := by kernel_rfl

/- (*payroll/payrollgen.Tape).Pick -/
def a29r0 : List IOp := [⟨some 4, .mv, [.c (.int .i64 0)], none⟩]
def a29r1 : List IOp := [⟨some 5, .mv, [.t 1], none⟩,
  ⟨some 6, .mv, [.t 0], none⟩,
  ⟨some 7, .mv, [.t 1], none⟩,
  ⟨some 8, .len, [.t 7], none⟩,
  ⟨some 9, .call 22, [.t 6, .t 8], none⟩,
  ⟨some 10, .indexAddr 1, [.t 5, .t 9], none⟩,
  ⟨some 11, .load1, [.t 10], none⟩,
  ⟨some 4, .mv, [.t 11], none⟩]
def a29 : AFunc := ⟨12, [.tmp 4], (.seq (.region a29r0 [0, 1]) (.seq (.region a29r1 [4]) .ret))⟩
theorem a29_ok : compileF Try.prog (lk [(0, ⟨[0, 1], [], []⟩), (1, ⟨[4], [], []⟩)]) Try.f29 = some a29 := by kernel_rfl

/- payroll/records.put -/
def a30r0 : List IOp := [⟨some 6, .mv, [.c (.nils)], none⟩]
def a30r1 : List IOp := [⟨some 8, .mv, [.t 2], none⟩,
  ⟨some 9, .bin .sub, [.t 8, .c (.int .i64 1)], none⟩,
  ⟨some 7, .mv, [.t 9], none⟩]
def a30r2 : List IOp := [⟨some 10, .mv, [.t 7], none⟩,
  ⟨some 11, .bin .geq, [.t 10, .c (.int .i64 0)], none⟩]
def a30r3 : List IOp := [⟨some 14, .mv, [.t 0], none⟩,
  ⟨some 15, .mv, [.t 1], none⟩,
  ⟨some 16, .mv, [.t 7], none⟩,
  ⟨some 17, .bin .mul, [.c (.int .i64 8), .t 16], none⟩,
  ⟨some 18, .bin .shr, [.t 15, .t 17], none⟩,
  ⟨some 19, .conv .u8, [.t 18], none⟩,
  ⟨some 20, .bslice 5 1 [.int .u8 0] 1 [0], [.t 19], none⟩,
  ⟨some 21, .append 5 1 1, [.t 14, .t 20], none⟩,
  ⟨some 0, .mv, [.t 21], none⟩]
def a30r4 : List IOp := [⟨some 12, .mv, [.t 7], none⟩,
  ⟨some 13, .bin .sub, [.t 12, .c (.int .i64 1)], none⟩,
  ⟨some 7, .mv, [.t 13], none⟩]
def a30r5 : List IOp := [⟨some 22, .mv, [.t 0], none⟩,
  ⟨some 6, .mv, [.t 22], none⟩]
def a30 : AFunc := ⟨23, [.tmp 6], (.seq (.region a30r0 [0, 1, 2]) (.seq (.seq (.region a30r1 [0, 1, 7]) (.block 0 (.loop (.seq (.seq (.region a30r2 [0, 1, 7, 11]) (.cond (.t 11) .skip (.exit 0))) (.seq (.block 1 (.region a30r3 [0, 1, 7])) (.region a30r4 [0, 1, 7])))))) (.seq (.region a30r5 [6]) .ret)))⟩
theorem a30_ok : compileF Try.prog (lk [(0, ⟨[0, 1, 2], [], []⟩), (1, ⟨[0, 1, 7], [], []⟩), (2, ⟨[0, 1, 7, 11], [], []⟩), (3, ⟨[0, 1, 7], [], []⟩), (4, ⟨[0, 1, 7], [], []⟩), (5, ⟨[6], [], []⟩)]) Try.f30 = some a30 := by kernel_rfl

/- payroll/payrollref7.frame -/
def a31r0 : List IOp := [⟨some 1, .box 26 7, [.t 0], none⟩,
  ⟨some 2, .mv, [.c (.nils)], none⟩]
def a31r1 : List IOp := [⟨some 4, .fieldAddr 4, [.t 1], none⟩,
  ⟨some 5, .load1, [.t 4], none⟩,
  ⟨some 6, .conv .u8, [.t 5], none⟩,
  ⟨some 7, .bslice 5 1 [.int .u8 0] 2 [0, 1], [.c (.int .u8 193), .t 6], none⟩,
  ⟨some 3, .mv, [.t 7], none⟩]
def a31r2 : List (Nat × DOp) := [(0, ⟨⟨some 8, .mv, [.t 3], none⟩, none, [1, 2, 3, 5, 6, 7]⟩),
  (1, ⟨⟨some 9, .fieldAddr 0, [.t 1], none⟩, none, [0, 5, 6, 7]⟩),
  (2, ⟨⟨some 10, .fieldAddr 0, [.t 9], none⟩, none, [0, 5, 6, 7]⟩),
  (3, ⟨⟨some 11, .load1, [.t 10], none⟩, none, [0, 5, 6, 7]⟩),
  (5, ⟨⟨some 13, .fieldAddr 0, [.t 1], none⟩, none, [0, 1, 2, 3, 4]⟩),
  (6, ⟨⟨some 14, .fieldAddr 1, [.t 13], none⟩, none, [0, 1, 2, 3, 4]⟩),
  (7, ⟨⟨some 15, .load1, [.t 14], none⟩, none, [0, 1, 2, 3, 4]⟩),
  (4, ⟨⟨some 12, .call 36, [.t 8, .t 11, .c (.int .i64 2)], none⟩, none, [5, 6, 7]⟩),
  (8, ⟨⟨some 16, .call 36, [.t 12, .t 15, .c (.int .i64 4)], none⟩, none, []⟩),
  (9, ⟨⟨some 3, .mv, [.t 16], none⟩, none, []⟩)]
def a31r3 : List (Nat × DOp) := [(0, ⟨⟨some 17, .mv, [.t 3], none⟩, none, [1, 2, 4, 5]⟩),
  (1, ⟨⟨some 18, .fieldAddr 2, [.t 1], none⟩, none, [0, 4, 5]⟩),
  (2, ⟨⟨some 19, .load1, [.t 18], none⟩, none, [0, 4, 5]⟩),
  (4, ⟨⟨some 21, .fieldAddr 3, [.t 1], none⟩, none, [0, 1, 2, 3]⟩),
  (5, ⟨⟨some 22, .load1, [.t 21], none⟩, none, [0, 1, 2, 3]⟩),
  (3, ⟨⟨some 20, .call 36, [.t 17, .t 19, .c (.int .i64 4)], none⟩, none, [4, 5]⟩),
  (6, ⟨⟨some 23, .call 36, [.t 20, .t 22, .c (.int .i64 4)], none⟩, none, []⟩),
  (7, ⟨⟨some 3, .mv, [.t 23], none⟩, none, []⟩)]
def a31r4 : List (Nat × DOp) := [(0, ⟨⟨some 24, .mv, [.t 3], none⟩, none, [1, 2, 3, 5, 6, 7]⟩),
  (1, ⟨⟨some 25, .fieldAddr 5, [.t 1], none⟩, none, [0, 5, 6, 7]⟩),
  (2, ⟨⟨some 26, .fieldAddr 0, [.t 25], none⟩, none, [0, 5, 6, 7]⟩),
  (3, ⟨⟨some 27, .load1, [.t 26], none⟩, none, [0, 5, 6, 7]⟩),
  (5, ⟨⟨some 29, .fieldAddr 5, [.t 1], none⟩, none, [0, 1, 2, 3, 4]⟩),
  (6, ⟨⟨some 30, .fieldAddr 1, [.t 29], none⟩, none, [0, 1, 2, 3, 4]⟩),
  (7, ⟨⟨some 31, .load1, [.t 30], none⟩, none, [0, 1, 2, 3, 4]⟩),
  (4, ⟨⟨some 28, .call 36, [.t 24, .t 27, .c (.int .i64 2)], none⟩, none, [5, 6, 7]⟩),
  (8, ⟨⟨some 32, .call 36, [.t 28, .t 31, .c (.int .i64 4)], none⟩, none, []⟩),
  (9, ⟨⟨some 3, .mv, [.t 32], none⟩, none, []⟩)]
def a31r5 : List IOp := [⟨some 33, .mv, [.t 3], none⟩,
  ⟨some 34, .mv, [.t 3], none⟩,
  ⟨some 35, .call 17, [.t 34], none⟩,
  ⟨some 36, .call 36, [.t 33, .t 35, .c (.int .i64 2)], none⟩,
  ⟨some 2, .mv, [.t 36], none⟩]
def a31 : AFunc := ⟨37, [.tmp 2], (.seq (.region a31r0 [1]) (.seq (.region a31r1 [1, 3]) (.seq (.draw a31r2 [] [1, 3]) (.seq (.draw a31r3 [] [1, 3]) (.seq (.draw a31r4 [] [3]) (.seq (.region a31r5 [2]) .ret))))))⟩
theorem a31_ok : compileF Try.prog (lk [(0, ⟨[1], [], []⟩), (1, ⟨[1, 3], [], []⟩), (2, ⟨[1, 3], [[], [], [1], [2, 1], [0, 3, 2, 1], [], [5], [6, 5], [4, 7, 0, 3, 2, 1, 6, 5], [8, 0, 1, 2, 3, 4, 5, 6, 7]], [0, 1, 2, 3, 5, 6, 7, 4, 8, 9]⟩), (3, ⟨[1, 3], [[], [], [1], [0, 2, 1], [], [4], [3, 5, 0, 2, 1, 4], [6, 0, 1, 2, 3, 4, 5]], [0, 1, 2, 4, 5, 3, 6, 7]⟩), (4, ⟨[3], [[], [], [1], [2, 1], [0, 3, 2, 1], [], [5], [6, 5], [4, 7, 0, 3, 2, 1, 6, 5], [8, 0, 1, 2, 3, 4, 5, 6, 7]], [0, 1, 2, 3, 5, 6, 7, 4, 8, 9]⟩), (5, ⟨[2], [], []⟩)]) Try.f31 = some a31 := by kernel_rfl

/- payroll/records.validKey -/
def a32r0 : List IOp := [⟨some 1, .box 24 2, [.t 0], none⟩,
  ⟨some 2, .mv, [.c (.bool false)], none⟩]
def a32r1 : List IOp := [⟨some 3, .fieldAddr 0, [.t 1], none⟩,
  ⟨some 4, .load1, [.t 3], none⟩,
  ⟨some 5, .bin .geq, [.t 4, .c (.int .i64 0)], none⟩,
  ⟨some 6, .mv, [.t 5], none⟩,
  ⟨some 7, .fieldAddr 0, [.t 1], some (6, true)⟩,
  ⟨some 8, .load1, [.t 7], some (6, true)⟩,
  ⟨some 9, .bin .leq, [.t 8, .c (.int .i64 65535)], some (6, true)⟩,
  ⟨some 10, .pick, [.t 6, .t 9, .c (.bool false)], none⟩,
  ⟨some 11, .mv, [.t 10], none⟩,
  ⟨some 12, .fieldAddr 1, [.t 1], some (11, true)⟩,
  ⟨some 13, .load1, [.t 12], some (11, true)⟩,
  ⟨some 14, .bin .geq, [.t 13, .c (.int .i64 0)], some (11, true)⟩,
  ⟨some 15, .pick, [.t 11, .t 14, .c (.bool false)], none⟩,
  ⟨some 16, .mv, [.t 15], none⟩,
  ⟨some 17, .fieldAddr 1, [.t 1], some (16, true)⟩,
  ⟨some 18, .load1, [.t 17], some (16, true)⟩,
  ⟨some 19, .bin .leq, [.t 18, .c (.int .i64 2147483647)], some (16, true)⟩,
  ⟨some 20, .pick, [.t 16, .t 19, .c (.bool false)], none⟩,
  ⟨some 2, .mv, [.t 20], none⟩]
def a32 : AFunc := ⟨21, [.tmp 2], (.seq (.region a32r0 [1]) (.seq (.region a32r1 [2]) .ret))⟩
theorem a32_ok : compileF Try.prog (lk [(0, ⟨[1], [], []⟩), (1, ⟨[2], [], []⟩)]) Try.f32 = some a32 := by kernel_rfl

/- payroll/payrollref7.key -/
def a33r0 : List IOp := [⟨some 1, .box 24 2, [.t 0], none⟩,
  ⟨some 2, .mv, [.c (.bool false)], none⟩]
def a33r1 : List IOp := [⟨some 3, .fieldAddr 0, [.t 1], none⟩,
  ⟨some 4, .load1, [.t 3], none⟩,
  ⟨some 5, .bin .geq, [.t 4, .c (.int .i64 0)], none⟩,
  ⟨some 6, .mv, [.t 5], none⟩,
  ⟨some 7, .fieldAddr 0, [.t 1], some (6, true)⟩,
  ⟨some 8, .load1, [.t 7], some (6, true)⟩,
  ⟨some 9, .bin .leq, [.t 8, .c (.int .i64 65535)], some (6, true)⟩,
  ⟨some 10, .pick, [.t 6, .t 9, .c (.bool false)], none⟩,
  ⟨some 11, .mv, [.t 10], none⟩,
  ⟨some 12, .fieldAddr 1, [.t 1], some (11, true)⟩,
  ⟨some 13, .load1, [.t 12], some (11, true)⟩,
  ⟨some 14, .bin .geq, [.t 13, .c (.int .i64 0)], some (11, true)⟩,
  ⟨some 15, .pick, [.t 11, .t 14, .c (.bool false)], none⟩,
  ⟨some 16, .mv, [.t 15], none⟩,
  ⟨some 17, .fieldAddr 1, [.t 1], some (16, true)⟩,
  ⟨some 18, .load1, [.t 17], some (16, true)⟩,
  ⟨some 19, .bin .leq, [.t 18, .c (.int .i64 2147483647)], some (16, true)⟩,
  ⟨some 20, .pick, [.t 16, .t 19, .c (.bool false)], none⟩,
  ⟨some 2, .mv, [.t 20], none⟩]
def a33 : AFunc := ⟨21, [.tmp 2], (.seq (.region a33r0 [1]) (.seq (.region a33r1 [2]) .ret))⟩
theorem a33_ok : compileF Try.prog (lk [(0, ⟨[1], [], []⟩), (1, ⟨[2], [], []⟩)]) Try.f33 = some a33 := by kernel_rfl

/- payroll/payrollref7.Decode -/
def a34r0 : List IOp := [⟨some 2, .mv, [.c (.nils)], none⟩,
  ⟨some 3, .mv, [.c (.nils)], none⟩,
  ⟨some 4, .mv, [.c (.int .i64 0)], none⟩]
def a34r1 : List IOp := [⟨some 5, .mv, [.c (.nils)], none⟩]
def a34r2 : List IOp := [⟨some 6, .mv, [.c (.nils)], none⟩]
def a34r3 : List IOp := [⟨some 7, .mv, [.c (.int .i64 0)], none⟩]
def a34r4 : List IOp := [⟨some 11, .mv, [.t 7], none⟩,
  ⟨some 12, .bin .add, [.t 11, .c (.int .i64 24)], none⟩,
  ⟨some 13, .mv, [.t 0], none⟩,
  ⟨some 14, .len, [.t 13], none⟩,
  ⟨some 15, .bin .leq, [.t 12, .t 14], none⟩]
def a34r5 : List IOp := [⟨some 17, .mv, [.t 0], none⟩,
  ⟨some 18, .mv, [.t 7], none⟩,
  ⟨some 19, .mv, [.t 7], none⟩,
  ⟨some 20, .bin .add, [.t 19, .c (.int .i64 24)], none⟩,
  ⟨some 21, .slice true true 1, [.t 17, .t 18, .t 20], none⟩,
  ⟨some 22, .call 37, [.t 21], none⟩,
  ⟨some 16, .mv, [.t 22], none⟩,
  ⟨some 23, .extract 0, [.t 16], none⟩,
  ⟨some 24, .extract 1, [.t 16], none⟩,
  ⟨some 8, .alloc 26 [.int .i64 0, .int .i64 0, .int .i64 0, .int .i64 0, .int .i64 0, .int .i64 0, .int .i64 0], [], none⟩,
  ⟨none, .store 7, [.t 8, .t 23], none⟩,
  ⟨some 9, .mv, [.t 24], none⟩]
def a34r6 : List IOp := [⟨some 25, .mv, [.t 9], none⟩]
def a34r7 : List IOp := [⟨some 26, .mv, [.t 5], none⟩,
  ⟨some 27, .loadA 7, [.t 8], none⟩,
  ⟨some 28, .bslice 26 7 [.int .i64 0, .int .i64 0, .int .i64 0, .int .i64 0, .int .i64 0, .int .i64 0, .int .i64 0] 1 [0], [.t 27], none⟩,
  ⟨some 29, .append 26 7 56, [.t 26, .t 28], none⟩,
  ⟨some 5, .mv, [.t 29], none⟩]
def a34r8 : List IOp := [⟨some 30, .mv, [.t 7], none⟩,
  ⟨some 31, .bin .add, [.t 30, .c (.int .i64 24)], none⟩,
  ⟨some 7, .mv, [.t 31], none⟩]
def a34r9 : List IOp := [⟨some 32, .mv, [.t 6], none⟩,
  ⟨some 33, .len, [.t 32], none⟩,
  ⟨some 10, .mv, [.t 33], none⟩]
def a34r10 : List IOp := [⟨some 34, .mv, [.t 10], none⟩,
  ⟨some 35, .bin .gtr, [.t 34, .c (.int .i64 0)], none⟩,
  ⟨some 36, .mv, [.t 35], none⟩,
  ⟨some 37, .mv, [.t 6], some (36, true)⟩,
  ⟨some 38, .mv, [.t 10], some (36, true)⟩,
  ⟨some 39, .bin .sub, [.t 38, .c (.int .i64 1)], some (36, true)⟩,
  ⟨some 40, .indexAddr 2, [.t 37, .t 39], some (36, true)⟩,
  ⟨some 41, .fieldAddr 1, [.t 40], some (36, true)⟩,
  ⟨some 42, .load1, [.t 41], some (36, true)⟩,
  ⟨some 43, .mv, [.t 7], some (36, true)⟩,
  ⟨some 44, .bin .eql, [.t 42, .t 43], some (36, true)⟩,
  ⟨some 45, .pick, [.t 36, .t 44, .c (.bool false)], none⟩]
def a34r11 : List IOp := [⟨some 46, .mv, [.t 6], none⟩,
  ⟨some 47, .mv, [.t 10], none⟩,
  ⟨some 48, .bin .sub, [.t 47, .c (.int .i64 1)], none⟩,
  ⟨some 49, .indexAddr 2, [.t 46, .t 48], none⟩,
  ⟨some 50, .fieldAddr 1, [.t 49], none⟩,
  ⟨some 51, .load1, [.t 50], none⟩,
  ⟨some 52, .bin .add, [.t 51, .c (.int .i64 1)], none⟩,
  ⟨some 53, .indexAddr 2, [.t 46, .t 48], none⟩,
  ⟨some 54, .fieldAddr 1, [.t 53], none⟩,
  ⟨none, .store 1, [.t 54, .t 52], none⟩]
def a34r12 : List IOp := [⟨some 55, .mv, [.t 6], none⟩,
  ⟨some 56, .mv, [.t 7], none⟩,
  ⟨some 57, .mv, [.t 7], none⟩,
  ⟨some 58, .bin .add, [.t 57, .c (.int .i64 1)], none⟩,
  ⟨some 59, .build [.int .i64 0, .int .i64 0] [(0, 1), (1, 1)], [.t 56, .t 58], none⟩,
  ⟨some 60, .bslice 55 2 [.int .i64 0, .int .i64 0] 1 [0], [.t 59], none⟩,
  ⟨some 61, .append 55 2 16, [.t 55, .t 60], none⟩,
  ⟨some 6, .mv, [.t 61], none⟩]
def a34r13 : List IOp := [⟨some 62, .mv, [.t 7], none⟩,
  ⟨some 63, .bin .add, [.t 62, .c (.int .i64 1)], none⟩,
  ⟨some 7, .mv, [.t 63], none⟩]
def a34r14 : List IOp := [⟨some 64, .mv, [.t 5], none⟩,
  ⟨some 65, .mv, [.t 6], none⟩,
  ⟨some 66, .mv, [.t 7], none⟩,
  ⟨some 2, .mv, [.t 64], none⟩,
  ⟨some 3, .mv, [.t 65], none⟩,
  ⟨some 4, .mv, [.t 66], none⟩]
def a34 : AFunc := ⟨67, [.tmp 2, .tmp 3, .tmp 4], (.seq (.region a34r0 [0]) (.seq (.region a34r1 [0, 5]) (.seq (.region a34r2 [0, 5, 6]) (.seq (.region a34r3 [0, 5, 6, 7]) (.seq (.block 0 (.loop (.seq (.seq (.region a34r4 [0, 5, 6, 7, 15]) (.cond (.t 15) .skip (.exit 0))) (.block 1 (.seq (.seq (.region a34r5 [0, 5, 6, 7, 8, 9]) (.seq (.region a34r6 [0, 5, 6, 7, 8, 25]) (.cond (.t 25) (.seq (.region a34r7 [0, 5, 6, 7]) (.seq (.region a34r8 [0, 5, 6, 7]) (.exit 1))) .skip))) (.seq (.seq (.region a34r9 [0, 5, 6, 7, 10]) (.seq (.region a34r10 [0, 5, 6, 7, 10, 45]) (.cond (.t 45) (.region a34r11 [0, 5, 6, 7]) (.region a34r12 [0, 5, 6, 7])))) (.region a34r13 [0, 5, 6, 7]))))))) (.seq (.region a34r14 [2, 3, 4]) .ret))))))⟩
theorem a34_ok : compileF Try.prog (lk [(0, ⟨[0], [], []⟩), (1, ⟨[0, 5], [], []⟩), (2, ⟨[0, 5, 6], [], []⟩), (3, ⟨[0, 5, 6, 7], [], []⟩), (4, ⟨[0, 5, 6, 7, 15], [], []⟩), (5, ⟨[0, 5, 6, 7, 8, 9], [], []⟩), (6, ⟨[0, 5, 6, 7, 8, 25], [], []⟩), (7, ⟨[0, 5, 6, 7], [], []⟩), (8, ⟨[0, 5, 6, 7], [], []⟩), (9, ⟨[0, 5, 6, 7, 10], [], []⟩), (10, ⟨[0, 5, 6, 7, 10, 45], [], []⟩), (11, ⟨[0, 5, 6, 7], [], []⟩), (12, ⟨[0, 5, 6, 7], [], []⟩), (13, ⟨[0, 5, 6, 7], [], []⟩), (14, ⟨[2, 3, 4], [], []⟩)]) Try.f34 = some a34 := by kernel_rfl

/- payroll/records.read -/
def a35r0 : List IOp := [⟨some 2, .alloc 26 [.int .i64 0, .int .i64 0, .int .i64 0, .int .i64 0, .int .i64 0, .int .i64 0, .int .i64 0], [], none⟩,
  ⟨some 3, .mv, [.c (.bool false)], none⟩]
def a35r1 : List (Nat × DOp) := [(0, ⟨⟨some 5, .mv, [.t 0], none⟩, none, []⟩),
  (1, ⟨⟨some 6, .indexAddr 1, [.t 5, .c (.int .i64 0)], none⟩, none, []⟩),
  (2, ⟨⟨some 7, .load1, [.t 6], none⟩, none, []⟩),
  (3, ⟨⟨some 8, .bin .neq, [.t 7, .c (.int .u8 193)], none⟩, none, []⟩),
  (4, ⟨⟨some 9, .mv, [.t 8], none⟩, none, []⟩),
  (5, ⟨⟨some 10, .mv, [.t 0], some (9, false)⟩, none, [8, 9]⟩),
  (6, ⟨⟨some 11, .slice true true 1, [.t 10, .c (.int .i64 22), .c (.int .i64 24)], some (9, false)⟩, none, [8, 9]⟩),
  (8, ⟨⟨some 13, .mv, [.t 0], some (9, false)⟩, none, [5, 6, 7]⟩),
  (9, ⟨⟨some 14, .slice false true 1, [.t 13, .c (.int .i64 22)], some (9, false)⟩, none, [5, 6, 7]⟩),
  (7, ⟨⟨some 12, .call 38, [.t 11], some (9, false)⟩, none, [8, 9]⟩),
  (10, ⟨⟨some 15, .call 16, [.t 14], some (9, false)⟩, none, []⟩),
  (11, ⟨⟨some 16, .bin .neq, [.t 12, .t 15], some (9, false)⟩, none, []⟩),
  (12, ⟨⟨some 17, .pick, [.t 9, .c (.bool true), .t 16], none⟩, none, []⟩)]
def a35r2 : List IOp := [⟨some 18, .build [.int .i64 0, .int .i64 0, .int .i64 0, .int .i64 0, .int .i64 0, .int .i64 0, .int .i64 0] [], [], none⟩,
  ⟨none, .store 7, [.t 2, .t 18], none⟩,
  ⟨some 3, .mv, [.c (.bool false)], none⟩]
def a35r3 : List (Nat × DOp) := [(0, ⟨⟨some 19, .mv, [.t 0], none⟩, none, [3, 4, 7, 8, 10, 11, 13, 14, 16, 17, 19, 20, 24]⟩),
  (1, ⟨⟨some 20, .slice true true 1, [.t 19, .c (.int .i64 2), .c (.int .i64 4)], none⟩, none, [3, 4, 7, 8, 10, 11, 13, 14, 16, 17, 19, 20, 24]⟩),
  (3, ⟨⟨some 22, .mv, [.t 0], none⟩, none, [0, 1, 2, 7, 8, 10, 11, 13, 14, 16, 17, 19, 20, 24]⟩),
  (4, ⟨⟨some 23, .slice true true 1, [.t 22, .c (.int .i64 4), .c (.int .i64 8)], none⟩, none, [0, 1, 2, 7, 8, 10, 11, 13, 14, 16, 17, 19, 20, 24]⟩),
  (7, ⟨⟨some 26, .mv, [.t 0], none⟩, none, [0, 1, 2, 3, 4, 5, 6, 10, 11, 13, 14, 16, 17, 19, 20, 24]⟩),
  (8, ⟨⟨some 27, .slice true true 1, [.t 26, .c (.int .i64 8), .c (.int .i64 12)], none⟩, none, [0, 1, 2, 3, 4, 5, 6, 10, 11, 13, 14, 16, 17, 19, 20, 24]⟩),
  (10, ⟨⟨some 29, .mv, [.t 0], none⟩, none, [0, 1, 2, 3, 4, 5, 6, 7, 8, 9, 13, 14, 16, 17, 19, 20, 24]⟩),
  (11, ⟨⟨some 30, .slice true true 1, [.t 29, .c (.int .i64 12), .c (.int .i64 16)], none⟩, none, [0, 1, 2, 3, 4, 5, 6, 7, 8, 9, 13, 14, 16, 17, 19, 20, 24]⟩),
  (13, ⟨⟨some 32, .mv, [.t 0], none⟩, none, [0, 1, 2, 3, 4, 5, 6, 7, 8, 9, 10, 11, 12, 16, 17, 19, 20, 24]⟩),
  (14, ⟨⟨some 33, .slice true true 1, [.t 32, .c (.int .i64 1), .c (.int .i64 2)], none⟩, none, [0, 1, 2, 3, 4, 5, 6, 7, 8, 9, 10, 11, 12, 16, 17, 19, 20, 24]⟩),
  (16, ⟨⟨some 35, .mv, [.t 0], none⟩, none, [0, 1, 2, 3, 4, 5, 6, 7, 8, 9, 10, 11, 12, 13, 14, 15, 19, 20, 24]⟩),
  (17, ⟨⟨some 36, .slice true true 1, [.t 35, .c (.int .i64 16), .c (.int .i64 18)], none⟩, none, [0, 1, 2, 3, 4, 5, 6, 7, 8, 9, 10, 11, 12, 13, 14, 15, 19, 20, 24]⟩),
  (19, ⟨⟨some 38, .mv, [.t 0], none⟩, none, [0, 1, 2, 3, 4, 5, 6, 7, 8, 9, 10, 11, 12, 13, 14, 15, 16, 17, 18, 24]⟩),
  (20, ⟨⟨some 39, .slice true true 1, [.t 38, .c (.int .i64 18), .c (.int .i64 22)], none⟩, none, [0, 1, 2, 3, 4, 5, 6, 7, 8, 9, 10, 11, 12, 13, 14, 15, 16, 17, 18, 24]⟩),
  (24, ⟨⟨some 4, .alloc 26 [.int .i64 0, .int .i64 0, .int .i64 0, .int .i64 0, .int .i64 0, .int .i64 0, .int .i64 0], [], none⟩, some 0, [0, 1, 2, 3, 4, 5, 6, 7, 8, 9, 10, 11, 12, 13, 14, 15, 16, 17, 18, 19, 20, 21, 22, 23]⟩),
  (2, ⟨⟨some 21, .call 38, [.t 20], none⟩, none, [3, 4, 7, 8, 10, 11, 13, 14, 16, 17, 19, 20, 24]⟩),
  (5, ⟨⟨some 24, .call 38, [.t 23], none⟩, none, [7, 8, 10, 11, 13, 14, 16, 17, 19, 20, 24]⟩),
  (6, ⟨⟨some 25, .build [.int .i64 0, .int .i64 0] [(0, 1), (1, 1)], [.t 21, .t 24], none⟩, none, [7, 8, 9, 10, 11, 12, 13, 14, 15, 16, 17, 18, 19, 20, 21, 22, 24]⟩),
  (9, ⟨⟨some 28, .call 38, [.t 27], none⟩, none, [6, 10, 11, 13, 14, 16, 17, 19, 20, 24]⟩),
  (12, ⟨⟨some 31, .call 38, [.t 30], none⟩, none, [6, 13, 14, 16, 17, 19, 20, 24]⟩),
  (15, ⟨⟨some 34, .call 38, [.t 33], none⟩, none, [6, 16, 17, 19, 20, 24]⟩),
  (18, ⟨⟨some 37, .call 38, [.t 36], none⟩, none, [6, 19, 20, 24]⟩),
  (21, ⟨⟨some 40, .call 38, [.t 39], none⟩, none, [6, 24]⟩),
  (22, ⟨⟨some 41, .build [.int .i64 0, .int .i64 0] [(0, 1), (1, 1)], [.t 37, .t 40], none⟩, none, [6, 24]⟩),
  (23, ⟨⟨some 42, .build [.int .i64 0, .int .i64 0, .int .i64 0, .int .i64 0, .int .i64 0, .int .i64 0, .int .i64 0] [(0, 2), (2, 1), (3, 1), (4, 1), (5, 2)], [.t 25, .t 28, .t 31, .t 34, .t 41], none⟩, none, [24]⟩),
  (25, ⟨⟨none, .store 7, [.t 4, .t 42], none⟩, none, []⟩)]
def a35r4 : List (Nat × DOp) := [(0, ⟨⟨some 43, .loadA 7, [.t 4], none⟩, none, [1, 2]⟩),
  (1, ⟨⟨some 44, .loadA 7, [.t 4], none⟩, none, [0]⟩),
  (2, ⟨⟨some 45, .call 14, [.t 44], none⟩, none, [0]⟩),
  (3, ⟨⟨none, .store 7, [.t 2, .t 43], none⟩, none, []⟩),
  (4, ⟨⟨some 3, .mv, [.t 45], none⟩, none, []⟩)]
def a35 : AFunc := ⟨46, [.cellA 2 7, .tmp 3], (.seq (.region a35r0 [0, 2]) (.seq (.seq (.draw a35r1 [] [0, 2, 17]) (.cond (.t 17) (.seq (.region a35r2 [2, 3]) .ret) .skip)) (.seq (.draw a35r3 [(26, 7)] [2, 4]) (.seq (.draw a35r4 [] [2, 3]) .ret))))⟩
theorem a35_ok : compileF Try.prog (lk [(0, ⟨[0, 2], [], []⟩), (1, ⟨[0, 2, 17], [[], [0], [1, 0], [2, 1, 0], [3, 2, 1, 0], [4, 3, 2, 1, 0], [5, 4, 3, 2, 1, 0], [6, 4, 5, 3, 2, 1, 0], [4, 3, 2, 1, 0], [8, 4, 3, 2, 1, 0], [9, 7, 4, 8, 3, 2, 1, 0, 6, 5], [7, 10, 4, 6, 5, 3, 2, 1, 0, 9, 8], [4, 11, 3, 2, 1, 0, 7, 10, 6, 5, 9, 8]], [0, 1, 2, 3, 4, 5, 6, 8, 9, 7, 10, 11, 12]⟩), (2, ⟨[2, 3], [], []⟩), (3, ⟨[2, 4], [[], [0], [1, 0], [], [3], [4, 2, 3, 1, 0], [2, 5, 1, 0, 4, 3], [], [7], [8, 5, 7, 4, 2, 3, 1, 0], [], [10], [11, 9, 10, 8, 5, 7, 4, 2, 3, 1, 0], [], [13], [14, 12, 13, 11, 9, 10, 8, 5, 7, 4, 2, 3, 1, 0], [], [16], [17, 15, 16, 14, 12, 13, 11, 9, 10, 8, 5, 7, 4, 2, 3, 1, 0], [], [19], [20, 18, 19, 17, 15, 16, 14, 12, 13, 11, 9, 10, 8, 5, 7, 4, 2, 3, 1, 0], [18, 21, 17, 15, 16, 14, 12, 13, 11, 9, 10, 8, 5, 7, 4, 2, 3, 1, 0, 20, 19], [6, 9, 12, 15, 22, 2, 5, 1, 0, 4, 3, 8, 7, 11, 10, 14, 13, 18, 21, 17, 16, 20, 19], [], [24, 23, 21, 0, 1, 2, 3, 4, 5, 6, 7, 8, 9, 10, 11, 12, 13, 14, 15, 16, 17, 18, 19, 20, 22]], [0, 1, 3, 4, 7, 8, 10, 11, 13, 14, 16, 17, 19, 20, 24, 2, 5, 6, 9, 12, 15, 18, 21, 22, 23, 25]⟩), (4, ⟨[2, 3], [[], [], [1], [0, 2, 1], [2, 3, 0, 1]], [0, 1, 2, 3, 4]⟩)]) Try.f35 = some a35 := by kernel_rfl

/- payroll/payrollref7.put -/
def a36r0 : List IOp := [⟨some 6, .mv, [.c (.nils)], none⟩]
def a36r1 : List IOp := [⟨some 8, .mv, [.t 2], none⟩,
  ⟨some 9, .bin .sub, [.t 8, .c (.int .i64 1)], none⟩,
  ⟨some 7, .mv, [.t 9], none⟩]
def a36r2 : List IOp := [⟨some 10, .mv, [.t 7], none⟩,
  ⟨some 11, .bin .geq, [.t 10, .c (.int .i64 0)], none⟩]
def a36r3 : List IOp := [⟨some 14, .mv, [.t 0], none⟩,
  ⟨some 15, .mv, [.t 1], none⟩,
  ⟨some 16, .mv, [.t 7], none⟩,
  ⟨some 17, .bin .mul, [.c (.int .i64 8), .t 16], none⟩,
  ⟨some 18, .conv .u64, [.t 17], none⟩,
  ⟨some 19, .bin .shr, [.t 15, .t 18], none⟩,
  ⟨some 20, .conv .u8, [.t 19], none⟩,
  ⟨some 21, .bslice 5 1 [.int .u8 0] 1 [0], [.t 20], none⟩,
  ⟨some 22, .append 5 1 1, [.t 14, .t 21], none⟩,
  ⟨some 0, .mv, [.t 22], none⟩]
def a36r4 : List IOp := [⟨some 12, .mv, [.t 7], none⟩,
  ⟨some 13, .bin .sub, [.t 12, .c (.int .i64 1)], none⟩,
  ⟨some 7, .mv, [.t 13], none⟩]
def a36r5 : List IOp := [⟨some 23, .mv, [.t 0], none⟩,
  ⟨some 6, .mv, [.t 23], none⟩]
def a36 : AFunc := ⟨24, [.tmp 6], (.seq (.region a36r0 [0, 1, 2]) (.seq (.seq (.region a36r1 [0, 1, 7]) (.block 0 (.loop (.seq (.seq (.region a36r2 [0, 1, 7, 11]) (.cond (.t 11) .skip (.exit 0))) (.seq (.block 1 (.region a36r3 [0, 1, 7])) (.region a36r4 [0, 1, 7])))))) (.seq (.region a36r5 [6]) .ret)))⟩
theorem a36_ok : compileF Try.prog (lk [(0, ⟨[0, 1, 2], [], []⟩), (1, ⟨[0, 1, 7], [], []⟩), (2, ⟨[0, 1, 7, 11], [], []⟩), (3, ⟨[0, 1, 7], [], []⟩), (4, ⟨[0, 1, 7], [], []⟩), (5, ⟨[6], [], []⟩)]) Try.f36 = some a36 := by kernel_rfl

/- payroll/payrollref7.read -/
def a37r0 : List IOp := [⟨some 2, .alloc 26 [.int .i64 0, .int .i64 0, .int .i64 0, .int .i64 0, .int .i64 0, .int .i64 0, .int .i64 0], [], none⟩,
  ⟨some 3, .mv, [.c (.bool false)], none⟩]
def a37r1 : List (Nat × DOp) := [(0, ⟨⟨some 5, .mv, [.t 0], none⟩, none, [4, 5, 6, 7, 8, 9, 10, 11, 12, 13, 14, 15, 16, 17, 18, 19, 20, 21, 22, 23, 25]⟩),
  (1, ⟨⟨some 6, .indexAddr 1, [.t 5, .c (.int .i64 1)], none⟩, none, [4, 5, 6, 7, 8, 9, 10, 11, 12, 13, 14, 15, 16, 17, 18, 19, 20, 21, 22, 23, 25]⟩),
  (2, ⟨⟨some 7, .load1, [.t 6], none⟩, none, [4, 5, 6, 7, 8, 9, 10, 11, 12, 13, 14, 15, 16, 17, 18, 19, 20, 21, 22, 23, 25]⟩),
  (3, ⟨⟨some 8, .conv .i64, [.t 7], none⟩, none, [4, 5, 6, 7, 8, 9, 10, 11, 12, 13, 14, 15, 16, 17, 18, 19, 20, 21, 22, 23, 25]⟩),
  (4, ⟨⟨some 9, .mv, [.t 0], none⟩, none, [0, 1, 2, 3, 7, 8, 11, 12, 14, 15, 17, 18, 20, 21, 25]⟩),
  (5, ⟨⟨some 10, .slice true true 1, [.t 9, .c (.int .i64 2), .c (.int .i64 4)], none⟩, none, [0, 1, 2, 3, 7, 8, 11, 12, 14, 15, 17, 18, 20, 21, 25]⟩),
  (7, ⟨⟨some 12, .mv, [.t 0], none⟩, none, [0, 1, 2, 3, 4, 5, 6, 11, 12, 14, 15, 17, 18, 20, 21, 25]⟩),
  (8, ⟨⟨some 13, .slice true true 1, [.t 12, .c (.int .i64 4), .c (.int .i64 8)], none⟩, none, [0, 1, 2, 3, 4, 5, 6, 11, 12, 14, 15, 17, 18, 20, 21, 25]⟩),
  (11, ⟨⟨some 16, .mv, [.t 0], none⟩, none, [0, 1, 2, 3, 4, 5, 6, 7, 8, 9, 10, 14, 15, 17, 18, 20, 21, 25]⟩),
  (12, ⟨⟨some 17, .slice true true 1, [.t 16, .c (.int .i64 8), .c (.int .i64 12)], none⟩, none, [0, 1, 2, 3, 4, 5, 6, 7, 8, 9, 10, 14, 15, 17, 18, 20, 21, 25]⟩),
  (14, ⟨⟨some 19, .mv, [.t 0], none⟩, none, [0, 1, 2, 3, 4, 5, 6, 7, 8, 9, 10, 11, 12, 13, 17, 18, 20, 21, 25]⟩),
  (15, ⟨⟨some 20, .slice true true 1, [.t 19, .c (.int .i64 12), .c (.int .i64 16)], none⟩, none, [0, 1, 2, 3, 4, 5, 6, 7, 8, 9, 10, 11, 12, 13, 17, 18, 20, 21, 25]⟩),
  (17, ⟨⟨some 22, .mv, [.t 0], none⟩, none, [0, 1, 2, 3, 4, 5, 6, 7, 8, 9, 10, 11, 12, 13, 14, 15, 16, 20, 21, 25]⟩),
  (18, ⟨⟨some 23, .slice true true 1, [.t 22, .c (.int .i64 16), .c (.int .i64 18)], none⟩, none, [0, 1, 2, 3, 4, 5, 6, 7, 8, 9, 10, 11, 12, 13, 14, 15, 16, 20, 21, 25]⟩),
  (20, ⟨⟨some 25, .mv, [.t 0], none⟩, none, [0, 1, 2, 3, 4, 5, 6, 7, 8, 9, 10, 11, 12, 13, 14, 15, 16, 17, 18, 19, 25]⟩),
  (21, ⟨⟨some 26, .slice true true 1, [.t 25, .c (.int .i64 18), .c (.int .i64 22)], none⟩, none, [0, 1, 2, 3, 4, 5, 6, 7, 8, 9, 10, 11, 12, 13, 14, 15, 16, 17, 18, 19, 25]⟩),
  (25, ⟨⟨some 4, .alloc 26 [.int .i64 0, .int .i64 0, .int .i64 0, .int .i64 0, .int .i64 0, .int .i64 0, .int .i64 0], [], none⟩, some 0, [0, 1, 2, 3, 4, 5, 6, 7, 8, 9, 10, 11, 12, 13, 14, 15, 16, 17, 18, 19, 20, 21, 22, 23, 24]⟩),
  (6, ⟨⟨some 11, .call 39, [.t 10], none⟩, none, [0, 1, 2, 3, 7, 8, 11, 12, 14, 15, 17, 18, 20, 21, 25]⟩),
  (9, ⟨⟨some 14, .call 39, [.t 13], none⟩, none, [0, 1, 2, 3, 11, 12, 14, 15, 17, 18, 20, 21, 25]⟩),
  (10, ⟨⟨some 15, .build [.int .i64 0, .int .i64 0] [(0, 1), (1, 1)], [.t 11, .t 14], none⟩, none, [0, 1, 2, 3, 11, 12, 13, 14, 15, 16, 17, 18, 19, 20, 21, 22, 23, 25]⟩),
  (13, ⟨⟨some 18, .call 39, [.t 17], none⟩, none, [0, 1, 2, 3, 10, 14, 15, 17, 18, 20, 21, 25]⟩),
  (16, ⟨⟨some 21, .call 39, [.t 20], none⟩, none, [0, 1, 2, 3, 10, 17, 18, 20, 21, 25]⟩),
  (19, ⟨⟨some 24, .call 39, [.t 23], none⟩, none, [0, 1, 2, 3, 10, 20, 21, 25]⟩),
  (22, ⟨⟨some 27, .call 39, [.t 26], none⟩, none, [0, 1, 2, 3, 10, 25]⟩),
  (23, ⟨⟨some 28, .build [.int .i64 0, .int .i64 0] [(0, 1), (1, 1)], [.t 24, .t 27], none⟩, none, [0, 1, 2, 3, 10, 25]⟩),
  (24, ⟨⟨some 29, .build [.int .i64 0, .int .i64 0, .int .i64 0, .int .i64 0, .int .i64 0, .int .i64 0, .int .i64 0] [(4, 1), (0, 2), (2, 1), (3, 1), (5, 2)], [.t 8, .t 15, .t 18, .t 21, .t 28], none⟩, none, [25]⟩),
  (26, ⟨⟨none, .store 7, [.t 4, .t 29], none⟩, none, []⟩)]
def a37r2 : List (Nat × DOp) := [(0, ⟨⟨some 30, .loadA 7, [.t 4], none⟩, none, [1, 2, 3, 4, 5, 6, 7, 8, 9, 10, 11, 12, 13, 14, 15, 16, 17]⟩),
  (1, ⟨⟨some 31, .mv, [.t 0], none⟩, none, [0]⟩),
  (2, ⟨⟨some 32, .indexAddr 1, [.t 31, .c (.int .i64 0)], none⟩, none, [0]⟩),
  (3, ⟨⟨some 33, .load1, [.t 32], none⟩, none, [0]⟩),
  (4, ⟨⟨some 34, .bin .eql, [.t 33, .c (.int .u8 193)], none⟩, none, [0]⟩),
  (5, ⟨⟨some 35, .mv, [.t 34], none⟩, none, [0]⟩),
  (6, ⟨⟨some 36, .mv, [.t 0], some (35, true)⟩, none, [0, 9, 10]⟩),
  (7, ⟨⟨some 37, .slice false true 1, [.t 36, .c (.int .i64 22)], some (35, true)⟩, none, [0, 9, 10]⟩),
  (9, ⟨⟨some 39, .mv, [.t 0], some (35, true)⟩, none, [0, 6, 7, 8]⟩),
  (10, ⟨⟨some 40, .slice true true 1, [.t 39, .c (.int .i64 22), .c (.int .i64 24)], some (35, true)⟩, none, [0, 6, 7, 8]⟩),
  (8, ⟨⟨some 38, .call 17, [.t 37], some (35, true)⟩, none, [0, 9, 10]⟩),
  (11, ⟨⟨some 41, .call 39, [.t 40], some (35, true)⟩, none, [0]⟩),
  (12, ⟨⟨some 42, .bin .eql, [.t 38, .t 41], some (35, true)⟩, none, [0]⟩),
  (13, ⟨⟨some 43, .pick, [.t 35, .t 42, .c (.bool false)], none⟩, none, [0]⟩),
  (14, ⟨⟨some 44, .mv, [.t 43], none⟩, none, [0]⟩),
  (15, ⟨⟨some 45, .loadA 7, [.t 4], some (44, true)⟩, none, [0]⟩),
  (16, ⟨⟨some 46, .call 15, [.t 45], some (44, true)⟩, none, [0]⟩),
  (17, ⟨⟨some 47, .pick, [.t 44, .t 46, .c (.bool false)], none⟩, none, [0, 18]⟩),
  (18, ⟨⟨none, .store 7, [.t 2, .t 30], none⟩, none, [17]⟩),
  (19, ⟨⟨some 3, .mv, [.t 47], none⟩, none, []⟩)]
def a37 : AFunc := ⟨48, [.cellA 2 7, .tmp 3], (.seq (.region a37r0 [0, 2]) (.seq (.draw a37r1 [(26, 7)] [0, 2, 4]) (.seq (.draw a37r2 [] [2, 3]) .ret)))⟩
theorem a37_ok : compileF Try.prog (lk [(0, ⟨[0, 2], [], []⟩), (1, ⟨[0, 2, 4], [[], [0], [1, 0], [2, 1, 0], [], [4], [5, 4], [], [7], [8, 6, 7, 5, 4], [6, 9, 5, 4, 8, 7], [], [11], [12, 9, 11, 8, 6, 7, 5, 4], [], [14], [15, 13, 14, 12, 9, 11, 8, 6, 7, 5, 4], [], [17], [18, 16, 17, 15, 13, 14, 12, 9, 11, 8, 6, 7, 5, 4], [], [20], [21, 19, 20, 18, 16, 17, 15, 13, 14, 12, 9, 11, 8, 6, 7, 5, 4], [19, 22, 18, 16, 17, 15, 13, 14, 12, 9, 11, 8, 6, 7, 5, 4, 21, 20], [3, 10, 13, 16, 23, 2, 1, 0, 6, 9, 5, 4, 8, 7, 12, 11, 15, 14, 19, 22, 18, 17, 21, 20], [], [25, 24, 22, 0, 1, 2, 3, 4, 5, 6, 7, 8, 9, 10, 11, 12, 13, 14, 15, 16, 17, 18, 19, 20, 21, 23]], [0, 1, 2, 3, 4, 5, 7, 8, 11, 12, 14, 15, 17, 18, 20, 21, 25, 6, 9, 10, 13, 16, 19, 22, 23, 24, 26]⟩), (2, ⟨[2, 3], [[], [], [1], [2, 1], [3, 2, 1], [4, 3, 2, 1], [5, 4, 3, 2, 1], [6, 5, 4, 3, 2, 1], [7, 5, 6, 4, 3, 2, 1], [5, 4, 3, 2, 1], [9, 5, 4, 3, 2, 1], [10, 8, 5, 9, 4, 3, 2, 1, 7, 6], [8, 11, 5, 7, 6, 4, 3, 2, 1, 10, 9], [5, 12, 4, 3, 2, 1, 8, 11, 7, 6, 10, 9], [13, 11, 5, 12, 4, 3, 2, 1, 8, 7, 6, 10, 9], [14, 13, 11, 5, 12, 4, 3, 2, 1, 8, 7, 6, 10, 9], [15, 14, 13, 11, 5, 12, 4, 3, 2, 1, 8, 7, 6, 10, 9], [14, 16, 13, 11, 5, 12, 4, 3, 2, 1, 8, 7, 6, 10, 9, 15], [0, 16, 15, 14, 13, 11, 5, 12, 4, 3, 2, 1, 8, 7, 6, 10, 9], [17, 18, 0, 1, 2, 3, 4, 5, 6, 7, 8, 9, 10, 11, 12, 13, 14, 15, 16]], [0, 1, 2, 3, 4, 5, 6, 7, 9, 10, 8, 11, 12, 13, 14, 15, 16, 17, 18, 19]⟩)]) Try.f37 = some a37 := by kernel_rfl

/- payroll/records.get -/
def a38r0 : List IOp := [⟨some 2, .mv, [.c (.int .i64 0)], none⟩]
def a38r1 : List IOp := [⟨some 3, .mv, [.c (.int .i64 0)], none⟩]
def a38r2 : List IOp := [⟨some 6, .mv, [.t 0], none⟩,
  ⟨some 7, .len, [.t 6], none⟩,
  ⟨some 8, .mv, [.c (.int .i64 0)], none⟩]
def a38r3 : List IOp := [⟨some 9, .bin .lss, [.t 8, .t 7], none⟩]
def a38r4 : List IOp := [⟨some 10, .indexAddr 1, [.t 6, .t 8], none⟩,
  ⟨some 11, .load1, [.t 10], none⟩,
  ⟨some 5, .mv, [.t 11], none⟩]
def a38r5 : List IOp := [⟨some 12, .mv, [.t 3], none⟩,
  ⟨some 13, .bin .shl, [.t 12, .c (.int .u64 8)], none⟩,
  ⟨some 14, .mv, [.t 5], none⟩,
  ⟨some 15, .conv .i64, [.t 14], none⟩,
  ⟨some 16, .bin .or, [.t 13, .t 15], none⟩,
  ⟨some 3, .mv, [.t 16], none⟩]
def a38r6 : List IOp := [⟨some 17, .bin .add, [.t 8, .c (.int .i64 1)], none⟩,
  ⟨some 8, .mv, [.t 17], none⟩]
def a38r7 : List IOp := [⟨some 18, .mv, [.t 3], none⟩,
  ⟨some 2, .mv, [.t 18], none⟩]
def a38 : AFunc := ⟨19, [.tmp 2], (.seq (.region a38r0 [0]) (.seq (.region a38r1 [0, 3]) (.seq (.seq (.region a38r2 [3, 6, 7, 8]) (.block 0 (.loop (.seq (.region a38r3 [3, 6, 7, 8, 9]) (.seq (.cond (.t 9) .skip (.exit 0)) (.seq (.block 1 (.seq (.region a38r4 [3, 5, 6, 7, 8]) (.region a38r5 [3, 6, 7, 8]))) (.region a38r6 [3, 6, 7, 8]))))))) (.seq (.region a38r7 [2]) .ret))))⟩
theorem a38_ok : compileF Try.prog (lk [(0, ⟨[0], [], []⟩), (1, ⟨[0, 3], [], []⟩), (2, ⟨[3, 6, 7, 8], [], []⟩), (3, ⟨[3, 6, 7, 8, 9], [], []⟩), (4, ⟨[3, 5, 6, 7, 8], [], []⟩), (5, ⟨[3, 6, 7, 8], [], []⟩), (6, ⟨[3, 6, 7, 8], [], []⟩), (7, ⟨[2], [], []⟩)]) Try.f38 = some a38 := by kernel_rfl

/- payroll/payrollref7.get -/
def a39r0 : List IOp := [⟨some 2, .mv, [.c (.int .i64 0)], none⟩]
def a39r1 : List IOp := [⟨some 3, .mv, [.c (.int .i64 0)], none⟩]
def a39r2 : List IOp := [⟨some 4, .mv, [.c (.int .i64 0)], none⟩]
def a39r3 : List IOp := [⟨some 5, .mv, [.t 4], none⟩,
  ⟨some 6, .mv, [.t 0], none⟩,
  ⟨some 7, .len, [.t 6], none⟩,
  ⟨some 8, .bin .lss, [.t 5, .t 7], none⟩]
def a39r4 : List IOp := [⟨some 11, .mv, [.t 3], none⟩,
  ⟨some 12, .bin .shl, [.t 11, .c (.int .u64 8)], none⟩,
  ⟨some 13, .mv, [.t 0], none⟩,
  ⟨some 14, .mv, [.t 4], none⟩,
  ⟨some 15, .indexAddr 1, [.t 13, .t 14], none⟩,
  ⟨some 16, .load1, [.t 15], none⟩,
  ⟨some 17, .conv .i64, [.t 16], none⟩,
  ⟨some 18, .bin .or, [.t 12, .t 17], none⟩,
  ⟨some 3, .mv, [.t 18], none⟩]
def a39r5 : List IOp := [⟨some 9, .mv, [.t 4], none⟩,
  ⟨some 10, .bin .add, [.t 9, .c (.int .i64 1)], none⟩,
  ⟨some 4, .mv, [.t 10], none⟩]
def a39r6 : List IOp := [⟨some 19, .mv, [.t 3], none⟩,
  ⟨some 2, .mv, [.t 19], none⟩]
def a39 : AFunc := ⟨20, [.tmp 2], (.seq (.region a39r0 [0]) (.seq (.region a39r1 [0, 3]) (.seq (.seq (.region a39r2 [0, 3, 4]) (.block 0 (.loop (.seq (.seq (.region a39r3 [0, 3, 4, 8]) (.cond (.t 8) .skip (.exit 0))) (.seq (.block 1 (.region a39r4 [0, 3, 4])) (.region a39r5 [0, 3, 4])))))) (.seq (.region a39r6 [2]) .ret))))⟩
theorem a39_ok : compileF Try.prog (lk [(0, ⟨[0], [], []⟩), (1, ⟨[0, 3], [], []⟩), (2, ⟨[0, 3, 4], [], []⟩), (3, ⟨[0, 3, 4, 8], [], []⟩), (4, ⟨[0, 3, 4], [], []⟩), (5, ⟨[0, 3, 4], [], []⟩), (6, ⟨[2], [], []⟩)]) Try.f39 = some a39 := by kernel_rfl

end Go.Proofs.Ytkgffhjlfdmfeaa
