/- The abstract forms of the functions, printed by a program, and that the given program has these forms. -/
import Derived.Test.YtodbafiepdcfbaaAbsMd
import Derived.Test.YtodbafiepdcfbaaProg
import Derived.KernelRfl
set_option linter.unusedSimpArgs false
set_option linter.unusedVariables false
set_option linter.unusedSectionVars false
namespace Go.Proofs.Ytodbafiepdcfbaa
open Go Go.Abs
/- payroll/payrollgen.New -/
def a12r0 : List IOp := [⟨some 2, .mv, [.c (.nilp)], none⟩]
def a12r1 : List IOp := [⟨some 3, .mv, [.t 0], none⟩,
  ⟨some 4, .build [.nils, .int .i64 0] [(0, 1)], [.t 3], none⟩,
  ⟨some 5, .box 81 2, [.t 4], none⟩,
  ⟨some 2, .mv, [.t 5], none⟩]
def a12 : AFunc := ⟨6, [.tmp 2], (.seq (.region a12r0 [0]) (.seq (.region a12r1 [2]) .ret))⟩
theorem a12_ok : compileF Try.prog (lk [(0, ⟨[0], [], []⟩), (1, ⟨[2], [], []⟩)]) Try.f12 = some a12 := by kernel_rfl

/- (*payroll/payrollgen.Tape).Next -/
def a14r0 : List IOp := [⟨some 4, .mv, [.c (.int .i64 0)], none⟩]
def a14r1 : List (Nat × DOp) := [(0, ⟨⟨some 5, .mv, [.t 1], none⟩, none, []⟩),
  (1, ⟨⟨some 6, .bin .lss, [.t 5, .c (.int .i64 1)], none⟩, none, []⟩),
  (2, ⟨⟨some 7, .mv, [.t 6], none⟩, none, []⟩),
  (3, ⟨⟨some 8, .mv, [.t 0], some (7, false)⟩, none, [7, 8, 9, 10, 11]⟩),
  (4, ⟨⟨some 9, .nilchk, [.t 8], some (7, false)⟩, none, [7, 8, 9, 10, 11]⟩),
  (5, ⟨⟨some 10, .fieldAddr 1, [.t 9], some (7, false)⟩, none, [7, 8, 9, 10, 11]⟩),
  (6, ⟨⟨some 11, .load1, [.t 10], some (7, false)⟩, none, [7, 8, 9, 10, 11]⟩),
  (7, ⟨⟨some 12, .mv, [.t 0], some (7, false)⟩, none, [3, 4, 5, 6]⟩),
  (8, ⟨⟨some 13, .nilchk, [.t 12], some (7, false)⟩, none, [3, 4, 5, 6]⟩),
  (9, ⟨⟨some 14, .fieldAddr 0, [.t 13], some (7, false)⟩, none, [3, 4, 5, 6]⟩),
  (10, ⟨⟨some 15, .load1, [.t 14], some (7, false)⟩, none, [3, 4, 5, 6]⟩),
  (11, ⟨⟨some 16, .len, [.t 15], some (7, false)⟩, none, [3, 4, 5, 6]⟩),
  (12, ⟨⟨some 17, .bin .geq, [.t 11, .t 16], some (7, false)⟩, none, []⟩),
  (13, ⟨⟨some 18, .pick, [.t 7, .c (.bool true), .t 17], none⟩, none, []⟩)]
def a14r2 : List IOp := [⟨some 4, .mv, [.c (.int .i64 0)], none⟩]
def a14r3 : List IOp := [⟨some 19, .mv, [.t 0], none⟩,
  ⟨some 20, .nilchk, [.t 19], none⟩,
  ⟨some 21, .fieldAddr 1, [.t 20], none⟩,
  ⟨some 22, .load1, [.t 21], none⟩,
  ⟨some 23, .bin .add, [.t 22, .c (.int .i64 1)], none⟩,
  ⟨some 24, .nilchk, [.t 19], none⟩,
  ⟨some 25, .fieldAddr 1, [.t 24], none⟩,
  ⟨none, .store 1, [.t 25, .t 23], none⟩]
def a14r4 : List (Nat × DOp) := [(0, ⟨⟨some 26, .mv, [.t 0], none⟩, none, [4, 5, 6, 7, 8, 11]⟩),
  (1, ⟨⟨some 27, .nilchk, [.t 26], none⟩, none, [4, 5, 6, 7, 8, 11]⟩),
  (2, ⟨⟨some 28, .fieldAddr 0, [.t 27], none⟩, none, [4, 5, 6, 7, 8, 11]⟩),
  (3, ⟨⟨some 29, .load1, [.t 28], none⟩, none, [4, 5, 6, 7, 8, 11]⟩),
  (4, ⟨⟨some 30, .mv, [.t 0], none⟩, none, [0, 1, 2, 3, 11]⟩),
  (5, ⟨⟨some 31, .nilchk, [.t 30], none⟩, none, [0, 1, 2, 3, 11]⟩),
  (6, ⟨⟨some 32, .fieldAddr 1, [.t 31], none⟩, none, [0, 1, 2, 3, 11]⟩),
  (7, ⟨⟨some 33, .load1, [.t 32], none⟩, none, [0, 1, 2, 3, 11]⟩),
  (8, ⟨⟨some 34, .bin .sub, [.t 33, .c (.int .i64 1)], none⟩, none, [0, 1, 2, 3, 11]⟩),
  (9, ⟨⟨some 35, .indexAddr 1, [.t 29, .t 34], none⟩, none, [11]⟩),
  (10, ⟨⟨some 36, .load1, [.t 35], none⟩, none, [11]⟩),
  (11, ⟨⟨some 37, .mv, [.t 1], none⟩, none, [0, 1, 2, 3, 4, 5, 6, 7, 8, 9, 10]⟩),
  (12, ⟨⟨some 38, .call 22, [.t 36, .t 37], none⟩, none, []⟩),
  (13, ⟨⟨some 4, .mv, [.t 38], none⟩, none, []⟩)]
def a14 : AFunc := ⟨39, [.tmp 4], (.seq (.region a14r0 [0, 1]) (.seq (.seq (.draw a14r1 [] [0, 1, 18]) (.cond (.t 18) (.seq (.region a14r2 [4]) .ret) .skip)) (.seq (.region a14r3 [0, 1]) (.seq (.draw a14r4 [] [4]) .ret))))⟩
theorem a14_ok : compileF Try.prog (lk [(0, ⟨[0, 1], [], []⟩), (1, ⟨[0, 1, 18], [[], [0], [1, 0], [2, 1, 0], [3, 2, 1, 0], [4, 2, 3, 1, 0], [5, 2, 4, 3, 1, 0], [2, 1, 0], [7, 2, 1, 0], [8, 2, 7, 1, 0], [9, 2, 8, 7, 1, 0], [10, 2, 9, 8, 7, 1, 0], [6, 11, 2, 5, 4, 3, 1, 0, 10, 9, 8, 7], [2, 12, 1, 0, 6, 11, 5, 4, 3, 10, 9, 8, 7]], [0, 1, 2, 3, 4, 5, 6, 7, 8, 9, 10, 11, 12, 13]⟩), (2, ⟨[4], [], []⟩), (3, ⟨[0, 1], [], []⟩), (4, ⟨[4], [[], [0], [1, 0], [2, 1, 0], [], [4], [5, 4], [6, 5, 4], [7, 6, 5, 4], [3, 8, 2, 1, 0, 7, 6, 5, 4], [9, 3, 8, 2, 1, 0, 7, 6, 5, 4], [], [10, 11, 9, 3, 8, 2, 1, 0, 7, 6, 5, 4], [12, 0, 1, 2, 3, 4, 5, 6, 7, 8, 9, 10, 11]], [0, 1, 2, 3, 4, 5, 6, 7, 8, 9, 10, 11, 12, 13]⟩)]) Try.f14 = some a14 := by kernel_rfl

/- payroll/payrollgen.Mod -/
def a22r0 : List IOp := [⟨some 4, .mv, [.c (.int .i64 0)], none⟩]
def a22r1 : List IOp := [⟨some 6, .mv, [.t 0], none⟩,
  ⟨some 7, .mv, [.t 1], none⟩,
  ⟨some 8, .bin .rem, [.t 6, .t 7], none⟩,
  ⟨some 5, .mv, [.t 8], none⟩]
def a22r2 : List IOp := [⟨some 9, .mv, [.t 5], none⟩,
  ⟨some 10, .bin .lss, [.t 9, .c (.int .i64 0)], none⟩]
def a22r3 : List IOp := [⟨some 11, .mv, [.t 5], none⟩,
  ⟨some 12, .mv, [.t 1], none⟩,
  ⟨some 13, .bin .add, [.t 11, .t 12], none⟩,
  ⟨some 5, .mv, [.t 13], none⟩]
def a22r4 : List IOp := [⟨some 14, .mv, [.t 5], none⟩,
  ⟨some 4, .mv, [.t 14], none⟩]
def a22 : AFunc := ⟨15, [.tmp 4], (.seq (.region a22r0 [0, 1]) (.seq (.region a22r1 [1, 5]) (.seq (.seq (.region a22r2 [1, 5, 10]) (.cond (.t 10) (.region a22r3 [5]) .skip)) (.seq (.region a22r4 [4]) .ret))))⟩
theorem a22_ok : compileF Try.prog (lk [(0, ⟨[0, 1], [], []⟩), (1, ⟨[1, 5], [], []⟩), (2, ⟨[1, 5, 10], [], []⟩), (3, ⟨[5], [], []⟩), (4, ⟨[4], [], []⟩)]) Try.f22 = some a22 := by kernel_rfl

/- payroll/inbox.Compare -/
def a30r0 : List IOp := [⟨some 2, .box 64 7, [.t 0], none⟩,
  ⟨some 3, .box 64 7, [.t 1], none⟩,
  ⟨some 4, .mv, [.c (.int .i64 0)], none⟩]
def a30r1 : List (Nat × DOp) := [(0, ⟨⟨some 5, .fieldAddr 0, [.t 2], none⟩, none, [2, 3, 5, 6, 7, 8, 10, 11, 12, 13, 15, 16, 17, 18, 20, 21, 22, 23]⟩),
  (1, ⟨⟨some 6, .loadA 2, [.t 5], none⟩, none, [2, 3, 5, 6, 7, 8, 10, 11, 12, 13, 15, 16, 17, 18, 20, 21, 22, 23]⟩),
  (2, ⟨⟨some 7, .fieldAddr 0, [.t 3], none⟩, none, [0, 1, 5, 6, 7, 8, 10, 11, 12, 13, 15, 16, 17, 18, 20, 21, 22, 23]⟩),
  (3, ⟨⟨some 8, .loadA 2, [.t 7], none⟩, none, [0, 1, 5, 6, 7, 8, 10, 11, 12, 13, 15, 16, 17, 18, 20, 21, 22, 23]⟩),
  (5, ⟨⟨some 10, .fieldAddr 2, [.t 2], none⟩, none, [0, 1, 2, 3, 4, 7, 8, 10, 11, 12, 13, 15, 16, 17, 18, 20, 21, 22, 23]⟩),
  (6, ⟨⟨some 11, .load1, [.t 10], none⟩, none, [0, 1, 2, 3, 4, 7, 8, 10, 11, 12, 13, 15, 16, 17, 18, 20, 21, 22, 23]⟩),
  (7, ⟨⟨some 12, .fieldAddr 2, [.t 3], none⟩, none, [0, 1, 2, 3, 4, 5, 6, 10, 11, 12, 13, 15, 16, 17, 18, 20, 21, 22, 23]⟩),
  (8, ⟨⟨some 13, .load1, [.t 12], none⟩, none, [0, 1, 2, 3, 4, 5, 6, 10, 11, 12, 13, 15, 16, 17, 18, 20, 21, 22, 23]⟩),
  (10, ⟨⟨some 15, .fieldAddr 3, [.t 2], none⟩, none, [0, 1, 2, 3, 4, 5, 6, 7, 8, 9, 12, 13, 15, 16, 17, 18, 20, 21, 22, 23]⟩),
  (11, ⟨⟨some 16, .load1, [.t 15], none⟩, none, [0, 1, 2, 3, 4, 5, 6, 7, 8, 9, 12, 13, 15, 16, 17, 18, 20, 21, 22, 23]⟩),
  (12, ⟨⟨some 17, .fieldAddr 3, [.t 3], none⟩, none, [0, 1, 2, 3, 4, 5, 6, 7, 8, 9, 10, 11, 15, 16, 17, 18, 20, 21, 22, 23]⟩),
  (13, ⟨⟨some 18, .load1, [.t 17], none⟩, none, [0, 1, 2, 3, 4, 5, 6, 7, 8, 9, 10, 11, 15, 16, 17, 18, 20, 21, 22, 23]⟩),
  (15, ⟨⟨some 20, .fieldAddr 4, [.t 2], none⟩, none, [0, 1, 2, 3, 4, 5, 6, 7, 8, 9, 10, 11, 12, 13, 14, 17, 18, 20, 21, 22, 23]⟩),
  (16, ⟨⟨some 21, .load1, [.t 20], none⟩, none, [0, 1, 2, 3, 4, 5, 6, 7, 8, 9, 10, 11, 12, 13, 14, 17, 18, 20, 21, 22, 23]⟩),
  (17, ⟨⟨some 22, .fieldAddr 4, [.t 3], none⟩, none, [0, 1, 2, 3, 4, 5, 6, 7, 8, 9, 10, 11, 12, 13, 14, 15, 16, 20, 21, 22, 23]⟩),
  (18, ⟨⟨some 23, .load1, [.t 22], none⟩, none, [0, 1, 2, 3, 4, 5, 6, 7, 8, 9, 10, 11, 12, 13, 14, 15, 16, 20, 21, 22, 23]⟩),
  (20, ⟨⟨some 25, .fieldAddr 5, [.t 2], none⟩, none, [0, 1, 2, 3, 4, 5, 6, 7, 8, 9, 10, 11, 12, 13, 14, 15, 16, 17, 18, 19, 22, 23]⟩),
  (21, ⟨⟨some 26, .loadA 2, [.t 25], none⟩, none, [0, 1, 2, 3, 4, 5, 6, 7, 8, 9, 10, 11, 12, 13, 14, 15, 16, 17, 18, 19, 22, 23]⟩),
  (22, ⟨⟨some 27, .fieldAddr 5, [.t 3], none⟩, none, [0, 1, 2, 3, 4, 5, 6, 7, 8, 9, 10, 11, 12, 13, 14, 15, 16, 17, 18, 19, 20, 21]⟩),
  (23, ⟨⟨some 28, .loadA 2, [.t 27], none⟩, none, [0, 1, 2, 3, 4, 5, 6, 7, 8, 9, 10, 11, 12, 13, 14, 15, 16, 17, 18, 19, 20, 21]⟩),
  (4, ⟨⟨some 9, .call 53, [.t 6, .t 8], none⟩, none, [5, 6, 7, 8, 10, 11, 12, 13, 15, 16, 17, 18, 20, 21, 22, 23]⟩),
  (9, ⟨⟨some 14, .call 54, [.t 11, .t 13], none⟩, none, [10, 11, 12, 13, 15, 16, 17, 18, 20, 21, 22, 23]⟩),
  (14, ⟨⟨some 19, .call 54, [.t 16, .t 18], none⟩, none, [15, 16, 17, 18, 20, 21, 22, 23]⟩),
  (19, ⟨⟨some 24, .call 54, [.t 21, .t 23], none⟩, none, [20, 21, 22, 23]⟩),
  (24, ⟨⟨some 29, .call 53, [.t 26, .t 28], none⟩, none, []⟩),
  (25, ⟨⟨some 30, .bslice 3 1 [.int .i64 0] 5 [0, 1, 2, 3, 4], [.t 9, .t 14, .t 19, .t 24, .t 29], none⟩, some 0, []⟩),
  (26, ⟨⟨some 31, .call 52, [.t 30], none⟩, none, []⟩),
  (27, ⟨⟨some 4, .mv, [.t 31], none⟩, none, []⟩)]
def a30 : AFunc := ⟨32, [.tmp 4], (.seq (.region a30r0 [2, 3]) (.seq (.draw a30r1 [(3, 1)] [4]) .ret))⟩
theorem a30_ok : compileF Try.prog (lk [(0, ⟨[2, 3], [], []⟩), (1, ⟨[4], [[], [0], [], [2], [1, 3, 0, 2], [], [5], [], [7], [6, 8, 4, 5, 7, 1, 3, 0, 2], [], [10], [], [12], [11, 13, 9, 10, 12, 6, 8, 4, 5, 7, 1, 3, 0, 2], [], [15], [], [17], [16, 18, 14, 15, 17, 11, 13, 9, 10, 12, 6, 8, 4, 5, 7, 1, 3, 0, 2], [], [20], [], [22], [21, 23, 19, 20, 22, 16, 18, 14, 15, 17, 11, 13, 9, 10, 12, 6, 8, 4, 5, 7, 1, 3, 0, 2], [4, 9, 14, 19, 24, 1, 3, 0, 2, 6, 8, 5, 7, 11, 13, 10, 12, 16, 18, 15, 17, 21, 23, 20, 22], [25, 24, 4, 9, 14, 19, 1, 3, 0, 2, 6, 8, 5, 7, 11, 13, 10, 12, 16, 18, 15, 17, 21, 23, 20, 22], [26, 0, 1, 2, 3, 4, 5, 6, 7, 8, 9, 10, 11, 12, 13, 14, 15, 16, 17, 18, 19, 20, 21, 22, 23, 24, 25]], [0, 1, 2, 3, 5, 6, 7, 8, 10, 11, 12, 13, 15, 16, 17, 18, 20, 21, 22, 23, 4, 9, 14, 19, 24, 25, 26, 27]⟩)]) Try.f30 = some a30 := by kernel_rfl

/- (*payroll/payrollgen.Tape).Pick -/
def a40r0 : List IOp := [⟨some 4, .mv, [.c (.int .i64 0)], none⟩]
def a40r1 : List IOp := [⟨some 5, .mv, [.t 1], none⟩,
  ⟨some 6, .mv, [.t 0], none⟩,
  ⟨some 7, .mv, [.t 1], none⟩,
  ⟨some 8, .len, [.t 7], none⟩,
  ⟨some 9, .call 14, [.t 6, .t 8], none⟩,
  ⟨some 10, .indexAddr 1, [.t 5, .t 9], none⟩,
  ⟨some 11, .load1, [.t 10], none⟩,
  ⟨some 4, .mv, [.t 11], none⟩]
def a40 : AFunc := ⟨12, [.tmp 4], (.seq (.region a40r0 [0, 1]) (.seq (.region a40r1 [4]) .ret))⟩
theorem a40_ok : compileF Try.prog (lk [(0, ⟨[0, 1], [], []⟩), (1, ⟨[4], [], []⟩)]) Try.f40 = some a40 := by kernel_rfl

/- (*payroll/payrollgen.Tape).Key -/
def a50r0 : List IOp := [⟨some 2, .alloc 62 [.int .i64 0, .int .i64 0], [], none⟩]
def a50r1 : List IOp := [⟨some 3, .mv, [.t 0], none⟩,
  ⟨some 4, .call 14, [.t 3, .c (.int .i64 2)], none⟩,
  ⟨some 5, .mv, [.t 0], none⟩,
  ⟨some 6, .call 14, [.t 5, .c (.int .i64 9)], none⟩,
  ⟨some 7, .build [.int .i64 0, .int .i64 0] [(0, 1), (1, 1)], [.t 4, .t 6], none⟩,
  ⟨none, .store 2, [.t 2, .t 7], none⟩]
def a50 : AFunc := ⟨8, [.cellA 2 2], (.seq (.region a50r0 [0, 2]) (.seq (.region a50r1 [2]) .ret))⟩
theorem a50_ok : compileF Try.prog (lk [(0, ⟨[0, 2], [], []⟩), (1, ⟨[2], [], []⟩)]) Try.f50 = some a50 := by kernel_rfl

/- (*payroll/payrollgen.Tape).Near -/
def a51r0 : List IOp := [⟨some 2, .mv, [.c (.int .i64 0)], none⟩]
def a51r1 : List IOp := [⟨some 3, .mv, [.t 0], none⟩,
  ⟨some 4, .call 14, [.t 3, .c (.int .i64 10)], none⟩,
  ⟨some 5, .bin .mul, [.t 4, .c (.int .i64 1440)], none⟩,
  ⟨some 6, .bin .add, [.c (.int .i64 29453760), .t 5], none⟩,
  ⟨some 7, .mv, [.t 0], none⟩,
  ⟨some 8, .call 14, [.t 7, .c (.int .i64 97)], none⟩,
  ⟨some 9, .bin .mul, [.t 8, .c (.int .i64 15)], none⟩,
  ⟨some 10, .bin .add, [.t 6, .t 9], none⟩,
  ⟨some 11, .mv, [.t 0], none⟩,
  ⟨some 12, .call 14, [.t 11, .c (.int .i64 8)], none⟩,
  ⟨some 13, .bin .quo, [.t 12, .c (.int .i64 6)], none⟩,
  ⟨some 14, .bin .add, [.t 10, .t 13], none⟩,
  ⟨some 2, .mv, [.t 14], none⟩]
def a51 : AFunc := ⟨15, [.tmp 2], (.seq (.region a51r0 [0]) (.seq (.region a51r1 [2]) .ret))⟩
theorem a51_ok : compileF Try.prog (lk [(0, ⟨[0], [], []⟩), (1, ⟨[2], [], []⟩)]) Try.f51 = some a51 := by kernel_rfl

/- cmp.Or[int] -/
def a52r0 : List IOp := [⟨some 2, .mv, [.c (.int .i64 0)], none⟩]
def a52r1 : List IOp := [⟨some 3, .mv, [.c (.int .i64 0)], none⟩]
def a52r2 : List IOp := [⟨some 6, .mv, [.t 0], none⟩,
  ⟨some 7, .len, [.t 6], none⟩,
  ⟨some 8, .mv, [.c (.int .i64 0)], none⟩]
def a52r3 : List IOp := [⟨some 9, .bin .lss, [.t 8, .t 7], none⟩]
def a52r4 : List IOp := [⟨some 10, .indexAddr 1, [.t 6, .t 8], none⟩,
  ⟨some 11, .load1, [.t 10], none⟩,
  ⟨some 5, .mv, [.t 11], none⟩]
def a52r5 : List IOp := [⟨some 12, .mv, [.t 5], none⟩,
  ⟨some 13, .mv, [.t 3], none⟩,
  ⟨some 14, .bin .neq, [.t 12, .t 13], none⟩]
def a52r6 : List IOp := [⟨some 15, .mv, [.t 5], none⟩,
  ⟨some 2, .mv, [.t 15], none⟩]
def a52r7 : List IOp := [⟨some 16, .bin .add, [.t 8, .c (.int .i64 1)], none⟩,
  ⟨some 8, .mv, [.t 16], none⟩]
def a52r8 : List IOp := [⟨some 17, .mv, [.t 3], none⟩,
  ⟨some 2, .mv, [.t 17], none⟩]
def a52 : AFunc := ⟨18, [.tmp 2], (.seq (.region a52r0 [0]) (.seq (.region a52r1 [0, 3]) (.seq (.seq (.region a52r2 [3, 6, 7, 8]) (.block 0 (.loop (.seq (.region a52r3 [3, 6, 7, 8, 9]) (.seq (.cond (.t 9) .skip (.exit 0)) (.seq (.block 1 (.seq (.region a52r4 [3, 5, 6, 7, 8]) (.seq (.region a52r5 [3, 5, 6, 7, 8, 14]) (.cond (.t 14) (.seq (.region a52r6 [2]) .ret) .skip)))) (.region a52r7 [3, 6, 7, 8]))))))) (.seq (.region a52r8 [2]) .ret))))⟩
theorem a52_ok : compileF Try.prog (lk [(0, ⟨[0], [], []⟩), (1, ⟨[0, 3], [], []⟩), (2, ⟨[3, 6, 7, 8], [], []⟩), (3, ⟨[3, 6, 7, 8, 9], [], []⟩), (4, ⟨[3, 5, 6, 7, 8], [], []⟩), (5, ⟨[3, 5, 6, 7, 8, 14], [], []⟩), (6, ⟨[2], [], []⟩), (7, ⟨[3, 6, 7, 8], [], []⟩), (8, ⟨[2], [], []⟩)]) Try.f52 = some a52 := by kernel_rfl

/- payroll/inbox.compareKeys -/
def a53r0 : List IOp := [⟨some 2, .box 62 2, [.t 0], none⟩,
  ⟨some 3, .box 62 2, [.t 1], none⟩,
  ⟨some 4, .mv, [.c (.int .i64 0)], none⟩]
def a53r1 : List (Nat × DOp) := [(0, ⟨⟨some 5, .fieldAddr 0, [.t 2], none⟩, none, [2, 3, 5, 6, 7, 8]⟩),
  (1, ⟨⟨some 6, .load1, [.t 5], none⟩, none, [2, 3, 5, 6, 7, 8]⟩),
  (2, ⟨⟨some 7, .fieldAddr 0, [.t 3], none⟩, none, [0, 1, 5, 6, 7, 8]⟩),
  (3, ⟨⟨some 8, .load1, [.t 7], none⟩, none, [0, 1, 5, 6, 7, 8]⟩),
  (5, ⟨⟨some 10, .fieldAddr 1, [.t 2], none⟩, none, [0, 1, 2, 3, 4, 7, 8]⟩),
  (6, ⟨⟨some 11, .load1, [.t 10], none⟩, none, [0, 1, 2, 3, 4, 7, 8]⟩),
  (7, ⟨⟨some 12, .fieldAddr 1, [.t 3], none⟩, none, [0, 1, 2, 3, 4, 5, 6]⟩),
  (8, ⟨⟨some 13, .load1, [.t 12], none⟩, none, [0, 1, 2, 3, 4, 5, 6]⟩),
  (4, ⟨⟨some 9, .call 54, [.t 6, .t 8], none⟩, none, [5, 6, 7, 8]⟩),
  (9, ⟨⟨some 14, .call 54, [.t 11, .t 13], none⟩, none, []⟩),
  (10, ⟨⟨some 15, .bslice 3 1 [.int .i64 0] 2 [0, 1], [.t 9, .t 14], none⟩, some 0, []⟩),
  (11, ⟨⟨some 16, .call 52, [.t 15], none⟩, none, []⟩),
  (12, ⟨⟨some 4, .mv, [.t 16], none⟩, none, []⟩)]
def a53 : AFunc := ⟨17, [.tmp 4], (.seq (.region a53r0 [2, 3]) (.seq (.draw a53r1 [(3, 1)] [4]) .ret))⟩
theorem a53_ok : compileF Try.prog (lk [(0, ⟨[2, 3], [], []⟩), (1, ⟨[4], [[], [0], [], [2], [1, 3, 0, 2], [], [5], [], [7], [6, 8, 4, 5, 7, 1, 3, 0, 2], [4, 9, 1, 3, 0, 2, 6, 8, 5, 7], [10, 9, 4, 1, 3, 0, 2, 6, 8, 5, 7], [11, 0, 1, 2, 3, 4, 5, 6, 7, 8, 9, 10]], [0, 1, 2, 3, 5, 6, 7, 8, 4, 9, 10, 11, 12]⟩)]) Try.f53 = some a53 := by kernel_rfl

/- cmp.Compare[int] -/
def a54r0 : List IOp := [⟨some 4, .mv, [.c (.int .i64 0)], none⟩]
def a54r1 : List IOp := [⟨some 7, .mv, [.t 0], none⟩,
  ⟨some 8, .call 71, [.t 7], none⟩,
  ⟨some 5, .mv, [.t 8], none⟩]
def a54r2 : List IOp := [⟨some 9, .mv, [.t 1], none⟩,
  ⟨some 10, .call 71, [.t 9], none⟩,
  ⟨some 6, .mv, [.t 10], none⟩]
def a54r3 : List IOp := [⟨some 11, .mv, [.t 5], none⟩]
def a54r4 : List IOp := [⟨some 12, .mv, [.t 6], none⟩]
def a54r5 : List IOp := [⟨some 4, .mv, [.c (.int .i64 0)], none⟩]
def a54r6 : List IOp := [⟨some 4, .mv, [.c (.int .i64 (-1))], none⟩]
def a54r7 : List IOp := [⟨some 13, .mv, [.t 6], none⟩]
def a54r8 : List IOp := [⟨some 4, .mv, [.c (.int .i64 1)], none⟩]
def a54r9 : List IOp := [⟨some 14, .mv, [.t 0], none⟩,
  ⟨some 15, .mv, [.t 1], none⟩,
  ⟨some 16, .bin .lss, [.t 14, .t 15], none⟩]
def a54r10 : List IOp := [⟨some 4, .mv, [.c (.int .i64 (-1))], none⟩]
def a54r11 : List IOp := [⟨some 17, .mv, [.t 0], none⟩,
  ⟨some 18, .mv, [.t 1], none⟩,
  ⟨some 19, .bin .gtr, [.t 17, .t 18], none⟩]
def a54r12 : List IOp := [⟨some 4, .mv, [.c (.int .i64 1)], none⟩]
def a54r13 : List IOp := [⟨some 4, .mv, [.c (.int .i64 0)], none⟩]
def a54 : AFunc := ⟨20, [.tmp 4], (.seq (.region a54r0 [0, 1]) (.seq (.region a54r1 [0, 1, 5]) (.seq (.region a54r2 [0, 1, 5, 6]) (.seq (.seq (.region a54r3 [0, 1, 6, 11]) (.cond (.t 11) (.seq (.seq (.region a54r4 [12]) (.cond (.t 12) (.seq (.region a54r5 [4]) .ret) .skip)) (.seq (.region a54r6 [4]) .ret)) .skip)) (.seq (.seq (.region a54r7 [0, 1, 13]) (.cond (.t 13) (.seq (.region a54r8 [4]) .ret) .skip)) (.seq (.seq (.region a54r9 [0, 1, 16]) (.cond (.t 16) (.seq (.region a54r10 [4]) .ret) .skip)) (.seq (.seq (.region a54r11 [19]) (.cond (.t 19) (.seq (.region a54r12 [4]) .ret) .skip)) (.seq (.region a54r13 [4]) .ret))))))))⟩
theorem a54_ok : compileF Try.prog (lk [(0, ⟨[0, 1], [], []⟩), (1, ⟨[0, 1, 5], [], []⟩), (2, ⟨[0, 1, 5, 6], [], []⟩), (3, ⟨[0, 1, 6, 11], [], []⟩), (4, ⟨[12], [], []⟩), (5, ⟨[4], [], []⟩), (6, ⟨[4], [], []⟩), (7, ⟨[0, 1, 13], [], []⟩), (8, ⟨[4], [], []⟩), (9, ⟨[0, 1, 16], [], []⟩), (10, ⟨[4], [], []⟩), (11, ⟨[19], [], []⟩), (12, ⟨[4], [], []⟩), (13, ⟨[4], [], []⟩)]) Try.f54 = some a54 := by kernel_rfl

/- payroll/inbox.Effective$1 -/
def a63r0 : List IOp := [⟨some 2, .box 77 4, [.t 0], none⟩,
  ⟨some 3, .box 77 4, [.t 1], none⟩,
  ⟨some 4, .mv, [.c (.int .i64 0)], none⟩]
def a63r1 : List (Nat × DOp) := [(0, ⟨⟨some 5, .fieldAddr 0, [.t 2], none⟩, none, [2, 3, 5, 6, 7, 8]⟩),
  (1, ⟨⟨some 6, .load1, [.t 5], none⟩, none, [2, 3, 5, 6, 7, 8]⟩),
  (2, ⟨⟨some 7, .fieldAddr 0, [.t 3], none⟩, none, [0, 1, 5, 6, 7, 8]⟩),
  (3, ⟨⟨some 8, .load1, [.t 7], none⟩, none, [0, 1, 5, 6, 7, 8]⟩),
  (5, ⟨⟨some 10, .fieldAddr 2, [.t 2], none⟩, none, [0, 1, 2, 3, 4, 7, 8]⟩),
  (6, ⟨⟨some 11, .loadA 2, [.t 10], none⟩, none, [0, 1, 2, 3, 4, 7, 8]⟩),
  (7, ⟨⟨some 12, .fieldAddr 2, [.t 3], none⟩, none, [0, 1, 2, 3, 4, 5, 6]⟩),
  (8, ⟨⟨some 13, .loadA 2, [.t 12], none⟩, none, [0, 1, 2, 3, 4, 5, 6]⟩),
  (4, ⟨⟨some 9, .call 54, [.t 6, .t 8], none⟩, none, [5, 6, 7, 8]⟩),
  (9, ⟨⟨some 14, .call 53, [.t 11, .t 13], none⟩, none, []⟩),
  (10, ⟨⟨some 15, .bslice 3 1 [.int .i64 0] 2 [0, 1], [.t 9, .t 14], none⟩, some 0, []⟩),
  (11, ⟨⟨some 16, .call 52, [.t 15], none⟩, none, []⟩),
  (12, ⟨⟨some 4, .mv, [.t 16], none⟩, none, []⟩)]
def a63 : AFunc := ⟨17, [.tmp 4], (.seq (.region a63r0 [2, 3]) (.seq (.draw a63r1 [(3, 1)] [4]) .ret))⟩
theorem a63_ok : compileF Try.prog (lk [(0, ⟨[2, 3], [], []⟩), (1, ⟨[4], [[], [0], [], [2], [1, 3, 0, 2], [], [5], [], [7], [6, 8, 4, 5, 7, 1, 3, 0, 2], [4, 9, 1, 3, 0, 2, 6, 8, 5, 7], [10, 9, 4, 1, 3, 0, 2, 6, 8, 5, 7], [11, 0, 1, 2, 3, 4, 5, 6, 7, 8, 9, 10]], [0, 1, 2, 3, 5, 6, 7, 8, 4, 9, 10, 11, 12]⟩)]) Try.f63 = some a63 := by kernel_rfl

/- payroll/overtime.spans$1 -/
def a67r0 : List IOp := [⟨some 2, .box 96 3, [.t 0], none⟩,
  ⟨some 3, .box 96 3, [.t 1], none⟩,
  ⟨some 4, .mv, [.c (.int .i64 0)], none⟩]
def a67r1 : List IOp := [⟨some 5, .fieldAddr 1, [.t 2], none⟩,
  ⟨some 6, .fieldAddr 0, [.t 5], none⟩,
  ⟨some 7, .load1, [.t 6], none⟩,
  ⟨some 8, .fieldAddr 1, [.t 3], none⟩,
  ⟨some 9, .fieldAddr 0, [.t 8], none⟩,
  ⟨some 10, .load1, [.t 9], none⟩,
  ⟨some 11, .call 54, [.t 7, .t 10], none⟩,
  ⟨some 4, .mv, [.t 11], none⟩]
def a67 : AFunc := ⟨12, [.tmp 4], (.seq (.region a67r0 [2, 3]) (.seq (.region a67r1 [4]) .ret))⟩
theorem a67_ok : compileF Try.prog (lk [(0, ⟨[2, 3], [], []⟩), (1, ⟨[4], [], []⟩)]) Try.f67 = some a67 := by kernel_rfl

/- cmp.isNaN[int] -/
def a71r0 : List IOp := [⟨some 2, .mv, [.c (.bool false)], none⟩]
def a71r1 : List IOp := [⟨some 3, .mv, [.t 0], none⟩,
  ⟨some 4, .mv, [.t 0], none⟩,
  ⟨some 5, .bin .neq, [.t 3, .t 4], none⟩,
  ⟨some 2, .mv, [.t 5], none⟩]
def a71 : AFunc := ⟨6, [.tmp 2], (.seq (.region a71r0 [0]) (.seq (.region a71r1 [2]) .ret))⟩
theorem a71_ok : compileF Try.prog (lk [(0, ⟨[0], [], []⟩), (1, ⟨[2], [], []⟩)]) Try.f71 = some a71 := by kernel_rfl

end Go.Proofs.Ytodbafiepdcfbaa
