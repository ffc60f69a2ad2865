/- The abstract forms of the functions, printed by a program, and that the given program has these forms. -/
import Derived.Test.YtpmlihjdegekgaaDoorAbsMd
import Derived.Test.YtpmlihjdegekgaaDoorProg
import Derived.KernelRfl
set_option linter.unusedSimpArgs false
set_option linter.unusedVariables false
set_option linter.unusedSectionVars false
namespace Go.Proofs.YtpmlihjdegekgaaDoor
open Go Go.Abs
/- payroll/payrolllaw3.CalendarDays -/
def a4r0 : List IOp := [⟨some 10, .mv, [.c (.bool false)], none⟩]
def a4r1 : List IOp := [⟨some 40, .mv, [.t 0], none⟩,
  ⟨some 41, .call 18, [.t 40], none⟩,
  ⟨some 11, .mv, [.t 41], none⟩]
def a4r2 : List IOp := [⟨some 12, .mv, [.c (.int .i64 0)], none⟩]
def a4r3 : List IOp := [⟨some 42, .mv, [.t 12], none⟩,
  ⟨some 43, .bin .lss, [.t 42, .c (.int .i64 4)], none⟩]
def a4r4 : List IOp := [⟨some 46, .mv, [.t 11], none⟩,
  ⟨some 47, .call 19, [.t 46, .c (.int .i64 232)], none⟩,
  ⟨some 48, .bin .add, [.c (.int .i64 1970), .t 47], none⟩,
  ⟨some 49, .bin .sub, [.t 48, .c (.int .i64 1)], none⟩,
  ⟨some 50, .mv, [.t 11], none⟩,
  ⟨some 51, .call 19, [.t 50, .c (.int .i64 14)], none⟩,
  ⟨some 52, .mv, [.t 11], none⟩,
  ⟨some 53, .call 19, [.t 52, .c (.int .i64 33)], none⟩,
  ⟨some 13, .mv, [.t 49], none⟩,
  ⟨some 14, .mv, [.t 51], none⟩,
  ⟨some 15, .mv, [.t 53], none⟩]
def a4r5 : List IOp := [⟨some 54, .mv, [.t 11], none⟩,
  ⟨some 55, .call 20, [.t 54], none⟩,
  ⟨some 56, .mv, [.t 11], none⟩,
  ⟨some 57, .mv, [.t 4], none⟩,
  ⟨some 58, .mv, [.t 11], none⟩,
  ⟨some 59, .call 19, [.t 58, .c (.int .i64 60)], none⟩,
  ⟨some 60, .bin .sub, [.t 59, .c (.int .i64 30)], none⟩,
  ⟨some 61, .mv, [.t 11], none⟩,
  ⟨some 62, .call 19, [.t 61, .c (.int .i64 6000)], none⟩,
  ⟨some 63, .bin .sub, [.t 62, .c (.int .i64 3000)], none⟩,
  ⟨some 64, .bslice 3 1 [.int .i64 0] 3 [0, 1, 2], [.t 57, .t 60, .t 63], none⟩,
  ⟨some 65, .call 21, [.t 56, .t 64], none⟩,
  ⟨some 16, .mv, [.t 55], none⟩,
  ⟨some 17, .mv, [.t 65], none⟩]
def a4r6 : List IOp := [⟨some 66, .mv, [.t 12], none⟩,
  ⟨some 67, .bin .eql, [.t 66, .c (.int .i64 3)], none⟩]
def a4r7 : List IOp := [⟨some 68, .mv, [.t 1], none⟩,
  ⟨some 69, .mv, [.t 2], none⟩,
  ⟨some 70, .mv, [.t 3], none⟩,
  ⟨some 71, .mv, [.t 4], none⟩,
  ⟨some 13, .mv, [.t 68], none⟩,
  ⟨some 14, .mv, [.t 69], none⟩,
  ⟨some 15, .mv, [.t 70], none⟩,
  ⟨some 16, .mv, [.t 71], none⟩]
def a4r8 : List IOp := [⟨some 73, .mv, [.t 13], none⟩,
  ⟨some 74, .mv, [.t 14], none⟩,
  ⟨some 75, .mv, [.t 15], none⟩,
  ⟨some 76, .call 22, [.t 73, .t 74, .t 75], none⟩,
  ⟨some 72, .mv, [.t 76], none⟩,
  ⟨some 77, .extract 0, [.t 72], none⟩,
  ⟨some 78, .extract 1, [.t 72], none⟩,
  ⟨some 18, .mv, [.t 77], none⟩,
  ⟨some 19, .mv, [.t 78], none⟩]
def a4r9 : List IOp := [⟨some 80, .mv, [.t 13], none⟩,
  ⟨some 81, .mv, [.t 14], none⟩,
  ⟨some 82, .mv, [.t 15], none⟩,
  ⟨some 83, .call 23, [.t 80, .t 81, .t 82], none⟩,
  ⟨some 79, .mv, [.t 83], none⟩,
  ⟨some 84, .extract 0, [.t 79], none⟩,
  ⟨some 85, .extract 1, [.t 79], none⟩,
  ⟨some 20, .mv, [.t 84], none⟩,
  ⟨some 21, .mv, [.t 85], none⟩]
def a4r10 : List IOp := [⟨some 87, .mv, [.t 16], none⟩,
  ⟨some 88, .call 24, [.t 87], none⟩,
  ⟨some 86, .mv, [.t 88], none⟩,
  ⟨some 89, .extract 0, [.t 86], none⟩,
  ⟨some 90, .extract 1, [.t 86], none⟩,
  ⟨some 91, .extract 2, [.t 86], none⟩,
  ⟨some 92, .extract 3, [.t 86], none⟩,
  ⟨some 22, .mv, [.t 89], none⟩,
  ⟨some 23, .mv, [.t 90], none⟩,
  ⟨some 24, .mv, [.t 91], none⟩,
  ⟨some 25, .mv, [.t 92], none⟩]
def a4r11 : List IOp := [⟨some 94, .mv, [.t 16], none⟩,
  ⟨some 95, .call 25, [.t 94], none⟩,
  ⟨some 93, .mv, [.t 95], none⟩,
  ⟨some 96, .extract 0, [.t 93], none⟩,
  ⟨some 97, .extract 1, [.t 93], none⟩,
  ⟨some 98, .extract 2, [.t 93], none⟩,
  ⟨some 99, .extract 3, [.t 93], none⟩,
  ⟨some 26, .mv, [.t 96], none⟩,
  ⟨some 27, .mv, [.t 97], none⟩,
  ⟨some 28, .mv, [.t 98], none⟩,
  ⟨some 29, .mv, [.t 99], none⟩]
def a4r12 : List IOp := [⟨some 101, .mv, [.t 16], none⟩,
  ⟨some 102, .call 26, [.t 101], none⟩,
  ⟨some 100, .mv, [.t 102], none⟩,
  ⟨some 103, .extract 0, [.t 100], none⟩,
  ⟨some 104, .extract 1, [.t 100], none⟩,
  ⟨some 105, .extract 2, [.t 100], none⟩,
  ⟨some 30, .mv, [.t 103], none⟩,
  ⟨some 31, .mv, [.t 104], none⟩,
  ⟨some 32, .mv, [.t 105], none⟩]
def a4r13 : List IOp := [⟨some 107, .mv, [.t 16], none⟩,
  ⟨some 108, .call 27, [.t 107], none⟩,
  ⟨some 106, .mv, [.t 108], none⟩,
  ⟨some 109, .extract 0, [.t 106], none⟩,
  ⟨some 110, .extract 1, [.t 106], none⟩,
  ⟨some 111, .extract 2, [.t 106], none⟩,
  ⟨some 33, .mv, [.t 109], none⟩,
  ⟨some 34, .mv, [.t 110], none⟩,
  ⟨some 35, .mv, [.t 111], none⟩]
def a4r14 : List IOp := [⟨some 113, .mv, [.t 16], none⟩,
  ⟨some 114, .mv, [.t 17], none⟩,
  ⟨some 115, .call 28, [.t 113, .t 114], none⟩,
  ⟨some 112, .mv, [.t 115], none⟩,
  ⟨some 116, .extract 0, [.t 112], none⟩,
  ⟨some 117, .extract 1, [.t 112], none⟩,
  ⟨some 36, .mv, [.t 116], none⟩,
  ⟨some 37, .mv, [.t 117], none⟩]
def a4r15 : List IOp := [⟨some 119, .mv, [.t 16], none⟩,
  ⟨some 120, .mv, [.t 17], none⟩,
  ⟨some 121, .call 29, [.t 119, .t 120], none⟩,
  ⟨some 118, .mv, [.t 121], none⟩,
  ⟨some 122, .extract 0, [.t 118], none⟩,
  ⟨some 123, .extract 1, [.t 118], none⟩,
  ⟨some 38, .mv, [.t 122], none⟩,
  ⟨some 39, .mv, [.t 123], none⟩]
def a4r16 : List IOp := [⟨some 124, .mv, [.t 18], none⟩,
  ⟨some 125, .mv, [.t 20], none⟩,
  ⟨some 126, .bin .neq, [.t 124, .t 125], none⟩,
  ⟨some 127, .mv, [.t 126], none⟩,
  ⟨some 128, .mv, [.t 19], some (127, false)⟩,
  ⟨some 129, .mv, [.t 21], some (127, false)⟩,
  ⟨some 130, .eqB true, [.t 128, .t 129], some (127, false)⟩,
  ⟨some 131, .pick, [.t 127, .c (.bool true), .t 130], none⟩,
  ⟨some 132, .mv, [.t 131], none⟩,
  ⟨some 133, .mv, [.t 22], some (132, false)⟩,
  ⟨some 134, .mv, [.t 26], some (132, false)⟩,
  ⟨some 135, .bin .neq, [.t 133, .t 134], some (132, false)⟩,
  ⟨some 136, .pick, [.t 132, .c (.bool true), .t 135], none⟩,
  ⟨some 137, .mv, [.t 136], none⟩,
  ⟨some 138, .mv, [.t 23], some (137, false)⟩,
  ⟨some 139, .mv, [.t 27], some (137, false)⟩,
  ⟨some 140, .bin .neq, [.t 138, .t 139], some (137, false)⟩,
  ⟨some 141, .pick, [.t 137, .c (.bool true), .t 140], none⟩,
  ⟨some 142, .mv, [.t 141], none⟩,
  ⟨some 143, .mv, [.t 24], some (142, false)⟩,
  ⟨some 144, .mv, [.t 28], some (142, false)⟩,
  ⟨some 145, .bin .neq, [.t 143, .t 144], some (142, false)⟩,
  ⟨some 146, .pick, [.t 142, .c (.bool true), .t 145], none⟩,
  ⟨some 147, .mv, [.t 146], none⟩,
  ⟨some 148, .mv, [.t 25], some (147, false)⟩,
  ⟨some 149, .mv, [.t 29], some (147, false)⟩,
  ⟨some 150, .eqB true, [.t 148, .t 149], some (147, false)⟩,
  ⟨some 151, .pick, [.t 147, .c (.bool true), .t 150], none⟩,
  ⟨some 152, .mv, [.t 151], none⟩,
  ⟨some 153, .mv, [.t 30], some (152, false)⟩,
  ⟨some 154, .mv, [.t 33], some (152, false)⟩,
  ⟨some 155, .bin .neq, [.t 153, .t 154], some (152, false)⟩,
  ⟨some 156, .pick, [.t 152, .c (.bool true), .t 155], none⟩,
  ⟨some 157, .mv, [.t 156], none⟩,
  ⟨some 158, .mv, [.t 31], some (157, false)⟩,
  ⟨some 159, .mv, [.t 34], some (157, false)⟩,
  ⟨some 160, .bin .neq, [.t 158, .t 159], some (157, false)⟩,
  ⟨some 161, .pick, [.t 157, .c (.bool true), .t 160], none⟩,
  ⟨some 162, .mv, [.t 161], none⟩,
  ⟨some 163, .mv, [.t 32], some (162, false)⟩,
  ⟨some 164, .mv, [.t 35], some (162, false)⟩,
  ⟨some 165, .eqB true, [.t 163, .t 164], some (162, false)⟩,
  ⟨some 166, .pick, [.t 162, .c (.bool true), .t 165], none⟩,
  ⟨some 167, .mv, [.t 166], none⟩,
  ⟨some 168, .mv, [.t 36], some (167, false)⟩,
  ⟨some 169, .mv, [.t 38], some (167, false)⟩,
  ⟨some 170, .bin .neq, [.t 168, .t 169], some (167, false)⟩,
  ⟨some 171, .pick, [.t 167, .c (.bool true), .t 170], none⟩,
  ⟨some 172, .mv, [.t 171], none⟩,
  ⟨some 173, .mv, [.t 37], some (172, false)⟩,
  ⟨some 174, .mv, [.t 39], some (172, false)⟩,
  ⟨some 175, .eqB true, [.t 173, .t 174], some (172, false)⟩,
  ⟨some 176, .pick, [.t 172, .c (.bool true), .t 175], none⟩,
  ⟨some 177, .mv, [.t 176], none⟩,
  ⟨some 178, .mv, [.t 16], some (177, false)⟩,
  ⟨some 179, .call 30, [.t 178], some (177, false)⟩,
  ⟨some 180, .mv, [.t 16], some (177, false)⟩,
  ⟨some 181, .call 31, [.t 180], some (177, false)⟩,
  ⟨some 182, .bin .neq, [.t 179, .t 181], some (177, false)⟩,
  ⟨some 183, .pick, [.t 177, .c (.bool true), .t 182], none⟩,
  ⟨some 184, .mv, [.t 183], none⟩,
  ⟨some 185, .mv, [.t 16], some (184, false)⟩,
  ⟨some 186, .call 32, [.t 185], some (184, false)⟩,
  ⟨some 187, .mv, [.t 16], some (184, false)⟩,
  ⟨some 188, .call 33, [.t 187], some (184, false)⟩,
  ⟨some 189, .bin .neq, [.t 186, .t 188], some (184, false)⟩,
  ⟨some 190, .pick, [.t 184, .c (.bool true), .t 189], none⟩]
def a4r17 : List IOp := [⟨some 10, .mv, [.c (.bool false)], none⟩]
def a4r18 : List IOp := [⟨some 44, .mv, [.t 12], none⟩,
  ⟨some 45, .bin .add, [.t 44, .c (.int .i64 1)], none⟩,
  ⟨some 12, .mv, [.t 45], none⟩]
def a4r19 : List IOp := [⟨some 191, .call 17, [], none⟩,
  ⟨some 10, .mv, [.t 191], none⟩]
def a4 : AFunc := ⟨192, [.tmp 10], (.seq (.region a4r0 [0, 1, 2, 3, 4]) (.seq (.region a4r1 [1, 2, 3, 4, 11]) (.seq (.seq (.region a4r2 [1, 2, 3, 4, 11, 12]) (.block 0 (.loop (.seq (.seq (.region a4r3 [1, 2, 3, 4, 11, 12, 43]) (.cond (.t 43) .skip (.exit 0))) (.seq (.block 1 (.seq (.region a4r4 [1, 2, 3, 4, 11, 12, 13, 14, 15]) (.seq (.region a4r5 [1, 2, 3, 4, 11, 12, 13, 14, 15, 16, 17]) (.seq (.seq (.region a4r6 [1, 2, 3, 4, 11, 12, 13, 14, 15, 16, 17, 67]) (.cond (.t 67) (.region a4r7 [1, 2, 3, 4, 11, 12, 13, 14, 15, 16, 17]) .skip)) (.seq (.region a4r8 [1, 2, 3, 4, 11, 12, 13, 14, 15, 16, 17, 18, 19]) (.seq (.region a4r9 [1, 2, 3, 4, 11, 12, 16, 17, 18, 19, 20, 21]) (.seq (.region a4r10 [1, 2, 3, 4, 11, 12, 16, 17, 18, 19, 20, 21, 22, 23, 24, 25]) (.seq (.region a4r11 [1, 2, 3, 4, 11, 12, 16, 17, 18, 19, 20, 21, 22, 23, 24, 25, 26, 27, 28, 29]) (.seq (.region a4r12 [1, 2, 3, 4, 11, 12, 16, 17, 18, 19, 20, 21, 22, 23, 24, 25, 26, 27, 28, 29, 30, 31, 32]) (.seq (.region a4r13 [1, 2, 3, 4, 11, 12, 16, 17, 18, 19, 20, 21, 22, 23, 24, 25, 26, 27, 28, 29, 30, 31, 32, 33, 34, 35]) (.seq (.region a4r14 [1, 2, 3, 4, 11, 12, 16, 17, 18, 19, 20, 21, 22, 23, 24, 25, 26, 27, 28, 29, 30, 31, 32, 33, 34, 35, 36, 37]) (.seq (.region a4r15 [1, 2, 3, 4, 11, 12, 16, 18, 19, 20, 21, 22, 23, 24, 25, 26, 27, 28, 29, 30, 31, 32, 33, 34, 35, 36, 37, 38, 39]) (.seq (.region a4r16 [1, 2, 3, 4, 11, 12, 190]) (.cond (.t 190) (.seq (.region a4r17 [10]) .ret) .skip)))))))))))))) (.region a4r18 [1, 2, 3, 4, 11, 12])))))) (.seq (.region a4r19 [10]) .ret))))⟩
theorem a4_ok : compileF Tryd.prog (lk [(0, ⟨[0, 1, 2, 3, 4], [], []⟩), (1, ⟨[1, 2, 3, 4, 11], [], []⟩), (2, ⟨[1, 2, 3, 4, 11, 12], [], []⟩), (3, ⟨[1, 2, 3, 4, 11, 12, 43], [], []⟩), (4, ⟨[1, 2, 3, 4, 11, 12], [], []⟩), (5, ⟨[1, 2, 3, 4, 11, 12, 13, 14, 15], [], []⟩), (6, ⟨[1, 2, 3, 4, 11, 12, 13, 14, 15, 16, 17], [], []⟩), (7, ⟨[1, 2, 3, 4, 11, 12, 13, 14, 15, 16, 17, 67], [], []⟩), (8, ⟨[1, 2, 3, 4, 11, 12, 13, 14, 15, 16, 17], [], []⟩), (9, ⟨[1, 2, 3, 4, 11, 12, 13, 14, 15, 16, 17, 18, 19], [], []⟩), (10, ⟨[1, 2, 3, 4, 11, 12, 16, 17, 18, 19, 20, 21], [], []⟩), (11, ⟨[1, 2, 3, 4, 11, 12, 16, 17, 18, 19, 20, 21, 22, 23, 24, 25], [], []⟩), (12, ⟨[1, 2, 3, 4, 11, 12, 16, 17, 18, 19, 20, 21, 22, 23, 24, 25, 26, 27, 28, 29], [], []⟩), (13, ⟨[1, 2, 3, 4, 11, 12, 16, 17, 18, 19, 20, 21, 22, 23, 24, 25, 26, 27, 28, 29, 30, 31, 32], [], []⟩), (14, ⟨[1, 2, 3, 4, 11, 12, 16, 17, 18, 19, 20, 21, 22, 23, 24, 25, 26, 27, 28, 29, 30, 31, 32, 33, 34, 35], [], []⟩), (15, ⟨[1, 2, 3, 4, 11, 12, 16, 17, 18, 19, 20, 21, 22, 23, 24, 25, 26, 27, 28, 29, 30, 31, 32, 33, 34, 35, 36, 37], [], []⟩), (16, ⟨[1, 2, 3, 4, 11, 12, 16, 18, 19, 20, 21, 22, 23, 24, 25, 26, 27, 28, 29, 30, 31, 32, 33, 34, 35, 36, 37, 38, 39], [], []⟩), (17, ⟨[1, 2, 3, 4, 11, 12, 190], [], []⟩), (18, ⟨[10], [], []⟩), (19, ⟨[10], [], []⟩)]) Tryd.f4 = some a4 := by kernel_rfl

/- payroll/payrollgen.New -/
def a18r0 : List IOp := [⟨some 2, .mv, [.c (.nilp)], none⟩]
def a18r1 : List IOp := [⟨some 3, .mv, [.t 0], none⟩,
  ⟨some 4, .build [.nils, .int .i64 0] [(0, 1)], [.t 3], none⟩,
  ⟨some 5, .box 62 2, [.t 4], none⟩,
  ⟨some 2, .mv, [.t 5], none⟩]
def a18 : AFunc := ⟨6, [.tmp 2], (.seq (.region a18r0 [0]) (.seq (.region a18r1 [2]) .ret))⟩
theorem a18_ok : compileF Tryd.prog (lk [(0, ⟨[0], [], []⟩), (1, ⟨[2], [], []⟩)]) Tryd.f18 = some a18 := by kernel_rfl

/- (*payroll/payrollgen.Tape).Next -/
def a19r0 : List IOp := [⟨some 4, .mv, [.c (.int .i64 0)], none⟩]
def a19r1 : List (Nat × DOp) := [(0, ⟨⟨some 5, .mv, [.t 1], none⟩, none, []⟩),
  (1, ⟨⟨some 6, .bin .lss, [.t 5, .c (.int .i64 1)], none⟩, none, []⟩),
  (2, ⟨⟨some 7, .mv, [.t 6], none⟩, none, []⟩),
  (3, ⟨⟨some 8, .mv, [.t 0], some (7, false)⟩, none, [7, 8, 9, 10, 11]⟩),
  (4, ⟨⟨some 9, .nilchk, [.t 8], some (7, false)⟩, none, [7, 8, 9, 10, 11]⟩),
  (5, ⟨⟨some 10, .fieldAddr 1, [.t 9], some (7, false)⟩, none, [7, 8, 9, 10, 11]⟩),
  (6, ⟨⟨some 11, .load1, [.t 10], some (7, false)⟩, none, [7, 8, 9, 10, 11]⟩),
  (7, ⟨⟨some 12, .mv, [.t 0], some (7, false)⟩, none, [3, 4, 5, 6]⟩),
  (8, ⟨⟨some 13, .nilchk, [.t 12], some (7, false)⟩, none, [3, 4, 5, 6]⟩),
  (9, ⟨⟨some 14, .fieldAddr 0, [.t 13], some (7, false)⟩, none, [3, 4, 5, 6]⟩),
  (10, ⟨⟨some 15, .load1, [.t 14], some (7, false)⟩, none, [3, 4, 5, 6]⟩),
  (11, ⟨⟨some 16, .len, [.t 15], some (7, false)⟩, none, [3, 4, 5, 6]⟩),
  (12, ⟨⟨some 17, .bin .geq, [.t 11, .t 16], some (7, false)⟩, none, []⟩),
  (13, ⟨⟨some 18, .pick, [.t 7, .c (.bool true), .t 17], none⟩, none, []⟩)]
def a19r2 : List IOp := [⟨some 4, .mv, [.c (.int .i64 0)], none⟩]
def a19r3 : List IOp := [⟨some 19, .mv, [.t 0], none⟩,
  ⟨some 20, .nilchk, [.t 19], none⟩,
  ⟨some 21, .fieldAddr 1, [.t 20], none⟩,
  ⟨some 22, .load1, [.t 21], none⟩,
  ⟨some 23, .bin .add, [.t 22, .c (.int .i64 1)], none⟩,
  ⟨some 24, .nilchk, [.t 19], none⟩,
  ⟨some 25, .fieldAddr 1, [.t 24], none⟩,
  ⟨none, .store 1, [.t 25, .t 23], none⟩]
def a19r4 : List (Nat × DOp) := [(0, ⟨⟨some 26, .mv, [.t 0], none⟩, none, [4, 5, 6, 7, 8, 11]⟩),
  (1, ⟨⟨some 27, .nilchk, [.t 26], none⟩, none, [4, 5, 6, 7, 8, 11]⟩),
  (2, ⟨⟨some 28, .fieldAddr 0, [.t 27], none⟩, none, [4, 5, 6, 7, 8, 11]⟩),
  (3, ⟨⟨some 29, .load1, [.t 28], none⟩, none, [4, 5, 6, 7, 8, 11]⟩),
  (4, ⟨⟨some 30, .mv, [.t 0], none⟩, none, [0, 1, 2, 3, 11]⟩),
  (5, ⟨⟨some 31, .nilchk, [.t 30], none⟩, none, [0, 1, 2, 3, 11]⟩),
  (6, ⟨⟨some 32, .fieldAddr 1, [.t 31], none⟩, none, [0, 1, 2, 3, 11]⟩),
  (7, ⟨⟨some 33, .load1, [.t 32], none⟩, none, [0, 1, 2, 3, 11]⟩),
  (8, ⟨⟨some 34, .bin .sub, [.t 33, .c (.int .i64 1)], none⟩, none, [0, 1, 2, 3, 11]⟩),
  (9, ⟨⟨some 35, .indexAddr 1, [.t 29, .t 34], none⟩, none, [11]⟩),
  (10, ⟨⟨some 36, .load1, [.t 35], none⟩, none, [11]⟩),
  (11, ⟨⟨some 37, .mv, [.t 1], none⟩, none, [0, 1, 2, 3, 4, 5, 6, 7, 8, 9, 10]⟩),
  (12, ⟨⟨some 38, .call 12, [.t 36, .t 37], none⟩, none, []⟩),
  (13, ⟨⟨some 4, .mv, [.t 38], none⟩, none, []⟩)]
def a19 : AFunc := ⟨39, [.tmp 4], (.seq (.region a19r0 [0, 1]) (.seq (.seq (.draw a19r1 [] [0, 1, 18]) (.cond (.t 18) (.seq (.region a19r2 [4]) .ret) .skip)) (.seq (.region a19r3 [0, 1]) (.seq (.draw a19r4 [] [4]) .ret))))⟩
theorem a19_ok : compileF Tryd.prog (lk [(0, ⟨[0, 1], [], []⟩), (1, ⟨[0, 1, 18], [[], [0], [1, 0], [2, 1, 0], [3, 2, 1, 0], [4, 2, 3, 1, 0], [5, 2, 4, 3, 1, 0], [2, 1, 0], [7, 2, 1, 0], [8, 2, 7, 1, 0], [9, 2, 8, 7, 1, 0], [10, 2, 9, 8, 7, 1, 0], [6, 11, 2, 5, 4, 3, 1, 0, 10, 9, 8, 7], [2, 12, 1, 0, 6, 11, 5, 4, 3, 10, 9, 8, 7]], [0, 1, 2, 3, 4, 5, 6, 7, 8, 9, 10, 11, 12, 13]⟩), (2, ⟨[4], [], []⟩), (3, ⟨[0, 1], [], []⟩), (4, ⟨[4], [[], [0], [1, 0], [2, 1, 0], [], [4], [5, 4], [6, 5, 4], [7, 6, 5, 4], [3, 8, 2, 1, 0, 7, 6, 5, 4], [9, 3, 8, 2, 1, 0, 7, 6, 5, 4], [], [10, 11, 9, 3, 8, 2, 1, 0, 7, 6, 5, 4], [12, 0, 1, 2, 3, 4, 5, 6, 7, 8, 9, 10, 11]], [0, 1, 2, 3, 4, 5, 6, 7, 8, 9, 10, 11, 12, 13]⟩)]) Tryd.f19 = some a19 := by kernel_rfl

/- (*payroll/payrollgen.Tape).Day -/
def a20r0 : List IOp := [⟨some 2, .mv, [.c (.int .i64 0)], none⟩]
def a20r1 : List IOp := [⟨some 3, .mv, [.t 0], none⟩,
  ⟨some 4, .mv, [.t 0], none⟩,
  ⟨some 5, .call 19, [.t 4, .c (.int .i64 40)], none⟩,
  ⟨some 6, .bin .add, [.c (.int .i64 20454), .t 5], none⟩,
  ⟨some 7, .mv, [.t 0], none⟩,
  ⟨some 8, .call 19, [.t 7, .c (.int .i64 730)], none⟩,
  ⟨some 9, .bin .add, [.c (.int .i64 20454), .t 8], none⟩,
  ⟨some 10, .mv, [.t 0], none⟩,
  ⟨some 11, .call 19, [.t 10, .c (.int .i64 3)], none⟩,
  ⟨some 12, .bin .add, [.c (.int .i64 20485), .t 11], none⟩,
  ⟨some 13, .bin .sub, [.t 12, .c (.int .i64 1)], none⟩,
  ⟨some 14, .mv, [.t 0], none⟩,
  ⟨some 15, .call 19, [.t 14, .c (.int .i64 84006)], none⟩,
  ⟨some 16, .bslice 3 1 [.int .i64 0] 6 [0, 1, 2, 3, 4, 5], [.t 6, .t 9, .t 13, .t 15, .c (.int .i64 0), .c (.int .i64 84005)], none⟩,
  ⟨some 17, .call 21, [.t 3, .t 16], none⟩,
  ⟨some 2, .mv, [.t 17], none⟩]
def a20 : AFunc := ⟨18, [.tmp 2], (.seq (.region a20r0 [0]) (.seq (.region a20r1 [2]) .ret))⟩
theorem a20_ok : compileF Tryd.prog (lk [(0, ⟨[0], [], []⟩), (1, ⟨[2], [], []⟩)]) Tryd.f20 = some a20 := by kernel_rfl

/- (*payroll/payrollgen.Tape).Pick -/
def a21r0 : List IOp := [⟨some 4, .mv, [.c (.int .i64 0)], none⟩]
def a21r1 : List IOp := [⟨some 5, .mv, [.t 1], none⟩,
  ⟨some 6, .mv, [.t 0], none⟩,
  ⟨some 7, .mv, [.t 1], none⟩,
  ⟨some 8, .len, [.t 7], none⟩,
  ⟨some 9, .call 19, [.t 6, .t 8], none⟩,
  ⟨some 10, .indexAddr 1, [.t 5, .t 9], none⟩,
  ⟨some 11, .load1, [.t 10], none⟩,
  ⟨some 4, .mv, [.t 11], none⟩]
def a21 : AFunc := ⟨12, [.tmp 4], (.seq (.region a21r0 [0, 1]) (.seq (.region a21r1 [4]) .ret))⟩
theorem a21_ok : compileF Tryd.prog (lk [(0, ⟨[0, 1], [], []⟩), (1, ⟨[4], [], []⟩)]) Tryd.f21 = some a21 := by kernel_rfl

end Go.Proofs.YtpmlihjdegekgaaDoor
