/- The abstract forms of the functions, printed by a program, and that the given program has these forms. -/
import Derived.Test.YtpmlihjdegekgaaDoorAbsMd
import Derived.Test.YtpmlihjdegekgaaDoorProg
import Derived.KernelRfl
set_option linter.unusedSimpArgs false
set_option linter.unusedVariables false
set_option linter.unusedSectionVars false
namespace Go.Proofs.YtpmlihjdegekgaaDoor
open Go Go.Abs
/- payroll/payrolllaw3.CalendarLimits -/
def a3r0 : List IOp := [⟨some 4, .mv, [.c (.bool false)], none⟩]
def a3r1 : List IOp := [⟨some 5, .mv, [.c (.nils)], none⟩]
def a3r2 : List IOp := [⟨some 12, .mv, [.t 0], none⟩,
  ⟨some 13, .call 12, [.t 12, .c (.int .i64 3)], none⟩,
  ⟨some 14, .bin .add, [.c (.int .i64 1023), .t 13], none⟩,
  ⟨some 6, .mv, [.t 14], none⟩]
def a3r3 : List IOp := [⟨some 15, .mv, [.t 6], none⟩,
  ⟨some 16, .bin .gtr, [.t 15, .c (.int .i64 0)], none⟩]
def a3r4 : List IOp := [⟨some 19, .mv, [.t 5], none⟩,
  ⟨some 20, .mv, [.t 6], none⟩,
  ⟨some 21, .bin .rem, [.t 20, .c (.int .i64 12)], none⟩,
  ⟨some 22, .bin .add, [.c (.int .i64 1), .t 21], none⟩,
  ⟨some 23, .mv, [.t 6], none⟩,
  ⟨some 24, .bin .rem, [.t 23, .c (.int .i64 28)], none⟩,
  ⟨some 25, .bin .add, [.c (.int .i64 1), .t 24], none⟩,
  ⟨some 26, .build [.int .i64 0, .int .i64 0, .int .i64 0, .int .i64 0, .int .i64 0, .bool false] [(0, 1), (1, 1), (2, 1)], [.c (.int .i64 0), .t 22, .t 25], none⟩,
  ⟨some 27, .bslice 25 6 [.int .i64 0, .int .i64 0, .int .i64 0, .int .i64 0, .int .i64 0, .bool false] 1 [0], [.t 26], none⟩,
  ⟨some 28, .append 25 6 48, [.t 19, .t 27], none⟩,
  ⟨some 5, .mv, [.t 28], none⟩]
def a3r5 : List IOp := [⟨some 17, .mv, [.t 6], none⟩,
  ⟨some 18, .bin .sub, [.t 17, .c (.int .i64 1)], none⟩,
  ⟨some 6, .mv, [.t 18], none⟩]
def a3r6 : List IOp := [⟨some 29, .mv, [.t 1], none⟩,
  ⟨some 30, .call 12, [.t 29, .c (.int .i64 230)], none⟩,
  ⟨some 31, .bin .add, [.c (.int .i64 1970), .t 30], none⟩,
  ⟨some 7, .mv, [.t 31], none⟩]
def a3r7 : List IOp := [⟨some 33, .mv, [.t 5], none⟩,
  ⟨some 34, .mv, [.t 7], none⟩,
  ⟨some 35, .call 13, [.t 33, .t 34], none⟩,
  ⟨some 32, .mv, [.t 35], none⟩,
  ⟨some 36, .extract 0, [.t 32], none⟩,
  ⟨some 37, .extract 1, [.t 32], none⟩,
  ⟨some 8, .mv, [.t 36], none⟩,
  ⟨some 9, .mv, [.t 37], none⟩]
def a3r8 : List IOp := [⟨some 39, .mv, [.t 5], none⟩,
  ⟨some 40, .mv, [.t 7], none⟩,
  ⟨some 41, .call 14, [.t 39, .t 40], none⟩,
  ⟨some 38, .mv, [.t 41], none⟩,
  ⟨some 42, .extract 0, [.t 38], none⟩,
  ⟨some 43, .extract 1, [.t 38], none⟩,
  ⟨some 10, .mv, [.t 42], none⟩,
  ⟨some 11, .mv, [.t 43], none⟩]
def a3r9 : List IOp := [⟨some 44, .mv, [.t 5], none⟩,
  ⟨some 45, .call 15, [.t 44], none⟩,
  ⟨some 46, .bin .eql, [.t 45, .c (.int .i64 0)], none⟩,
  ⟨some 47, .mv, [.t 5], none⟩,
  ⟨some 48, .len, [.t 47], none⟩,
  ⟨some 49, .bin .leq, [.t 48, .c (.int .i64 1024)], none⟩,
  ⟨some 50, .eqB false, [.t 46, .t 49], none⟩,
  ⟨some 51, .mv, [.t 50], none⟩,
  ⟨some 52, .mv, [.t 8], some (51, true)⟩,
  ⟨some 53, .mv, [.t 10], some (51, true)⟩,
  ⟨some 54, .call 16, [.t 52, .t 53], some (51, true)⟩,
  ⟨some 55, .pick, [.t 51, .t 54, .c (.bool false)], none⟩,
  ⟨some 56, .mv, [.t 55], none⟩,
  ⟨some 57, .mv, [.t 9], some (56, true)⟩,
  ⟨some 58, .mv, [.t 11], some (56, true)⟩,
  ⟨some 59, .bin .eql, [.t 57, .t 58], some (56, true)⟩,
  ⟨some 60, .pick, [.t 56, .t 59, .c (.bool false)], none⟩,
  ⟨some 61, .mv, [.t 60], none⟩,
  ⟨some 62, .call 17, [], some (61, true)⟩,
  ⟨some 63, .pick, [.t 61, .t 62, .c (.bool false)], none⟩,
  ⟨some 4, .mv, [.t 63], none⟩]
def a3 : AFunc := ⟨64, [.tmp 4], (.seq (.region a3r0 [0, 1]) (.seq (.region a3r1 [0, 1, 5]) (.seq (.seq (.region a3r2 [1, 5, 6]) (.block 0 (.loop (.seq (.seq (.region a3r3 [1, 5, 6, 16]) (.cond (.t 16) .skip (.exit 0))) (.seq (.block 1 (.region a3r4 [1, 5, 6])) (.region a3r5 [1, 5, 6])))))) (.seq (.region a3r6 [5, 7]) (.seq (.region a3r7 [5, 7, 8, 9]) (.seq (.region a3r8 [5, 8, 9, 10, 11]) (.seq (.region a3r9 [4]) .ret)))))))⟩
theorem a3_ok : compileF Tryd.prog (lk [(0, ⟨[0, 1], [], []⟩), (1, ⟨[0, 1, 5], [], []⟩), (2, ⟨[1, 5, 6], [], []⟩), (3, ⟨[1, 5, 6, 16], [], []⟩), (4, ⟨[1, 5, 6], [], []⟩), (5, ⟨[1, 5, 6], [], []⟩), (6, ⟨[5, 7], [], []⟩), (7, ⟨[5, 7, 8, 9], [], []⟩), (8, ⟨[5, 8, 9, 10, 11], [], []⟩), (9, ⟨[4], [], []⟩)]) Tryd.f3 = some a3 := by kernel_rfl

/- payroll/payrolllaw3.CalendarDays -/
def a4r0 : List IOp := [⟨some 10, .mv, [.c (.bool false)], none⟩]
def a4r1 : List IOp := [⟨some 40, .mv, [.t 0], none⟩,
  ⟨some 41, .call 18, [.t 40], none⟩,
  ⟨some 11, .mv, [.t 41], none⟩]
def a4r2 : List IOp := [⟨some 12, .mv, [.c (.int .i64 0)], none⟩]
def a4r3 : List IOp := [⟨some 42, .mv, [.t 12], none⟩,
  ⟨some 43, .bin .lss, [.t 42, .c (.int .i64 4)], none⟩]
def a4r4 : List IOp := [⟨some 46, .mv, [.t 11], none⟩,
  ⟨some 47, .call 19, [.t 46, .c (.int .i64 232)], none⟩,
  ⟨some 48, .bin .add, [.c (.int .i64 1970), .t 47], none⟩,
  ⟨some 49, .bin .sub, [.t 48, .c (.int .i64 1)], none⟩,
  ⟨some 50, .mv, [.t 11], none⟩,
  ⟨some 51, .call 19, [.t 50, .c (.int .i64 14)], none⟩,
  ⟨some 52, .mv, [.t 11], none⟩,
  ⟨some 53, .call 19, [.t 52, .c (.int .i64 33)], none⟩,
  ⟨some 13, .mv, [.t 49], none⟩,
  ⟨some 14, .mv, [.t 51], none⟩,
  ⟨some 15, .mv, [.t 53], none⟩]
def a4r5 : List IOp := [⟨some 54, .mv, [.t 11], none⟩,
  ⟨some 55, .call 20, [.t 54], none⟩,
  ⟨some 56, .mv, [.t 11], none⟩,
  ⟨some 57, .mv, [.t 4], none⟩,
  ⟨some 58, .mv, [.t 11], none⟩,
  ⟨some 59, .call 19, [.t 58, .c (.int .i64 60)], none⟩,
  ⟨some 60, .bin .sub, [.t 59, .c (.int .i64 30)], none⟩,
  ⟨some 61, .mv, [.t 11], none⟩,
  ⟨some 62, .call 19, [.t 61, .c (.int .i64 6000)], none⟩,
  ⟨some 63, .bin .sub, [.t 62, .c (.int .i64 3000)], none⟩,
  ⟨some 64, .bslice 3 1 [.int .i64 0] 3 [0, 1, 2], [.t 57, .t 60, .t 63], none⟩,
  ⟨some 65, .call 21, [.t 56, .t 64], none⟩,
  ⟨some 16, .mv, [.t 55], none⟩,
  ⟨some 17, .mv, [.t 65], none⟩]
def a4r6 : List IOp := [⟨some 66, .mv, [.t 12], none⟩,
  ⟨some 67, .bin .eql, [.t 66, .c (.int .i64 3)], none⟩]
def a4r7 : List IOp := [⟨some 68, .mv, [.t 1], none⟩,
  ⟨some 69, .mv, [.t 2], none⟩,
  ⟨some 70, .mv, [.t 3], none⟩,
  ⟨some 71, .mv, [.t 4], none⟩,
  ⟨some 13, .mv, [.t 68], none⟩,
  ⟨some 14, .mv, [.t 69], none⟩,
  ⟨some 15, .mv, [.t 70], none⟩,
  ⟨some 16, .mv, [.t 71], none⟩]
def a4r8 : List IOp := [⟨some 73, .mv, [.t 13], none⟩,
  ⟨some 74, .mv, [.t 14], none⟩,
  ⟨some 75, .mv, [.t 15], none⟩,
  ⟨some 76, .call 22, [.t 73, .t 74, .t 75], none⟩,
  ⟨some 72, .mv, [.t 76], none⟩,
  ⟨some 77, .extract 0, [.t 72], none⟩,
  ⟨some 78, .extract 1, [.t 72], none⟩,
  ⟨some 18, .mv, [.t 77], none⟩,
  ⟨some 19, .mv, [.t 78], none⟩]
def a4r9 : List IOp := [⟨some 80, .mv, [.t 13], none⟩,
  ⟨some 81, .mv, [.t 14], none⟩,
  ⟨some 82, .mv, [.t 15], none⟩,
  ⟨some 83, .call 23, [.t 80, .t 81, .t 82], none⟩,
  ⟨some 79, .mv, [.t 83], none⟩,
  ⟨some 84, .extract 0, [.t 79], none⟩,
  ⟨some 85, .extract 1, [.t 79], none⟩,
  ⟨some 20, .mv, [.t 84], none⟩,
  ⟨some 21, .mv, [.t 85], none⟩]
def a4r10 : List IOp := [⟨some 87, .mv, [.t 16], none⟩,
  ⟨some 88, .call 24, [.t 87], none⟩,
  ⟨some 86, .mv, [.t 88], none⟩,
  ⟨some 89, .extract 0, [.t 86], none⟩,
  ⟨some 90, .extract 1, [.t 86], none⟩,
  ⟨some 91, .extract 2, [.t 86], none⟩,
  ⟨some 92, .extract 3, [.t 86], none⟩,
  ⟨some 22, .mv, [.t 89], none⟩,
  ⟨some 23, .mv, [.t 90], none⟩,
  ⟨some 24, .mv, [.t 91], none⟩,
  ⟨some 25, .mv, [.t 92], none⟩]
def a4r11 : List IOp := [⟨some 94, .mv, [.t 16], none⟩,
  ⟨some 95, .call 25, [.t 94], none⟩,
  ⟨some 93, .mv, [.t 95], none⟩,
  ⟨some 96, .extract 0, [.t 93], none⟩,
  ⟨some 97, .extract 1, [.t 93], none⟩,
  ⟨some 98, .extract 2, [.t 93], none⟩,
  ⟨some 99, .extract 3, [.t 93], none⟩,
  ⟨some 26, .mv, [.t 96], none⟩,
  ⟨some 27, .mv, [.t 97], none⟩,
  ⟨some 28, .mv, [.t 98], none⟩,
  ⟨some 29, .mv, [.t 99], none⟩]
def a4r12 : List IOp := [⟨some 101, .mv, [.t 16], none⟩,
  ⟨some 102, .call 26, [.t 101], none⟩,
  ⟨some 100, .mv, [.t 102], none⟩,
  ⟨some 103, .extract 0, [.t 100], none⟩,
  ⟨some 104, .extract 1, [.t 100], none⟩,
  ⟨some 105, .extract 2, [.t 100], none⟩,
  ⟨some 30, .mv, [.t 103], none⟩,
  ⟨some 31, .mv, [.t 104], none⟩,
  ⟨some 32, .mv, [.t 105], none⟩]
def a4r13 : List IOp := [⟨some 107, .mv, [.t 16], none⟩,
  ⟨some 108, .call 27, [.t 107], none⟩,
  ⟨some 106, .mv, [.t 108], none⟩,
  ⟨some 109, .extract 0, [.t 106], none⟩,
  ⟨some 110, .extract 1, [.t 106], none⟩,
  ⟨some 111, .extract 2, [.t 106], none⟩,
  ⟨some 33, .mv, [.t 109], none⟩,
  ⟨some 34, .mv, [.t 110], none⟩,
  ⟨some 35, .mv, [.t 111], none⟩]
def a4r14 : List IOp := [⟨some 113, .mv, [.t 16], none⟩,
  ⟨some 114, .mv, [.t 17], none⟩,
  ⟨some 115, .call 28, [.t 113, .t 114], none⟩,
  ⟨some 112, .mv, [.t 115], none⟩,
  ⟨some 116, .extract 0, [.t 112], none⟩,
  ⟨some 117, .extract 1, [.t 112], none⟩,
  ⟨some 36, .mv, [.t 116], none⟩,
  ⟨some 37, .mv, [.t 117], none⟩]
def a4r15 : List IOp := [⟨some 119, .mv, [.t 16], none⟩,
  ⟨some 120, .mv, [.t 17], none⟩,
  ⟨some 121, .call 29, [.t 119, .t 120], none⟩,
  ⟨some 118, .mv, [.t 121], none⟩,
  ⟨some 122, .extract 0, [.t 118], none⟩,
  ⟨some 123, .extract 1, [.t 118], none⟩,
  ⟨some 38, .mv, [.t 122], none⟩,
  ⟨some 39, .mv, [.t 123], none⟩]
def a4r16 : List IOp := [⟨some 124, .mv, [.t 18], none⟩,
  ⟨some 125, .mv, [.t 20], none⟩,
  ⟨some 126, .bin .neq, [.t 124, .t 125], none⟩,
  ⟨some 127, .mv, [.t 126], none⟩,
  ⟨some 128, .mv, [.t 19], some (127, false)⟩,
  ⟨some 129, .mv, [.t 21], some (127, false)⟩,
  ⟨some 130, .eqB true, [.t 128, .t 129], some (127, false)⟩,
  ⟨some 131, .pick, [.t 127, .c (.bool true), .t 130], none⟩,
  ⟨some 132, .mv, [.t 131], none⟩,
  ⟨some 133, .mv, [.t 22], some (132, false)⟩,
  ⟨some 134, .mv, [.t 26], some (132, false)⟩,
  ⟨some 135, .bin .neq, [.t 133, .t 134], some (132, false)⟩,
  ⟨some 136, .pick, [.t 132, .c (.bool true), .t 135], none⟩,
  ⟨some 137, .mv, [.t 136], none⟩,
  ⟨some 138, .mv, [.t 23], some (137, false)⟩,
  ⟨some 139, .mv, [.t 27], some (137, false)⟩,
  ⟨some 140, .bin .neq, [.t 138, .t 139], some (137, false)⟩,
  ⟨some 141, .pick, [.t 137, .c (.bool true), .t 140], none⟩,
  ⟨some 142, .mv, [.t 141], none⟩,
  ⟨some 143, .mv, [.t 24], some (142, false)⟩,
  ⟨some 144, .mv, [.t 28], some (142, false)⟩,
  ⟨some 145, .bin .neq, [.t 143, .t 144], some (142, false)⟩,
  ⟨some 146, .pick, [.t 142, .c (.bool true), .t 145], none⟩,
  ⟨some 147, .mv, [.t 146], none⟩,
  ⟨some 148, .mv, [.t 25], some (147, false)⟩,
  ⟨some 149, .mv, [.t 29], some (147, false)⟩,
  ⟨some 150, .eqB true, [.t 148, .t 149], some (147, false)⟩,
  ⟨some 151, .pick, [.t 147, .c (.bool true), .t 150], none⟩,
  ⟨some 152, .mv, [.t 151], none⟩,
  ⟨some 153, .mv, [.t 30], some (152, false)⟩,
  ⟨some 154, .mv, [.t 33], some (152, false)⟩,
  ⟨some 155, .bin .neq, [.t 153, .t 154], some (152, false)⟩,
  ⟨some 156, .pick, [.t 152, .c (.bool true), .t 155], none⟩,
  ⟨some 157, .mv, [.t 156], none⟩,
  ⟨some 158, .mv, [.t 31], some (157, false)⟩,
  ⟨some 159, .mv, [.t 34], some (157, false)⟩,
  ⟨some 160, .bin .neq, [.t 158, .t 159], some (157, false)⟩,
  ⟨some 161, .pick, [.t 157, .c (.bool true), .t 160], none⟩,
  ⟨some 162, .mv, [.t 161], none⟩,
  ⟨some 163, .mv, [.t 32], some (162, false)⟩,
  ⟨some 164, .mv, [.t 35], some (162, false)⟩,
  ⟨some 165, .eqB true, [.t 163, .t 164], some (162, false)⟩,
  ⟨some 166, .pick, [.t 162, .c (.bool true), .t 165], none⟩,
  ⟨some 167, .mv, [.t 166], none⟩,
  ⟨some 168, .mv, [.t 36], some (167, false)⟩,
  ⟨some 169, .mv, [.t 38], some (167, false)⟩,
  ⟨some 170, .bin .neq, [.t 168, .t 169], some (167, false)⟩,
  ⟨some 171, .pick, [.t 167, .c (.bool true), .t 170], none⟩,
  ⟨some 172, .mv, [.t 171], none⟩,
  ⟨some 173, .mv, [.t 37], some (172, false)⟩,
  ⟨some 174, .mv, [.t 39], some (172, false)⟩,
  ⟨some 175, .eqB true, [.t 173, .t 174], some (172, false)⟩,
  ⟨some 176, .pick, [.t 172, .c (.bool true), .t 175], none⟩,
  ⟨some 177, .mv, [.t 176], none⟩,
  ⟨some 178, .mv, [.t 16], some (177, false)⟩,
  ⟨some 179, .call 30, [.t 178], some (177, false)⟩,
  ⟨some 180, .mv, [.t 16], some (177, false)⟩,
  ⟨some 181, .call 31, [.t 180], some (177, false)⟩,
  ⟨some 182, .bin .neq, [.t 179, .t 181], some (177, false)⟩,
  ⟨some 183, .pick, [.t 177, .c (.bool true), .t 182], none⟩,
  ⟨some 184, .mv, [.t 183], none⟩,
  ⟨some 185, .mv, [.t 16], some (184, false)⟩,
  ⟨some 186, .call 32, [.t 185], some (184, false)⟩,
  ⟨some 187, .mv, [.t 16], some (184, false)⟩,
  ⟨some 188, .call 33, [.t 187], some (184, false)⟩,
  ⟨some 189, .bin .neq, [.t 186, .t 188], some (184, false)⟩,
  ⟨some 190, .pick, [.t 184, .c (.bool true), .t 189], none⟩]
def a4r17 : List IOp := [⟨some 10, .mv, [.c (.bool false)], none⟩]
def a4r18 : List IOp := [⟨some 44, .mv, [.t 12], none⟩,
  ⟨some 45, .bin .add, [.t 44, .c (.int .i64 1)], none⟩,
  ⟨some 12, .mv, [.t 45], none⟩]
def a4r19 : List IOp := [⟨some 191, .call 17, [], none⟩,
  ⟨some 10, .mv, [.t 191], none⟩]
def a4 : AFunc := ⟨192, [.tmp 10], (.seq (.region a4r0 [0, 1, 2, 3, 4]) (.seq (.region a4r1 [1, 2, 3, 4, 11]) (.seq (.seq (.region a4r2 [1, 2, 3, 4, 11, 12]) (.block 0 (.loop (.seq (.seq (.region a4r3 [1, 2, 3, 4, 11, 12, 43]) (.cond (.t 43) .skip (.exit 0))) (.seq (.block 1 (.seq (.region a4r4 [1, 2, 3, 4, 11, 12, 13, 14, 15]) (.seq (.region a4r5 [1, 2, 3, 4, 11, 12, 13, 14, 15, 16, 17]) (.seq (.seq (.region a4r6 [1, 2, 3, 4, 11, 12, 13, 14, 15, 16, 17, 67]) (.cond (.t 67) (.region a4r7 [1, 2, 3, 4, 11, 12, 13, 14, 15, 16, 17]) .skip)) (.seq (.region a4r8 [1, 2, 3, 4, 11, 12, 13, 14, 15, 16, 17, 18, 19]) (.seq (.region a4r9 [1, 2, 3, 4, 11, 12, 16, 17, 18, 19, 20, 21]) (.seq (.region a4r10 [1, 2, 3, 4, 11, 12, 16, 17, 18, 19, 20, 21, 22, 23, 24, 25]) (.seq (.region a4r11 [1, 2, 3, 4, 11, 12, 16, 17, 18, 19, 20, 21, 22, 23, 24, 25, 26, 27, 28, 29]) (.seq (.region a4r12 [1, 2, 3, 4, 11, 12, 16, 17, 18, 19, 20, 21, 22, 23, 24, 25, 26, 27, 28, 29, 30, 31, 32]) (.seq (.region a4r13 [1, 2, 3, 4, 11, 12, 16, 17, 18, 19, 20, 21, 22, 23, 24, 25, 26, 27, 28, 29, 30, 31, 32, 33, 34, 35]) (.seq (.region a4r14 [1, 2, 3, 4, 11, 12, 16, 17, 18, 19, 20, 21, 22, 23, 24, 25, 26, 27, 28, 29, 30, 31, 32, 33, 34, 35, 36, 37]) (.seq (.region a4r15 [1, 2, 3, 4, 11, 12, 16, 18, 19, 20, 21, 22, 23, 24, 25, 26, 27, 28, 29, 30, 31, 32, 33, 34, 35, 36, 37, 38, 39]) (.seq (.region a4r16 [1, 2, 3, 4, 11, 12, 190]) (.cond (.t 190) (.seq (.region a4r17 [10]) .ret) .skip)))))))))))))) (.region a4r18 [1, 2, 3, 4, 11, 12])))))) (.seq (.region a4r19 [10]) .ret))))⟩
theorem a4_ok : compileF Tryd.prog (lk [(0, ⟨[0, 1, 2, 3, 4], [], []⟩), (1, ⟨[1, 2, 3, 4, 11], [], []⟩), (2, ⟨[1, 2, 3, 4, 11, 12], [], []⟩), (3, ⟨[1, 2, 3, 4, 11, 12, 43], [], []⟩), (4, ⟨[1, 2, 3, 4, 11, 12], [], []⟩), (5, ⟨[1, 2, 3, 4, 11, 12, 13, 14, 15], [], []⟩), (6, ⟨[1, 2, 3, 4, 11, 12, 13, 14, 15, 16, 17], [], []⟩), (7, ⟨[1, 2, 3, 4, 11, 12, 13, 14, 15, 16, 17, 67], [], []⟩), (8, ⟨[1, 2, 3, 4, 11, 12, 13, 14, 15, 16, 17], [], []⟩), (9, ⟨[1, 2, 3, 4, 11, 12, 13, 14, 15, 16, 17, 18, 19], [], []⟩), (10, ⟨[1, 2, 3, 4, 11, 12, 16, 17, 18, 19, 20, 21], [], []⟩), (11, ⟨[1, 2, 3, 4, 11, 12, 16, 17, 18, 19, 20, 21, 22, 23, 24, 25], [], []⟩), (12, ⟨[1, 2, 3, 4, 11, 12, 16, 17, 18, 19, 20, 21, 22, 23, 24, 25, 26, 27, 28, 29], [], []⟩), (13, ⟨[1, 2, 3, 4, 11, 12, 16, 17, 18, 19, 20, 21, 22, 23, 24, 25, 26, 27, 28, 29, 30, 31, 32], [], []⟩), (14, ⟨[1, 2, 3, 4, 11, 12, 16, 17, 18, 19, 20, 21, 22, 23, 24, 25, 26, 27, 28, 29, 30, 31, 32, 33, 34, 35], [], []⟩), (15, ⟨[1, 2, 3, 4, 11, 12, 16, 17, 18, 19, 20, 21, 22, 23, 24, 25, 26, 27, 28, 29, 30, 31, 32, 33, 34, 35, 36, 37], [], []⟩), (16, ⟨[1, 2, 3, 4, 11, 12, 16, 18, 19, 20, 21, 22, 23, 24, 25, 26, 27, 28, 29, 30, 31, 32, 33, 34, 35, 36, 37, 38, 39], [], []⟩), (17, ⟨[1, 2, 3, 4, 11, 12, 190], [], []⟩), (18, ⟨[10], [], []⟩), (19, ⟨[10], [], []⟩)]) Tryd.f4 = some a4 := by kernel_rfl

/- payroll/payrolllaw3.CalendarTexts -/
def a9r0 : List IOp := [⟨some 6, .mv, [.c (.bool false)], none⟩]
def a9r1 : List IOp := [⟨some 15, .mv, [.t 0], none⟩,
  ⟨some 16, .call 18, [.t 15], none⟩,
  ⟨some 7, .mv, [.t 16], none⟩]
def a9r2 : List IOp := [⟨some 17, .mv, [.t 7], none⟩,
  ⟨some 18, .call 20, [.t 17], none⟩,
  ⟨some 19, .call 40, [.t 18], none⟩,
  ⟨some 8, .mv, [.t 19], none⟩]
def a9r3 : List IOp := [⟨some 20, .mv, [.t 2], none⟩,
  ⟨some 21, .mv, [.t 8], none⟩,
  ⟨some 22, .mv, [.t 8], none⟩,
  ⟨some 23, .bin .add, [.t 22, .c (.str ⟨#[48]⟩)], none⟩,
  ⟨some 24, .bslice 9 1 [.str ⟨#[]⟩] 11 [0, 1, 2, 3, 4, 5, 6, 7, 8, 9, 10], [.t 20, .t 21, .t 23, .c (.str ⟨#[50, 48, 50, 54, 45, 50, 45, 48, 51]⟩), .c (.str ⟨#[50, 48, 50, 54, 45, 48, 50, 45, 50, 57]⟩), .c (.str ⟨#[50, 48, 50, 52, 45, 48, 50, 45, 50, 57]⟩), .c (.str ⟨#[49, 57, 54, 57, 45, 49, 50, 45, 51, 49]⟩), .c (.str ⟨#[50, 50, 48, 48, 45, 48, 49, 45, 48, 49]⟩), .c (.str ⟨#[50, 48, 50, 54, 95, 48, 49, 45, 48, 49]⟩), .c (.str ⟨#[50, 48, 50, 54, 45, 48, 49, 95, 48, 49]⟩), .c (.str ⟨#[43, 48, 50, 54, 45, 48, 49, 45, 48, 49]⟩)], none⟩,
  ⟨some 9, .mv, [.t 24], none⟩]
def a9r4 : List IOp := [⟨some 10, .mv, [.c (.int .i64 0)], none⟩]
def a9r5 : List IOp := [⟨some 25, .mv, [.t 10], none⟩,
  ⟨some 26, .mv, [.t 9], none⟩,
  ⟨some 27, .len, [.t 26], none⟩,
  ⟨some 28, .bin .lss, [.t 25, .t 27], none⟩]
def a9r6 : List IOp := [⟨some 32, .mv, [.t 9], none⟩,
  ⟨some 33, .mv, [.t 10], none⟩,
  ⟨some 34, .indexAddr 1, [.t 32, .t 33], none⟩,
  ⟨some 35, .load1, [.t 34], none⟩,
  ⟨some 36, .call 41, [.t 35], none⟩,
  ⟨some 31, .mv, [.t 36], none⟩,
  ⟨some 37, .extract 0, [.t 31], none⟩,
  ⟨some 38, .extract 1, [.t 31], none⟩,
  ⟨some 11, .mv, [.t 37], none⟩,
  ⟨some 12, .mv, [.t 38], none⟩]
def a9r7 : List IOp := [⟨some 40, .mv, [.t 9], none⟩,
  ⟨some 41, .mv, [.t 10], none⟩,
  ⟨some 42, .indexAddr 1, [.t 40, .t 41], none⟩,
  ⟨some 43, .load1, [.t 42], none⟩,
  ⟨some 44, .call 42, [.t 43], none⟩,
  ⟨some 39, .mv, [.t 44], none⟩,
  ⟨some 45, .extract 0, [.t 39], none⟩,
  ⟨some 46, .extract 1, [.t 39], none⟩,
  ⟨some 13, .mv, [.t 45], none⟩,
  ⟨some 14, .mv, [.t 46], none⟩]
def a9r8 : List (Nat × DOp) := [(0, ⟨⟨some 47, .mv, [.t 11], none⟩, none, [1]⟩),
  (1, ⟨⟨some 48, .mv, [.t 13], none⟩, none, [0]⟩),
  (2, ⟨⟨some 49, .bin .neq, [.t 47, .t 48], none⟩, none, []⟩),
  (3, ⟨⟨some 50, .mv, [.t 49], none⟩, none, []⟩),
  (4, ⟨⟨some 51, .mv, [.t 12], some (50, false)⟩, none, [5]⟩),
  (5, ⟨⟨some 52, .mv, [.t 14], some (50, false)⟩, none, [4]⟩),
  (6, ⟨⟨some 53, .eqB true, [.t 51, .t 52], some (50, false)⟩, none, []⟩),
  (7, ⟨⟨some 54, .pick, [.t 50, .c (.bool true), .t 53], none⟩, none, []⟩),
  (8, ⟨⟨some 55, .mv, [.t 54], none⟩, none, []⟩),
  (9, ⟨⟨some 56, .mv, [.t 12], some (55, false)⟩, none, []⟩),
  (10, ⟨⟨some 57, .mv, [.t 56], some (55, false)⟩, none, []⟩),
  (11, ⟨⟨some 58, .mv, [.t 11], some (57, true)⟩, none, [13, 14, 15, 16]⟩),
  (13, ⟨⟨some 60, .mv, [.t 9], some (57, true)⟩, none, [11, 12, 14]⟩),
  (14, ⟨⟨some 61, .mv, [.t 10], some (57, true)⟩, none, [11, 12, 13]⟩),
  (15, ⟨⟨some 62, .indexAddr 1, [.t 60, .t 61], some (57, true)⟩, none, [11, 12]⟩),
  (16, ⟨⟨some 63, .load1, [.t 62], some (57, true)⟩, none, [11, 12]⟩),
  (12, ⟨⟨some 59, .call 43, [.t 58], some (57, true)⟩, none, [13, 14, 15, 16]⟩),
  (17, ⟨⟨some 64, .bin .neq, [.t 59, .t 63], some (57, true)⟩, none, []⟩),
  (18, ⟨⟨some 65, .pick, [.t 57, .t 64, .c (.bool false)], some (55, false)⟩, none, []⟩),
  (19, ⟨⟨some 66, .pick, [.t 55, .c (.bool true), .t 65], none⟩, none, []⟩)]
def a9r9 : List IOp := [⟨some 6, .mv, [.c (.bool false)], none⟩]
def a9r10 : List IOp := [⟨some 29, .mv, [.t 10], none⟩,
  ⟨some 30, .bin .add, [.t 29, .c (.int .i64 1)], none⟩,
  ⟨some 10, .mv, [.t 30], none⟩]
def a9r11 : List IOp := [⟨some 67, .mv, [.t 1], none⟩,
  ⟨some 68, .call 43, [.t 67], none⟩,
  ⟨some 69, .mv, [.t 1], none⟩,
  ⟨some 70, .call 40, [.t 69], none⟩,
  ⟨some 71, .bin .eql, [.t 68, .t 70], none⟩,
  ⟨some 72, .mv, [.t 71], none⟩,
  ⟨some 73, .call 17, [], some (72, true)⟩,
  ⟨some 74, .pick, [.t 72, .t 73, .c (.bool false)], none⟩,
  ⟨some 6, .mv, [.t 74], none⟩]
def a9 : AFunc := ⟨75, [.tmp 6], (.seq (.region a9r0 [0, 1, 2]) (.seq (.region a9r1 [1, 2, 7]) (.seq (.region a9r2 [1, 2, 8]) (.seq (.region a9r3 [1, 9]) (.seq (.seq (.region a9r4 [1, 9, 10]) (.block 0 (.loop (.seq (.seq (.region a9r5 [1, 9, 10, 28]) (.cond (.t 28) .skip (.exit 0))) (.seq (.block 1 (.seq (.region a9r6 [1, 9, 10, 11, 12]) (.seq (.region a9r7 [1, 9, 10, 11, 12, 13, 14]) (.seq (.draw a9r8 [] [1, 9, 10, 66]) (.cond (.t 66) (.seq (.region a9r9 [6]) .ret) .skip))))) (.region a9r10 [1, 9, 10])))))) (.seq (.region a9r11 [6]) .ret))))))⟩
theorem a9_ok : compileF Tryd.prog (lk [(0, ⟨[0, 1, 2], [], []⟩), (1, ⟨[1, 2, 7], [], []⟩), (2, ⟨[1, 2, 8], [], []⟩), (3, ⟨[1, 9], [], []⟩), (4, ⟨[1, 9, 10], [], []⟩), (5, ⟨[1, 9, 10, 28], [], []⟩), (6, ⟨[1, 9, 10], [], []⟩), (7, ⟨[1, 9, 10, 11, 12], [], []⟩), (8, ⟨[1, 9, 10, 11, 12, 13, 14], [], []⟩), (9, ⟨[1, 9, 10, 66], [[], [], [0, 1], [2, 0, 1], [3, 2, 0, 1], [3, 2, 0, 1], [4, 5, 3, 2, 0, 1], [3, 6, 2, 0, 1, 4, 5], [7, 3, 6, 2, 0, 1, 4, 5], [8, 7, 3, 6, 2, 0, 1, 4, 5], [9, 8, 7, 3, 6, 2, 0, 1, 4, 5], [10, 9, 8, 7, 3, 6, 2, 0, 1, 4, 5], [11, 10, 9, 8, 7, 3, 6, 2, 0, 1, 4, 5], [10, 9, 8, 7, 3, 6, 2, 0, 1, 4, 5], [10, 9, 8, 7, 3, 6, 2, 0, 1, 4, 5], [13, 14, 10, 9, 8, 7, 3, 6, 2, 0, 1, 4, 5], [15, 10, 13, 14, 9, 8, 7, 3, 6, 2, 0, 1, 4, 5], [12, 16, 10, 11, 9, 8, 7, 3, 6, 2, 0, 1, 4, 5, 15, 13, 14], [10, 17, 8, 9, 7, 3, 6, 2, 0, 1, 4, 5, 12, 16, 11, 15, 13, 14], [8, 18, 7, 3, 6, 2, 0, 1, 4, 5, 10, 17, 9, 12, 16, 11, 15, 13, 14]], [0, 1, 2, 3, 4, 5, 6, 7, 8, 9, 10, 11, 13, 14, 15, 16, 12, 17, 18, 19]⟩), (10, ⟨[6], [], []⟩), (11, ⟨[6], [], []⟩)]) Tryd.f9 = some a9 := by kernel_rfl

/- payroll/payrolllaw3.CalendarHolidays -/
def a10r0 : List IOp := [⟨some 8, .mv, [.c (.bool false)], none⟩]
def a10r1 : List IOp := [⟨some 23, .mv, [.t 0], none⟩,
  ⟨some 24, .call 18, [.t 23], none⟩,
  ⟨some 9, .mv, [.t 24], none⟩]
def a10r2 : List IOp := [⟨some 10, .mv, [.c (.int .i64 0)], none⟩]
def a10r3 : List IOp := [⟨some 25, .mv, [.t 10], none⟩,
  ⟨some 26, .bin .lss, [.t 25, .c (.int .i64 3)], none⟩]
def a10r4 : List IOp := [⟨some 29, .mv, [.t 9], none⟩,
  ⟨some 30, .call 44, [.t 29, .c (.bool true)], none⟩,
  ⟨some 11, .mv, [.t 30], none⟩]
def a10r5 : List IOp := [⟨some 31, .mv, [.t 9], none⟩,
  ⟨some 32, .mv, [.t 9], none⟩,
  ⟨some 33, .call 19, [.t 32, .c (.int .i64 30)], none⟩,
  ⟨some 34, .bin .add, [.c (.int .i64 2000), .t 33], none⟩,
  ⟨some 35, .bslice 3 1 [.int .i64 0] 5 [0, 1, 2, 3, 4], [.c (.int .i64 2026), .c (.int .i64 1970), .c (.int .i64 2199), .c (.int .i64 1969), .t 34], none⟩,
  ⟨some 36, .call 21, [.t 31, .t 35], none⟩,
  ⟨some 37, .mv, [.t 9], none⟩,
  ⟨some 38, .call 20, [.t 37], none⟩,
  ⟨some 12, .mv, [.t 36], none⟩,
  ⟨some 13, .mv, [.t 38], none⟩]
def a10r6 : List IOp := [⟨some 39, .mv, [.t 10], none⟩,
  ⟨some 40, .bin .eql, [.t 39, .c (.int .i64 2)], none⟩,
  ⟨some 41, .mv, [.t 40], none⟩,
  ⟨some 42, .mv, [.t 1], some (41, true)⟩,
  ⟨some 43, .len, [.t 42], some (41, true)⟩,
  ⟨some 44, .bin .leq, [.t 43, .c (.int .i64 6)], some (41, true)⟩,
  ⟨some 45, .pick, [.t 41, .t 44, .c (.bool false)], none⟩]
def a10r7 : List IOp := [⟨some 46, .mv, [.t 1], none⟩,
  ⟨some 47, .mv, [.t 2], none⟩,
  ⟨some 48, .mv, [.t 3], none⟩,
  ⟨some 11, .mv, [.t 46], none⟩,
  ⟨some 12, .mv, [.t 47], none⟩,
  ⟨some 13, .mv, [.t 48], none⟩]
def a10r8 : List IOp := [⟨some 49, .mv, [.t 13], none⟩,
  ⟨some 14, .mv, [.t 49], none⟩]
def a10r9 : List IOp := [⟨some 50, .mv, [.t 13], none⟩,
  ⟨some 51, .bin .geq, [.t 50, .c (.int .i64 0)], none⟩,
  ⟨some 52, .mv, [.t 51], none⟩,
  ⟨some 53, .mv, [.t 13], some (52, true)⟩,
  ⟨some 54, .bin .leq, [.t 53, .c (.int .i64 84005)], some (52, true)⟩,
  ⟨some 55, .pick, [.t 52, .t 54, .c (.bool false)], none⟩]
def a10r10 : List IOp := [⟨some 56, .mv, [.t 13], none⟩,
  ⟨some 57, .mv, [.t 9], none⟩,
  ⟨some 58, .call 19, [.t 57, .c (.int .i64 40)], none⟩,
  ⟨some 59, .bin .add, [.t 56, .t 58], none⟩,
  ⟨some 60, .bin .sub, [.t 59, .c (.int .i64 3)], none⟩,
  ⟨some 14, .mv, [.t 60], none⟩]
def a10r11 : List IOp := [⟨some 62, .mv, [.t 11], none⟩,
  ⟨some 63, .mv, [.t 12], none⟩,
  ⟨some 64, .call 13, [.t 62, .t 63], none⟩,
  ⟨some 61, .mv, [.t 64], none⟩,
  ⟨some 65, .extract 0, [.t 61], none⟩,
  ⟨some 66, .extract 1, [.t 61], none⟩,
  ⟨some 15, .mv, [.t 65], none⟩,
  ⟨some 16, .mv, [.t 66], none⟩]
def a10r12 : List IOp := [⟨some 68, .mv, [.t 11], none⟩,
  ⟨some 69, .mv, [.t 12], none⟩,
  ⟨some 70, .call 14, [.t 68, .t 69], none⟩,
  ⟨some 67, .mv, [.t 70], none⟩,
  ⟨some 71, .extract 0, [.t 67], none⟩,
  ⟨some 72, .extract 1, [.t 67], none⟩,
  ⟨some 17, .mv, [.t 71], none⟩,
  ⟨some 18, .mv, [.t 72], none⟩]
def a10r13 : List IOp := [⟨some 74, .mv, [.t 11], none⟩,
  ⟨some 75, .mv, [.t 13], none⟩,
  ⟨some 76, .mv, [.t 14], none⟩,
  ⟨some 77, .call 45, [.t 74, .t 75, .t 76], none⟩,
  ⟨some 73, .mv, [.t 77], none⟩,
  ⟨some 78, .extract 0, [.t 73], none⟩,
  ⟨some 79, .extract 1, [.t 73], none⟩,
  ⟨some 19, .mv, [.t 78], none⟩,
  ⟨some 20, .mv, [.t 79], none⟩]
def a10r14 : List IOp := [⟨some 81, .mv, [.t 11], none⟩,
  ⟨some 82, .mv, [.t 13], none⟩,
  ⟨some 83, .mv, [.t 14], none⟩,
  ⟨some 84, .call 46, [.t 81, .t 82, .t 83], none⟩,
  ⟨some 80, .mv, [.t 84], none⟩,
  ⟨some 85, .extract 0, [.t 80], none⟩,
  ⟨some 86, .extract 1, [.t 80], none⟩,
  ⟨some 21, .mv, [.t 85], none⟩,
  ⟨some 22, .mv, [.t 86], none⟩]
def a10r15 : List IOp := [⟨some 87, .mv, [.t 15], none⟩,
  ⟨some 88, .mv, [.t 17], none⟩,
  ⟨some 89, .call 16, [.t 87, .t 88], none⟩,
  ⟨some 90, .not, [.t 89], none⟩,
  ⟨some 91, .mv, [.t 90], none⟩,
  ⟨some 92, .mv, [.t 16], some (91, false)⟩,
  ⟨some 93, .mv, [.t 18], some (91, false)⟩,
  ⟨some 94, .bin .neq, [.t 92, .t 93], some (91, false)⟩,
  ⟨some 95, .pick, [.t 91, .c (.bool true), .t 94], none⟩,
  ⟨some 96, .mv, [.t 95], none⟩,
  ⟨some 97, .mv, [.t 19], some (96, false)⟩,
  ⟨some 98, .mv, [.t 21], some (96, false)⟩,
  ⟨some 99, .bin .neq, [.t 97, .t 98], some (96, false)⟩,
  ⟨some 100, .pick, [.t 96, .c (.bool true), .t 99], none⟩,
  ⟨some 101, .mv, [.t 100], none⟩,
  ⟨some 102, .mv, [.t 20], some (101, false)⟩,
  ⟨some 103, .mv, [.t 22], some (101, false)⟩,
  ⟨some 104, .bin .neq, [.t 102, .t 103], some (101, false)⟩,
  ⟨some 105, .pick, [.t 101, .c (.bool true), .t 104], none⟩,
  ⟨some 106, .mv, [.t 105], none⟩,
  ⟨some 107, .mv, [.t 11], some (106, false)⟩,
  ⟨some 108, .call 15, [.t 107], some (106, false)⟩,
  ⟨some 109, .mv, [.t 11], some (106, false)⟩,
  ⟨some 110, .call 47, [.t 109], some (106, false)⟩,
  ⟨some 111, .bin .neq, [.t 108, .t 110], some (106, false)⟩,
  ⟨some 112, .pick, [.t 106, .c (.bool true), .t 111], none⟩]
def a10r16 : List IOp := [⟨some 8, .mv, [.c (.bool false)], none⟩]
def a10r17 : List IOp := [⟨some 27, .mv, [.t 10], none⟩,
  ⟨some 28, .bin .add, [.t 27, .c (.int .i64 1)], none⟩,
  ⟨some 10, .mv, [.t 28], none⟩]
def a10r18 : List IOp := [⟨some 113, .call 17, [], none⟩,
  ⟨some 8, .mv, [.t 113], none⟩]
def a10 : AFunc := ⟨114, [.tmp 8], (.seq (.region a10r0 [0, 1, 2, 3]) (.seq (.region a10r1 [1, 2, 3, 9]) (.seq (.seq (.region a10r2 [1, 2, 3, 9, 10]) (.block 0 (.loop (.seq (.seq (.region a10r3 [1, 2, 3, 9, 10, 26]) (.cond (.t 26) .skip (.exit 0))) (.seq (.block 1 (.seq (.region a10r4 [1, 2, 3, 9, 10, 11]) (.seq (.region a10r5 [1, 2, 3, 9, 10, 11, 12, 13]) (.seq (.seq (.region a10r6 [1, 2, 3, 9, 10, 11, 12, 13, 45]) (.cond (.t 45) (.region a10r7 [1, 2, 3, 9, 10, 11, 12, 13]) .skip)) (.seq (.region a10r8 [1, 2, 3, 9, 10, 11, 12, 13, 14]) (.seq (.seq (.region a10r9 [1, 2, 3, 9, 10, 11, 12, 13, 14, 55]) (.cond (.t 55) (.region a10r10 [1, 2, 3, 9, 10, 11, 12, 13, 14]) .skip)) (.seq (.region a10r11 [1, 2, 3, 9, 10, 11, 12, 13, 14, 15, 16]) (.seq (.region a10r12 [1, 2, 3, 9, 10, 11, 13, 14, 15, 16, 17, 18]) (.seq (.region a10r13 [1, 2, 3, 9, 10, 11, 13, 14, 15, 16, 17, 18, 19, 20]) (.seq (.region a10r14 [1, 2, 3, 9, 10, 11, 15, 16, 17, 18, 19, 20, 21, 22]) (.seq (.region a10r15 [1, 2, 3, 9, 10, 112]) (.cond (.t 112) (.seq (.region a10r16 [8]) .ret) .skip)))))))))))) (.region a10r17 [1, 2, 3, 9, 10])))))) (.seq (.region a10r18 [8]) .ret))))⟩
theorem a10_ok : compileF Tryd.prog (lk [(0, ⟨[0, 1, 2, 3], [], []⟩), (1, ⟨[1, 2, 3, 9], [], []⟩), (2, ⟨[1, 2, 3, 9, 10], [], []⟩), (3, ⟨[1, 2, 3, 9, 10, 26], [], []⟩), (4, ⟨[1, 2, 3, 9, 10], [], []⟩), (5, ⟨[1, 2, 3, 9, 10, 11], [], []⟩), (6, ⟨[1, 2, 3, 9, 10, 11, 12, 13], [], []⟩), (7, ⟨[1, 2, 3, 9, 10, 11, 12, 13, 45], [], []⟩), (8, ⟨[1, 2, 3, 9, 10, 11, 12, 13], [], []⟩), (9, ⟨[1, 2, 3, 9, 10, 11, 12, 13, 14], [], []⟩), (10, ⟨[1, 2, 3, 9, 10, 11, 12, 13, 14, 55], [], []⟩), (11, ⟨[1, 2, 3, 9, 10, 11, 12, 13, 14], [], []⟩), (12, ⟨[1, 2, 3, 9, 10, 11, 12, 13, 14, 15, 16], [], []⟩), (13, ⟨[1, 2, 3, 9, 10, 11, 13, 14, 15, 16, 17, 18], [], []⟩), (14, ⟨[1, 2, 3, 9, 10, 11, 13, 14, 15, 16, 17, 18, 19, 20], [], []⟩), (15, ⟨[1, 2, 3, 9, 10, 11, 15, 16, 17, 18, 19, 20, 21, 22], [], []⟩), (16, ⟨[1, 2, 3, 9, 10, 112], [], []⟩), (17, ⟨[8], [], []⟩), (18, ⟨[8], [], []⟩)]) Tryd.f10 = some a10 := by kernel_rfl

/- payroll/payrolllaw3.CalendarWorkdays -/
def a11r0 : List IOp := [⟨some 4, .mv, [.c (.bool false)], none⟩]
def a11r1 : List IOp := [⟨some 18, .mv, [.t 0], none⟩,
  ⟨some 19, .call 18, [.t 18], none⟩,
  ⟨some 5, .mv, [.t 19], none⟩]
def a11r2 : List IOp := [⟨some 20, .mv, [.t 5], none⟩,
  ⟨some 21, .call 44, [.t 20, .c (.bool false)], none⟩,
  ⟨some 6, .mv, [.t 21], none⟩]
def a11r3 : List IOp := [⟨some 22, .mv, [.t 1], none⟩,
  ⟨some 23, .call 12, [.t 22, .c (.int .i64 83905)], none⟩,
  ⟨some 7, .mv, [.t 23], none⟩]
def a11r4 : List IOp := [⟨some 24, .mv, [.t 7], none⟩,
  ⟨some 25, .mv, [.t 5], none⟩,
  ⟨some 26, .call 19, [.t 25, .c (.int .i64 40)], none⟩,
  ⟨some 27, .bin .add, [.t 24, .t 26], none⟩,
  ⟨some 28, .mv, [.t 7], none⟩,
  ⟨some 29, .bin .add, [.t 28, .c (.int .i64 40)], none⟩,
  ⟨some 30, .mv, [.t 5], none⟩,
  ⟨some 31, .call 19, [.t 30, .c (.int .i64 40)], none⟩,
  ⟨some 32, .bin .add, [.t 29, .t 31], none⟩,
  ⟨some 8, .mv, [.t 27], none⟩,
  ⟨some 9, .mv, [.t 32], none⟩]
def a11r5 : List IOp := [⟨some 34, .mv, [.t 6], none⟩,
  ⟨some 35, .mv, [.t 7], none⟩,
  ⟨some 36, .mv, [.t 8], none⟩,
  ⟨some 37, .call 45, [.t 34, .t 35, .t 36], none⟩,
  ⟨some 33, .mv, [.t 37], none⟩,
  ⟨some 38, .extract 0, [.t 33], none⟩,
  ⟨some 39, .extract 1, [.t 33], none⟩,
  ⟨some 10, .mv, [.t 38], none⟩,
  ⟨some 11, .mv, [.t 39], none⟩]
def a11r6 : List IOp := [⟨some 41, .mv, [.t 6], none⟩,
  ⟨some 42, .mv, [.t 8], none⟩,
  ⟨some 43, .bin .add, [.t 42, .c (.int .i64 1)], none⟩,
  ⟨some 44, .mv, [.t 9], none⟩,
  ⟨some 45, .call 45, [.t 41, .t 43, .t 44], none⟩,
  ⟨some 40, .mv, [.t 45], none⟩,
  ⟨some 46, .extract 0, [.t 40], none⟩,
  ⟨some 47, .extract 1, [.t 40], none⟩,
  ⟨some 12, .mv, [.t 46], none⟩,
  ⟨some 13, .mv, [.t 47], none⟩]
def a11r7 : List IOp := [⟨some 49, .mv, [.t 6], none⟩,
  ⟨some 50, .mv, [.t 7], none⟩,
  ⟨some 51, .mv, [.t 9], none⟩,
  ⟨some 52, .call 45, [.t 49, .t 50, .t 51], none⟩,
  ⟨some 48, .mv, [.t 52], none⟩,
  ⟨some 53, .extract 0, [.t 48], none⟩,
  ⟨some 54, .extract 1, [.t 48], none⟩,
  ⟨some 14, .mv, [.t 53], none⟩,
  ⟨some 15, .mv, [.t 54], none⟩]
def a11r8 : List IOp := [⟨some 56, .mv, [.t 7], none⟩,
  ⟨some 57, .mv, [.t 7], none⟩,
  ⟨some 58, .bin .add, [.t 57, .c (.int .i64 6)], none⟩,
  ⟨some 59, .call 45, [.c (.nils), .t 56, .t 58], none⟩,
  ⟨some 55, .mv, [.t 59], none⟩,
  ⟨some 60, .extract 0, [.t 55], none⟩,
  ⟨some 61, .extract 1, [.t 55], none⟩,
  ⟨some 16, .mv, [.t 60], none⟩,
  ⟨some 17, .mv, [.t 61], none⟩]
def a11r9 : List IOp := [⟨some 62, .mv, [.t 11], none⟩,
  ⟨some 63, .bin .eql, [.t 62, .c (.int .i64 0)], none⟩,
  ⟨some 64, .mv, [.t 63], none⟩,
  ⟨some 65, .mv, [.t 13], some (64, true)⟩,
  ⟨some 66, .bin .eql, [.t 65, .c (.int .i64 0)], some (64, true)⟩,
  ⟨some 67, .pick, [.t 64, .t 66, .c (.bool false)], none⟩,
  ⟨some 68, .mv, [.t 67], none⟩,
  ⟨some 69, .mv, [.t 15], some (68, true)⟩,
  ⟨some 70, .bin .eql, [.t 69, .c (.int .i64 0)], some (68, true)⟩,
  ⟨some 71, .pick, [.t 68, .t 70, .c (.bool false)], none⟩,
  ⟨some 72, .mv, [.t 71], none⟩,
  ⟨some 73, .mv, [.t 17], some (72, true)⟩,
  ⟨some 74, .bin .eql, [.t 73, .c (.int .i64 0)], some (72, true)⟩,
  ⟨some 75, .pick, [.t 72, .t 74, .c (.bool false)], none⟩,
  ⟨some 76, .mv, [.t 75], none⟩,
  ⟨some 77, .mv, [.t 10], some (76, true)⟩,
  ⟨some 78, .mv, [.t 12], some (76, true)⟩,
  ⟨some 79, .bin .add, [.t 77, .t 78], some (76, true)⟩,
  ⟨some 80, .mv, [.t 14], some (76, true)⟩,
  ⟨some 81, .bin .eql, [.t 79, .t 80], some (76, true)⟩,
  ⟨some 82, .pick, [.t 76, .t 81, .c (.bool false)], none⟩,
  ⟨some 83, .mv, [.t 82], none⟩,
  ⟨some 84, .mv, [.t 16], some (83, true)⟩,
  ⟨some 85, .bin .eql, [.t 84, .c (.int .i64 5)], some (83, true)⟩,
  ⟨some 86, .pick, [.t 83, .t 85, .c (.bool false)], none⟩,
  ⟨some 87, .mv, [.t 86], none⟩,
  ⟨some 88, .call 17, [], some (87, true)⟩,
  ⟨some 89, .pick, [.t 87, .t 88, .c (.bool false)], none⟩,
  ⟨some 4, .mv, [.t 89], none⟩]
def a11 : AFunc := ⟨90, [.tmp 4], (.seq (.region a11r0 [0, 1]) (.seq (.region a11r1 [1, 5]) (.seq (.region a11r2 [1, 5, 6]) (.seq (.region a11r3 [5, 6, 7]) (.seq (.region a11r4 [6, 7, 8, 9]) (.seq (.region a11r5 [6, 7, 8, 9, 10, 11]) (.seq (.region a11r6 [6, 7, 9, 10, 11, 12, 13]) (.seq (.region a11r7 [7, 10, 11, 12, 13, 14, 15]) (.seq (.region a11r8 [10, 11, 12, 13, 14, 15, 16, 17]) (.seq (.region a11r9 [4]) .ret))))))))))⟩
theorem a11_ok : compileF Tryd.prog (lk [(0, ⟨[0, 1], [], []⟩), (1, ⟨[1, 5], [], []⟩), (2, ⟨[1, 5, 6], [], []⟩), (3, ⟨[5, 6, 7], [], []⟩), (4, ⟨[6, 7, 8, 9], [], []⟩), (5, ⟨[6, 7, 8, 9, 10, 11], [], []⟩), (6, ⟨[6, 7, 9, 10, 11, 12, 13], [], []⟩), (7, ⟨[7, 10, 11, 12, 13, 14, 15], [], []⟩), (8, ⟨[10, 11, 12, 13, 14, 15, 16, 17], [], []⟩), (9, ⟨[4], [], []⟩)]) Tryd.f11 = some a11 := by kernel_rfl

/- payroll/payrollgen.New -/
def a18r0 : List IOp := [⟨some 2, .mv, [.c (.nilp)], none⟩]
def a18r1 : List IOp := [⟨some 3, .mv, [.t 0], none⟩,
  ⟨some 4, .build [.nils, .int .i64 0] [(0, 1)], [.t 3], none⟩,
  ⟨some 5, .box 62 2, [.t 4], none⟩,
  ⟨some 2, .mv, [.t 5], none⟩]
def a18 : AFunc := ⟨6, [.tmp 2], (.seq (.region a18r0 [0]) (.seq (.region a18r1 [2]) .ret))⟩
theorem a18_ok : compileF Tryd.prog (lk [(0, ⟨[0], [], []⟩), (1, ⟨[2], [], []⟩)]) Tryd.f18 = some a18 := by kernel_rfl

/- (*payroll/payrollgen.Tape).Next -/
def a19r0 : List IOp := [⟨some 4, .mv, [.c (.int .i64 0)], none⟩]
def a19r1 : List (Nat × DOp) := [(0, ⟨⟨some 5, .mv, [.t 1], none⟩, none, []⟩),
  (1, ⟨⟨some 6, .bin .lss, [.t 5, .c (.int .i64 1)], none⟩, none, []⟩),
  (2, ⟨⟨some 7, .mv, [.t 6], none⟩, none, []⟩),
  (3, ⟨⟨some 8, .mv, [.t 0], some (7, false)⟩, none, [7, 8, 9, 10, 11]⟩),
  (4, ⟨⟨some 9, .nilchk, [.t 8], some (7, false)⟩, none, [7, 8, 9, 10, 11]⟩),
  (5, ⟨⟨some 10, .fieldAddr 1, [.t 9], some (7, false)⟩, none, [7, 8, 9, 10, 11]⟩),
  (6, ⟨⟨some 11, .load1, [.t 10], some (7, false)⟩, none, [7, 8, 9, 10, 11]⟩),
  (7, ⟨⟨some 12, .mv, [.t 0], some (7, false)⟩, none, [3, 4, 5, 6]⟩),
  (8, ⟨⟨some 13, .nilchk, [.t 12], some (7, false)⟩, none, [3, 4, 5, 6]⟩),
  (9, ⟨⟨some 14, .fieldAddr 0, [.t 13], some (7, false)⟩, none, [3, 4, 5, 6]⟩),
  (10, ⟨⟨some 15, .load1, [.t 14], some (7, false)⟩, none, [3, 4, 5, 6]⟩),
  (11, ⟨⟨some 16, .len, [.t 15], some (7, false)⟩, none, [3, 4, 5, 6]⟩),
  (12, ⟨⟨some 17, .bin .geq, [.t 11, .t 16], some (7, false)⟩, none, []⟩),
  (13, ⟨⟨some 18, .pick, [.t 7, .c (.bool true), .t 17], none⟩, none, []⟩)]
def a19r2 : List IOp := [⟨some 4, .mv, [.c (.int .i64 0)], none⟩]
def a19r3 : List IOp := [⟨some 19, .mv, [.t 0], none⟩,
  ⟨some 20, .nilchk, [.t 19], none⟩,
  ⟨some 21, .fieldAddr 1, [.t 20], none⟩,
  ⟨some 22, .load1, [.t 21], none⟩,
  ⟨some 23, .bin .add, [.t 22, .c (.int .i64 1)], none⟩,
  ⟨some 24, .nilchk, [.t 19], none⟩,
  ⟨some 25, .fieldAddr 1, [.t 24], none⟩,
  ⟨none, .store 1, [.t 25, .t 23], none⟩]
def a19r4 : List (Nat × DOp) := [(0, ⟨⟨some 26, .mv, [.t 0], none⟩, none, [4, 5, 6, 7, 8, 11]⟩),
  (1, ⟨⟨some 27, .nilchk, [.t 26], none⟩, none, [4, 5, 6, 7, 8, 11]⟩),
  (2, ⟨⟨some 28, .fieldAddr 0, [.t 27], none⟩, none, [4, 5, 6, 7, 8, 11]⟩),
  (3, ⟨⟨some 29, .load1, [.t 28], none⟩, none, [4, 5, 6, 7, 8, 11]⟩),
  (4, ⟨⟨some 30, .mv, [.t 0], none⟩, none, [0, 1, 2, 3, 11]⟩),
  (5, ⟨⟨some 31, .nilchk, [.t 30], none⟩, none, [0, 1, 2, 3, 11]⟩),
  (6, ⟨⟨some 32, .fieldAddr 1, [.t 31], none⟩, none, [0, 1, 2, 3, 11]⟩),
  (7, ⟨⟨some 33, .load1, [.t 32], none⟩, none, [0, 1, 2, 3, 11]⟩),
  (8, ⟨⟨some 34, .bin .sub, [.t 33, .c (.int .i64 1)], none⟩, none, [0, 1, 2, 3, 11]⟩),
  (9, ⟨⟨some 35, .indexAddr 1, [.t 29, .t 34], none⟩, none, [11]⟩),
  (10, ⟨⟨some 36, .load1, [.t 35], none⟩, none, [11]⟩),
  (11, ⟨⟨some 37, .mv, [.t 1], none⟩, none, [0, 1, 2, 3, 4, 5, 6, 7, 8, 9, 10]⟩),
  (12, ⟨⟨some 38, .call 12, [.t 36, .t 37], none⟩, none, []⟩),
  (13, ⟨⟨some 4, .mv, [.t 38], none⟩, none, []⟩)]
def a19 : AFunc := ⟨39, [.tmp 4], (.seq (.region a19r0 [0, 1]) (.seq (.seq (.draw a19r1 [] [0, 1, 18]) (.cond (.t 18) (.seq (.region a19r2 [4]) .ret) .skip)) (.seq (.region a19r3 [0, 1]) (.seq (.draw a19r4 [] [4]) .ret))))⟩
theorem a19_ok : compileF Tryd.prog (lk [(0, ⟨[0, 1], [], []⟩), (1, ⟨[0, 1, 18], [[], [0], [1, 0], [2, 1, 0], [3, 2, 1, 0], [4, 2, 3, 1, 0], [5, 2, 4, 3, 1, 0], [2, 1, 0], [7, 2, 1, 0], [8, 2, 7, 1, 0], [9, 2, 8, 7, 1, 0], [10, 2, 9, 8, 7, 1, 0], [6, 11, 2, 5, 4, 3, 1, 0, 10, 9, 8, 7], [2, 12, 1, 0, 6, 11, 5, 4, 3, 10, 9, 8, 7]], [0, 1, 2, 3, 4, 5, 6, 7, 8, 9, 10, 11, 12, 13]⟩), (2, ⟨[4], [], []⟩), (3, ⟨[0, 1], [], []⟩), (4, ⟨[4], [[], [0], [1, 0], [2, 1, 0], [], [4], [5, 4], [6, 5, 4], [7, 6, 5, 4], [3, 8, 2, 1, 0, 7, 6, 5, 4], [9, 3, 8, 2, 1, 0, 7, 6, 5, 4], [], [10, 11, 9, 3, 8, 2, 1, 0, 7, 6, 5, 4], [12, 0, 1, 2, 3, 4, 5, 6, 7, 8, 9, 10, 11]], [0, 1, 2, 3, 4, 5, 6, 7, 8, 9, 10, 11, 12, 13]⟩)]) Tryd.f19 = some a19 := by kernel_rfl

/- (*payroll/payrollgen.Tape).Day -/
def a20r0 : List IOp := [⟨some 2, .mv, [.c (.int .i64 0)], none⟩]
def a20r1 : List IOp := [⟨some 3, .mv, [.t 0], none⟩,
  ⟨some 4, .mv, [.t 0], none⟩,
  ⟨some 5, .call 19, [.t 4, .c (.int .i64 40)], none⟩,
  ⟨some 6, .bin .add, [.c (.int .i64 20454), .t 5], none⟩,
  ⟨some 7, .mv, [.t 0], none⟩,
  ⟨some 8, .call 19, [.t 7, .c (.int .i64 730)], none⟩,
  ⟨some 9, .bin .add, [.c (.int .i64 20454), .t 8], none⟩,
  ⟨some 10, .mv, [.t 0], none⟩,
  ⟨some 11, .call 19, [.t 10, .c (.int .i64 3)], none⟩,
  ⟨some 12, .bin .add, [.c (.int .i64 20485), .t 11], none⟩,
  ⟨some 13, .bin .sub, [.t 12, .c (.int .i64 1)], none⟩,
  ⟨some 14, .mv, [.t 0], none⟩,
  ⟨some 15, .call 19, [.t 14, .c (.int .i64 84006)], none⟩,
  ⟨some 16, .bslice 3 1 [.int .i64 0] 6 [0, 1, 2, 3, 4, 5], [.t 6, .t 9, .t 13, .t 15, .c (.int .i64 0), .c (.int .i64 84005)], none⟩,
  ⟨some 17, .call 21, [.t 3, .t 16], none⟩,
  ⟨some 2, .mv, [.t 17], none⟩]
def a20 : AFunc := ⟨18, [.tmp 2], (.seq (.region a20r0 [0]) (.seq (.region a20r1 [2]) .ret))⟩
theorem a20_ok : compileF Tryd.prog (lk [(0, ⟨[0], [], []⟩), (1, ⟨[2], [], []⟩)]) Tryd.f20 = some a20 := by kernel_rfl

/- (*payroll/payrollgen.Tape).Pick -/
def a21r0 : List IOp := [⟨some 4, .mv, [.c (.int .i64 0)], none⟩]
def a21r1 : List IOp := [⟨some 5, .mv, [.t 1], none⟩,
  ⟨some 6, .mv, [.t 0], none⟩,
  ⟨some 7, .mv, [.t 1], none⟩,
  ⟨some 8, .len, [.t 7], none⟩,
  ⟨some 9, .call 19, [.t 6, .t 8], none⟩,
  ⟨some 10, .indexAddr 1, [.t 5, .t 9], none⟩,
  ⟨some 11, .load1, [.t 10], none⟩,
  ⟨some 4, .mv, [.t 11], none⟩]
def a21 : AFunc := ⟨12, [.tmp 4], (.seq (.region a21r0 [0, 1]) (.seq (.region a21r1 [4]) .ret))⟩
theorem a21_ok : compileF Tryd.prog (lk [(0, ⟨[0, 1], [], []⟩), (1, ⟨[4], [], []⟩)]) Tryd.f21 = some a21 := by kernel_rfl

/- payroll/calendar.Parse -/
def a41r0 : List IOp := [⟨some 2, .mv, [.c (.int .i64 0)], none⟩,
  ⟨some 3, .mv, [.c (.bool false)], none⟩]
def a41r1 : List IOp := [⟨some 10, .mv, [.t 0], none⟩,
  ⟨some 11, .lenS, [.t 10], none⟩,
  ⟨some 12, .bin .neq, [.t 11, .c (.int .i64 10)], none⟩,
  ⟨some 13, .mv, [.t 12], none⟩,
  ⟨some 14, .mv, [.t 0], some (13, false)⟩,
  ⟨some 15, .index, [.t 14, .c (.int .i64 4)], some (13, false)⟩,
  ⟨some 16, .bin .neq, [.t 15, .c (.int .u8 45)], some (13, false)⟩,
  ⟨some 17, .pick, [.t 13, .c (.bool true), .t 16], none⟩,
  ⟨some 18, .mv, [.t 17], none⟩,
  ⟨some 19, .mv, [.t 0], some (18, false)⟩,
  ⟨some 20, .index, [.t 19, .c (.int .i64 7)], some (18, false)⟩,
  ⟨some 21, .bin .neq, [.t 20, .c (.int .u8 45)], some (18, false)⟩,
  ⟨some 22, .pick, [.t 18, .c (.bool true), .t 21], none⟩]
def a41r2 : List IOp := [⟨some 2, .mv, [.c (.int .i64 0)], none⟩,
  ⟨some 3, .mv, [.c (.bool false)], none⟩]
def a41r3 : List IOp := [⟨some 24, .mv, [.t 0], none⟩,
  ⟨some 25, .sliceS false true, [.t 24, .c (.int .i64 4)], none⟩,
  ⟨some 26, .call 66, [.t 25], none⟩,
  ⟨some 23, .mv, [.t 26], none⟩,
  ⟨some 27, .extract 0, [.t 23], none⟩,
  ⟨some 28, .extract 1, [.t 23], none⟩,
  ⟨some 4, .mv, [.t 27], none⟩,
  ⟨some 5, .mv, [.t 28], none⟩]
def a41r4 : List IOp := [⟨some 30, .mv, [.t 0], none⟩,
  ⟨some 31, .sliceS true true, [.t 30, .c (.int .i64 5), .c (.int .i64 7)], none⟩,
  ⟨some 32, .call 66, [.t 31], none⟩,
  ⟨some 29, .mv, [.t 32], none⟩,
  ⟨some 33, .extract 0, [.t 29], none⟩,
  ⟨some 34, .extract 1, [.t 29], none⟩,
  ⟨some 6, .mv, [.t 33], none⟩,
  ⟨some 7, .mv, [.t 34], none⟩]
def a41r5 : List IOp := [⟨some 36, .mv, [.t 0], none⟩,
  ⟨some 37, .sliceS true false, [.t 36, .c (.int .i64 8)], none⟩,
  ⟨some 38, .call 66, [.t 37], none⟩,
  ⟨some 35, .mv, [.t 38], none⟩,
  ⟨some 39, .extract 0, [.t 35], none⟩,
  ⟨some 40, .extract 1, [.t 35], none⟩,
  ⟨some 8, .mv, [.t 39], none⟩,
  ⟨some 9, .mv, [.t 40], none⟩]
def a41r6 : List IOp := [⟨some 41, .mv, [.t 5], none⟩,
  ⟨some 42, .not, [.t 41], none⟩,
  ⟨some 43, .mv, [.t 42], none⟩,
  ⟨some 44, .mv, [.t 7], some (43, false)⟩,
  ⟨some 45, .not, [.t 44], some (43, false)⟩,
  ⟨some 46, .pick, [.t 43, .c (.bool true), .t 45], none⟩,
  ⟨some 47, .mv, [.t 46], none⟩,
  ⟨some 48, .mv, [.t 9], some (47, false)⟩,
  ⟨some 49, .not, [.t 48], some (47, false)⟩,
  ⟨some 50, .pick, [.t 47, .c (.bool true), .t 49], none⟩]
def a41r7 : List IOp := [⟨some 2, .mv, [.c (.int .i64 0)], none⟩,
  ⟨some 3, .mv, [.c (.bool false)], none⟩]
def a41r8 : List IOp := [⟨some 51, .mv, [.t 4], none⟩,
  ⟨some 52, .mv, [.t 6], none⟩,
  ⟨some 53, .mv, [.t 8], none⟩,
  ⟨some 54, .call 22, [.t 51, .t 52, .t 53], none⟩,
  ⟨some 55, .extract 0, [.t 54], none⟩,
  ⟨some 56, .extract 1, [.t 54], none⟩,
  ⟨some 2, .mv, [.t 55], none⟩,
  ⟨some 3, .mv, [.t 56], none⟩]
def a41 : AFunc := ⟨57, [.tmp 2, .tmp 3], (.seq (.region a41r0 [0]) (.seq (.seq (.region a41r1 [0, 22]) (.cond (.t 22) (.seq (.region a41r2 [2, 3]) .ret) .skip)) (.seq (.region a41r3 [0, 4, 5]) (.seq (.region a41r4 [0, 4, 5, 6, 7]) (.seq (.region a41r5 [4, 5, 6, 7, 8, 9]) (.seq (.seq (.region a41r6 [4, 6, 8, 50]) (.cond (.t 50) (.seq (.region a41r7 [2, 3]) .ret) .skip)) (.seq (.region a41r8 [2, 3]) .ret)))))))⟩
theorem a41_ok : compileF Tryd.prog (lk [(0, ⟨[0], [], []⟩), (1, ⟨[0, 22], [], []⟩), (2, ⟨[2, 3], [], []⟩), (3, ⟨[0, 4, 5], [], []⟩), (4, ⟨[0, 4, 5, 6, 7], [], []⟩), (5, ⟨[4, 5, 6, 7, 8, 9], [], []⟩), (6, ⟨[4, 6, 8, 50], [], []⟩), (7, ⟨[2, 3], [], []⟩), (8, ⟨[2, 3], [], []⟩)]) Tryd.f41 = some a41 := by kernel_rfl

/- (*payroll/payrollgen.Tape).Holidays -/
def a44r0 : List IOp := [⟨some 4, .mv, [.c (.nils)], none⟩]
def a44r1 : List IOp := [⟨some 8, .build [.int .i64 0, .int .i64 0, .int .i64 0, .int .i64 0, .int .i64 0, .bool false] [(0, 1), (1, 1), (2, 1)], [.c (.int .i64 0), .c (.int .i64 1), .c (.int .i64 1)], none⟩,
  ⟨some 9, .build [.int .i64 0, .int .i64 0, .int .i64 0, .int .i64 0, .int .i64 0, .bool false] [(0, 1), (1, 1), (2, 1), (5, 1)], [.c (.int .i64 0), .c (.int .i64 12), .c (.int .i64 25), .c (.bool true)], none⟩,
  ⟨some 10, .build [.int .i64 0, .int .i64 0, .int .i64 0, .int .i64 0, .int .i64 0, .bool false] [(0, 1), (1, 1), (2, 1)], [.c (.int .i64 0), .c (.int .i64 2), .c (.int .i64 29)], none⟩,
  ⟨some 11, .build [.int .i64 0, .int .i64 0, .int .i64 0, .int .i64 0, .int .i64 0, .bool false] [(0, 1), (4, 1)], [.c (.int .i64 1), .c (.int .i64 1)], none⟩,
  ⟨some 12, .build [.int .i64 0, .int .i64 0, .int .i64 0, .int .i64 0, .int .i64 0, .bool false] [(0, 1), (4, 1)], [.c (.int .i64 1), .c (.int .i64 (-2))], none⟩,
  ⟨some 13, .build [.int .i64 0, .int .i64 0, .int .i64 0, .int .i64 0, .int .i64 0, .bool false] [(0, 1), (4, 1)], [.c (.int .i64 1), .c (.int .i64 (-100))], none⟩,
  ⟨some 14, .build [.int .i64 0, .int .i64 0, .int .i64 0, .int .i64 0, .int .i64 0, .bool false] [(0, 1), (1, 1), (3, 1), (2, 1)], [.c (.int .i64 2), .c (.int .i64 11), .c (.int .i64 3), .c (.int .i64 4)], none⟩,
  ⟨some 15, .build [.int .i64 0, .int .i64 0, .int .i64 0, .int .i64 0, .int .i64 0, .bool false] [(0, 1), (1, 1), (3, 1), (2, 1)], [.c (.int .i64 2), .c (.int .i64 1), .c (.int .i64 0), .c (.int .i64 (-1))], none⟩,
  ⟨some 16, .build [.int .i64 0, .int .i64 0, .int .i64 0, .int .i64 0, .int .i64 0, .bool false] [(0, 1), (1, 1), (3, 1), (2, 1), (5, 1)], [.c (.int .i64 2), .c (.int .i64 1), .c (.int .i64 5), .c (.int .i64 1), .c (.bool true)], none⟩,
  ⟨some 17, .build [.int .i64 0, .int .i64 0, .int .i64 0, .int .i64 0, .int .i64 0, .bool false] [(0, 1), (1, 1), (3, 1), (2, 1), (4, 1)], [.c (.int .i64 2), .c (.int .i64 12), .c (.int .i64 3), .c (.int .i64 5), .c (.int .i64 7)], none⟩,
  ⟨some 18, .build [.int .i64 0, .int .i64 0, .int .i64 0, .int .i64 0, .int .i64 0, .bool false] [(0, 1), (1, 1), (3, 1), (2, 1), (4, 1)], [.c (.int .i64 2), .c (.int .i64 1), .c (.int .i64 4), .c (.int .i64 1), .c (.int .i64 (-7))], none⟩,
  ⟨some 19, .bslice 25 6 [.int .i64 0, .int .i64 0, .int .i64 0, .int .i64 0, .int .i64 0, .bool false] 11 [0, 1, 2, 3, 4, 5, 6, 7, 8, 9, 10], [.t 8, .t 9, .t 10, .t 11, .t 12, .t 13, .t 14, .t 15, .t 16, .t 17, .t 18], none⟩,
  ⟨some 5, .mv, [.t 19], none⟩]
def a44r2 : List IOp := [⟨some 6, .mv, [.c (.nils)], none⟩]
def a44r3 : List IOp := [⟨some 20, .mv, [.t 0], none⟩,
  ⟨some 21, .call 19, [.t 20, .c (.int .i64 4)], none⟩,
  ⟨some 7, .mv, [.t 21], none⟩]
def a44r4 : List IOp := [⟨some 22, .mv, [.t 7], none⟩,
  ⟨some 23, .bin .gtr, [.t 22, .c (.int .i64 0)], none⟩]
def a44r5 : List IOp := [⟨some 26, .mv, [.t 6], none⟩,
  ⟨some 27, .mv, [.t 5], none⟩,
  ⟨some 28, .mv, [.t 0], none⟩,
  ⟨some 29, .mv, [.t 5], none⟩,
  ⟨some 30, .len, [.t 29], none⟩,
  ⟨some 31, .call 19, [.t 28, .t 30], none⟩,
  ⟨some 32, .indexAddr 6, [.t 27, .t 31], none⟩,
  ⟨some 33, .loadA 6, [.t 32], none⟩,
  ⟨some 34, .bslice 25 6 [.int .i64 0, .int .i64 0, .int .i64 0, .int .i64 0, .int .i64 0, .bool false] 1 [0], [.t 33], none⟩,
  ⟨some 35, .append 25 6 48, [.t 26, .t 34], none⟩,
  ⟨some 6, .mv, [.t 35], none⟩]
def a44r6 : List IOp := [⟨some 24, .mv, [.t 7], none⟩,
  ⟨some 25, .bin .sub, [.t 24, .c (.int .i64 1)], none⟩,
  ⟨some 7, .mv, [.t 25], none⟩]
def a44r7 : List IOp := [⟨some 36, .mv, [.t 1], none⟩,
  ⟨some 37, .mv, [.t 36], none⟩,
  ⟨some 38, .mv, [.t 0], some (37, true)⟩,
  ⟨some 39, .call 19, [.t 38, .c (.int .i64 6)], some (37, true)⟩,
  ⟨some 40, .bin .eql, [.t 39, .c (.int .i64 5)], some (37, true)⟩,
  ⟨some 41, .pick, [.t 37, .t 40, .c (.bool false)], none⟩]
def a44r8 : List IOp := [⟨some 42, .mv, [.t 6], none⟩,
  ⟨some 43, .mv, [.t 0], none⟩,
  ⟨some 44, .call 19, [.t 43, .c (.int .i64 4)], none⟩,
  ⟨some 45, .mv, [.t 0], none⟩,
  ⟨some 46, .call 19, [.t 45, .c (.int .i64 14)], none⟩,
  ⟨some 47, .mv, [.t 0], none⟩,
  ⟨some 48, .bslice 3 1 [.int .i64 0] 4 [0, 1, 2, 3], [.c (.int .i64 0), .c (.int .i64 6), .c (.int .i64 31), .c (.int .i64 (-1))], none⟩,
  ⟨some 49, .call 21, [.t 47, .t 48], none⟩,
  ⟨some 50, .mv, [.t 0], none⟩,
  ⟨some 51, .call 19, [.t 50, .c (.int .i64 8)], none⟩,
  ⟨some 52, .mv, [.t 0], none⟩,
  ⟨some 53, .bslice 3 1 [.int .i64 0] 3 [0, 1, 2], [.c (.int .i64 0), .c (.int .i64 8), .c (.int .i64 101)], none⟩,
  ⟨some 54, .call 21, [.t 52, .t 53], none⟩,
  ⟨some 55, .build [.int .i64 0, .int .i64 0, .int .i64 0, .int .i64 0, .int .i64 0, .bool false] [(0, 1), (1, 1), (2, 1), (3, 1), (4, 1)], [.t 44, .t 46, .t 49, .t 51, .t 54], none⟩,
  ⟨some 56, .bslice 25 6 [.int .i64 0, .int .i64 0, .int .i64 0, .int .i64 0, .int .i64 0, .bool false] 1 [0], [.t 55], none⟩,
  ⟨some 57, .append 25 6 48, [.t 42, .t 56], none⟩,
  ⟨some 6, .mv, [.t 57], none⟩]
def a44r9 : List IOp := [⟨some 58, .mv, [.t 6], none⟩,
  ⟨some 4, .mv, [.t 58], none⟩]
def a44 : AFunc := ⟨59, [.tmp 4], (.seq (.region a44r0 [0, 1]) (.seq (.region a44r1 [0, 1, 5]) (.seq (.region a44r2 [0, 1, 5, 6]) (.seq (.seq (.region a44r3 [0, 1, 5, 6, 7]) (.block 0 (.loop (.seq (.seq (.region a44r4 [0, 1, 5, 6, 7, 23]) (.cond (.t 23) .skip (.exit 0))) (.seq (.block 1 (.region a44r5 [0, 1, 5, 6, 7])) (.region a44r6 [0, 1, 5, 6, 7])))))) (.seq (.seq (.region a44r7 [0, 6, 41]) (.cond (.t 41) (.region a44r8 [6]) .skip)) (.seq (.region a44r9 [4]) .ret))))))⟩
theorem a44_ok : compileF Tryd.prog (lk [(0, ⟨[0, 1], [], []⟩), (1, ⟨[0, 1, 5], [], []⟩), (2, ⟨[0, 1, 5, 6], [], []⟩), (3, ⟨[0, 1, 5, 6, 7], [], []⟩), (4, ⟨[0, 1, 5, 6, 7, 23], [], []⟩), (5, ⟨[0, 1, 5, 6, 7], [], []⟩), (6, ⟨[0, 1, 5, 6, 7], [], []⟩), (7, ⟨[0, 6, 41], [], []⟩), (8, ⟨[6], [], []⟩), (9, ⟨[4], [], []⟩)]) Tryd.f44 = some a44 := by kernel_rfl

/- payroll/calendar.Workdays -/
def a45r0 : List IOp := [⟨some 6, .mv, [.c (.int .i64 0)], none⟩,
  ⟨some 7, .mv, [.c (.int .i64 0)], none⟩]
def a45r1 : List IOp := [⟨some 14, .mv, [.t 0], none⟩,
  ⟨some 15, .call 15, [.t 14], none⟩,
  ⟨some 8, .mv, [.t 15], none⟩]
def a45r2 : List IOp := [⟨some 16, .mv, [.t 8], none⟩,
  ⟨some 17, .bin .neq, [.t 16, .c (.int .i64 0)], none⟩]
def a45r3 : List IOp := [⟨some 18, .mv, [.t 8], none⟩,
  ⟨some 6, .mv, [.c (.int .i64 0)], none⟩,
  ⟨some 7, .mv, [.t 18], none⟩]
def a45r4 : List IOp := [⟨some 19, .mv, [.t 1], none⟩,
  ⟨some 20, .call 56, [.t 19], none⟩,
  ⟨some 21, .not, [.t 20], none⟩,
  ⟨some 22, .mv, [.t 21], none⟩,
  ⟨some 23, .mv, [.t 2], some (22, false)⟩,
  ⟨some 24, .call 56, [.t 23], some (22, false)⟩,
  ⟨some 25, .not, [.t 24], some (22, false)⟩,
  ⟨some 26, .pick, [.t 22, .c (.bool true), .t 25], none⟩]
def a45r5 : List IOp := [⟨some 6, .mv, [.c (.int .i64 0)], none⟩,
  ⟨some 7, .mv, [.c (.int .i64 2)], none⟩]
def a45r6 : List IOp := [⟨some 27, .mv, [.t 2], none⟩,
  ⟨some 28, .mv, [.t 1], none⟩,
  ⟨some 29, .bin .lss, [.t 27, .t 28], none⟩]
def a45r7 : List IOp := [⟨some 6, .mv, [.c (.int .i64 0)], none⟩,
  ⟨some 7, .mv, [.c (.int .i64 0)], none⟩]
def a45r8 : List IOp := [⟨some 30, .mv, [.t 2], none⟩,
  ⟨some 31, .bin .add, [.t 30, .c (.int .i64 1)], none⟩,
  ⟨some 32, .call 69, [.t 31], none⟩,
  ⟨some 33, .mv, [.t 1], none⟩,
  ⟨some 34, .call 69, [.t 33], none⟩,
  ⟨some 35, .bin .sub, [.t 32, .t 34], none⟩,
  ⟨some 9, .mv, [.t 35], none⟩]
def a45r9 : List IOp := [⟨some 36, .mv, [.t 1], none⟩,
  ⟨some 37, .call 57, [.t 36], none⟩,
  ⟨some 38, .bin .sub, [.t 37, .c (.int .i64 1)], none⟩,
  ⟨some 39, .minmax true, [.t 38, .c (.int .i64 1970)], none⟩,
  ⟨some 40, .mv, [.t 2], none⟩,
  ⟨some 41, .call 57, [.t 40], none⟩,
  ⟨some 42, .bin .add, [.t 41, .c (.int .i64 1)], none⟩,
  ⟨some 43, .minmax false, [.t 42, .c (.int .i64 2199)], none⟩,
  ⟨some 10, .mv, [.t 39], none⟩,
  ⟨some 11, .mv, [.t 43], none⟩]
def a45r10 : List IOp := [⟨some 44, .mv, [.t 0], none⟩,
  ⟨some 45, .mv, [.t 10], none⟩,
  ⟨some 46, .mv, [.t 11], none⟩,
  ⟨some 47, .call 48, [.t 44, .t 45, .t 46], none⟩,
  ⟨some 48, .len, [.t 47], none⟩,
  ⟨some 49, .mv, [.c (.int .i64 0)], none⟩]
def a45r11 : List IOp := [⟨some 50, .bin .lss, [.t 49, .t 48], none⟩]
def a45r12 : List IOp := [⟨some 51, .indexAddr 1, [.t 47, .t 49], none⟩,
  ⟨some 52, .load1, [.t 51], none⟩,
  ⟨some 13, .mv, [.t 52], none⟩]
def a45r13 : List IOp := [⟨some 53, .mv, [.t 13], none⟩,
  ⟨some 54, .mv, [.t 1], none⟩,
  ⟨some 55, .bin .geq, [.t 53, .t 54], none⟩,
  ⟨some 56, .mv, [.t 55], none⟩,
  ⟨some 57, .mv, [.t 13], some (56, true)⟩,
  ⟨some 58, .mv, [.t 2], some (56, true)⟩,
  ⟨some 59, .bin .leq, [.t 57, .t 58], some (56, true)⟩,
  ⟨some 60, .pick, [.t 56, .t 59, .c (.bool false)], none⟩,
  ⟨some 61, .mv, [.t 60], none⟩,
  ⟨some 62, .mv, [.t 13], some (61, true)⟩,
  ⟨some 63, .call 61, [.t 62], some (61, true)⟩,
  ⟨some 64, .bin .lss, [.t 63, .c (.int .i64 5)], some (61, true)⟩,
  ⟨some 65, .pick, [.t 61, .t 64, .c (.bool false)], none⟩]
def a45r14 : List IOp := [⟨some 66, .mv, [.t 9], none⟩,
  ⟨some 67, .bin .sub, [.t 66, .c (.int .i64 1)], none⟩,
  ⟨some 9, .mv, [.t 67], none⟩]
def a45r15 : List IOp := [⟨some 68, .bin .add, [.t 49, .c (.int .i64 1)], none⟩,
  ⟨some 49, .mv, [.t 68], none⟩]
def a45r16 : List IOp := [⟨some 69, .mv, [.t 9], none⟩,
  ⟨some 6, .mv, [.t 69], none⟩,
  ⟨some 7, .mv, [.c (.int .i64 0)], none⟩]
def a45 : AFunc := ⟨70, [.tmp 6, .tmp 7], (.seq (.region a45r0 [0, 1, 2]) (.seq (.seq (.region a45r1 [0, 1, 2, 8]) (.seq (.region a45r2 [0, 1, 2, 8, 17]) (.cond (.t 17) (.seq (.region a45r3 [6, 7]) .ret) .skip))) (.seq (.seq (.region a45r4 [0, 1, 2, 26]) (.cond (.t 26) (.seq (.region a45r5 [6, 7]) .ret) .skip)) (.seq (.seq (.region a45r6 [0, 1, 2, 29]) (.cond (.t 29) (.seq (.region a45r7 [6, 7]) .ret) .skip)) (.seq (.region a45r8 [0, 1, 2, 9]) (.seq (.region a45r9 [0, 1, 2, 9, 10, 11]) (.seq (.seq (.region a45r10 [1, 2, 9, 47, 48, 49]) (.block 0 (.loop (.seq (.region a45r11 [1, 2, 9, 47, 48, 49, 50]) (.seq (.cond (.t 50) .skip (.exit 0)) (.seq (.block 1 (.seq (.region a45r12 [1, 2, 9, 13, 47, 48, 49]) (.seq (.region a45r13 [1, 2, 9, 47, 48, 49, 65]) (.cond (.t 65) (.region a45r14 [1, 2, 9, 47, 48, 49]) .skip)))) (.region a45r15 [1, 2, 9, 47, 48, 49]))))))) (.seq (.region a45r16 [6, 7]) .ret))))))))⟩
theorem a45_ok : compileF Tryd.prog (lk [(0, ⟨[0, 1, 2], [], []⟩), (1, ⟨[0, 1, 2, 8], [], []⟩), (2, ⟨[0, 1, 2, 8, 17], [], []⟩), (3, ⟨[6, 7], [], []⟩), (4, ⟨[0, 1, 2, 26], [], []⟩), (5, ⟨[6, 7], [], []⟩), (6, ⟨[0, 1, 2, 29], [], []⟩), (7, ⟨[6, 7], [], []⟩), (8, ⟨[0, 1, 2, 9], [], []⟩), (9, ⟨[0, 1, 2, 9, 10, 11], [], []⟩), (10, ⟨[1, 2, 9, 47, 48, 49], [], []⟩), (11, ⟨[1, 2, 9, 47, 48, 49, 50], [], []⟩), (12, ⟨[1, 2, 9, 13, 47, 48, 49], [], []⟩), (13, ⟨[1, 2, 9, 47, 48, 49, 65], [], []⟩), (14, ⟨[1, 2, 9, 47, 48, 49], [], []⟩), (15, ⟨[1, 2, 9, 47, 48, 49], [], []⟩), (16, ⟨[6, 7], [], []⟩)]) Tryd.f45 = some a45 := by kernel_rfl

/- payroll/calendar.validRule -/
def a51r0 : List IOp := [⟨some 1, .box 25 6, [.t 0], none⟩,
  ⟨some 2, .mv, [.c (.bool false)], none⟩]
def a51r1 : List IOp := [⟨some 4, .fieldAddr 0, [.t 1], none⟩,
  ⟨some 5, .load1, [.t 4], none⟩]
def a51r2 : List IOp := [⟨some 7, .bin .eql, [.t 5, .c (.int .i64 0)], none⟩,
  ⟨some 6, .mv, [.t 7], none⟩]
def a51r3 : List IOp := [⟨some 8, .fieldAddr 1, [.t 1], none⟩,
  ⟨some 9, .load1, [.t 8], none⟩,
  ⟨some 10, .bin .lss, [.t 9, .c (.int .i64 1)], none⟩,
  ⟨some 11, .mv, [.t 10], none⟩,
  ⟨some 12, .fieldAddr 1, [.t 1], some (11, false)⟩,
  ⟨some 13, .load1, [.t 12], some (11, false)⟩,
  ⟨some 14, .bin .gtr, [.t 13, .c (.int .i64 12)], some (11, false)⟩,
  ⟨some 15, .pick, [.t 11, .c (.bool true), .t 14], none⟩,
  ⟨some 16, .mv, [.t 15], none⟩,
  ⟨some 17, .fieldAddr 3, [.t 1], some (16, false)⟩,
  ⟨some 18, .load1, [.t 17], some (16, false)⟩,
  ⟨some 19, .bin .neq, [.t 18, .c (.int .i64 0)], some (16, false)⟩,
  ⟨some 20, .pick, [.t 16, .c (.bool true), .t 19], none⟩,
  ⟨some 21, .mv, [.t 20], none⟩,
  ⟨some 22, .fieldAddr 4, [.t 1], some (21, false)⟩,
  ⟨some 23, .load1, [.t 22], some (21, false)⟩,
  ⟨some 24, .bin .neq, [.t 23, .c (.int .i64 0)], some (21, false)⟩,
  ⟨some 25, .pick, [.t 21, .c (.bool true), .t 24], none⟩]
def a51r4 : List IOp := [⟨some 2, .mv, [.c (.bool false)], none⟩]
def a51r5 : List IOp := [⟨some 26, .fieldAddr 1, [.t 1], none⟩,
  ⟨some 27, .load1, [.t 26], none⟩,
  ⟨some 28, .bin .sub, [.t 27, .c (.int .i64 1)], none⟩,
  ⟨some 29, .mv, [], none⟩,
  ⟨some 30, .load1, [.t 29], none⟩,
  ⟨some 3, .mv, [.t 30], none⟩]
def a51r6 : List IOp := [⟨some 31, .fieldAddr 1, [.t 1], none⟩,
  ⟨some 32, .load1, [.t 31], none⟩,
  ⟨some 33, .bin .eql, [.t 32, .c (.int .i64 2)], none⟩]
def a51r7 : List IOp := [⟨some 3, .mv, [.c (.int .i64 29)], none⟩]
def a51r8 : List IOp := [⟨some 34, .fieldAddr 2, [.t 1], none⟩,
  ⟨some 35, .load1, [.t 34], none⟩,
  ⟨some 36, .bin .geq, [.t 35, .c (.int .i64 1)], none⟩,
  ⟨some 37, .mv, [.t 36], none⟩,
  ⟨some 38, .fieldAddr 2, [.t 1], some (37, true)⟩,
  ⟨some 39, .load1, [.t 38], some (37, true)⟩,
  ⟨some 40, .mv, [.t 3], some (37, true)⟩,
  ⟨some 41, .bin .leq, [.t 39, .t 40], some (37, true)⟩,
  ⟨some 42, .pick, [.t 37, .t 41, .c (.bool false)], none⟩,
  ⟨some 2, .mv, [.t 42], none⟩]
def a51r9 : List IOp := [⟨some 44, .bin .eql, [.t 5, .c (.int .i64 1)], none⟩,
  ⟨some 43, .mv, [.t 44], none⟩]
def a51r10 : List IOp := [⟨some 45, .fieldAddr 4, [.t 1], none⟩,
  ⟨some 46, .load1, [.t 45], none⟩,
  ⟨some 47, .bin .geq, [.t 46, .c (.int .i64 (-100))], none⟩,
  ⟨some 48, .mv, [.t 47], none⟩,
  ⟨some 49, .fieldAddr 4, [.t 1], some (48, true)⟩,
  ⟨some 50, .load1, [.t 49], some (48, true)⟩,
  ⟨some 51, .bin .leq, [.t 50, .c (.int .i64 100)], some (48, true)⟩,
  ⟨some 52, .pick, [.t 48, .t 51, .c (.bool false)], none⟩,
  ⟨some 53, .mv, [.t 52], none⟩,
  ⟨some 54, .fieldAddr 1, [.t 1], some (53, true)⟩,
  ⟨some 55, .load1, [.t 54], some (53, true)⟩,
  ⟨some 56, .bin .eql, [.t 55, .c (.int .i64 0)], some (53, true)⟩,
  ⟨some 57, .pick, [.t 53, .t 56, .c (.bool false)], none⟩,
  ⟨some 58, .mv, [.t 57], none⟩,
  ⟨some 59, .fieldAddr 2, [.t 1], some (58, true)⟩,
  ⟨some 60, .load1, [.t 59], some (58, true)⟩,
  ⟨some 61, .bin .eql, [.t 60, .c (.int .i64 0)], some (58, true)⟩,
  ⟨some 62, .pick, [.t 58, .t 61, .c (.bool false)], none⟩,
  ⟨some 63, .mv, [.t 62], none⟩,
  ⟨some 64, .fieldAddr 3, [.t 1], some (63, true)⟩,
  ⟨some 65, .load1, [.t 64], some (63, true)⟩,
  ⟨some 66, .bin .eql, [.t 65, .c (.int .i64 0)], some (63, true)⟩,
  ⟨some 67, .pick, [.t 63, .t 66, .c (.bool false)], none⟩,
  ⟨some 2, .mv, [.t 67], none⟩]
def a51r11 : List IOp := [⟨some 69, .bin .eql, [.t 5, .c (.int .i64 2)], none⟩,
  ⟨some 68, .mv, [.t 69], none⟩]
def a51r12 : List IOp := [⟨some 70, .fieldAddr 1, [.t 1], none⟩,
  ⟨some 71, .load1, [.t 70], none⟩,
  ⟨some 72, .bin .geq, [.t 71, .c (.int .i64 1)], none⟩,
  ⟨some 73, .mv, [.t 72], none⟩,
  ⟨some 74, .fieldAddr 1, [.t 1], some (73, true)⟩,
  ⟨some 75, .load1, [.t 74], some (73, true)⟩,
  ⟨some 76, .bin .leq, [.t 75, .c (.int .i64 12)], some (73, true)⟩,
  ⟨some 77, .pick, [.t 73, .t 76, .c (.bool false)], none⟩,
  ⟨some 78, .mv, [.t 77], none⟩,
  ⟨some 79, .fieldAddr 2, [.t 1], some (78, true)⟩,
  ⟨some 80, .load1, [.t 79], some (78, true)⟩,
  ⟨some 81, .bin .eql, [.t 80, .c (.int .i64 (-1))], some (78, true)⟩,
  ⟨some 82, .mv, [.t 81], some (78, true)⟩,
  ⟨some 83, .fieldAddr 2, [.t 1], some (82, false)⟩,
  ⟨some 84, .load1, [.t 83], some (82, false)⟩,
  ⟨some 85, .bin .geq, [.t 84, .c (.int .i64 1)], some (82, false)⟩,
  ⟨some 86, .mv, [.t 85], some (82, false)⟩,
  ⟨some 87, .fieldAddr 2, [.t 1], some (86, true)⟩,
  ⟨some 88, .load1, [.t 87], some (86, true)⟩,
  ⟨some 89, .bin .leq, [.t 88, .c (.int .i64 5)], some (86, true)⟩,
  ⟨some 90, .pick, [.t 86, .t 89, .c (.bool false)], some (82, false)⟩,
  ⟨some 91, .pick, [.t 82, .c (.bool true), .t 90], some (78, true)⟩,
  ⟨some 92, .pick, [.t 78, .t 91, .c (.bool false)], none⟩,
  ⟨some 93, .mv, [.t 92], none⟩,
  ⟨some 94, .fieldAddr 3, [.t 1], some (93, true)⟩,
  ⟨some 95, .load1, [.t 94], some (93, true)⟩,
  ⟨some 96, .bin .geq, [.t 95, .c (.int .i64 0)], some (93, true)⟩,
  ⟨some 97, .pick, [.t 93, .t 96, .c (.bool false)], none⟩,
  ⟨some 98, .mv, [.t 97], none⟩,
  ⟨some 99, .fieldAddr 3, [.t 1], some (98, true)⟩,
  ⟨some 100, .load1, [.t 99], some (98, true)⟩,
  ⟨some 101, .bin .leq, [.t 100, .c (.int .i64 6)], some (98, true)⟩,
  ⟨some 102, .pick, [.t 98, .t 101, .c (.bool false)], none⟩,
  ⟨some 103, .mv, [.t 102], none⟩,
  ⟨some 104, .fieldAddr 4, [.t 1], some (103, true)⟩,
  ⟨some 105, .load1, [.t 104], some (103, true)⟩,
  ⟨some 106, .bin .geq, [.t 105, .c (.int .i64 (-7))], some (103, true)⟩,
  ⟨some 107, .pick, [.t 103, .t 106, .c (.bool false)], none⟩,
  ⟨some 108, .mv, [.t 107], none⟩,
  ⟨some 109, .fieldAddr 4, [.t 1], some (108, true)⟩,
  ⟨some 110, .load1, [.t 109], some (108, true)⟩,
  ⟨some 111, .bin .leq, [.t 110, .c (.int .i64 7)], some (108, true)⟩,
  ⟨some 112, .pick, [.t 108, .t 111, .c (.bool false)], none⟩,
  ⟨some 2, .mv, [.t 112], none⟩]
def a51r13 : List IOp := [⟨some 2, .mv, [.c (.bool false)], none⟩]
def a51 : AFunc := ⟨113, [.tmp 2], (.seq (.region a51r0 [1]) (.seq (.seq (.region a51r1 [1, 5]) (.block 0 (.seq (.region a51r2 [1, 5, 6]) (.cond (.t 6) (.seq (.seq (.region a51r3 [1, 25]) (.cond (.t 25) (.seq (.region a51r4 [2]) .ret) .skip)) (.seq (.region a51r5 [1, 3]) (.seq (.seq (.region a51r6 [1, 3, 33]) (.cond (.t 33) (.region a51r7 [1, 3]) .skip)) (.seq (.region a51r8 [2]) .ret)))) (.seq (.region a51r9 [1, 5, 43]) (.cond (.t 43) (.seq (.region a51r10 [2]) .ret) (.seq (.region a51r11 [1, 68]) (.cond (.t 68) (.seq (.region a51r12 [2]) .ret) .skip)))))))) (.seq (.region a51r13 [2]) .ret)))⟩
theorem a51_ok : compileF Tryd.prog (lk [(0, ⟨[1], [], []⟩), (1, ⟨[1, 5], [], []⟩), (2, ⟨[1, 5, 6], [], []⟩), (3, ⟨[1, 25], [], []⟩), (4, ⟨[2], [], []⟩), (5, ⟨[1, 3], [], []⟩), (6, ⟨[1, 3, 33], [], []⟩), (7, ⟨[1, 3], [], []⟩), (8, ⟨[2], [], []⟩), (9, ⟨[1, 5, 43], [], []⟩), (10, ⟨[2], [], []⟩), (11, ⟨[1, 68], [], []⟩), (12, ⟨[2], [], []⟩), (13, ⟨[2], [], []⟩)]) Tryd.f51 = some a51 := by kernel_rfl

/- payroll/calendar.digits -/
def a66r0 : List IOp := [⟨some 2, .mv, [.c (.int .i64 0)], none⟩,
  ⟨some 3, .mv, [.c (.bool false)], none⟩]
def a66r1 : List IOp := [⟨some 4, .mv, [.c (.int .i64 0)], none⟩]
def a66r2 : List IOp := [⟨some 6, .mv, [.t 0], none⟩,
  ⟨some 7, .lenS, [.t 6], none⟩,
  ⟨some 8, .mv, [.c (.int .i64 0)], none⟩]
def a66r3 : List IOp := [⟨some 9, .bin .lss, [.t 8, .t 7], none⟩]
def a66r4 : List IOp := [⟨some 10, .mv, [.t 8], none⟩,
  ⟨some 5, .mv, [.t 10], none⟩]
def a66r5 : List IOp := [⟨some 11, .mv, [.t 0], none⟩,
  ⟨some 12, .mv, [.t 5], none⟩,
  ⟨some 13, .index, [.t 11, .t 12], none⟩,
  ⟨some 14, .bin .lss, [.t 13, .c (.int .u8 48)], none⟩,
  ⟨some 15, .mv, [.t 14], none⟩,
  ⟨some 16, .mv, [.t 0], some (15, false)⟩,
  ⟨some 17, .mv, [.t 5], some (15, false)⟩,
  ⟨some 18, .index, [.t 16, .t 17], some (15, false)⟩,
  ⟨some 19, .bin .gtr, [.t 18, .c (.int .u8 57)], some (15, false)⟩,
  ⟨some 20, .pick, [.t 15, .c (.bool true), .t 19], none⟩]
def a66r6 : List IOp := [⟨some 2, .mv, [.c (.int .i64 0)], none⟩,
  ⟨some 3, .mv, [.c (.bool false)], none⟩]
def a66r7 : List IOp := [⟨some 21, .mv, [.t 4], none⟩,
  ⟨some 22, .bin .mul, [.c (.int .i64 10), .t 21], none⟩,
  ⟨some 23, .mv, [.t 0], none⟩,
  ⟨some 24, .mv, [.t 5], none⟩,
  ⟨some 25, .index, [.t 23, .t 24], none⟩,
  ⟨some 26, .bin .sub, [.t 25, .c (.int .u8 48)], none⟩,
  ⟨some 27, .conv .i64, [.t 26], none⟩,
  ⟨some 28, .bin .add, [.t 22, .t 27], none⟩,
  ⟨some 4, .mv, [.t 28], none⟩]
def a66r8 : List IOp := [⟨some 29, .bin .add, [.t 8, .c (.int .i64 1)], none⟩,
  ⟨some 8, .mv, [.t 29], none⟩]
def a66r9 : List IOp := [⟨some 30, .mv, [.t 4], none⟩,
  ⟨some 2, .mv, [.t 30], none⟩,
  ⟨some 3, .mv, [.c (.bool true)], none⟩]
def a66 : AFunc := ⟨31, [.tmp 2, .tmp 3], (.seq (.region a66r0 [0]) (.seq (.region a66r1 [0, 4]) (.seq (.seq (.region a66r2 [0, 4, 7, 8]) (.block 0 (.loop (.seq (.region a66r3 [0, 4, 7, 8, 9]) (.seq (.cond (.t 9) .skip (.exit 0)) (.seq (.block 1 (.seq (.region a66r4 [0, 4, 5, 7, 8]) (.seq (.seq (.region a66r5 [0, 4, 5, 7, 8, 20]) (.cond (.t 20) (.seq (.region a66r6 [2, 3]) .ret) .skip)) (.region a66r7 [0, 4, 7, 8])))) (.region a66r8 [0, 4, 7, 8]))))))) (.seq (.region a66r9 [2, 3]) .ret))))⟩
theorem a66_ok : compileF Tryd.prog (lk [(0, ⟨[0], [], []⟩), (1, ⟨[0, 4], [], []⟩), (2, ⟨[0, 4, 7, 8], [], []⟩), (3, ⟨[0, 4, 7, 8, 9], [], []⟩), (4, ⟨[0, 4, 5, 7, 8], [], []⟩), (5, ⟨[0, 4, 5, 7, 8, 20], [], []⟩), (6, ⟨[2, 3], [], []⟩), (7, ⟨[0, 4, 7, 8], [], []⟩), (8, ⟨[0, 4, 7, 8], [], []⟩), (9, ⟨[2, 3], [], []⟩)]) Tryd.f66 = some a66 := by kernel_rfl

/- payroll/calendar.weekdaysBefore -/
def a69r0 : List IOp := [⟨some 2, .mv, [.c (.int .i64 0)], none⟩]
def a69r1 : List IOp := [⟨some 4, .mv, [.t 0], none⟩,
  ⟨some 5, .bin .add, [.t 4, .c (.int .i64 3)], none⟩,
  ⟨some 3, .mv, [.t 5], none⟩]
def a69r2 : List IOp := [⟨some 6, .mv, [.t 3], none⟩,
  ⟨some 7, .bin .quo, [.t 6, .c (.int .i64 7)], none⟩,
  ⟨some 8, .bin .mul, [.t 7, .c (.int .i64 5)], none⟩,
  ⟨some 9, .mv, [.t 3], none⟩,
  ⟨some 10, .bin .rem, [.t 9, .c (.int .i64 7)], none⟩,
  ⟨some 11, .minmax false, [.t 10, .c (.int .i64 5)], none⟩,
  ⟨some 12, .bin .add, [.t 8, .t 11], none⟩,
  ⟨some 2, .mv, [.t 12], none⟩]
def a69 : AFunc := ⟨13, [.tmp 2], (.seq (.region a69r0 [0]) (.seq (.region a69r1 [3]) (.seq (.region a69r2 [2]) .ret)))⟩
theorem a69_ok : compileF Tryd.prog (lk [(0, ⟨[0], [], []⟩), (1, ⟨[3], [], []⟩), (2, ⟨[2], [], []⟩)]) Tryd.f69 = some a69 := by kernel_rfl

end Go.Proofs.YtpmlihjdegekgaaDoor
