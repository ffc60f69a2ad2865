/- The abstract forms of the functions,printed by a program,and that the given program has these forms. -/
import Derived.Test.YtlanehcihoiglaaGreatDoorAbsMd
import Derived.Test.YtlanehcihoiglaaGreatDoorProg
import Derived.KernelRfl
set_option linter.unusedSimpArgs false
set_option linter.unusedVariables false
set_option linter.unusedSectionVars false
namespace Go.Proofs.YtlanehcihoiglaaGreatDoor
open Go Go.Abs
def oR (d : Nat) (o : AOp) (xs : List Opd) : IOp := ⟨some d, o, xs, none⟩
def oN (o : AOp) (xs : List Opd) : IOp := ⟨none, o, xs, none⟩
def oG (d : Nat) (o : AOp) (xs : List Opd) (s : Nat) (b : Bool) : IOp := ⟨some d, o, xs, some (s, b)⟩
def oV (d s : Nat) : IOp := ⟨some d, .mv, [.t s], none⟩
def oL (d s : Nat) : IOp := ⟨some d, .load1, [.t s], none⟩
def oI (n : Int) : Opd := .c (.int .i64 n)
attribute [go_sem] oR oN oG oV oL oI
/- payroll/payrolllaw5.PeriodDivides -/
def a3r0 : List IOp := [oR 8 .mv [.c (.bool false)]]
def a3r1 : List IOp := [oV 18 0,
oR 19 (.call 4) [.t 18],
oV 9 19]
def a3r2 : List IOp := [oR 10 .mv [oI 0]]
def a3r3 : List IOp := [oV 20 10,
oR 21 (.bin .lss) [.t 20,oI 3]]
def a3r4 : List IOp := [oV 24 9,
oR 25 (.call 5) [.t 24,.c (.bool true)],
oR 11 (.alloc 27 [.int .i64 0,.int .i64 0]) [],
oN (.store 2) [.t 11,.t 25]]
def a3r5 : List (Nat × DOp) := [(0,⟨oR 27 (.loadA 2) [.t 11],none,[1,2]⟩),
(1,⟨oV 28 9,none,[0]⟩),
(2,⟨oR 29 (.call 7) [.t 28],none,[0]⟩),
(3,⟨oR 30 (.call 6) [.t 27,.t 29],none,[]⟩),
(4,⟨oV 26 30,none,[]⟩),
(5,⟨oR 31 (.extract 0) [.t 26],none,[6]⟩),
(6,⟨oR 32 (.extract 1) [.t 26],none,[5,7]⟩),
(7,⟨oV 12 31,none,[6]⟩),
(8,⟨oV 13 32,none,[]⟩)]
def a3r6 : List IOp := [oR 34 (.loadA 2) [.t 11],
oV 35 12,
oR 36 (.call 8) [.t 34,.t 35],
oV 33 36,
oR 37 (.extract 0) [.t 33],
oR 38 (.extract 1) [.t 33],
oR 14 (.alloc 34 [.int .i64 0,.int .i64 0]) [],
oN (.store 2) [.t 14,.t 37],
oV 15 38]
def a3r7 : List IOp := [oV 39 9,
oR 40 (.loadA 2) [.t 14],
oR 41 (.call 9) [.t 39,.t 40],
oV 42 9,
oR 43 (.call 10) [.t 42,.c (.bool true)],
oV 16 41,
oV 17 43]
def a3r8 : List IOp := [oV 44 10,
oR 45 (.bin .eql) [.t 44,oI 2],
oV 46 45,
oG 47 .mv [.t 2] 46 true,
oG 48 .len [.t 47] 46 true,
oG 49 (.bin .leq) [.t 48,oI 40] 46 true,
oR 50 .pick [.t 46,.t 49,.c (.bool false)],
oV 51 50,
oG 52 .mv [.t 3] 51 true,
oG 53 .len [.t 52] 51 true,
oG 54 (.bin .leq) [.t 53,oI 6] 51 true,
oR 55 .pick [.t 51,.t 54,.c (.bool false)]]
def a3r9 : List IOp := [oV 56 2,
oV 57 3,
oV 16 56,
oV 17 57]
def a3r10 : List (Nat × DOp) := [(0,⟨oV 58 9,none,[1,2,4,5,6,7,8,10]⟩),
(1,⟨oV 59 1,none,[0,4,5,6,7,8,10]⟩),
(2,⟨oR 60 (.bslice 3 1 [.int .i64 0] 5 [0,1,2,3,4]) [oI 100,oI 31,oI (-7),.t 59,oI 0],some 0,[0,4,5,6,7,8,10]⟩),
(4,⟨oR 62 (.loadA 2) [.t 11],none,[0,1,2,3,5,6,7,8,9,10]⟩),
(5,⟨oV 63 12,none,[0,1,2,3,4,6,7,8,9,10]⟩),
(6,⟨oV 64 16,none,[0,1,2,3,4,5,7,8,9,10]⟩),
(7,⟨oV 65 9,none,[0,1,2,3,4,5,6,8,10]⟩),
(8,⟨oR 66 (.bslice 3 1 [.int .i64 0] 8 [0,1,2,3,4,5,6,7]) [oI 0,oI 1,oI 2,oI 0,oI 1,oI 2,oI 3,oI (-1)],some 1,[0,1,2,3,4,5,6,7,10]⟩),
(10,⟨oV 68 17,none,[0,1,2,3,4,5,6,7,8,9]⟩),
(3,⟨oR 61 (.call 12) [.t 58,.t 60],none,[4,5,6,7,8,10]⟩),
(9,⟨oR 67 (.call 12) [.t 65,.t 66],none,[4,5,6,10]⟩),
(11,⟨oR 69 (.call 11) [.t 61,.t 62,.t 63,.t 64,.t 67,.t 68],none,[]⟩),
(12,⟨oR 70 .not [.t 69],none,[]⟩)]
def a3r11 : List IOp := [oR 8 .mv [.c (.bool false)]]
def a3r12 : List IOp := [oV 22 10,
oR 23 (.bin .add) [.t 22,oI 1],
oV 10 23]
def a3r13 : List IOp := [oR 71 (.call 13) [],
oV 8 71]
def a3 : AFunc := ⟨72,[.tmp 8],(.seq (.region a3r0 [0,1,2,3]) (.seq (.region a3r1 [1,2,3,9]) (.seq (.seq (.region a3r2 [1,2,3,9,10]) (.block 0 (.loop (.seq (.seq (.region a3r3 [1,2,3,9,10,21]) (.cond (.t 21) .skip (.exit 0))) (.seq (.block 1 (.seq (.region a3r4 [1,2,3,9,10,11]) (.seq (.draw a3r5 [] [1,2,3,9,10,11,12]) (.seq (.region a3r6 [1,2,3,9,10,11,12,14]) (.seq (.region a3r7 [1,2,3,9,10,11,12,16,17]) (.seq (.seq (.region a3r8 [1,2,3,9,10,11,12,16,17,55]) (.cond (.t 55) (.region a3r9 [1,2,3,9,10,11,12,16,17]) .skip)) (.seq (.draw a3r10 [(3,1),(3,1)] [1,2,3,9,10,70]) (.cond (.t 70) (.seq (.region a3r11 [8]) .ret) .skip)))))))) (.region a3r12 [1,2,3,9,10])))))) (.seq (.region a3r13 [8]) .ret))))⟩
theorem a3_ok : compileF Tryz.prog (lk [(0,⟨[0,1,2,3],[],[]⟩),(1,⟨[1,2,3,9],[],[]⟩),(2,⟨[1,2,3,9,10],[],[]⟩),(3,⟨[1,2,3,9,10,21],[],[]⟩),(4,⟨[1,2,3,9,10],[],[]⟩),(5,⟨[1,2,3,9,10,11],[],[]⟩),(6,⟨[1,2,3,9,10,11,12],[[],[],[1],[0,2,1],[3,0,2,1],[4,3,0,2,1],[4,3,0,2,1],[5,3,0,1,2,4],[6,7,0,1,2,3,4,5]],[0,1,2,3,4,5,6,7,8]⟩),(7,⟨[1,2,3,9,10,11,12,14],[],[]⟩),(8,⟨[1,2,3,9,10,11,12,16,17],[],[]⟩),(9,⟨[1,2,3,9,10,11,12,16,17,55],[],[]⟩),(10,⟨[1,2,3,9,10,11,12,16,17],[],[]⟩),(11,⟨[1,2,3,9,10,70],[[],[],[1],[0,2,1],[],[],[],[],[],[7,8,3,0,2,1],[],[3,4,5,6,9,10,0,2,1,7,8],[11,3,4,5,6,9,10,0,2,1,7,8]],[0,1,2,4,5,6,7,8,10,3,9,11,12]⟩),(12,⟨[8],[],[]⟩),(13,⟨[8],[],[]⟩)]) Tryz.f3 = some a3 := by kernel_rfl

/- payroll/payrollgen.New -/
def a4r0 : List IOp := [oR 2 .mv [.c (.nilp)]]
def a4r1 : List IOp := [oV 3 0,
oR 4 (.build [.nils,.int .i64 0] [(0,1)]) [.t 3],
oR 5 (.box 44 2) [.t 4],
oV 2 5]
def a4 : AFunc := ⟨6,[.tmp 2],(.seq (.region a4r0 [0]) (.seq (.region a4r1 [2]) .ret))⟩
theorem a4_ok : compileF Tryz.prog (lk [(0,⟨[0],[],[]⟩),(1,⟨[2],[],[]⟩)]) Tryz.f4 = some a4 := by kernel_rfl

/- (*payroll/payrollgen.Tape).Calendar -/
def a5r0 : List IOp := [oR 4 (.alloc 27 [.int .i64 0,.int .i64 0]) []]
def a5r1 : List IOp := [oV 6 0,
oR 7 (.call 14) [.t 6,oI 4],
oR 8 (.build [.int .i64 0,.int .i64 0] [(0,1)]) [.t 7],
oR 5 (.alloc 27 [.int .i64 0,.int .i64 0]) [],
oN (.store 2) [.t 5,.t 8]]
def a5r2 : List IOp := [oR 9 (.fieldAddr 0) [.t 5],
oL 10 9]
def a5r3 : List IOp := [oR 12 (.bin .eql) [.t 10,oI 2],
oV 11 12]
def a5r4 : List IOp := [oV 13 0,
oR 14 (.call 14) [.t 13,oI 14],
oR 15 (.fieldAddr 1) [.t 5],
oN (.store 1) [.t 15,.t 14]]
def a5r5 : List IOp := [oR 17 (.bin .eql) [.t 10,oI 3],
oV 16 17]
def a5r6 : List IOp := [oV 18 0,
oR 19 (.call 14) [.t 18,oI 7],
oR 20 (.fieldAddr 1) [.t 5],
oN (.store 1) [.t 20,.t 19]]
def a5r7 : List IOp := [oV 21 1,
oV 22 21,
oG 23 .mv [.t 0] 22 true,
oG 24 (.call 14) [.t 23,oI 8] 22 true,
oG 25 (.bin .eql) [.t 24,oI 7] 22 true,
oR 26 .pick [.t 22,.t 25,.c (.bool false)]]
def a5r8 : List IOp := [oV 27 0,
oR 28 (.call 14) [.t 27,oI 6],
oR 29 (.bin .sub) [.t 28,oI 1],
oV 30 0,
oR 31 (.bslice 3 1 [.int .i64 0] 4 [0,1,2,3]) [oI 14,oI 7,oI (-1),oI 1],
oR 32 (.call 12) [.t 30,.t 31],
oR 33 (.fieldAddr 0) [.t 5],
oN (.store 1) [.t 33,.t 29],
oR 34 (.fieldAddr 1) [.t 5],
oN (.store 1) [.t 34,.t 32]]
def a5r9 : List IOp := [oR 35 (.loadA 2) [.t 5],
oN (.store 2) [.t 4,.t 35]]
def a5 : AFunc := ⟨36,[.cellA 4 2],(.seq (.region a5r0 [0,1,4]) (.seq (.region a5r1 [0,1,4,5]) (.seq (.seq (.region a5r2 [0,1,4,5,10]) (.block 0 (.seq (.region a5r3 [0,1,4,5,10,11]) (.cond (.t 11) (.region a5r4 [0,1,4,5]) (.seq (.region a5r5 [0,1,4,5,16]) (.cond (.t 16) (.region a5r6 [0,1,4,5]) .skip)))))) (.seq (.seq (.region a5r7 [0,4,5,26]) (.cond (.t 26) (.region a5r8 [4,5]) .skip)) (.seq (.region a5r9 [4]) .ret)))))⟩
theorem a5_ok : compileF Tryz.prog (lk [(0,⟨[0,1,4],[],[]⟩),(1,⟨[0,1,4,5],[],[]⟩),(2,⟨[0,1,4,5,10],[],[]⟩),(3,⟨[0,1,4,5,10,11],[],[]⟩),(4,⟨[0,1,4,5],[],[]⟩),(5,⟨[0,1,4,5,16],[],[]⟩),(6,⟨[0,1,4,5],[],[]⟩),(7,⟨[0,4,5,26],[],[]⟩),(8,⟨[4,5],[],[]⟩),(9,⟨[4],[],[]⟩)]) Tryz.f5 = some a5 := by kernel_rfl

/- payroll/payrollref5.Of -/
def a6r0 : List IOp := [oR 2 (.box 27 2) [.t 0],
oR 4 .mv [oI 0],
oR 5 .mv [oI 0]]
def a6r1 : List IOp := [oR 7 (.loadA 2) [.t 2],
oR 8 (.call 15) [.t 7],
oV 6 8]
def a6r2 : List IOp := [oV 9 6,
oR 10 (.bin .neq) [.t 9,oI 0]]
def a6r3 : List IOp := [oV 11 6,
oR 4 .mv [oI 0],
oV 5 11]
def a6r4 : List IOp := [oV 12 1,
oR 13 (.call 16) [.t 12],
oR 14 .not [.t 13]]
def a6r5 : List IOp := [oR 4 .mv [oI 0],
oR 5 .mv [oI 2]]
def a6r6 : List IOp := [oR 15 (.loadA 2) [.t 2],
oV 16 1,
oR 17 (.call 17) [.t 15,.t 16],
oV 4 17,
oR 5 .mv [oI 0]]
def a6 : AFunc := ⟨18,[.tmp 4,.tmp 5],(.seq (.region a6r0 [1,2]) (.seq (.seq (.region a6r1 [1,2,6]) (.seq (.region a6r2 [1,2,6,10]) (.cond (.t 10) (.seq (.region a6r3 [4,5]) .ret) .skip))) (.seq (.seq (.region a6r4 [1,2,14]) (.cond (.t 14) (.seq (.region a6r5 [4,5]) .ret) .skip)) (.seq (.region a6r6 [4,5]) .ret))))⟩
theorem a6_ok : compileF Tryz.prog (lk [(0,⟨[1,2],[],[]⟩),(1,⟨[1,2,6],[],[]⟩),(2,⟨[1,2,6,10],[],[]⟩),(3,⟨[4,5],[],[]⟩),(4,⟨[1,2,14],[],[]⟩),(5,⟨[4,5],[],[]⟩),(6,⟨[4,5],[],[]⟩)]) Tryz.f6 = some a6 := by kernel_rfl

/- (*payroll/payrollgen.Tape).Day -/
def a7r0 : List IOp := [oR 2 .mv [oI 0]]
def a7r1 : List IOp := [oV 3 0,
oV 4 0,
oR 5 (.call 14) [.t 4,oI 40],
oR 6 (.bin .add) [oI 20454,.t 5],
oV 7 0,
oR 8 (.call 14) [.t 7,oI 730],
oR 9 (.bin .add) [oI 20454,.t 8],
oV 10 0,
oR 11 (.call 14) [.t 10,oI 3],
oR 12 (.bin .add) [oI 20485,.t 11],
oR 13 (.bin .sub) [.t 12,oI 1],
oV 14 0,
oR 15 (.call 14) [.t 14,oI 84006],
oR 16 (.bslice 3 1 [.int .i64 0] 6 [0,1,2,3,4,5]) [.t 6,.t 9,.t 13,.t 15,oI 0,oI 84005],
oR 17 (.call 12) [.t 3,.t 16],
oV 2 17]
def a7 : AFunc := ⟨18,[.tmp 2],(.seq (.region a7r0 [0]) (.seq (.region a7r1 [2]) .ret))⟩
theorem a7_ok : compileF Tryz.prog (lk [(0,⟨[0],[],[]⟩),(1,⟨[2],[],[]⟩)]) Tryz.f7 = some a7 := by kernel_rfl

/- payroll/payrollref5.Span -/
def a8r0 : List IOp := [oR 2 (.box 27 2) [.t 0],
oR 4 (.alloc 34 [.int .i64 0,.int .i64 0]) [],
oR 5 .mv [oI 0]]
def a8r1 : List IOp := [oR 10 (.loadA 2) [.t 2],
oR 11 (.call 15) [.t 10],
oV 6 11]
def a8r2 : List IOp := [oV 12 6,
oR 13 (.bin .neq) [.t 12,oI 0]]
def a8r3 : List IOp := [oR 14 (.build [.int .i64 0,.int .i64 0] []) [],
oV 15 6,
oN (.store 2) [.t 4,.t 14],
oV 5 15]
def a8r4 : List IOp := [oV 16 1,
oR 17 (.bin .lss) [.t 16,oI 0],
oV 18 17,
oG 19 .mv [.t 1] 18 false,
oG 20 (.loadA 2) [.t 2] 18 false,
oG 21 (.call 18) [.t 20] 18 false,
oG 22 (.bin .geq) [.t 19,.t 21] 18 false,
oR 23 .pick [.t 18,.c (.bool true),.t 22]]
def a8r5 : List IOp := [oR 24 (.build [.int .i64 0,.int .i64 0] []) [],
oN (.store 2) [.t 4,.t 24],
oR 5 .mv [oI 2]]
def a8r6 : List IOp := [oR 7 .mv [oI 0],
oR 8 .mv [oI 0]]
def a8r7 : List IOp := [oR 25 (.fieldAddr 0) [.t 2],
oL 26 25]
def a8r8 : List IOp := [oR 44 (.bin .eql) [.t 26,oI 0],
oV 43 44]
def a8r9 : List IOp := [oV 46 1,
oR 47 (.call 19) [.t 46],
oV 45 47,
oR 48 (.extract 0) [.t 45],
oR 49 (.extract 1) [.t 45],
oV 7 48]
def a8r10 : List IOp := [oV 50 7,
oV 51 1,
oR 52 (.call 20) [.t 51],
oR 53 (.bin .add) [.t 50,.t 52],
oR 54 (.bin .sub) [.t 53,oI 1],
oV 8 54]
def a8r11 : List IOp := [oR 56 (.bin .eql) [.t 26,oI 1],
oV 55 56]
def a8r12 : List IOp := [oV 58 1,
oR 59 (.bin .quo) [.t 58,oI 2],
oR 60 (.call 19) [.t 59],
oV 57 60,
oR 61 (.extract 0) [.t 57],
oR 62 (.extract 1) [.t 57],
oV 7 61]
def a8r13 : List IOp := [oV 63 7,
oR 64 (.bin .add) [.t 63,oI 14],
oV 8 64]
def a8r14 : List IOp := [oV 65 1,
oR 66 (.bin .rem) [.t 65,oI 2],
oR 67 (.bin .eql) [.t 66,oI 1]]
def a8r15 : List IOp := [oV 68 7,
oR 69 (.bin .add) [.t 68,oI 15],
oV 70 7,
oV 71 1,
oR 72 (.bin .quo) [.t 71,oI 2],
oR 73 (.call 20) [.t 72],
oR 74 (.bin .add) [.t 70,.t 73],
oR 75 (.bin .sub) [.t 74,oI 1],
oV 7 69,
oV 8 75]
def a8r16 : List IOp := [oR 27 (.loadA 2) [.t 2],
oR 28 (.call 21) [.t 27],
oV 9 28]
def a8r17 : List IOp := [oV 29 1,
oV 30 9,
oR 31 (.bin .mul) [.t 29,.t 30],
oV 32 9,
oR 33 (.fieldAddr 1) [.t 2],
oL 34 33,
oR 35 (.bin .sub) [.t 32,.t 34],
oV 36 9,
oR 37 (.bin .rem) [.t 35,.t 36],
oR 38 (.bin .sub) [.t 31,.t 37],
oV 7 38]
def a8r18 : List IOp := [oV 39 7,
oV 40 9,
oR 41 (.bin .add) [.t 39,.t 40],
oR 42 (.bin .sub) [.t 41,oI 1],
oV 8 42]
def a8r19 : List IOp := [oV 76 7,
oR 77 (.minmax true) [.t 76,oI 0],
oV 78 8,
oR 79 (.minmax false) [.t 78,oI 84005],
oR 80 (.build [.int .i64 0,.int .i64 0] [(0,1),(1,1)]) [.t 77,.t 79],
oN (.store 2) [.t 4,.t 80],
oR 5 .mv [oI 0]]
def a8 : AFunc := ⟨81,[.cellA 4 2,.tmp 5],(.seq (.region a8r0 [1,2,4]) (.seq (.seq (.region a8r1 [1,2,4,6]) (.seq (.region a8r2 [1,2,4,6,13]) (.cond (.t 13) (.seq (.region a8r3 [4,5]) .ret) .skip))) (.seq (.seq (.region a8r4 [1,2,4,23]) (.cond (.t 23) (.seq (.region a8r5 [4,5]) .ret) .skip)) (.seq (.region a8r6 [1,2,4]) (.seq (.seq (.region a8r7 [1,2,4,26]) (.block 0 (.seq (.region a8r8 [1,2,4,26,43]) (.cond (.t 43) (.seq (.region a8r9 [1,4,7]) (.region a8r10 [4,7,8])) (.seq (.region a8r11 [1,2,4,55]) (.cond (.t 55) (.seq (.region a8r12 [1,4,7]) (.seq (.region a8r13 [1,4,7,8]) (.seq (.region a8r14 [1,4,7,8,67]) (.cond (.t 67) (.region a8r15 [4,7,8]) .skip)))) (.seq (.region a8r16 [1,2,4,9]) (.seq (.region a8r17 [4,7,9]) (.region a8r18 [4,7,8]))))))))) (.seq (.region a8r19 [4,5]) .ret))))))⟩
theorem a8_ok : compileF Tryz.prog (lk [(0,⟨[1,2,4],[],[]⟩),(1,⟨[1,2,4,6],[],[]⟩),(2,⟨[1,2,4,6,13],[],[]⟩),(3,⟨[4,5],[],[]⟩),(4,⟨[1,2,4,23],[],[]⟩),(5,⟨[4,5],[],[]⟩),(6,⟨[1,2,4],[],[]⟩),(7,⟨[1,2,4,26],[],[]⟩),(8,⟨[1,2,4,9],[],[]⟩),(9,⟨[4,7,9],[],[]⟩),(10,⟨[4,7,8],[],[]⟩),(11,⟨[1,2,4,26,43],[],[]⟩),(12,⟨[1,4,7],[],[]⟩),(13,⟨[4,7,8],[],[]⟩),(14,⟨[1,2,4,55],[],[]⟩),(15,⟨[1,4,7],[],[]⟩),(16,⟨[1,4,7,8],[],[]⟩),(17,⟨[1,4,7,8,67],[],[]⟩),(18,⟨[4,7,8],[],[]⟩),(19,⟨[4,5],[],[]⟩)]) Tryz.f8 = some a8 := by kernel_rfl

/- payroll/payrolllaw5.cuts -/
def a9r0 : List IOp := [oR 3 (.box 34 2) [.t 1],
oR 4 .mv [.c (.nils)]]
def a9r1 : List IOp := [oR 5 .mv [.c (.nils)]]
def a9r2 : List IOp := [oR 8 (.fieldAddr 0) [.t 3],
oL 9 8,
oV 6 9]
def a9r3 : List IOp := [oV 10 0,
oR 11 (.call 14) [.t 10,oI 4],
oV 7 11]
def a9r4 : List IOp := [oV 12 7,
oR 13 (.bin .gtr) [.t 12,oI 0]]
def a9r5 : List IOp := [oV 16 6,
oV 17 0,
oR 18 (.call 14) [.t 17,oI 8],
oR 19 (.bin .add) [oI 1,.t 18],
oR 20 (.bin .add) [.t 16,.t 19],
oV 6 20]
def a9r6 : List IOp := [oV 21 6,
oR 22 (.fieldAddr 1) [.t 3],
oL 23 22,
oR 24 (.bin .leq) [.t 21,.t 23],
oV 25 24,
oG 26 .mv [.t 0] 25 false,
oG 27 (.call 14) [.t 26,oI 8] 25 false,
oG 28 (.bin .eql) [.t 27,oI 7] 25 false,
oR 29 .pick [.t 25,.c (.bool true),.t 28]]
def a9r7 : List IOp := [oV 30 5,
oV 31 6,
oR 32 (.bslice 3 1 [.int .i64 0] 1 [0]) [.t 31],
oR 33 (.append 3 1 8) [.t 30,.t 32],
oV 5 33]
def a9r8 : List IOp := [oV 14 7,
oR 15 (.bin .sub) [.t 14,oI 1],
oV 7 15]
def a9r9 : List IOp := [oV 34 0,
oR 35 (.call 14) [.t 34,oI 10],
oR 36 (.bin .eql) [.t 35,oI 9]]
def a9r10 : List IOp := [oV 37 5,
oV 38 0,
oR 39 (.fieldAddr 0) [.t 3],
oL 40 39,
oV 41 6,
oR 42 (.bslice 3 1 [.int .i64 0] 3 [0,1,2]) [.t 40,.t 41,oI 0],
oR 43 (.call 12) [.t 38,.t 42],
oR 44 (.bslice 3 1 [.int .i64 0] 1 [0]) [.t 43],
oR 45 (.append 3 1 8) [.t 37,.t 44],
oV 5 45]
def a9r11 : List IOp := [oV 46 5,
oV 4 46]
def a9 : AFunc := ⟨47,[.tmp 4],(.seq (.region a9r0 [0,3]) (.seq (.region a9r1 [0,3,5]) (.seq (.region a9r2 [0,3,5,6]) (.seq (.seq (.region a9r3 [0,3,5,6,7]) (.block 0 (.loop (.seq (.seq (.region a9r4 [0,3,5,6,7,13]) (.cond (.t 13) .skip (.exit 0))) (.seq (.block 1 (.seq (.region a9r5 [0,3,5,6,7]) (.seq (.region a9r6 [0,3,5,6,7,29]) (.cond (.t 29) (.region a9r7 [0,3,5,6,7]) .skip)))) (.region a9r8 [0,3,5,6,7])))))) (.seq (.seq (.region a9r9 [0,3,5,6,36]) (.cond (.t 36) (.region a9r10 [5]) .skip)) (.seq (.region a9r11 [4]) .ret))))))⟩
theorem a9_ok : compileF Tryz.prog (lk [(0,⟨[0,3],[],[]⟩),(1,⟨[0,3,5],[],[]⟩),(2,⟨[0,3,5,6],[],[]⟩),(3,⟨[0,3,5,6,7],[],[]⟩),(4,⟨[0,3,5,6,7,13],[],[]⟩),(5,⟨[0,3,5,6,7],[],[]⟩),(6,⟨[0,3,5,6,7],[],[]⟩),(7,⟨[0,3,5,6,7,29],[],[]⟩),(8,⟨[0,3,5,6,7],[],[]⟩),(9,⟨[0,3,5,6,36],[],[]⟩),(10,⟨[5],[],[]⟩),(11,⟨[4],[],[]⟩)]) Tryz.f9 = some a9 := by kernel_rfl

/- (*payroll/payrollgen.Tape).Holidays -/
def a10r0 : List IOp := [oR 4 .mv [.c (.nils)]]
def a10r1 : List IOp := [oR 8 (.build [.int .i64 0,.int .i64 0,.int .i64 0,.int .i64 0,.int .i64 0,.bool false] [(0,1),(1,1),(2,1)]) [oI 0,oI 1,oI 1],
oR 9 (.build [.int .i64 0,.int .i64 0,.int .i64 0,.int .i64 0,.int .i64 0,.bool false] [(0,1),(1,1),(2,1),(5,1)]) [oI 0,oI 12,oI 25,.c (.bool true)],
oR 10 (.build [.int .i64 0,.int .i64 0,.int .i64 0,.int .i64 0,.int .i64 0,.bool false] [(0,1),(1,1),(2,1)]) [oI 0,oI 2,oI 29],
oR 11 (.build [.int .i64 0,.int .i64 0,.int .i64 0,.int .i64 0,.int .i64 0,.bool false] [(0,1),(4,1)]) [oI 1,oI 1],
oR 12 (.build [.int .i64 0,.int .i64 0,.int .i64 0,.int .i64 0,.int .i64 0,.bool false] [(0,1),(4,1)]) [oI 1,oI (-2)],
oR 13 (.build [.int .i64 0,.int .i64 0,.int .i64 0,.int .i64 0,.int .i64 0,.bool false] [(0,1),(4,1)]) [oI 1,oI (-100)],
oR 14 (.build [.int .i64 0,.int .i64 0,.int .i64 0,.int .i64 0,.int .i64 0,.bool false] [(0,1),(1,1),(3,1),(2,1)]) [oI 2,oI 11,oI 3,oI 4],
oR 15 (.build [.int .i64 0,.int .i64 0,.int .i64 0,.int .i64 0,.int .i64 0,.bool false] [(0,1),(1,1),(3,1),(2,1)]) [oI 2,oI 1,oI 0,oI (-1)],
oR 16 (.build [.int .i64 0,.int .i64 0,.int .i64 0,.int .i64 0,.int .i64 0,.bool false] [(0,1),(1,1),(3,1),(2,1),(5,1)]) [oI 2,oI 1,oI 5,oI 1,.c (.bool true)],
oR 17 (.build [.int .i64 0,.int .i64 0,.int .i64 0,.int .i64 0,.int .i64 0,.bool false] [(0,1),(1,1),(3,1),(2,1),(4,1)]) [oI 2,oI 12,oI 3,oI 5,oI 7],
oR 18 (.build [.int .i64 0,.int .i64 0,.int .i64 0,.int .i64 0,.int .i64 0,.bool false] [(0,1),(1,1),(3,1),(2,1),(4,1)]) [oI 2,oI 1,oI 4,oI 1,oI (-7)],
oR 19 (.bslice 53 6 [.int .i64 0,.int .i64 0,.int .i64 0,.int .i64 0,.int .i64 0,.bool false] 11 [0,1,2,3,4,5,6,7,8,9,10]) [.t 8,.t 9,.t 10,.t 11,.t 12,.t 13,.t 14,.t 15,.t 16,.t 17,.t 18],
oV 5 19]
def a10r2 : List IOp := [oR 6 .mv [.c (.nils)]]
def a10r3 : List IOp := [oV 20 0,
oR 21 (.call 14) [.t 20,oI 4],
oV 7 21]
def a10r4 : List IOp := [oV 22 7,
oR 23 (.bin .gtr) [.t 22,oI 0]]
def a10r5 : List IOp := [oV 26 6,
oV 27 5,
oV 28 0,
oV 29 5,
oR 30 .len [.t 29],
oR 31 (.call 14) [.t 28,.t 30],
oR 32 (.indexAddr 6) [.t 27,.t 31],
oR 33 (.loadA 6) [.t 32],
oR 34 (.bslice 53 6 [.int .i64 0,.int .i64 0,.int .i64 0,.int .i64 0,.int .i64 0,.bool false] 1 [0]) [.t 33],
oR 35 (.append 53 6 48) [.t 26,.t 34],
oV 6 35]
def a10r6 : List IOp := [oV 24 7,
oR 25 (.bin .sub) [.t 24,oI 1],
oV 7 25]
def a10r7 : List IOp := [oV 36 1,
oV 37 36,
oG 38 .mv [.t 0] 37 true,
oG 39 (.call 14) [.t 38,oI 6] 37 true,
oG 40 (.bin .eql) [.t 39,oI 5] 37 true,
oR 41 .pick [.t 37,.t 40,.c (.bool false)]]
def a10r8 : List IOp := [oV 42 6,
oV 43 0,
oR 44 (.call 14) [.t 43,oI 4],
oV 45 0,
oR 46 (.call 14) [.t 45,oI 14],
oV 47 0,
oR 48 (.bslice 3 1 [.int .i64 0] 4 [0,1,2,3]) [oI 0,oI 6,oI 31,oI (-1)],
oR 49 (.call 12) [.t 47,.t 48],
oV 50 0,
oR 51 (.call 14) [.t 50,oI 8],
oV 52 0,
oR 53 (.bslice 3 1 [.int .i64 0] 3 [0,1,2]) [oI 0,oI 8,oI 101],
oR 54 (.call 12) [.t 52,.t 53],
oR 55 (.build [.int .i64 0,.int .i64 0,.int .i64 0,.int .i64 0,.int .i64 0,.bool false] [(0,1),(1,1),(2,1),(3,1),(4,1)]) [.t 44,.t 46,.t 49,.t 51,.t 54],
oR 56 (.bslice 53 6 [.int .i64 0,.int .i64 0,.int .i64 0,.int .i64 0,.int .i64 0,.bool false] 1 [0]) [.t 55],
oR 57 (.append 53 6 48) [.t 42,.t 56],
oV 6 57]
def a10r9 : List IOp := [oV 58 6,
oV 4 58]
def a10 : AFunc := ⟨59,[.tmp 4],(.seq (.region a10r0 [0,1]) (.seq (.region a10r1 [0,1,5]) (.seq (.region a10r2 [0,1,5,6]) (.seq (.seq (.region a10r3 [0,1,5,6,7]) (.block 0 (.loop (.seq (.seq (.region a10r4 [0,1,5,6,7,23]) (.cond (.t 23) .skip (.exit 0))) (.seq (.block 1 (.region a10r5 [0,1,5,6,7])) (.region a10r6 [0,1,5,6,7])))))) (.seq (.seq (.region a10r7 [0,6,41]) (.cond (.t 41) (.region a10r8 [6]) .skip)) (.seq (.region a10r9 [4]) .ret))))))⟩
theorem a10_ok : compileF Tryz.prog (lk [(0,⟨[0,1],[],[]⟩),(1,⟨[0,1,5],[],[]⟩),(2,⟨[0,1,5,6],[],[]⟩),(3,⟨[0,1,5,6,7],[],[]⟩),(4,⟨[0,1,5,6,7,23],[],[]⟩),(5,⟨[0,1,5,6,7],[],[]⟩),(6,⟨[0,1,5,6,7],[],[]⟩),(7,⟨[0,6,41],[],[]⟩),(8,⟨[6],[],[]⟩),(9,⟨[4],[],[]⟩)]) Tryz.f10 = some a10 := by kernel_rfl

/- payroll/payrolllaw5.divides -/
def a11r0 : List IOp := [oR 7 (.box 27 2) [.t 1],
oR 12 .mv [.c (.bool false)]]
def a11r1 : List IOp := [oR 27 (.loadA 2) [.t 7],
oV 28 2,
oV 29 3,
oV 30 4,
oV 31 5,
oR 32 (.call 22) [.t 27,.t 28,.t 29,.t 30,.t 31],
oV 26 32,
oR 33 (.extract 0) [.t 26],
oR 34 (.extract 1) [.t 26],
oV 13 33,
oV 14 34]
def a11r2 : List IOp := [oR 36 (.loadA 2) [.t 7],
oV 37 2,
oV 38 3,
oV 39 4,
oV 40 5,
oR 41 (.call 23) [.t 36,.t 37,.t 38,.t 39,.t 40],
oV 35 41,
oR 42 (.extract 0) [.t 35],
oR 43 (.extract 1) [.t 35],
oV 15 42,
oV 16 43]
def a11r3 : List IOp := [oR 45 (.loadA 2) [.t 7],
oV 46 2,
oV 47 3,
oV 48 4,
oV 49 5,
oR 50 (.call 24) [.t 45,.t 46,.t 47,.t 48,.t 49],
oV 44 50,
oR 51 (.extract 0) [.t 44],
oR 52 (.extract 1) [.t 44],
oV 17 51,
oV 18 52]
def a11r4 : List IOp := [oR 54 (.loadA 2) [.t 7],
oV 55 2,
oV 56 3,
oV 57 4,
oV 58 5,
oR 59 (.call 25) [.t 54,.t 55,.t 56,.t 57,.t 58],
oV 53 59,
oR 60 (.extract 0) [.t 53],
oR 61 (.extract 1) [.t 53],
oV 19 60,
oV 20 61]
def a11r5 : List IOp := [oV 63 0,
oR 64 (.loadA 2) [.t 7],
oV 65 2,
oV 66 3,
oV 67 4,
oV 68 5,
oR 69 (.call 26) [.t 63,.t 64,.t 65,.t 66,.t 67,.t 68],
oV 62 69,
oR 70 (.extract 0) [.t 62],
oR 71 (.extract 1) [.t 62],
oV 21 70,
oV 22 71]
def a11r6 : List IOp := [oV 73 0,
oR 74 (.loadA 2) [.t 7],
oV 75 2,
oV 76 3,
oV 77 4,
oV 78 5,
oR 79 (.call 27) [.t 73,.t 74,.t 75,.t 76,.t 77,.t 78],
oV 72 79,
oR 80 (.extract 0) [.t 72],
oR 81 (.extract 1) [.t 72],
oV 23 80,
oV 24 81]
def a11r7 : List IOp := [oV 82 13,
oR 83 .len [.t 82],
oV 84 15,
oR 85 .len [.t 84],
oR 86 (.bin .neq) [.t 83,.t 85],
oV 87 86,
oG 88 .mv [.t 14] 87 false,
oG 89 .mv [.t 16] 87 false,
oG 90 (.bin .neq) [.t 88,.t 89] 87 false,
oR 91 .pick [.t 87,.c (.bool true),.t 90],
oV 92 91,
oG 93 .mv [.t 17] 92 false,
oG 94 .len [.t 93] 92 false,
oG 95 .mv [.t 19] 92 false,
oG 96 .len [.t 95] 92 false,
oG 97 (.bin .neq) [.t 94,.t 96] 92 false,
oR 98 .pick [.t 92,.c (.bool true),.t 97],
oV 99 98,
oG 100 .mv [.t 18] 99 false,
oG 101 .mv [.t 20] 99 false,
oG 102 (.bin .neq) [.t 100,.t 101] 99 false,
oR 103 .pick [.t 99,.c (.bool true),.t 102],
oV 104 103,
oG 105 .mv [.t 21] 104 false,
oG 106 .len [.t 105] 104 false,
oG 107 .mv [.t 23] 104 false,
oG 108 .len [.t 107] 104 false,
oG 109 (.bin .neq) [.t 106,.t 108] 104 false,
oR 110 .pick [.t 104,.c (.bool true),.t 109],
oV 111 110,
oG 112 .mv [.t 22] 111 false,
oG 113 .mv [.t 24] 111 false,
oG 114 (.bin .neq) [.t 112,.t 113] 111 false,
oR 115 .pick [.t 111,.c (.bool true),.t 114]]
def a11r8 : List IOp := [oR 12 .mv [.c (.bool false)]]
def a11r9 : List IOp := [oR 25 .mv [oI 0]]
def a11r10 : List IOp := [oV 116 25,
oV 117 13,
oR 118 .len [.t 117],
oR 119 (.bin .lss) [.t 116,.t 118]]
def a11r11 : List (Nat × DOp) := [(0,⟨oV 122 13,none,[1,4,5,6,7]⟩),
(1,⟨oV 123 25,none,[0,4,5,6,7]⟩),
(2,⟨oR 124 (.indexAddr 1) [.t 122,.t 123],none,[4,5,6,7]⟩),
(3,⟨oL 125 124,none,[4,5,6,7]⟩),
(4,⟨oV 126 15,none,[0,1,2,3,5]⟩),
(5,⟨oV 127 25,none,[0,1,2,3,4]⟩),
(6,⟨oR 128 (.indexAddr 1) [.t 126,.t 127],none,[0,1,2,3]⟩),
(7,⟨oL 129 128,none,[0,1,2,3]⟩),
(8,⟨oR 130 (.bin .neq) [.t 125,.t 129],none,[]⟩),
(9,⟨oV 131 130,none,[]⟩),
(10,⟨oG 132 .mv [.t 25] 131 false,none,[11,12]⟩),
(11,⟨oG 133 .mv [.t 17] 131 false,none,[10]⟩),
(12,⟨oG 134 .len [.t 133] 131 false,none,[10]⟩),
(13,⟨oG 135 (.bin .lss) [.t 132,.t 134] 131 false,none,[]⟩),
(14,⟨oG 136 .mv [.t 135] 131 false,none,[]⟩),
(15,⟨oG 137 .mv [.t 17] 136 true,none,[16,19,20,21,22]⟩),
(16,⟨oG 138 .mv [.t 25] 136 true,none,[15,19,20,21,22]⟩),
(17,⟨oG 139 (.indexAddr 2) [.t 137,.t 138] 136 true,none,[19,20,21,22]⟩),
(18,⟨oG 140 (.loadA 2) [.t 139] 136 true,none,[19,20,21,22]⟩),
(19,⟨oG 141 .mv [.t 19] 136 true,none,[15,16,17,18,20]⟩),
(20,⟨oG 142 .mv [.t 25] 136 true,none,[15,16,17,18,19]⟩),
(21,⟨oG 143 (.indexAddr 2) [.t 141,.t 142] 136 true,none,[15,16,17,18]⟩),
(22,⟨oG 144 (.loadA 2) [.t 143] 136 true,none,[15,16,17,18]⟩),
(23,⟨oG 145 (.eqA true [.int .i64,.int .i64]) [.t 140,.t 144] 136 true,none,[]⟩),
(24,⟨oG 146 .pick [.t 136,.t 145,.c (.bool false)] 131 false,none,[]⟩),
(25,⟨oR 147 .pick [.t 131,.c (.bool true),.t 146],none,[]⟩),
(26,⟨oV 148 147,none,[]⟩),
(27,⟨oG 149 .mv [.t 25] 148 false,none,[28,29]⟩),
(28,⟨oG 150 .mv [.t 21] 148 false,none,[27]⟩),
(29,⟨oG 151 .len [.t 150] 148 false,none,[27]⟩),
(30,⟨oG 152 (.bin .lss) [.t 149,.t 151] 148 false,none,[]⟩),
(31,⟨oG 153 .mv [.t 152] 148 false,none,[]⟩),
(32,⟨oG 154 .mv [.t 21] 153 true,none,[33,36,37,38,39]⟩),
(33,⟨oG 155 .mv [.t 25] 153 true,none,[32,36,37,38,39]⟩),
(34,⟨oG 156 (.indexAddr 1) [.t 154,.t 155] 153 true,none,[36,37,38,39]⟩),
(35,⟨oG 157 .load1 [.t 156] 153 true,none,[36,37,38,39]⟩),
(36,⟨oG 158 .mv [.t 23] 153 true,none,[32,33,34,35,37]⟩),
(37,⟨oG 159 .mv [.t 25] 153 true,none,[32,33,34,35,36]⟩),
(38,⟨oG 160 (.indexAddr 1) [.t 158,.t 159] 153 true,none,[32,33,34,35]⟩),
(39,⟨oG 161 .load1 [.t 160] 153 true,none,[32,33,34,35]⟩),
(40,⟨oG 162 (.bin .neq) [.t 157,.t 161] 153 true,none,[]⟩),
(41,⟨oG 163 .pick [.t 153,.t 162,.c (.bool false)] 148 false,none,[]⟩),
(42,⟨oR 164 .pick [.t 148,.c (.bool true),.t 163],none,[]⟩)]
def a11r12 : List IOp := [oR 12 .mv [.c (.bool false)]]
def a11r13 : List IOp := [oV 120 25,
oR 121 (.bin .add) [.t 120,oI 1],
oV 25 121]
def a11r14 : List IOp := [oR 12 .mv [.c (.bool true)]]
def a11 : AFunc := ⟨165,[.tmp 12],(.seq (.region a11r0 [0,2,3,4,5,7]) (.seq (.region a11r1 [0,2,3,4,5,7,13,14]) (.seq (.region a11r2 [0,2,3,4,5,7,13,14,15,16]) (.seq (.region a11r3 [0,2,3,4,5,7,13,14,15,16,17,18]) (.seq (.region a11r4 [0,2,3,4,5,7,13,14,15,16,17,18,19,20]) (.seq (.region a11r5 [0,2,3,4,5,7,13,14,15,16,17,18,19,20,21,22]) (.seq (.region a11r6 [13,14,15,16,17,18,19,20,21,22,23,24]) (.seq (.seq (.region a11r7 [13,15,17,19,21,23,115]) (.cond (.t 115) (.seq (.region a11r8 [12]) .ret) .skip)) (.seq (.seq (.region a11r9 [13,15,17,19,21,23,25]) (.block 0 (.loop (.seq (.seq (.region a11r10 [13,15,17,19,21,23,25,119]) (.cond (.t 119) .skip (.exit 0))) (.seq (.block 1 (.seq (.draw a11r11 [] [13,15,17,19,21,23,25,164]) (.cond (.t 164) (.seq (.region a11r12 [12]) .ret) .skip))) (.region a11r13 [13,15,17,19,21,23,25])))))) (.seq (.region a11r14 [12]) .ret))))))))))⟩
theorem a11_ok : compileF Tryz.prog (lk [(0,⟨[0,2,3,4,5,7],[],[]⟩),(1,⟨[0,2,3,4,5,7,13,14],[],[]⟩),(2,⟨[0,2,3,4,5,7,13,14,15,16],[],[]⟩),(3,⟨[0,2,3,4,5,7,13,14,15,16,17,18],[],[]⟩),(4,⟨[0,2,3,4,5,7,13,14,15,16,17,18,19,20],[],[]⟩),(5,⟨[0,2,3,4,5,7,13,14,15,16,17,18,19,20,21,22],[],[]⟩),(6,⟨[13,14,15,16,17,18,19,20,21,22,23,24],[],[]⟩),(7,⟨[13,15,17,19,21,23,115],[],[]⟩),(8,⟨[12],[],[]⟩),(9,⟨[13,15,17,19,21,23,25],[],[]⟩),(10,⟨[13,15,17,19,21,23,25,119],[],[]⟩),(11,⟨[13,15,17,19,21,23,25],[],[]⟩),(12,⟨[13,15,17,19,21,23,25,164],[[],[],[0,1],[2,0,1],[],[],[4,5],[6,4,5],[3,7,2,0,1,6,4,5],[8,3,7,2,0,1,6,4,5],[9,8,3,7,2,0,1,6,4,5],[9,8,3,7,2,0,1,6,4,5],[11,9,8,3,7,2,0,1,6,4,5],[10,12,9,8,3,7,2,0,1,6,4,5,11],[13,9,10,12,8,3,7,2,0,1,6,4,5,11],[14,13,9,10,12,8,3,7,2,0,1,6,4,5,11],[14,13,9,10,12,8,3,7,2,0,1,6,4,5,11],[15,16,14,13,9,10,12,8,3,7,2,0,1,6,4,5,11],[17,14,15,16,13,9,10,12,8,3,7,2,0,1,6,4,5,11],[14,13,9,10,12,8,3,7,2,0,1,6,4,5,11],[14,13,9,10,12,8,3,7,2,0,1,6,4,5,11],[19,20,14,13,9,10,12,8,3,7,2,0,1,6,4,5,11],[21,14,19,20,13,9,10,12,8,3,7,2,0,1,6,4,5,11],[18,22,14,17,15,16,13,9,10,12,8,3,7,2,0,1,6,4,5,11,21,19,20],[14,23,9,13,10,12,8,3,7,2,0,1,6,4,5,11,18,22,17,15,16,21,19,20],[9,24,8,3,7,2,0,1,6,4,5,14,23,13,10,12,11,18,22,17,15,16,21,19,20],[25,14,9,24,8,3,7,2,0,1,6,4,5,23,13,10,12,11,18,22,17,15,16,21,19,20],[26,25,14,9,24,8,3,7,2,0,1,6,4,5,23,13,10,12,11,18,22,17,15,16,21,19,20],[26,25,14,9,24,8,3,7,2,0,1,6,4,5,23,13,10,12,11,18,22,17,15,16,21,19,20],[28,26,25,14,9,24,8,3,7,2,0,1,6,4,5,23,13,10,12,11,18,22,17,15,16,21,19,20],[27,29,26,25,14,9,24,8,3,7,2,0,1,6,4,5,23,13,10,12,11,18,22,17,15,16,21,19,20,28],[30,26,27,29,25,14,9,24,8,3,7,2,0,1,6,4,5,23,13,10,12,11,18,22,17,15,16,21,19,20,28],[31,30,26,27,29,25,14,9,24,8,3,7,2,0,1,6,4,5,23,13,10,12,11,18,22,17,15,16,21,19,20,28],[31,30,26,27,29,25,14,9,24,8,3,7,2,0,1,6,4,5,23,13,10,12,11,18,22,17,15,16,21,19,20,28],[32,33,31,30,26,27,29,25,14,9,24,8,3,7,2,0,1,6,4,5,23,13,10,12,11,18,22,17,15,16,21,19,20,28],[34,31,32,33,30,26,27,29,25,14,9,24,8,3,7,2,0,1,6,4,5,23,13,10,12,11,18,22,17,15,16,21,19,20,28],[31,30,26,27,29,25,14,9,24,8,3,7,2,0,1,6,4,5,23,13,10,12,11,18,22,17,15,16,21,19,20,28],[31,30,26,27,29,25,14,9,24,8,3,7,2,0,1,6,4,5,23,13,10,12,11,18,22,17,15,16,21,19,20,28],[36,37,31,30,26,27,29,25,14,9,24,8,3,7,2,0,1,6,4,5,23,13,10,12,11,18,22,17,15,16,21,19,20,28],[38,31,36,37,30,26,27,29,25,14,9,24,8,3,7,2,0,1,6,4,5,23,13,10,12,11,18,22,17,15,16,21,19,20,28],[35,39,31,34,32,33,30,26,27,29,25,14,9,24,8,3,7,2,0,1,6,4,5,23,13,10,12,11,18,22,17,15,16,21,19,20,28,38,36,37],[31,40,26,30,27,29,25,14,9,24,8,3,7,2,0,1,6,4,5,23,13,10,12,11,18,22,17,15,16,21,19,20,28,35,39,34,32,33,38,36,37],[26,41,25,14,9,24,8,3,7,2,0,1,6,4,5,23,13,10,12,11,18,22,17,15,16,21,19,20,31,40,30,27,29,28,35,39,34,32,33,38,36,37]],[0,1,2,3,4,5,6,7,8,9,10,11,12,13,14,15,16,17,18,19,20,21,22,23,24,25,26,27,28,29,30,31,32,33,34,35,36,37,38,39,40,41,42]⟩),(13,⟨[12],[],[]⟩),(14,⟨[12],[],[]⟩)]) Tryz.f11 = some a11 := by kernel_rfl

/- (*payroll/payrollgen.Tape).Pick -/
def a12r0 : List IOp := [oR 4 .mv [oI 0]]
def a12r1 : List IOp := [oV 5 1,
oV 6 0,
oV 7 1,
oR 8 .len [.t 7],
oR 9 (.call 14) [.t 6,.t 8],
oR 10 (.indexAddr 1) [.t 5,.t 9],
oL 11 10,
oV 4 11]
def a12 : AFunc := ⟨12,[.tmp 4],(.seq (.region a12r0 [0,1]) (.seq (.region a12r1 [4]) .ret))⟩
theorem a12_ok : compileF Tryz.prog (lk [(0,⟨[0,1],[],[]⟩),(1,⟨[4],[],[]⟩)]) Tryz.f12 = some a12 := by kernel_rfl

/- payroll/payrolllaw5.sane -/
def a13r0 : List IOp := [oR 0 .mv [.c (.bool false)]]
def a13r1 : List IOp := [oR 10 (.build [.int .i64 0,.int .i64 0] [(0,1),(1,1)]) [oI 2,oI 4],
oR 1 (.alloc 27 [.int .i64 0,.int .i64 0]) [],
oN (.store 2) [.t 1,.t 10]]
def a13r2 : List IOp := [oR 12 (.loadA 2) [.t 1],
oR 13 (.call 28) [.t 12,oI 1],
oV 11 13,
oR 14 (.extract 0) [.t 11],
oR 15 (.extract 1) [.t 11],
oR 2 (.alloc 34 [.int .i64 0,.int .i64 0]) [],
oN (.store 2) [.t 2,.t 14],
oV 3 15]
def a13r3 : List IOp := [oR 17 (.build [.int .i64 0,.int .i64 0] []) [],
oR 18 (.bslice 3 1 [.int .i64 0] 1 [0]) [oI 20499],
oR 19 (.call 22) [.t 17,oI 673,.t 18,oI 2,.c (.nils)],
oV 16 19,
oR 20 (.extract 0) [.t 16],
oR 21 (.extract 1) [.t 16],
oV 4 20,
oV 5 21]
def a13r4 : List IOp := [oR 23 (.build [.int .i64 0,.int .i64 0] []) [],
oR 24 (.bslice 3 1 [.int .i64 0] 1 [0]) [oI 20554],
oR 25 (.call 26) [oI 100,.t 23,oI 675,.t 24,oI 0,.c (.nils)],
oV 22 25,
oR 26 (.extract 0) [.t 22],
oR 27 (.extract 1) [.t 22],
oV 6 26,
oV 7 27]
def a13r5 : List IOp := [oR 29 (.loadA 2) [.t 1],
oR 30 (.call 29) [.t 29,oI 17],
oV 28 30,
oR 31 (.extract 0) [.t 28],
oR 32 (.extract 1) [.t 28],
oV 8 31,
oV 9 32]
def a13r6 : List IOp := [oV 33 3,
oR 34 (.bin .eql) [.t 33,oI 0],
oV 35 34,
oG 36 (.loadA 2) [.t 2] 35 true,
oG 37 (.build [.int .i64 0,.int .i64 0] [(0,1),(1,1)]) [oI 4,oI 17] 35 true,
oG 38 (.eqA false [.int .i64,.int .i64]) [.t 36,.t 37] 35 true,
oR 39 .pick [.t 35,.t 38,.c (.bool false)],
oV 40 39,
oG 41 .mv [.t 5] 40 true,
oG 42 (.bin .eql) [.t 41,oI 0] 40 true,
oR 43 .pick [.t 40,.t 42,.c (.bool false)],
oV 44 43,
oG 45 .mv [.t 4] 44 true,
oG 46 .len [.t 45] 44 true,
oG 47 (.bin .eql) [.t 46,oI 2] 44 true,
oR 48 .pick [.t 44,.t 47,.c (.bool false)],
oV 49 48,
oG 50 .mv [.t 4] 49 true,
oG 51 (.indexAddr 1) [.t 50,oI 0] 49 true,
oG 52 .load1 [.t 51] 49 true,
oG 53 (.bin .eql) [.t 52,oI 14] 49 true,
oR 54 .pick [.t 49,.t 53,.c (.bool false)],
oV 55 54,
oG 56 .mv [.t 4] 55 true,
oG 57 (.indexAddr 1) [.t 56,oI 1] 55 true,
oG 58 .load1 [.t 57] 55 true,
oG 59 (.bin .eql) [.t 58,oI 16] 55 true,
oR 60 .pick [.t 55,.t 59,.c (.bool false)],
oV 61 60,
oG 62 .mv [.t 7] 61 true,
oG 63 (.bin .eql) [.t 62,oI 0] 61 true,
oR 64 .pick [.t 61,.t 63,.c (.bool false)],
oV 65 64,
oG 66 .mv [.t 6] 65 true,
oG 67 .len [.t 66] 65 true,
oG 68 (.bin .eql) [.t 67,oI 2] 65 true,
oR 69 .pick [.t 65,.t 68,.c (.bool false)],
oV 70 69,
oG 71 .mv [.t 6] 70 true,
oG 72 (.indexAddr 1) [.t 71,oI 0] 70 true,
oG 73 .load1 [.t 72] 70 true,
oG 74 (.bin .eql) [.t 73,oI 33] 70 true,
oR 75 .pick [.t 70,.t 74,.c (.bool false)],
oV 76 75,
oG 77 .mv [.t 6] 76 true,
oG 78 (.indexAddr 1) [.t 77,oI 1] 76 true,
oG 79 .load1 [.t 78] 76 true,
oG 80 (.bin .eql) [.t 79,oI 67] 76 true,
oR 81 .pick [.t 76,.t 80,.c (.bool false)],
oV 82 81,
oG 83 .mv [.t 9] 82 true,
oG 84 (.bin .eql) [.t 83,oI 0] 82 true,
oR 85 .pick [.t 82,.t 84,.c (.bool false)],
oV 86 85,
oG 87 .mv [.t 8] 86 true,
oG 88 (.bin .eql) [.t 87,oI 1] 86 true,
oR 89 .pick [.t 86,.t 88,.c (.bool false)],
oV 90 89,
oG 91 (.build [.int .i64 0,.int .i64 0] []) [] 90 true,
oG 92 (.call 30) [.t 91] 90 true,
oG 93 (.bin .eql) [.t 92,oI 2760] 90 true,
oR 94 .pick [.t 90,.t 93,.c (.bool false)],
oV 0 94]
def a13 : AFunc := ⟨95,[.tmp 0],(.seq (.region a13r0 []) (.seq (.region a13r1 [1]) (.seq (.region a13r2 [1,2,3]) (.seq (.region a13r3 [1,2,3,4,5]) (.seq (.region a13r4 [1,2,3,4,5,6,7]) (.seq (.region a13r5 [2,3,4,5,6,7,8,9]) (.seq (.region a13r6 [0]) .ret)))))))⟩
theorem a13_ok : compileF Tryz.prog (lk [(0,⟨[],[],[]⟩),(1,⟨[1],[],[]⟩),(2,⟨[1,2,3],[],[]⟩),(3,⟨[1,2,3,4,5],[],[]⟩),(4,⟨[1,2,3,4,5,6,7],[],[]⟩),(5,⟨[2,3,4,5,6,7,8,9],[],[]⟩),(6,⟨[0],[],[]⟩)]) Tryz.f13 = some a13 := by kernel_rfl

/- (*payroll/payrollgen.Tape).Next -/
def a14r0 : List IOp := [oR 4 .mv [oI 0]]
def a14r1 : List (Nat × DOp) := [(0,⟨oV 5 1,none,[]⟩),
(1,⟨oR 6 (.bin .lss) [.t 5,oI 1],none,[]⟩),
(2,⟨oV 7 6,none,[]⟩),
(3,⟨oG 8 .mv [.t 0] 7 false,none,[7,8,9,10,11]⟩),
(4,⟨oG 9 .nilchk [.t 8] 7 false,none,[7,8,9,10,11]⟩),
(5,⟨oG 10 (.fieldAddr 1) [.t 9] 7 false,none,[7,8,9,10,11]⟩),
(6,⟨oG 11 .load1 [.t 10] 7 false,none,[7,8,9,10,11]⟩),
(7,⟨oG 12 .mv [.t 0] 7 false,none,[3,4,5,6]⟩),
(8,⟨oG 13 .nilchk [.t 12] 7 false,none,[3,4,5,6]⟩),
(9,⟨oG 14 (.fieldAddr 0) [.t 13] 7 false,none,[3,4,5,6]⟩),
(10,⟨oG 15 .load1 [.t 14] 7 false,none,[3,4,5,6]⟩),
(11,⟨oG 16 .len [.t 15] 7 false,none,[3,4,5,6]⟩),
(12,⟨oG 17 (.bin .geq) [.t 11,.t 16] 7 false,none,[]⟩),
(13,⟨oR 18 .pick [.t 7,.c (.bool true),.t 17],none,[]⟩)]
def a14r2 : List IOp := [oR 4 .mv [oI 0]]
def a14r3 : List IOp := [oV 19 0,
oR 20 .nilchk [.t 19],
oR 21 (.fieldAddr 1) [.t 20],
oL 22 21,
oR 23 (.bin .add) [.t 22,oI 1],
oR 24 .nilchk [.t 19],
oR 25 (.fieldAddr 1) [.t 24],
oN (.store 1) [.t 25,.t 23]]
def a14r4 : List (Nat × DOp) := [(0,⟨oV 26 0,none,[4,5,6,7,8,11]⟩),
(1,⟨oR 27 .nilchk [.t 26],none,[4,5,6,7,8,11]⟩),
(2,⟨oR 28 (.fieldAddr 0) [.t 27],none,[4,5,6,7,8,11]⟩),
(3,⟨oL 29 28,none,[4,5,6,7,8,11]⟩),
(4,⟨oV 30 0,none,[0,1,2,3,11]⟩),
(5,⟨oR 31 .nilchk [.t 30],none,[0,1,2,3,11]⟩),
(6,⟨oR 32 (.fieldAddr 1) [.t 31],none,[0,1,2,3,11]⟩),
(7,⟨oL 33 32,none,[0,1,2,3,11]⟩),
(8,⟨oR 34 (.bin .sub) [.t 33,oI 1],none,[0,1,2,3,11]⟩),
(9,⟨oR 35 (.indexAddr 1) [.t 29,.t 34],none,[11]⟩),
(10,⟨oL 36 35,none,[11]⟩),
(11,⟨oV 37 1,none,[0,1,2,3,4,5,6,7,8,9,10]⟩),
(12,⟨oR 38 (.call 31) [.t 36,.t 37],none,[]⟩),
(13,⟨oV 4 38,none,[]⟩)]
def a14 : AFunc := ⟨39,[.tmp 4],(.seq (.region a14r0 [0,1]) (.seq (.seq (.draw a14r1 [] [0,1,18]) (.cond (.t 18) (.seq (.region a14r2 [4]) .ret) .skip)) (.seq (.region a14r3 [0,1]) (.seq (.draw a14r4 [] [4]) .ret))))⟩
theorem a14_ok : compileF Tryz.prog (lk [(0,⟨[0,1],[],[]⟩),(1,⟨[0,1,18],[[],[0],[1,0],[2,1,0],[3,2,1,0],[4,2,3,1,0],[5,2,4,3,1,0],[2,1,0],[7,2,1,0],[8,2,7,1,0],[9,2,8,7,1,0],[10,2,9,8,7,1,0],[6,11,2,5,4,3,1,0,10,9,8,7],[2,12,1,0,6,11,5,4,3,10,9,8,7]],[0,1,2,3,4,5,6,7,8,9,10,11,12,13]⟩),(2,⟨[4],[],[]⟩),(3,⟨[0,1],[],[]⟩),(4,⟨[4],[[],[0],[1,0],[2,1,0],[],[4],[5,4],[6,5,4],[7,6,5,4],[3,8,2,1,0,7,6,5,4],[9,3,8,2,1,0,7,6,5,4],[],[10,11,9,3,8,2,1,0,7,6,5,4],[12,0,1,2,3,4,5,6,7,8,9,10,11]],[0,1,2,3,4,5,6,7,8,9,10,11,12,13]⟩)]) Tryz.f14 = some a14 := by kernel_rfl

/- payroll/payrollref5.Valid -/
def a15r0 : List IOp := [oR 1 (.box 27 2) [.t 0],
oR 2 .mv [oI 0]]
def a15r1 : List IOp := [oR 3 (.fieldAddr 0) [.t 1],
oL 4 3]
def a15r2 : List IOp := [oR 6 (.bin .eql) [.t 4,oI 0],
oV 5 6]
def a15r3 : List IOp := [oR 7 (.bin .eql) [.t 4,oI 1],
oV 5 7]
def a15r4 : List IOp := [oR 8 (.fieldAddr 1) [.t 1],
oL 9 8,
oR 10 (.bin .eql) [.t 9,oI 0]]
def a15r5 : List IOp := [oR 2 .mv [oI 0]]
def a15r6 : List IOp := [oR 12 (.bin .eql) [.t 4,oI 2],
oV 11 12]
def a15r7 : List IOp := [oR 13 (.bin .eql) [.t 4,oI 3],
oV 11 13]
def a15r8 : List (Nat × DOp) := [(0,⟨oR 14 (.fieldAddr 1) [.t 1],none,[]⟩),
(1,⟨oL 15 14,none,[]⟩),
(2,⟨oR 16 (.bin .geq) [.t 15,oI 0],none,[]⟩),
(3,⟨oV 17 16,none,[]⟩),
(4,⟨oG 18 (.fieldAddr 1) [.t 1] 17 true,none,[6,7]⟩),
(5,⟨oG 19 .load1 [.t 18] 17 true,none,[6,7]⟩),
(6,⟨oG 20 (.loadA 2) [.t 1] 17 true,none,[4,5]⟩),
(7,⟨oG 21 (.call 21) [.t 20] 17 true,none,[4,5]⟩),
(8,⟨oG 22 (.bin .lss) [.t 19,.t 21] 17 true,none,[]⟩),
(9,⟨oR 23 .pick [.t 17,.t 22,.c (.bool false)],none,[]⟩)]
def a15r9 : List IOp := [oR 2 .mv [oI 0]]
def a15r10 : List IOp := [oR 2 .mv [oI 2]]
def a15 : AFunc := ⟨24,[.tmp 2],(.seq (.region a15r0 [1]) (.seq (.seq (.region a15r1 [1,4]) (.block 0 (.seq (.seq (.region a15r2 [1,4,5]) (.cond (.t 5) .skip (.region a15r3 [1,4,5]))) (.cond (.t 5) (.seq (.region a15r4 [10]) (.cond (.t 10) (.seq (.region a15r5 [2]) .ret) .skip)) (.seq (.seq (.region a15r6 [1,4,11]) (.cond (.t 11) .skip (.region a15r7 [1,11]))) (.cond (.t 11) (.seq (.draw a15r8 [] [23]) (.cond (.t 23) (.seq (.region a15r9 [2]) .ret) .skip)) .skip)))))) (.seq (.region a15r10 [2]) .ret)))⟩
theorem a15_ok : compileF Tryz.prog (lk [(0,⟨[1],[],[]⟩),(1,⟨[1,4],[],[]⟩),(2,⟨[1,4,5],[],[]⟩),(3,⟨[1,4,5],[],[]⟩),(4,⟨[10],[],[]⟩),(5,⟨[2],[],[]⟩),(6,⟨[1,4,11],[],[]⟩),(7,⟨[1,11],[],[]⟩),(8,⟨[23],[[],[0],[1,0],[2,1,0],[3,2,1,0],[4,3,2,1,0],[3,2,1,0],[6,3,2,1,0],[5,7,3,4,2,1,0,6],[3,8,2,1,0,5,7,4,6]],[0,1,2,3,4,5,6,7,8,9]⟩),(9,⟨[2],[],[]⟩),(10,⟨[2],[],[]⟩)]) Tryz.f15 = some a15 := by kernel_rfl

/- payroll/payrollref3.InDays -/
def a16r0 : List IOp := [oR 2 .mv [.c (.bool false)]]
def a16r1 : List IOp := [oV 3 0,
oR 4 (.bin .geq) [.t 3,oI 0],
oV 5 4,
oG 6 .mv [.t 0] 5 true,
oG 7 (.bin .leq) [.t 6,oI 84005] 5 true,
oR 8 .pick [.t 5,.t 7,.c (.bool false)],
oV 2 8]
def a16 : AFunc := ⟨9,[.tmp 2],(.seq (.region a16r0 [0]) (.seq (.region a16r1 [2]) .ret))⟩
theorem a16_ok : compileF Tryz.prog (lk [(0,⟨[0],[],[]⟩),(1,⟨[2],[],[]⟩)]) Tryz.f16 = some a16 := by kernel_rfl

/- payroll/payrollref5.of -/
def a17r0 : List IOp := [oR 2 (.box 27 2) [.t 0],
oR 4 .mv [oI 0]]
def a17r1 : List IOp := [oR 11 (.fieldAddr 0) [.t 2],
oL 12 11]
def a17r2 : List IOp := [oR 14 (.bin .eql) [.t 12,oI 0],
oV 13 14]
def a17r3 : List IOp := [oV 15 1,
oR 16 (.call 32) [.t 15],
oV 4 16]
def a17r4 : List IOp := [oR 18 (.bin .eql) [.t 12,oI 1],
oV 17 18]
def a17r5 : List IOp := [oV 19 1,
oR 20 (.call 32) [.t 19],
oR 21 (.bin .mul) [oI 2,.t 20],
oV 5 21]
def a17r6 : List IOp := [oV 23 1,
oR 24 (.call 33) [.t 23],
oV 22 24,
oR 25 (.extract 0) [.t 22],
oR 26 (.extract 1) [.t 22],
oR 27 (.extract 2) [.t 22],
oR 28 (.extract 3) [.t 22],
oV 6 25,
oV 7 26,
oV 8 27,
oV 9 28]
def a17r7 : List IOp := [oV 29 8,
oR 30 (.bin .gtr) [.t 29,oI 15]]
def a17r8 : List IOp := [oV 31 5,
oR 32 (.bin .add) [.t 31,oI 1],
oV 5 32]
def a17r9 : List IOp := [oV 33 5,
oV 4 33]
def a17r10 : List IOp := [oR 34 (.loadA 2) [.t 2],
oR 35 (.call 21) [.t 34],
oV 10 35]
def a17r11 : List IOp := [oV 36 1,
oV 37 10,
oR 38 (.fieldAddr 1) [.t 2],
oL 39 38,
oR 40 (.bin .sub) [.t 37,.t 39],
oV 41 10,
oR 42 (.bin .rem) [.t 40,.t 41],
oR 43 (.bin .add) [.t 36,.t 42],
oV 44 10,
oR 45 (.bin .quo) [.t 43,.t 44],
oV 4 45]
def a17 : AFunc := ⟨46,[.tmp 4],(.seq (.region a17r0 [1,2]) (.seq (.seq (.region a17r1 [1,2,12]) (.block 0 (.seq (.region a17r2 [1,2,12,13]) (.cond (.t 13) (.seq (.region a17r3 [4]) .ret) (.seq (.region a17r4 [1,2,17]) (.cond (.t 17) (.seq (.region a17r5 [1,5]) (.seq (.seq (.region a17r6 [5,8]) (.seq (.region a17r7 [5,30]) (.cond (.t 30) (.region a17r8 [5]) .skip))) (.seq (.region a17r9 [4]) .ret))) .skip)))))) (.seq (.region a17r10 [1,2,10]) (.seq (.region a17r11 [4]) .ret))))⟩
theorem a17_ok : compileF Tryz.prog (lk [(0,⟨[1,2],[],[]⟩),(1,⟨[1,2,12],[],[]⟩),(2,⟨[1,2,12,13],[],[]⟩),(3,⟨[4],[],[]⟩),(4,⟨[1,2,17],[],[]⟩),(5,⟨[1,5],[],[]⟩),(6,⟨[5,8],[],[]⟩),(7,⟨[5,30],[],[]⟩),(8,⟨[5],[],[]⟩),(9,⟨[4],[],[]⟩),(10,⟨[1,2,10],[],[]⟩),(11,⟨[4],[],[]⟩)]) Tryz.f17 = some a17 := by kernel_rfl

/- payroll/payrollref5.Count -/
def a18r0 : List IOp := [oR 1 (.box 27 2) [.t 0],
oR 2 .mv [oI 0]]
def a18r1 : List IOp := [oR 3 (.loadA 2) [.t 1],
oR 4 (.call 15) [.t 3],
oR 5 (.bin .neq) [.t 4,oI 0]]
def a18r2 : List IOp := [oR 2 .mv [oI 0]]
def a18r3 : List IOp := [oR 6 (.loadA 2) [.t 1],
oR 7 (.call 17) [.t 6,oI 84005],
oR 8 (.bin .add) [.t 7,oI 1],
oV 2 8]
def a18 : AFunc := ⟨9,[.tmp 2],(.seq (.region a18r0 [1]) (.seq (.seq (.region a18r1 [1,5]) (.cond (.t 5) (.seq (.region a18r2 [2]) .ret) .skip)) (.seq (.region a18r3 [2]) .ret)))⟩
theorem a18_ok : compileF Tryz.prog (lk [(0,⟨[1],[],[]⟩),(1,⟨[1,5],[],[]⟩),(2,⟨[2],[],[]⟩),(3,⟨[2],[],[]⟩)]) Tryz.f18 = some a18 := by kernel_rfl

/- payroll/payrollref3.First -/
def a19r0 : List IOp := [oR 2 .mv [oI 0],
oR 3 .mv [.c (.bool false)]]
def a19r1 : List IOp := [oV 4 0,
oR 5 (.bin .lss) [.t 4,oI 0],
oV 6 5,
oG 7 .mv [.t 0] 6 false,
oG 8 (.bin .gtr) [.t 7,oI 2759] 6 false,
oR 9 .pick [.t 6,.c (.bool true),.t 8]]
def a19r2 : List IOp := [oR 2 .mv [oI 0],
oR 3 .mv [.c (.bool false)]]
def a19r3 : List IOp := [oV 10 0,
oR 11 (.bin .quo) [.t 10,oI 12],
oR 12 (.bin .add) [oI 1970,.t 11],
oV 13 0,
oR 14 (.bin .rem) [.t 13,oI 12],
oR 15 (.bin .add) [oI 1,.t 14],
oR 16 (.call 34) [.t 12,.t 15,oI 1],
oR 17 (.extract 0) [.t 16],
oR 18 (.extract 1) [.t 16],
oV 2 17,
oV 3 18]
def a19 : AFunc := ⟨19,[.tmp 2,.tmp 3],(.seq (.region a19r0 [0]) (.seq (.seq (.region a19r1 [0,9]) (.cond (.t 9) (.seq (.region a19r2 [2,3]) .ret) .skip)) (.seq (.region a19r3 [2,3]) .ret)))⟩
theorem a19_ok : compileF Tryz.prog (lk [(0,⟨[0],[],[]⟩),(1,⟨[0,9],[],[]⟩),(2,⟨[2,3],[],[]⟩),(3,⟨[2,3],[],[]⟩)]) Tryz.f19 = some a19 := by kernel_rfl

/- payroll/payrollref3.Length -/
def a20r0 : List IOp := [oR 2 .mv [oI 0]]
def a20r1 : List IOp := [oV 3 0,
oR 4 (.bin .lss) [.t 3,oI 0],
oV 5 4,
oG 6 .mv [.t 0] 5 false,
oG 7 (.bin .gtr) [.t 6,oI 2759] 5 false,
oR 8 .pick [.t 5,.c (.bool true),.t 7]]
def a20r2 : List IOp := [oR 2 .mv [oI 0]]
def a20r3 : List IOp := [oV 9 0,
oR 10 (.bin .quo) [.t 9,oI 12],
oR 11 (.bin .add) [oI 1970,.t 10],
oV 12 0,
oR 13 (.bin .rem) [.t 12,oI 12],
oR 14 (.bin .add) [oI 1,.t 13],
oR 15 (.call 35) [.t 11,.t 14],
oV 2 15]
def a20 : AFunc := ⟨16,[.tmp 2],(.seq (.region a20r0 [0]) (.seq (.seq (.region a20r1 [0,8]) (.cond (.t 8) (.seq (.region a20r2 [2]) .ret) .skip)) (.seq (.region a20r3 [2]) .ret)))⟩
theorem a20_ok : compileF Tryz.prog (lk [(0,⟨[0],[],[]⟩),(1,⟨[0,8],[],[]⟩),(2,⟨[2],[],[]⟩),(3,⟨[2],[],[]⟩)]) Tryz.f20 = some a20 := by kernel_rfl

/- payroll/payrollref5.length -/
def a21r0 : List IOp := [oR 1 (.box 27 2) [.t 0],
oR 2 .mv [oI 0]]
def a21r1 : List IOp := [oR 3 (.fieldAddr 0) [.t 1],
oL 4 3,
oR 5 (.bin .eql) [.t 4,oI 2]]
def a21r2 : List IOp := [oR 2 .mv [oI 14]]
def a21r3 : List IOp := [oR 2 .mv [oI 7]]
def a21 : AFunc := ⟨6,[.tmp 2],(.seq (.region a21r0 [1]) (.seq (.seq (.region a21r1 [5]) (.cond (.t 5) (.seq (.region a21r2 [2]) .ret) .skip)) (.seq (.region a21r3 [2]) .ret)))⟩
theorem a21_ok : compileF Tryz.prog (lk [(0,⟨[1],[],[]⟩),(1,⟨[5],[],[]⟩),(2,⟨[2],[],[]⟩),(3,⟨[2],[],[]⟩)]) Tryz.f21 = some a21 := by kernel_rfl

/- payroll/period.Weights -/
def a22r0 : List IOp := [oR 5 (.box 27 2) [.t 0],
oR 10 .mv [.c (.nils)],
oR 11 .mv [oI 0]]
def a22r1 : List IOp := [oR 20 (.loadA 2) [.t 5],
oV 21 1,
oR 22 (.call 28) [.t 20,.t 21],
oV 19 22,
oR 23 (.extract 0) [.t 19],
oR 24 (.extract 1) [.t 19],
oR 12 (.alloc 34 [.int .i64 0,.int .i64 0]) [],
oN (.store 2) [.t 12,.t 23],
oV 13 24]
def a22r2 : List IOp := [oV 25 13,
oR 26 (.bin .neq) [.t 25,oI 0]]
def a22r3 : List IOp := [oV 27 13,
oR 10 .mv [.c (.nils)],
oV 11 27]
def a22r4 : List IOp := [oV 28 3]
def a22r5 : List IOp := [oR 30 (.bin .eql) [.t 28,oI 0],
oV 29 30]
def a22r6 : List IOp := [oR 31 (.bin .eql) [.t 28,oI 1],
oV 29 31]
def a22r7 : List IOp := [oR 33 (.bin .eql) [.t 28,oI 2],
oV 32 33]
def a22r8 : List IOp := [oR 34 (.fieldAddr 0) [.t 5],
oL 35 34,
oR 36 (.bin .neq) [.t 35,oI 0]]
def a22r9 : List IOp := [oR 10 .mv [.c (.nils)],
oR 11 .mv [oI 2]]
def a22r10 : List IOp := [oR 10 .mv [.c (.nils)],
oR 11 .mv [oI 2]]
def a22r11 : List IOp := [oR 38 (.loadA 2) [.t 12],
oV 39 2,
oR 40 (.call 36) [.t 38,.t 39],
oV 37 40,
oR 41 (.extract 0) [.t 37],
oR 42 (.extract 1) [.t 37],
oV 14 41,
oV 13 42]
def a22r12 : List IOp := [oV 43 13,
oR 44 (.bin .neq) [.t 43,oI 0]]
def a22r13 : List IOp := [oV 45 13,
oR 10 .mv [.c (.nils)],
oV 11 45]
def a22r14 : List IOp := [oV 46 4,
oR 47 (.call 37) [.t 46],
oV 15 47]
def a22r15 : List IOp := [oV 48 15,
oR 49 (.bin .neq) [.t 48,oI 0]]
def a22r16 : List IOp := [oV 50 15,
oR 10 .mv [.c (.nils)],
oV 11 50]
def a22r17 : List IOp := [oV 51 14,
oR 52 .len [.t 51],
oR 53 (.mkslice 3 1 8 [.int .i64 0]) [.t 52,.t 52],
oV 16 53]
def a22r18 : List IOp := [oV 54 14,
oR 55 .len [.t 54],
oR 56 .mv [oI 0]]
def a22r19 : List IOp := [oR 57 (.bin .lss) [.t 56,.t 55]]
def a22r20 : List IOp := [oV 58 56,
oR 59 (.indexAddr 2) [.t 54,.t 56],
oR 60 (.loadA 2) [.t 59],
oR 18 (.alloc 34 [.int .i64 0,.int .i64 0]) [],
oV 17 58,
oN (.store 2) [.t 18,.t 60]]
def a22r21 : List IOp := [oV 61 16,
oV 62 17,
oR 63 (.fieldAddr 1) [.t 18],
oL 64 63,
oR 65 (.fieldAddr 0) [.t 18],
oL 66 65,
oR 67 (.bin .sub) [.t 64,.t 66],
oR 68 (.bin .add) [.t 67,oI 1],
oR 69 (.indexAddr 1) [.t 61,.t 62],
oN (.store 1) [.t 69,.t 68]]
def a22r22 : List IOp := [oV 71 3,
oR 72 (.bin .eql) [.t 71,oI 1],
oV 70 72]
def a22r23 : List IOp := [oV 74 16,
oV 75 17,
oV 76 4,
oR 77 (.fieldAddr 0) [.t 18],
oL 78 77,
oR 79 (.fieldAddr 1) [.t 18],
oL 80 79,
oR 81 (.call 38) [.t 76,.t 78,.t 80],
oV 73 81,
oR 82 (.extract 0) [.t 73],
oR 83 (.extract 1) [.t 73],
oR 84 (.indexAddr 1) [.t 74,.t 75],
oN (.store 1) [.t 84,.t 82],
oV 13 83]
def a22r24 : List IOp := [oV 85 13,
oR 86 (.bin .neq) [.t 85,oI 0]]
def a22r25 : List IOp := [oV 87 13,
oR 10 .mv [.c (.nils)],
oV 11 87]
def a22r26 : List IOp := [oV 89 3,
oR 90 (.bin .eql) [.t 89,oI 2],
oV 91 90,
oG 92 (.fieldAddr 1) [.t 18] 91 true,
oG 93 .load1 [.t 92] 91 true,
oG 94 (.fieldAddr 1) [.t 12] 91 true,
oG 95 .load1 [.t 94] 91 true,
oG 96 (.bin .eql) [.t 93,.t 95] 91 true,
oR 97 .pick [.t 91,.t 96,.c (.bool false)],
oV 88 97]
def a22r27 : List (Nat × DOp) := [(0,⟨oV 98 16,none,[1,4,5,6,7,8,9,10]⟩),
(1,⟨oV 99 17,none,[0,4,5,6,7,8,9,10]⟩),
(2,⟨oR 100 (.indexAddr 1) [.t 98,.t 99],none,[4,5,6,7,8,9,10]⟩),
(3,⟨oL 101 100,none,[4,5,6,7,8,9,10]⟩),
(4,⟨oR 102 (.fieldAddr 1) [.t 12],none,[0,1,2,3,6,7]⟩),
(5,⟨oL 103 102,none,[0,1,2,3,6,7]⟩),
(6,⟨oR 104 (.fieldAddr 0) [.t 12],none,[0,1,2,3,4,5]⟩),
(7,⟨oL 105 104,none,[0,1,2,3,4,5]⟩),
(8,⟨oR 106 (.bin .sub) [.t 103,.t 105],none,[0,1,2,3]⟩),
(9,⟨oR 107 (.bin .add) [.t 106,oI 1],none,[0,1,2,3]⟩),
(10,⟨oR 108 (.bin .sub) [oI 30,.t 107],none,[0,1,2,3]⟩),
(11,⟨oR 109 (.bin .add) [.t 101,.t 108],none,[]⟩),
(12,⟨oR 110 (.indexAddr 1) [.t 98,.t 99],none,[]⟩),
(13,⟨oN (.store 1) [.t 110,.t 109],none,[]⟩)]
def a22r28 : List IOp := [oR 111 (.bin .add) [.t 56,oI 1],
oV 56 111]
def a22r29 : List IOp := [oV 112 16,
oV 10 112,
oR 11 .mv [oI 0]]
def a22 : AFunc := ⟨113,[.tmp 10,.tmp 11],(.seq (.region a22r0 [1,2,3,4,5]) (.seq (.region a22r1 [2,3,4,5,12,13]) (.seq (.seq (.region a22r2 [2,3,4,5,12,13,26]) (.cond (.t 26) (.seq (.region a22r3 [10,11]) .ret) .skip)) (.seq (.seq (.region a22r4 [2,3,4,5,12,28]) (.block 0 (.seq (.seq (.region a22r5 [2,3,4,5,12,28,29]) (.cond (.t 29) .skip (.region a22r6 [2,3,4,5,12,28,29]))) (.cond (.t 29) .skip (.seq (.region a22r7 [2,3,4,5,12,32]) (.cond (.t 32) (.seq (.region a22r8 [2,3,4,12,36]) (.cond (.t 36) (.seq (.region a22r9 [10,11]) .ret) .skip)) (.seq (.region a22r10 [10,11]) .ret))))))) (.seq (.region a22r11 [3,4,12,13,14]) (.seq (.seq (.region a22r12 [3,4,12,13,14,44]) (.cond (.t 44) (.seq (.region a22r13 [10,11]) .ret) .skip)) (.seq (.seq (.region a22r14 [3,4,12,14,15]) (.seq (.region a22r15 [3,4,12,14,15,49]) (.cond (.t 49) (.seq (.region a22r16 [10,11]) .ret) .skip))) (.seq (.region a22r17 [3,4,12,14,16]) (.seq (.seq (.region a22r18 [3,4,12,16,54,55,56]) (.block 1 (.loop (.seq (.region a22r19 [3,4,12,16,54,55,56,57]) (.seq (.cond (.t 57) .skip (.exit 1)) (.seq (.block 2 (.seq (.region a22r20 [3,4,12,16,17,18,54,55,56]) (.seq (.region a22r21 [3,4,12,16,17,18,54,55,56]) (.block 3 (.seq (.region a22r22 [3,4,12,16,17,18,54,55,56,70]) (.cond (.t 70) (.seq (.region a22r23 [3,4,12,13,16,54,55,56]) (.seq (.region a22r24 [3,4,12,13,16,54,55,56,86]) (.cond (.t 86) (.seq (.region a22r25 [10,11]) .ret) .skip))) (.seq (.region a22r26 [3,4,12,16,17,54,55,56,88]) (.cond (.t 88) (.draw a22r27 [] [3,4,12,16,54,55,56]) .skip)))))))) (.region a22r28 [3,4,12,16,54,55,56]))))))) (.seq (.region a22r29 [10,11]) .ret))))))))))⟩
theorem a22_ok : compileF Tryz.prog (lk [(0,⟨[1,2,3,4,5],[],[]⟩),(1,⟨[2,3,4,5,12,13],[],[]⟩),(2,⟨[2,3,4,5,12,13,26],[],[]⟩),(3,⟨[10,11],[],[]⟩),(4,⟨[2,3,4,5,12,28],[],[]⟩),(5,⟨[10,11],[],[]⟩),(6,⟨[2,3,4,5,12,28,29],[],[]⟩),(7,⟨[2,3,4,5,12,28,29],[],[]⟩),(8,⟨[2,3,4,5,12,32],[],[]⟩),(9,⟨[2,3,4,12,36],[],[]⟩),(10,⟨[10,11],[],[]⟩),(11,⟨[3,4,12,13,14],[],[]⟩),(12,⟨[3,4,12,13,14,44],[],[]⟩),(13,⟨[10,11],[],[]⟩),(14,⟨[3,4,12,14,15],[],[]⟩),(15,⟨[3,4,12,14,15,49],[],[]⟩),(16,⟨[10,11],[],[]⟩),(17,⟨[3,4,12,14,16],[],[]⟩),(18,⟨[3,4,12,16,54,55,56],[],[]⟩),(19,⟨[3,4,12,16,54,55,56,57],[],[]⟩),(20,⟨[3,4,12,16,17,18,54,55,56],[],[]⟩),(21,⟨[3,4,12,16,17,18,54,55,56],[],[]⟩),(22,⟨[3,4,12,16,17,18,54,55,56,70],[],[]⟩),(23,⟨[3,4,12,13,16,54,55,56],[],[]⟩),(24,⟨[3,4,12,13,16,54,55,56,86],[],[]⟩),(25,⟨[10,11],[],[]⟩),(26,⟨[3,4,12,16,17,54,55,56,88],[],[]⟩),(27,⟨[3,4,12,16,54,55,56],[[],[],[0,1],[2,0,1],[],[4],[],[6],[5,7,4,6],[8,5,7,4,6],[9,8,5,7,4,6],[3,10,2,0,1,9,8,5,7,4,6],[0,1,2,3,4,5,6,7,8,9,10,11],[12,11,0,1,2,3,4,5,6,7,8,9,10]],[0,1,2,3,4,5,6,7,8,9,10,11,12,13]⟩),(28,⟨[3,4,12,16,54,55,56],[],[]⟩),(29,⟨[10,11],[],[]⟩)]) Tryz.f22 = some a22 := by kernel_rfl

/- payroll/payrollref5.Weights -/
def a23r0 : List IOp := [oR 5 (.box 27 2) [.t 0],
oR 10 .mv [.c (.nils)],
oR 11 .mv [oI 0]]
def a23r1 : List IOp := [oR 20 (.loadA 2) [.t 5],
oV 21 1,
oR 22 (.call 8) [.t 20,.t 21],
oV 19 22,
oR 23 (.extract 0) [.t 19],
oR 24 (.extract 1) [.t 19],
oR 12 (.alloc 34 [.int .i64 0,.int .i64 0]) [],
oN (.store 2) [.t 12,.t 23],
oV 13 24]
def a23r2 : List IOp := [oV 25 13,
oR 26 (.bin .neq) [.t 25,oI 0]]
def a23r3 : List IOp := [oV 27 13,
oR 10 .mv [.c (.nils)],
oV 11 27]
def a23r4 : List IOp := [oV 28 3,
oR 29 (.bin .lss) [.t 28,oI 0],
oV 30 29,
oG 31 .mv [.t 3] 30 false,
oG 32 (.bin .gtr) [.t 31,oI 2] 30 false,
oR 33 .pick [.t 30,.c (.bool true),.t 32],
oV 34 33,
oG 35 .mv [.t 3] 34 false,
oG 36 (.bin .eql) [.t 35,oI 2] 34 false,
oG 37 .mv [.t 36] 34 false,
oG 38 (.fieldAddr 0) [.t 5] 37 true,
oG 39 .load1 [.t 38] 37 true,
oG 40 (.bin .neq) [.t 39,oI 0] 37 true,
oG 41 .pick [.t 37,.t 40,.c (.bool false)] 34 false,
oR 42 .pick [.t 34,.c (.bool true),.t 41]]
def a23r5 : List IOp := [oR 10 .mv [.c (.nils)],
oR 11 .mv [oI 2]]
def a23r6 : List IOp := [oR 14 .mv [oI 0]]
def a23r7 : List IOp := [oV 43 14,
oV 44 2,
oR 45 .len [.t 44],
oR 46 (.bin .lss) [.t 43,.t 45]]
def a23r8 : List (Nat × DOp) := [(0,⟨oV 49 2,none,[1,4,5]⟩),
(1,⟨oV 50 14,none,[0,4,5]⟩),
(2,⟨oR 51 (.indexAddr 1) [.t 49,.t 50],none,[4,5]⟩),
(3,⟨oL 52 51,none,[4,5]⟩),
(4,⟨oR 53 (.fieldAddr 0) [.t 12],none,[0,1,2,3]⟩),
(5,⟨oL 54 53,none,[0,1,2,3]⟩),
(6,⟨oR 55 (.bin .leq) [.t 52,.t 54],none,[]⟩),
(7,⟨oV 56 55,none,[]⟩),
(8,⟨oG 57 .mv [.t 2] 56 false,none,[9,12,13]⟩),
(9,⟨oG 58 .mv [.t 14] 56 false,none,[8,12,13]⟩),
(10,⟨oG 59 (.indexAddr 1) [.t 57,.t 58] 56 false,none,[12,13]⟩),
(11,⟨oG 60 .load1 [.t 59] 56 false,none,[12,13]⟩),
(12,⟨oG 61 (.fieldAddr 1) [.t 12] 56 false,none,[8,9,10,11]⟩),
(13,⟨oG 62 .load1 [.t 61] 56 false,none,[8,9,10,11]⟩),
(14,⟨oG 63 (.bin .gtr) [.t 60,.t 62] 56 false,none,[]⟩),
(15,⟨oR 64 .pick [.t 56,.c (.bool true),.t 63],none,[]⟩),
(16,⟨oV 65 64,none,[]⟩),
(17,⟨oG 66 .mv [.t 14] 65 false,none,[]⟩),
(18,⟨oG 67 (.bin .gtr) [.t 66,oI 0] 65 false,none,[]⟩),
(19,⟨oG 68 .mv [.t 67] 65 false,none,[]⟩),
(20,⟨oG 69 .mv [.t 2] 68 true,none,[21,24,25,26,27,28]⟩),
(21,⟨oG 70 .mv [.t 14] 68 true,none,[20,24,25,26,27,28]⟩),
(22,⟨oG 71 (.indexAddr 1) [.t 69,.t 70] 68 true,none,[24,25,26,27,28]⟩),
(23,⟨oG 72 .load1 [.t 71] 68 true,none,[24,25,26,27,28]⟩),
(24,⟨oG 73 .mv [.t 2] 68 true,none,[20,21,22,23,25,26]⟩),
(25,⟨oG 74 .mv [.t 14] 68 true,none,[20,21,22,23,24]⟩),
(26,⟨oG 75 (.bin .sub) [.t 74,oI 1] 68 true,none,[20,21,22,23,24]⟩),
(27,⟨oG 76 (.indexAddr 1) [.t 73,.t 75] 68 true,none,[20,21,22,23]⟩),
(28,⟨oG 77 .load1 [.t 76] 68 true,none,[20,21,22,23]⟩),
(29,⟨oG 78 (.bin .leq) [.t 72,.t 77] 68 true,none,[]⟩),
(30,⟨oG 79 .pick [.t 68,.t 78,.c (.bool false)] 65 false,none,[]⟩),
(31,⟨oR 80 .pick [.t 65,.c (.bool true),.t 79],none,[]⟩)]
def a23r9 : List IOp := [oR 10 .mv [.c (.nils)],
oR 11 .mv [oI 1]]
def a23r10 : List IOp := [oV 47 14,
oR 48 (.bin .add) [.t 47,oI 1],
oV 14 48]
def a23r11 : List IOp := [oV 81 4,
oR 82 (.call 39) [.t 81],
oV 15 82]
def a23r12 : List IOp := [oV 83 15,
oR 84 (.bin .neq) [.t 83,oI 0]]
def a23r13 : List IOp := [oV 85 15,
oR 10 .mv [.c (.nils)],
oV 11 85]
def a23r14 : List IOp := [oV 86 2,
oR 87 .len [.t 86],
oR 88 (.bin .add) [oI 1,.t 87],
oR 89 (.mkslice 3 1 8 [.int .i64 0]) [.t 88,.t 88],
oV 16 89]
def a23r15 : List IOp := [oR 17 .mv [oI 0]]
def a23r16 : List IOp := [oR 90 (.fieldAddr 0) [.t 12],
oL 91 90,
oV 18 91]
def a23r17 : List IOp := [oV 92 18,
oR 93 (.fieldAddr 1) [.t 12],
oL 94 93,
oR 95 (.bin .leq) [.t 92,.t 94]]
def a23r18 : List IOp := [oV 98 17,
oV 99 2,
oR 100 .len [.t 99],
oR 101 (.bin .lss) [.t 98,.t 100],
oV 102 101,
oG 103 .mv [.t 2] 102 true,
oG 104 .mv [.t 17] 102 true,
oG 105 (.indexAddr 1) [.t 103,.t 104] 102 true,
oG 106 .load1 [.t 105] 102 true,
oG 107 .mv [.t 18] 102 true,
oG 108 (.bin .eql) [.t 106,.t 107] 102 true,
oR 109 .pick [.t 102,.t 108,.c (.bool false)]]
def a23r19 : List IOp := [oV 110 17,
oR 111 (.bin .add) [.t 110,oI 1],
oV 17 111]
def a23r20 : List (Nat × DOp) := [(0,⟨oV 112 16,none,[1,4,5,6,7]⟩),
(1,⟨oV 113 17,none,[0,4,5,6,7]⟩),
(2,⟨oR 114 (.indexAddr 1) [.t 112,.t 113],none,[4,5,6,7]⟩),
(3,⟨oL 115 114,none,[4,5,6,7]⟩),
(4,⟨oV 116 18,none,[0,1,2,3,5,6]⟩),
(5,⟨oV 117 3,none,[0,1,2,3,4,6]⟩),
(6,⟨oV 118 4,none,[0,1,2,3,4,5]⟩),
(7,⟨oR 119 (.call 40) [.t 116,.t 117,.t 118],none,[0,1,2,3]⟩),
(8,⟨oR 120 (.bin .add) [.t 115,.t 119],none,[]⟩),
(9,⟨oR 121 (.indexAddr 1) [.t 112,.t 113],none,[]⟩),
(10,⟨oN (.store 1) [.t 121,.t 120],none,[]⟩)]
def a23r21 : List IOp := [oV 96 18,
oR 97 (.bin .add) [.t 96,oI 1],
oV 18 97]
def a23r22 : List IOp := [oV 122 16,
oV 10 122,
oR 11 .mv [oI 0]]
def a23 : AFunc := ⟨123,[.tmp 10,.tmp 11],(.seq (.region a23r0 [1,2,3,4,5]) (.seq (.region a23r1 [2,3,4,5,12,13]) (.seq (.seq (.region a23r2 [2,3,4,5,12,13,26]) (.cond (.t 26) (.seq (.region a23r3 [10,11]) .ret) .skip)) (.seq (.seq (.region a23r4 [2,3,4,12,42]) (.cond (.t 42) (.seq (.region a23r5 [10,11]) .ret) .skip)) (.seq (.seq (.region a23r6 [2,3,4,12,14]) (.block 0 (.loop (.seq (.seq (.region a23r7 [2,3,4,12,14,46]) (.cond (.t 46) .skip (.exit 0))) (.seq (.block 1 (.seq (.draw a23r8 [] [2,3,4,12,14,80]) (.cond (.t 80) (.seq (.region a23r9 [10,11]) .ret) .skip))) (.region a23r10 [2,3,4,12,14])))))) (.seq (.seq (.region a23r11 [2,3,4,12,15]) (.seq (.region a23r12 [2,3,4,12,15,84]) (.cond (.t 84) (.seq (.region a23r13 [10,11]) .ret) .skip))) (.seq (.region a23r14 [2,3,4,12,16]) (.seq (.region a23r15 [2,3,4,12,16,17]) (.seq (.seq (.region a23r16 [2,3,4,12,16,17,18]) (.block 2 (.loop (.seq (.seq (.region a23r17 [2,3,4,12,16,17,18,95]) (.cond (.t 95) .skip (.exit 2))) (.seq (.block 3 (.seq (.seq (.region a23r18 [2,3,4,12,16,17,18,109]) (.cond (.t 109) (.region a23r19 [2,3,4,12,16,17,18]) .skip)) (.draw a23r20 [] [2,3,4,12,16,17,18]))) (.region a23r21 [2,3,4,12,16,17,18])))))) (.seq (.region a23r22 [10,11]) .ret))))))))))⟩
theorem a23_ok : compileF Tryz.prog (lk [(0,⟨[1,2,3,4,5],[],[]⟩),(1,⟨[2,3,4,5,12,13],[],[]⟩),(2,⟨[2,3,4,5,12,13,26],[],[]⟩),(3,⟨[10,11],[],[]⟩),(4,⟨[2,3,4,12,42],[],[]⟩),(5,⟨[10,11],[],[]⟩),(6,⟨[2,3,4,12,14],[],[]⟩),(7,⟨[2,3,4,12,14,46],[],[]⟩),(8,⟨[2,3,4,12,14],[],[]⟩),(9,⟨[2,3,4,12,14,80],[[],[],[0,1],[2,0,1],[],[4],[3,5,2,0,1,4],[6,3,5,2,0,1,4],[7,6,3,5,2,0,1,4],[7,6,3,5,2,0,1,4],[8,9,7,6,3,5,2,0,1,4],[10,7,8,9,6,3,5,2,0,1,4],[7,6,3,5,2,0,1,4],[12,7,6,3,5,2,0,1,4],[11,13,7,10,8,9,6,3,5,2,0,1,4,12],[7,14,6,3,5,2,0,1,4,11,13,10,8,9,12],[15,7,14,6,3,5,2,0,1,4,11,13,10,8,9,12],[16,15,7,14,6,3,5,2,0,1,4,11,13,10,8,9,12],[17,16,15,7,14,6,3,5,2,0,1,4,11,13,10,8,9,12],[18,16,17,15,7,14,6,3,5,2,0,1,4,11,13,10,8,9,12],[19,18,16,17,15,7,14,6,3,5,2,0,1,4,11,13,10,8,9,12],[19,18,16,17,15,7,14,6,3,5,2,0,1,4,11,13,10,8,9,12],[20,21,19,18,16,17,15,7,14,6,3,5,2,0,1,4,11,13,10,8,9,12],[22,19,20,21,18,16,17,15,7,14,6,3,5,2,0,1,4,11,13,10,8,9,12],[19,18,16,17,15,7,14,6,3,5,2,0,1,4,11,13,10,8,9,12],[19,18,16,17,15,7,14,6,3,5,2,0,1,4,11,13,10,8,9,12],[25,19,18,16,17,15,7,14,6,3,5,2,0,1,4,11,13,10,8,9,12],[24,26,19,18,16,17,15,7,14,6,3,5,2,0,1,4,11,13,10,8,9,12,25],[27,19,24,26,18,16,17,15,7,14,6,3,5,2,0,1,4,11,13,10,8,9,12,25],[23,28,19,22,20,21,18,16,17,15,7,14,6,3,5,2,0,1,4,11,13,10,8,9,12,27,24,26,25],[19,29,16,18,17,15,7,14,6,3,5,2,0,1,4,11,13,10,8,9,12,23,28,22,20,21,27,24,26,25],[16,30,15,7,14,6,3,5,2,0,1,4,11,13,10,8,9,12,19,29,18,17,23,28,22,20,21,27,24,26,25]],[0,1,2,3,4,5,6,7,8,9,10,11,12,13,14,15,16,17,18,19,20,21,22,23,24,25,26,27,28,29,30,31]⟩),(10,⟨[10,11],[],[]⟩),(11,⟨[2,3,4,12,15],[],[]⟩),(12,⟨[2,3,4,12,15,84],[],[]⟩),(13,⟨[10,11],[],[]⟩),(14,⟨[2,3,4,12,16],[],[]⟩),(15,⟨[2,3,4,12,16,17],[],[]⟩),(16,⟨[2,3,4,12,16,17,18],[],[]⟩),(17,⟨[2,3,4,12,16,17,18,95],[],[]⟩),(18,⟨[2,3,4,12,16,17,18],[],[]⟩),(19,⟨[2,3,4,12,16,17,18,109],[],[]⟩),(20,⟨[2,3,4,12,16,17,18],[],[]⟩),(21,⟨[2,3,4,12,16,17,18],[[],[],[0,1],[2,0,1],[],[],[],[4,5,6],[3,7,2,0,1,4,5,6],[0,1,2,3,4,5,6,7,8],[9,8,7,0,1,2,3,4,5,6]],[0,1,2,3,4,5,6,7,8,9,10]⟩),(22,⟨[10,11],[],[]⟩)]) Tryz.f23 = some a23 := by kernel_rfl

/- payroll/period.Portions -/
def a24r0 : List IOp := [oR 5 (.box 27 2) [.t 0],
oR 10 .mv [.c (.nils)],
oR 11 .mv [oI 0]]
def a24r1 : List IOp := [oR 21 (.loadA 2) [.t 5],
oV 22 1,
oV 23 2,
oV 24 3,
oV 25 4,
oR 26 (.call 22) [.t 21,.t 22,.t 23,.t 24,.t 25],
oV 20 26,
oR 27 (.extract 0) [.t 20],
oR 28 (.extract 1) [.t 20],
oV 12 27,
oV 13 28]
def a24r2 : List IOp := [oV 29 13,
oR 30 (.bin .neq) [.t 29,oI 0]]
def a24r3 : List IOp := [oV 31 13,
oR 10 .mv [.c (.nils)],
oV 11 31]
def a24r4 : List IOp := [oR 14 .mv [oI 0]]
def a24r5 : List IOp := [oV 32 12,
oR 33 .len [.t 32],
oR 34 .mv [oI 0]]
def a24r6 : List IOp := [oR 35 (.bin .lss) [.t 34,.t 33]]
def a24r7 : List IOp := [oR 36 (.indexAddr 1) [.t 32,.t 34],
oL 37 36,
oV 16 37]
def a24r8 : List IOp := [oV 38 14,
oV 39 16,
oR 40 (.bin .add) [.t 38,.t 39],
oV 14 40]
def a24r9 : List IOp := [oR 41 (.bin .add) [.t 34,oI 1],
oV 34 41]
def a24r10 : List IOp := [oV 42 12,
oR 43 .len [.t 42],
oR 44 (.mkslice 61 2 16 [.int .i64 0,.int .i64 0]) [.t 43,.t 43],
oV 17 44]
def a24r11 : List IOp := [oV 45 12,
oR 46 .len [.t 45],
oR 47 .mv [oI 0]]
def a24r12 : List IOp := [oR 48 (.bin .lss) [.t 47,.t 46]]
def a24r13 : List IOp := [oV 49 47,
oR 50 (.indexAddr 1) [.t 45,.t 47],
oL 51 50,
oV 18 49,
oV 19 51]
def a24r14 : List IOp := [oV 53 17,
oV 54 18,
oV 55 19,
oV 56 14,
oR 57 (.call 41) [.t 55,.t 56],
oV 52 57,
oR 58 (.extract 0) [.t 52],
oR 59 (.extract 1) [.t 52],
oR 60 (.indexAddr 2) [.t 53,.t 54],
oN (.store 2) [.t 60,.t 58],
oV 13 59]
def a24r15 : List IOp := [oV 61 13,
oR 62 (.bin .neq) [.t 61,oI 0]]
def a24r16 : List IOp := [oV 63 13,
oR 10 .mv [.c (.nils)],
oV 11 63]
def a24r17 : List IOp := [oR 64 (.bin .add) [.t 47,oI 1],
oV 47 64]
def a24r18 : List IOp := [oV 65 17,
oV 10 65,
oR 11 .mv [oI 0]]
def a24 : AFunc := ⟨66,[.tmp 10,.tmp 11],(.seq (.region a24r0 [1,2,3,4,5]) (.seq (.region a24r1 [12,13]) (.seq (.seq (.region a24r2 [12,13,30]) (.cond (.t 30) (.seq (.region a24r3 [10,11]) .ret) .skip)) (.seq (.region a24r4 [12,14]) (.seq (.seq (.region a24r5 [12,14,32,33,34]) (.block 0 (.loop (.seq (.region a24r6 [12,14,32,33,34,35]) (.seq (.cond (.t 35) .skip (.exit 0)) (.seq (.block 1 (.seq (.region a24r7 [12,14,16,32,33,34]) (.region a24r8 [12,14,32,33,34]))) (.region a24r9 [12,14,32,33,34]))))))) (.seq (.region a24r10 [12,14,17]) (.seq (.seq (.region a24r11 [14,17,45,46,47]) (.block 2 (.loop (.seq (.region a24r12 [14,17,45,46,47,48]) (.seq (.cond (.t 48) .skip (.exit 2)) (.seq (.block 3 (.seq (.region a24r13 [14,17,18,19,45,46,47]) (.seq (.region a24r14 [13,14,17,45,46,47]) (.seq (.region a24r15 [13,14,17,45,46,47,62]) (.cond (.t 62) (.seq (.region a24r16 [10,11]) .ret) .skip))))) (.region a24r17 [14,17,45,46,47]))))))) (.seq (.region a24r18 [10,11]) .ret))))))))⟩
theorem a24_ok : compileF Tryz.prog (lk [(0,⟨[1,2,3,4,5],[],[]⟩),(1,⟨[12,13],[],[]⟩),(2,⟨[12,13,30],[],[]⟩),(3,⟨[10,11],[],[]⟩),(4,⟨[12,14],[],[]⟩),(5,⟨[12,14,32,33,34],[],[]⟩),(6,⟨[12,14,32,33,34,35],[],[]⟩),(7,⟨[12,14,16,32,33,34],[],[]⟩),(8,⟨[12,14,32,33,34],[],[]⟩),(9,⟨[12,14,32,33,34],[],[]⟩),(10,⟨[12,14,17],[],[]⟩),(11,⟨[14,17,45,46,47],[],[]⟩),(12,⟨[14,17,45,46,47,48],[],[]⟩),(13,⟨[14,17,18,19,45,46,47],[],[]⟩),(14,⟨[13,14,17,45,46,47],[],[]⟩),(15,⟨[13,14,17,45,46,47,62],[],[]⟩),(16,⟨[10,11],[],[]⟩),(17,⟨[14,17,45,46,47],[],[]⟩),(18,⟨[10,11],[],[]⟩)]) Tryz.f24 = some a24 := by kernel_rfl

/- payroll/payrollref5.Portions -/
def a25r0 : List IOp := [oR 5 (.box 27 2) [.t 0],
oR 10 .mv [.c (.nils)],
oR 11 .mv [oI 0]]
def a25r1 : List IOp := [oR 21 (.loadA 2) [.t 5],
oV 22 1,
oV 23 2,
oV 24 3,
oV 25 4,
oR 26 (.call 23) [.t 21,.t 22,.t 23,.t 24,.t 25],
oV 20 26,
oR 27 (.extract 0) [.t 20],
oR 28 (.extract 1) [.t 20],
oV 12 27,
oV 13 28]
def a25r2 : List IOp := [oV 29 13,
oR 30 (.bin .neq) [.t 29,oI 0]]
def a25r3 : List IOp := [oV 31 13,
oR 10 .mv [.c (.nils)],
oV 11 31]
def a25r4 : List IOp := [oR 14 .mv [oI 0]]
def a25r5 : List IOp := [oR 15 .mv [oI 0]]
def a25r6 : List IOp := [oV 32 15,
oV 33 12,
oR 34 .len [.t 33],
oR 35 (.bin .lss) [.t 32,.t 34]]
def a25r7 : List IOp := [oV 38 14,
oV 39 12,
oV 40 15,
oR 41 (.indexAddr 1) [.t 39,.t 40],
oL 42 41,
oR 43 (.bin .add) [.t 38,.t 42],
oV 14 43]
def a25r8 : List IOp := [oV 36 15,
oR 37 (.bin .add) [.t 36,oI 1],
oV 15 37]
def a25r9 : List IOp := [oV 44 14,
oR 45 (.bin .eql) [.t 44,oI 0]]
def a25r10 : List IOp := [oR 10 .mv [.c (.nils)],
oR 11 .mv [oI 5]]
def a25r11 : List IOp := [oR 16 .mv [.c (.nils)]]
def a25r12 : List IOp := [oR 17 .mv [oI 0]]
def a25r13 : List IOp := [oV 46 17,
oV 47 12,
oR 48 .len [.t 47],
oR 49 (.bin .lss) [.t 46,.t 48]]
def a25r14 : List IOp := [oV 53 12,
oV 54 17,
oR 55 (.indexAddr 1) [.t 53,.t 54],
oL 56 55,
oV 57 14,
oR 58 (.call 42) [.t 56,.t 57],
oV 52 58,
oR 59 (.extract 0) [.t 52],
oR 60 (.extract 1) [.t 52],
oR 18 (.alloc 61 [.int .i64 0,.int .i64 0]) [],
oN (.store 2) [.t 18,.t 59],
oV 19 60]
def a25r15 : List IOp := [oV 61 16,
oR 62 (.loadA 2) [.t 18],
oR 63 (.bslice 61 2 [.int .i64 0,.int .i64 0] 1 [0]) [.t 62],
oR 64 (.append 61 2 16) [.t 61,.t 63],
oV 16 64]
def a25r16 : List IOp := [oV 50 17,
oR 51 (.bin .add) [.t 50,oI 1],
oV 17 51]
def a25r17 : List IOp := [oV 65 16,
oV 10 65,
oR 11 .mv [oI 0]]
def a25 : AFunc := ⟨66,[.tmp 10,.tmp 11],(.seq (.region a25r0 [1,2,3,4,5]) (.seq (.region a25r1 [12,13]) (.seq (.seq (.region a25r2 [12,13,30]) (.cond (.t 30) (.seq (.region a25r3 [10,11]) .ret) .skip)) (.seq (.region a25r4 [12,14]) (.seq (.seq (.region a25r5 [12,14,15]) (.block 0 (.loop (.seq (.seq (.region a25r6 [12,14,15,35]) (.cond (.t 35) .skip (.exit 0))) (.seq (.block 1 (.region a25r7 [12,14,15])) (.region a25r8 [12,14,15])))))) (.seq (.seq (.region a25r9 [12,14,45]) (.cond (.t 45) (.seq (.region a25r10 [10,11]) .ret) .skip)) (.seq (.region a25r11 [12,14,16]) (.seq (.seq (.region a25r12 [12,14,16,17]) (.block 2 (.loop (.seq (.seq (.region a25r13 [12,14,16,17,49]) (.cond (.t 49) .skip (.exit 2))) (.seq (.block 3 (.seq (.region a25r14 [12,14,16,17,18]) (.region a25r15 [12,14,16,17]))) (.region a25r16 [12,14,16,17])))))) (.seq (.region a25r17 [10,11]) .ret)))))))))⟩
theorem a25_ok : compileF Tryz.prog (lk [(0,⟨[1,2,3,4,5],[],[]⟩),(1,⟨[12,13],[],[]⟩),(2,⟨[12,13,30],[],[]⟩),(3,⟨[10,11],[],[]⟩),(4,⟨[12,14],[],[]⟩),(5,⟨[12,14,15],[],[]⟩),(6,⟨[12,14,15,35],[],[]⟩),(7,⟨[12,14,15],[],[]⟩),(8,⟨[12,14,15],[],[]⟩),(9,⟨[12,14,45],[],[]⟩),(10,⟨[10,11],[],[]⟩),(11,⟨[12,14,16],[],[]⟩),(12,⟨[12,14,16,17],[],[]⟩),(13,⟨[12,14,16,17,49],[],[]⟩),(14,⟨[12,14,16,17],[],[]⟩),(15,⟨[12,14,16,17,18],[],[]⟩),(16,⟨[12,14,16,17],[],[]⟩),(17,⟨[10,11],[],[]⟩)]) Tryz.f25 = some a25 := by kernel_rfl

/- payroll/period.Divide -/
def a26r0 : List IOp := [oR 7 (.box 27 2) [.t 1],
oR 12 .mv [.c (.nils)],
oR 13 .mv [oI 0]]
def a26r1 : List IOp := [oR 17 (.loadA 2) [.t 7],
oV 18 2,
oV 19 3,
oV 20 4,
oV 21 5,
oR 22 (.call 22) [.t 17,.t 18,.t 19,.t 20,.t 21],
oV 16 22,
oR 23 (.extract 0) [.t 16],
oR 24 (.extract 1) [.t 16],
oV 14 23,
oV 15 24]
def a26r2 : List IOp := [oV 25 15,
oR 26 (.bin .neq) [.t 25,oI 0]]
def a26r3 : List IOp := [oV 27 15,
oR 12 .mv [.c (.nils)],
oV 13 27]
def a26r4 : List IOp := [oV 28 0,
oV 29 14,
oR 30 (.call 43) [.t 28,.t 29],
oR 31 (.extract 0) [.t 30],
oR 32 (.extract 1) [.t 30],
oV 12 31,
oV 13 32]
def a26 : AFunc := ⟨33,[.tmp 12,.tmp 13],(.seq (.region a26r0 [0,2,3,4,5,7]) (.seq (.region a26r1 [0,14,15]) (.seq (.seq (.region a26r2 [0,14,15,26]) (.cond (.t 26) (.seq (.region a26r3 [12,13]) .ret) .skip)) (.seq (.region a26r4 [12,13]) .ret))))⟩
theorem a26_ok : compileF Tryz.prog (lk [(0,⟨[0,2,3,4,5,7],[],[]⟩),(1,⟨[0,14,15],[],[]⟩),(2,⟨[0,14,15,26],[],[]⟩),(3,⟨[12,13],[],[]⟩),(4,⟨[12,13],[],[]⟩)]) Tryz.f26 = some a26 := by kernel_rfl

/- payroll/payrollref5.Divide -/
def a27r0 : List IOp := [oR 7 (.box 27 2) [.t 1],
oR 12 .mv [.c (.nils)],
oR 13 .mv [oI 0]]
def a27r1 : List IOp := [oR 17 (.loadA 2) [.t 7],
oV 18 2,
oV 19 3,
oV 20 4,
oV 21 5,
oR 22 (.call 23) [.t 17,.t 18,.t 19,.t 20,.t 21],
oV 16 22,
oR 23 (.extract 0) [.t 16],
oR 24 (.extract 1) [.t 16],
oV 14 23,
oV 15 24]
def a27r2 : List IOp := [oV 25 15,
oR 26 (.bin .neq) [.t 25,oI 0]]
def a27r3 : List IOp := [oV 27 15,
oR 12 .mv [.c (.nils)],
oV 13 27]
def a27r4 : List IOp := [oV 28 0,
oV 29 14,
oR 30 (.call 44) [.t 28,.t 29],
oR 31 (.extract 0) [.t 30],
oR 32 (.extract 1) [.t 30],
oV 12 31,
oV 13 32]
def a27 : AFunc := ⟨33,[.tmp 12,.tmp 13],(.seq (.region a27r0 [0,2,3,4,5,7]) (.seq (.region a27r1 [0,14,15]) (.seq (.seq (.region a27r2 [0,14,15,26]) (.cond (.t 26) (.seq (.region a27r3 [12,13]) .ret) .skip)) (.seq (.region a27r4 [12,13]) .ret))))⟩
theorem a27_ok : compileF Tryz.prog (lk [(0,⟨[0,2,3,4,5,7],[],[]⟩),(1,⟨[0,14,15],[],[]⟩),(2,⟨[0,14,15,26],[],[]⟩),(3,⟨[12,13],[],[]⟩),(4,⟨[12,13],[],[]⟩)]) Tryz.f27 = some a27 := by kernel_rfl

/- payroll/period.Span -/
def a28r0 : List IOp := [oR 2 (.box 27 2) [.t 0],
oR 4 (.alloc 34 [.int .i64 0,.int .i64 0]) [],
oR 5 .mv [oI 0]]
def a28r1 : List IOp := [oR 11 (.loadA 2) [.t 2],
oR 12 (.call 45) [.t 11],
oV 6 12]
def a28r2 : List IOp := [oV 13 6,
oR 14 (.bin .neq) [.t 13,oI 0]]
def a28r3 : List IOp := [oR 15 (.build [.int .i64 0,.int .i64 0] []) [],
oV 16 6,
oN (.store 2) [.t 4,.t 15],
oV 5 16]
def a28r4 : List IOp := [oV 17 1,
oR 18 (.bin .lss) [.t 17,oI 0],
oV 19 18,
oG 20 .mv [.t 1] 19 false,
oG 21 (.loadA 2) [.t 2] 19 false,
oG 22 (.call 30) [.t 21] 19 false,
oG 23 (.bin .geq) [.t 20,.t 22] 19 false,
oR 24 .pick [.t 19,.c (.bool true),.t 23]]
def a28r5 : List IOp := [oR 25 (.build [.int .i64 0,.int .i64 0] []) [],
oN (.store 2) [.t 4,.t 25],
oR 5 .mv [oI 2]]
def a28r6 : List IOp := [oR 26 (.fieldAddr 0) [.t 2],
oL 27 26]
def a28r7 : List IOp := [oR 29 (.bin .eql) [.t 27,oI 0],
oV 28 29]
def a28r8 : List IOp := [oV 30 1,
oR 31 (.call 46) [.t 30],
oN (.store 2) [.t 4,.t 31],
oR 5 .mv [oI 0]]
def a28r9 : List IOp := [oR 33 (.bin .eql) [.t 27,oI 1],
oV 32 33]
def a28r10 : List IOp := [oV 34 1,
oR 35 (.bin .quo) [.t 34,oI 2],
oR 36 (.call 46) [.t 35],
oR 7 (.alloc 34 [.int .i64 0,.int .i64 0]) [],
oN (.store 2) [.t 7,.t 36]]
def a28r11 : List IOp := [oV 37 1,
oR 38 (.bin .rem) [.t 37,oI 2],
oR 39 (.bin .eql) [.t 38,oI 0]]
def a28r12 : List IOp := [oR 40 (.fieldAddr 0) [.t 7],
oL 41 40,
oR 42 (.bin .add) [.t 41,oI 15],
oR 43 (.bin .sub) [.t 42,oI 1],
oR 44 (.fieldAddr 1) [.t 7],
oN (.store 1) [.t 44,.t 43]]
def a28r13 : List IOp := [oR 45 (.fieldAddr 0) [.t 7],
oL 46 45,
oR 47 (.bin .add) [.t 46,oI 15],
oR 48 (.fieldAddr 0) [.t 7],
oN (.store 1) [.t 48,.t 47]]
def a28r14 : List IOp := [oR 49 (.loadA 2) [.t 7],
oN (.store 2) [.t 4,.t 49],
oR 5 .mv [oI 0]]
def a28r15 : List IOp := [oR 51 (.loadA 2) [.t 2],
oR 52 (.call 47) [.t 51],
oV 50 52,
oR 53 (.extract 0) [.t 50],
oR 54 (.extract 1) [.t 50],
oV 8 53,
oV 9 54]
def a28r16 : List IOp := [oV 55 1,
oV 56 8,
oR 57 (.bin .mul) [.t 55,.t 56],
oV 58 9,
oR 59 (.bin .sub) [.t 57,.t 58],
oV 10 59]
def a28r17 : List IOp := [oV 60 10,
oR 61 (.minmax true) [.t 60,oI 0],
oV 62 10,
oV 63 8,
oR 64 (.bin .add) [.t 62,.t 63],
oR 65 (.bin .sub) [.t 64,oI 1],
oR 66 (.minmax false) [.t 65,oI 84005],
oR 67 (.build [.int .i64 0,.int .i64 0] [(0,1),(1,1)]) [.t 61,.t 66],
oN (.store 2) [.t 4,.t 67],
oR 5 .mv [oI 0]]
def a28 : AFunc := ⟨68,[.cellA 4 2,.tmp 5],(.seq (.region a28r0 [1,2,4]) (.seq (.seq (.region a28r1 [1,2,4,6]) (.seq (.region a28r2 [1,2,4,6,14]) (.cond (.t 14) (.seq (.region a28r3 [4,5]) .ret) .skip))) (.seq (.seq (.region a28r4 [1,2,4,24]) (.cond (.t 24) (.seq (.region a28r5 [4,5]) .ret) .skip)) (.seq (.seq (.region a28r6 [1,2,4,27]) (.block 0 (.seq (.region a28r7 [1,2,4,27,28]) (.cond (.t 28) (.seq (.region a28r8 [4,5]) .ret) (.seq (.region a28r9 [1,2,4,32]) (.cond (.t 32) (.seq (.region a28r10 [1,4,7]) (.seq (.seq (.region a28r11 [4,7,39]) (.cond (.t 39) (.region a28r12 [4,7]) (.region a28r13 [4,7]))) (.seq (.region a28r14 [4,5]) .ret))) .skip)))))) (.seq (.region a28r15 [1,4,8,9]) (.seq (.region a28r16 [4,8,10]) (.seq (.region a28r17 [4,5]) .ret)))))))⟩
theorem a28_ok : compileF Tryz.prog (lk [(0,⟨[1,2,4],[],[]⟩),(1,⟨[1,2,4,6],[],[]⟩),(2,⟨[1,2,4,6,14],[],[]⟩),(3,⟨[4,5],[],[]⟩),(4,⟨[1,2,4,24],[],[]⟩),(5,⟨[4,5],[],[]⟩),(6,⟨[1,2,4,27],[],[]⟩),(7,⟨[1,2,4,27,28],[],[]⟩),(8,⟨[4,5],[],[]⟩),(9,⟨[1,2,4,32],[],[]⟩),(10,⟨[1,4,7],[],[]⟩),(11,⟨[4,7,39],[],[]⟩),(12,⟨[4,7],[],[]⟩),(13,⟨[4,7],[],[]⟩),(14,⟨[4,5],[],[]⟩),(15,⟨[1,4,8,9],[],[]⟩),(16,⟨[4,8,10],[],[]⟩),(17,⟨[4,5],[],[]⟩)]) Tryz.f28 = some a28 := by kernel_rfl

/- payroll/period.Of -/
def a29r0 : List IOp := [oR 2 (.box 27 2) [.t 0],
oR 4 .mv [oI 0],
oR 5 .mv [oI 0]]
def a29r1 : List IOp := [oR 7 (.loadA 2) [.t 2],
oR 8 (.call 45) [.t 7],
oV 6 8]
def a29r2 : List IOp := [oV 9 6,
oR 10 (.bin .neq) [.t 9,oI 0]]
def a29r3 : List IOp := [oV 11 6,
oR 4 .mv [oI 0],
oV 5 11]
def a29r4 : List IOp := [oV 12 1,
oR 13 (.bin .lss) [.t 12,oI 0],
oV 14 13,
oG 15 .mv [.t 1] 14 false,
oG 16 (.bin .gtr) [.t 15,oI 84005] 14 false,
oR 17 .pick [.t 14,.c (.bool true),.t 16]]
def a29r5 : List IOp := [oR 4 .mv [oI 0],
oR 5 .mv [oI 2]]
def a29r6 : List IOp := [oR 18 (.loadA 2) [.t 2],
oV 19 1,
oR 20 (.call 48) [.t 18,.t 19],
oV 4 20,
oR 5 .mv [oI 0]]
def a29 : AFunc := ⟨21,[.tmp 4,.tmp 5],(.seq (.region a29r0 [1,2]) (.seq (.seq (.region a29r1 [1,2,6]) (.seq (.region a29r2 [1,2,6,10]) (.cond (.t 10) (.seq (.region a29r3 [4,5]) .ret) .skip))) (.seq (.seq (.region a29r4 [1,2,17]) (.cond (.t 17) (.seq (.region a29r5 [4,5]) .ret) .skip)) (.seq (.region a29r6 [4,5]) .ret))))⟩
theorem a29_ok : compileF Tryz.prog (lk [(0,⟨[1,2],[],[]⟩),(1,⟨[1,2,6],[],[]⟩),(2,⟨[1,2,6,10],[],[]⟩),(3,⟨[4,5],[],[]⟩),(4,⟨[1,2,17],[],[]⟩),(5,⟨[4,5],[],[]⟩),(6,⟨[4,5],[],[]⟩)]) Tryz.f29 = some a29 := by kernel_rfl

/- payroll/period.Count -/
def a30r0 : List IOp := [oR 1 (.box 27 2) [.t 0],
oR 2 .mv [oI 0]]
def a30r1 : List IOp := [oR 3 (.loadA 2) [.t 1],
oR 4 (.call 45) [.t 3],
oR 5 (.bin .neq) [.t 4,oI 0]]
def a30r2 : List IOp := [oR 2 .mv [oI 0]]
def a30r3 : List IOp := [oR 6 (.loadA 2) [.t 1],
oR 7 (.call 48) [.t 6,oI 84005],
oR 8 (.bin .add) [.t 7,oI 1],
oV 2 8]
def a30 : AFunc := ⟨9,[.tmp 2],(.seq (.region a30r0 [1]) (.seq (.seq (.region a30r1 [1,5]) (.cond (.t 5) (.seq (.region a30r2 [2]) .ret) .skip)) (.seq (.region a30r3 [2]) .ret)))⟩
theorem a30_ok : compileF Tryz.prog (lk [(0,⟨[1],[],[]⟩),(1,⟨[1,5],[],[]⟩),(2,⟨[2],[],[]⟩),(3,⟨[2],[],[]⟩)]) Tryz.f30 = some a30 := by kernel_rfl

/- payroll/payrollgen.Mod -/
def a31r0 : List IOp := [oR 4 .mv [oI 0]]
def a31r1 : List IOp := [oV 6 0,
oV 7 1,
oR 8 (.bin .rem) [.t 6,.t 7],
oV 5 8]
def a31r2 : List IOp := [oV 9 5,
oR 10 (.bin .lss) [.t 9,oI 0]]
def a31r3 : List IOp := [oV 11 5,
oV 12 1,
oR 13 (.bin .add) [.t 11,.t 12],
oV 5 13]
def a31r4 : List IOp := [oV 14 5,
oV 4 14]
def a31 : AFunc := ⟨15,[.tmp 4],(.seq (.region a31r0 [0,1]) (.seq (.region a31r1 [1,5]) (.seq (.seq (.region a31r2 [1,5,10]) (.cond (.t 10) (.region a31r3 [5]) .skip)) (.seq (.region a31r4 [4]) .ret))))⟩
theorem a31_ok : compileF Tryz.prog (lk [(0,⟨[0,1],[],[]⟩),(1,⟨[1,5],[],[]⟩),(2,⟨[1,5,10],[],[]⟩),(3,⟨[5],[],[]⟩),(4,⟨[4],[],[]⟩)]) Tryz.f31 = some a31 := by kernel_rfl

/- payroll/payrollref3.Month -/
def a32r0 : List IOp := [oR 2 .mv [oI 0]]
def a32r1 : List IOp := [oV 8 0,
oR 9 (.call 33) [.t 8],
oV 7 9,
oR 10 (.extract 0) [.t 7],
oR 11 (.extract 1) [.t 7],
oR 12 (.extract 2) [.t 7],
oR 13 (.extract 3) [.t 7],
oV 3 10,
oV 4 11,
oV 5 12,
oV 6 13]
def a32r2 : List IOp := [oV 14 6,
oR 15 .not [.t 14]]
def a32r3 : List IOp := [oR 2 .mv [oI (-1)]]
def a32r4 : List IOp := [oV 16 3,
oR 17 (.bin .sub) [.t 16,oI 1970],
oR 18 (.bin .mul) [.t 17,oI 12],
oV 19 4,
oR 20 (.bin .add) [.t 18,.t 19],
oR 21 (.bin .sub) [.t 20,oI 1],
oV 2 21]
def a32 : AFunc := ⟨22,[.tmp 2],(.seq (.region a32r0 [0]) (.seq (.region a32r1 [3,4,6]) (.seq (.seq (.region a32r2 [3,4,15]) (.cond (.t 15) (.seq (.region a32r3 [2]) .ret) .skip)) (.seq (.region a32r4 [2]) .ret))))⟩
theorem a32_ok : compileF Tryz.prog (lk [(0,⟨[0],[],[]⟩),(1,⟨[3,4,6],[],[]⟩),(2,⟨[3,4,15],[],[]⟩),(3,⟨[2],[],[]⟩),(4,⟨[2],[],[]⟩)]) Tryz.f32 = some a32 := by kernel_rfl

/- payroll/payrollref3.Date -/
def a33r0 : List IOp := [oR 2 .mv [oI 0],
oR 3 .mv [oI 0],
oR 4 .mv [oI 0],
oR 5 .mv [.c (.bool false)]]
def a33r1 : List IOp := [oV 9 0,
oR 10 (.call 16) [.t 9],
oR 11 .not [.t 10]]
def a33r2 : List IOp := [oR 2 .mv [oI 0],
oR 3 .mv [oI 0],
oR 4 .mv [oI 0],
oR 5 .mv [.c (.bool false)]]
def a33r3 : List IOp := [oV 12 0,
oR 13 (.bin .quo) [.t 12,oI 366],
oR 14 (.bin .add) [oI 1970,.t 13],
oV 6 14]
def a33r4 : List IOp := [oV 15 6,
oR 16 (.bin .add) [.t 15,oI 1],
oR 17 (.call 49) [.t 16],
oV 18 0,
oR 19 (.bin .leq) [.t 17,.t 18]]
def a33r5 : List IOp := [oV 20 6,
oR 21 (.bin .add) [.t 20,oI 1],
oV 6 21]
def a33r6 : List IOp := [oV 22 0,
oV 23 6,
oR 24 (.call 49) [.t 23],
oR 25 (.bin .sub) [.t 22,.t 24],
oV 7 25]
def a33r7 : List IOp := [oR 8 .mv [oI 1]]
def a33r8 : List IOp := [oV 26 7,
oV 27 6,
oV 28 8,
oR 29 (.call 35) [.t 27,.t 28],
oR 30 (.bin .geq) [.t 26,.t 29]]
def a33r9 : List IOp := [oV 31 7,
oV 32 6,
oV 33 8,
oR 34 (.call 35) [.t 32,.t 33],
oR 35 (.bin .sub) [.t 31,.t 34],
oV 7 35]
def a33r10 : List IOp := [oV 36 8,
oR 37 (.bin .add) [.t 36,oI 1],
oV 8 37]
def a33r11 : List IOp := [oV 38 6,
oV 39 8,
oV 40 7,
oR 41 (.bin .add) [.t 40,oI 1],
oV 2 38,
oV 3 39,
oV 4 41,
oR 5 .mv [.c (.bool true)]]
def a33 : AFunc := ⟨42,[.tmp 2,.tmp 3,.tmp 4,.tmp 5],(.seq (.region a33r0 [0]) (.seq (.seq (.region a33r1 [0,11]) (.cond (.t 11) (.seq (.region a33r2 [2,3,4,5]) .ret) .skip)) (.seq (.region a33r3 [0,6]) (.seq (.block 0 (.loop (.seq (.seq (.region a33r4 [0,6,19]) (.cond (.t 19) .skip (.exit 0))) (.block 1 (.region a33r5 [0,6]))))) (.seq (.region a33r6 [6,7]) (.seq (.region a33r7 [6,7,8]) (.seq (.block 2 (.loop (.seq (.seq (.region a33r8 [6,7,8,30]) (.cond (.t 30) .skip (.exit 2))) (.block 3 (.seq (.region a33r9 [6,7,8]) (.region a33r10 [6,7,8])))))) (.seq (.region a33r11 [2,3,4,5]) .ret))))))))⟩
theorem a33_ok : compileF Tryz.prog (lk [(0,⟨[0],[],[]⟩),(1,⟨[0,11],[],[]⟩),(2,⟨[2,3,4,5],[],[]⟩),(3,⟨[0,6],[],[]⟩),(4,⟨[0,6,19],[],[]⟩),(5,⟨[0,6],[],[]⟩),(6,⟨[6,7],[],[]⟩),(7,⟨[6,7,8],[],[]⟩),(8,⟨[6,7,8,30],[],[]⟩),(9,⟨[6,7,8],[],[]⟩),(10,⟨[6,7,8],[],[]⟩),(11,⟨[2,3,4,5],[],[]⟩)]) Tryz.f33 = some a33 := by kernel_rfl

/- payroll/payrollref3.Day -/
def a34r0 : List IOp := [oR 6 .mv [oI 0],
oR 7 .mv [.c (.bool false)]]
def a34r1 : List IOp := [oV 8 0,
oR 9 (.call 50) [.t 8],
oR 10 .not [.t 9],
oV 11 10,
oG 12 .mv [.t 1] 11 false,
oG 13 (.bin .lss) [.t 12,oI 1] 11 false,
oR 14 .pick [.t 11,.c (.bool true),.t 13],
oV 15 14,
oG 16 .mv [.t 1] 15 false,
oG 17 (.bin .gtr) [.t 16,oI 12] 15 false,
oR 18 .pick [.t 15,.c (.bool true),.t 17],
oV 19 18,
oG 20 .mv [.t 2] 19 false,
oG 21 (.bin .lss) [.t 20,oI 1] 19 false,
oR 22 .pick [.t 19,.c (.bool true),.t 21],
oV 23 22,
oG 24 .mv [.t 2] 23 false,
oG 25 .mv [.t 0] 23 false,
oG 26 .mv [.t 1] 23 false,
oG 27 (.call 35) [.t 25,.t 26] 23 false,
oG 28 (.bin .gtr) [.t 24,.t 27] 23 false,
oR 29 .pick [.t 23,.c (.bool true),.t 28]]
def a34r2 : List IOp := [oR 6 .mv [oI 0],
oR 7 .mv [.c (.bool false)]]
def a34r3 : List IOp := [oV 30 0,
oV 31 1,
oV 32 2,
oR 33 (.call 51) [.t 30,.t 31,.t 32],
oV 6 33,
oR 7 .mv [.c (.bool true)]]
def a34 : AFunc := ⟨34,[.tmp 6,.tmp 7],(.seq (.region a34r0 [0,1,2]) (.seq (.seq (.region a34r1 [0,1,2,29]) (.cond (.t 29) (.seq (.region a34r2 [6,7]) .ret) .skip)) (.seq (.region a34r3 [6,7]) .ret)))⟩
theorem a34_ok : compileF Tryz.prog (lk [(0,⟨[0,1,2],[],[]⟩),(1,⟨[0,1,2,29],[],[]⟩),(2,⟨[6,7],[],[]⟩),(3,⟨[6,7],[],[]⟩)]) Tryz.f34 = some a34 := by kernel_rfl

/- payroll/payrollref3.lengths -/
def a35r0 : List IOp := [oR 4 .mv [oI 0]]
def a35r1 : List IOp := [oV 5 1]
def a35r2 : List IOp := [oR 7 (.bin .eql) [.t 5,oI 4],
oV 6 7]
def a35r3 : List IOp := [oR 8 (.bin .eql) [.t 5,oI 6],
oV 6 8]
def a35r4 : List IOp := [oR 9 (.bin .eql) [.t 5,oI 9],
oV 6 9]
def a35r5 : List IOp := [oR 10 (.bin .eql) [.t 5,oI 11],
oV 6 10]
def a35r6 : List IOp := [oR 4 .mv [oI 30]]
def a35r7 : List IOp := [oR 12 (.bin .eql) [.t 5,oI 2],
oV 11 12]
def a35r8 : List IOp := [oV 13 0,
oR 14 (.bin .rem) [.t 13,oI 4],
oR 15 (.bin .eql) [.t 14,oI 0],
oV 16 15,
oG 17 .mv [.t 0] 16 true,
oG 18 (.bin .rem) [.t 17,oI 100] 16 true,
oG 19 (.bin .neq) [.t 18,oI 0] 16 true,
oG 20 .mv [.t 19] 16 true,
oG 21 .mv [.t 0] 20 false,
oG 22 (.bin .rem) [.t 21,oI 400] 20 false,
oG 23 (.bin .eql) [.t 22,oI 0] 20 false,
oG 24 .pick [.t 20,.c (.bool true),.t 23] 16 true,
oR 25 .pick [.t 16,.t 24,.c (.bool false)]]
def a35r9 : List IOp := [oR 4 .mv [oI 29]]
def a35r10 : List IOp := [oR 4 .mv [oI 28]]
def a35r11 : List IOp := [oR 4 .mv [oI 31]]
def a35 : AFunc := ⟨26,[.tmp 4],(.seq (.region a35r0 [0,1]) (.seq (.seq (.region a35r1 [0,5]) (.block 0 (.seq (.seq (.region a35r2 [0,5,6]) (.cond (.t 6) .skip (.seq (.region a35r3 [0,5,6]) (.cond (.t 6) .skip (.seq (.region a35r4 [0,5,6]) (.cond (.t 6) .skip (.region a35r5 [0,5,6]))))))) (.cond (.t 6) (.seq (.region a35r6 [4]) .ret) (.seq (.region a35r7 [0,11]) (.cond (.t 11) (.seq (.seq (.region a35r8 [25]) (.cond (.t 25) (.seq (.region a35r9 [4]) .ret) .skip)) (.seq (.region a35r10 [4]) .ret)) .skip)))))) (.seq (.region a35r11 [4]) .ret)))⟩
theorem a35_ok : compileF Tryz.prog (lk [(0,⟨[0,1],[],[]⟩),(1,⟨[0,5],[],[]⟩),(2,⟨[0,5,6],[],[]⟩),(3,⟨[0,5,6],[],[]⟩),(4,⟨[0,5,6],[],[]⟩),(5,⟨[0,5,6],[],[]⟩),(6,⟨[4],[],[]⟩),(7,⟨[0,11],[],[]⟩),(8,⟨[25],[],[]⟩),(9,⟨[4],[],[]⟩),(10,⟨[4],[],[]⟩),(11,⟨[4],[],[]⟩)]) Tryz.f35 = some a35 := by kernel_rfl

/- payroll/period.parts -/
def a36r0 : List IOp := [oR 2 (.box 34 2) [.t 0],
oR 4 .mv [.c (.nils)],
oR 5 .mv [oI 0]]
def a36r1 : List IOp := [oR 6 .mv [.c (.nils)]]
def a36r2 : List IOp := [oR 10 (.fieldAddr 0) [.t 2],
oL 11 10,
oV 7 11]
def a36r3 : List IOp := [oV 12 1,
oR 13 .len [.t 12],
oR 14 .mv [oI 0]]
def a36r4 : List IOp := [oR 15 (.bin .lss) [.t 14,.t 13]]
def a36r5 : List IOp := [oR 16 (.indexAddr 1) [.t 12,.t 14],
oL 17 16,
oV 9 17]
def a36r6 : List IOp := [oV 18 9,
oV 19 7,
oR 20 (.bin .leq) [.t 18,.t 19],
oV 21 20,
oG 22 .mv [.t 9] 21 false,
oG 23 (.fieldAddr 1) [.t 2] 21 false,
oG 24 .load1 [.t 23] 21 false,
oG 25 (.bin .gtr) [.t 22,.t 24] 21 false,
oR 26 .pick [.t 21,.c (.bool true),.t 25]]
def a36r7 : List IOp := [oR 4 .mv [.c (.nils)],
oR 5 .mv [oI 1]]
def a36r8 : List IOp := [oV 27 6,
oV 28 7,
oV 29 9,
oR 30 (.bin .sub) [.t 29,oI 1],
oR 31 (.build [.int .i64 0,.int .i64 0] [(0,1),(1,1)]) [.t 28,.t 30],
oR 32 (.bslice 34 2 [.int .i64 0,.int .i64 0] 1 [0]) [.t 31],
oR 33 (.append 34 2 16) [.t 27,.t 32],
oV 6 33]
def a36r9 : List IOp := [oV 34 9,
oV 7 34]
def a36r10 : List IOp := [oR 35 (.bin .add) [.t 14,oI 1],
oV 14 35]
def a36r11 : List IOp := [oV 36 6,
oV 37 7,
oR 38 (.fieldAddr 1) [.t 2],
oL 39 38,
oR 40 (.build [.int .i64 0,.int .i64 0] [(0,1),(1,1)]) [.t 37,.t 39],
oR 41 (.bslice 34 2 [.int .i64 0,.int .i64 0] 1 [0]) [.t 40],
oR 42 (.append 34 2 16) [.t 36,.t 41],
oV 4 42,
oR 5 .mv [oI 0]]
def a36 : AFunc := ⟨43,[.tmp 4,.tmp 5],(.seq (.region a36r0 [1,2]) (.seq (.region a36r1 [1,2,6]) (.seq (.region a36r2 [1,2,6,7]) (.seq (.seq (.region a36r3 [2,6,7,12,13,14]) (.block 0 (.loop (.seq (.region a36r4 [2,6,7,12,13,14,15]) (.seq (.cond (.t 15) .skip (.exit 0)) (.seq (.block 1 (.seq (.region a36r5 [2,6,7,9,12,13,14]) (.seq (.seq (.region a36r6 [2,6,7,9,12,13,14,26]) (.cond (.t 26) (.seq (.region a36r7 [4,5]) .ret) .skip)) (.seq (.region a36r8 [2,6,9,12,13,14]) (.region a36r9 [2,6,7,12,13,14]))))) (.region a36r10 [2,6,7,12,13,14]))))))) (.seq (.region a36r11 [4,5]) .ret)))))⟩
theorem a36_ok : compileF Tryz.prog (lk [(0,⟨[1,2],[],[]⟩),(1,⟨[1,2,6],[],[]⟩),(2,⟨[1,2,6,7],[],[]⟩),(3,⟨[2,6,7,12,13,14],[],[]⟩),(4,⟨[2,6,7,12,13,14,15],[],[]⟩),(5,⟨[2,6,7,9,12,13,14],[],[]⟩),(6,⟨[2,6,7,9,12,13,14,26],[],[]⟩),(7,⟨[4,5],[],[]⟩),(8,⟨[2,6,9,12,13,14],[],[]⟩),(9,⟨[2,6,7,12,13,14],[],[]⟩),(10,⟨[2,6,7,12,13,14],[],[]⟩),(11,⟨[4,5],[],[]⟩)]) Tryz.f36 = some a36 := by kernel_rfl

/- payroll/calendar.Valid -/
def a37r0 : List IOp := [oR 2 .mv [oI 0]]
def a37r1 : List IOp := [oV 5 0,
oR 6 .len [.t 5],
oR 7 (.bin .gtr) [.t 6,oI 1024]]
def a37r2 : List IOp := [oR 2 .mv [oI 3]]
def a37r3 : List IOp := [oV 8 0,
oR 9 .len [.t 8],
oR 10 .mv [oI 0]]
def a37r4 : List IOp := [oR 11 (.bin .lss) [.t 10,.t 9]]
def a37r5 : List IOp := [oR 12 (.indexAddr 6) [.t 8,.t 10],
oR 13 (.loadA 6) [.t 12],
oR 4 (.alloc 53 [.int .i64 0,.int .i64 0,.int .i64 0,.int .i64 0,.int .i64 0,.bool false]) [],
oN (.store 6) [.t 4,.t 13]]
def a37r6 : List IOp := [oR 14 (.loadA 6) [.t 4],
oR 15 (.call 52) [.t 14],
oR 16 .not [.t 15]]
def a37r7 : List IOp := [oR 2 .mv [oI 1]]
def a37r8 : List IOp := [oR 17 (.bin .add) [.t 10,oI 1],
oV 10 17]
def a37r9 : List IOp := [oR 2 .mv [oI 0]]
def a37 : AFunc := ⟨18,[.tmp 2],(.seq (.region a37r0 [0]) (.seq (.seq (.region a37r1 [0,7]) (.cond (.t 7) (.seq (.region a37r2 [2]) .ret) .skip)) (.seq (.seq (.region a37r3 [8,9,10]) (.block 0 (.loop (.seq (.region a37r4 [8,9,10,11]) (.seq (.cond (.t 11) .skip (.exit 0)) (.seq (.block 1 (.seq (.region a37r5 [4,8,9,10]) (.seq (.region a37r6 [8,9,10,16]) (.cond (.t 16) (.seq (.region a37r7 [2]) .ret) .skip)))) (.region a37r8 [8,9,10]))))))) (.seq (.region a37r9 [2]) .ret))))⟩
theorem a37_ok : compileF Tryz.prog (lk [(0,⟨[0],[],[]⟩),(1,⟨[0,7],[],[]⟩),(2,⟨[2],[],[]⟩),(3,⟨[8,9,10],[],[]⟩),(4,⟨[8,9,10,11],[],[]⟩),(5,⟨[4,8,9,10],[],[]⟩),(6,⟨[8,9,10,16],[],[]⟩),(7,⟨[2],[],[]⟩),(8,⟨[8,9,10],[],[]⟩),(9,⟨[2],[],[]⟩)]) Tryz.f37 = some a37 := by kernel_rfl

/- payroll/calendar.Workdays -/
def a38r0 : List IOp := [oR 6 .mv [oI 0],
oR 7 .mv [oI 0]]
def a38r1 : List IOp := [oV 14 0,
oR 15 (.call 37) [.t 14],
oV 8 15]
def a38r2 : List IOp := [oV 16 8,
oR 17 (.bin .neq) [.t 16,oI 0]]
def a38r3 : List IOp := [oV 18 8,
oR 6 .mv [oI 0],
oV 7 18]
def a38r4 : List IOp := [oV 19 1,
oR 20 (.call 53) [.t 19],
oR 21 .not [.t 20],
oV 22 21,
oG 23 .mv [.t 2] 22 false,
oG 24 (.call 53) [.t 23] 22 false,
oG 25 .not [.t 24] 22 false,
oR 26 .pick [.t 22,.c (.bool true),.t 25]]
def a38r5 : List IOp := [oR 6 .mv [oI 0],
oR 7 .mv [oI 2]]
def a38r6 : List IOp := [oV 27 2,
oV 28 1,
oR 29 (.bin .lss) [.t 27,.t 28]]
def a38r7 : List IOp := [oR 6 .mv [oI 0],
oR 7 .mv [oI 0]]
def a38r8 : List IOp := [oV 30 2,
oR 31 (.bin .add) [.t 30,oI 1],
oR 32 (.call 54) [.t 31],
oV 33 1,
oR 34 (.call 54) [.t 33],
oR 35 (.bin .sub) [.t 32,.t 34],
oV 9 35]
def a38r9 : List IOp := [oV 36 1,
oR 37 (.call 55) [.t 36],
oR 38 (.bin .sub) [.t 37,oI 1],
oR 39 (.minmax true) [.t 38,oI 1970],
oV 40 2,
oR 41 (.call 55) [.t 40],
oR 42 (.bin .add) [.t 41,oI 1],
oR 43 (.minmax false) [.t 42,oI 2199],
oV 10 39,
oV 11 43]
def a38r10 : List IOp := [oV 44 0,
oV 45 10,
oV 46 11,
oR 47 (.call 56) [.t 44,.t 45,.t 46],
oR 48 .len [.t 47],
oR 49 .mv [oI 0]]
def a38r11 : List IOp := [oR 50 (.bin .lss) [.t 49,.t 48]]
def a38r12 : List IOp := [oR 51 (.indexAddr 1) [.t 47,.t 49],
oL 52 51,
oV 13 52]
def a38r13 : List IOp := [oV 53 13,
oV 54 1,
oR 55 (.bin .geq) [.t 53,.t 54],
oV 56 55,
oG 57 .mv [.t 13] 56 true,
oG 58 .mv [.t 2] 56 true,
oG 59 (.bin .leq) [.t 57,.t 58] 56 true,
oR 60 .pick [.t 56,.t 59,.c (.bool false)],
oV 61 60,
oG 62 .mv [.t 13] 61 true,
oG 63 (.call 57) [.t 62] 61 true,
oG 64 (.bin .lss) [.t 63,oI 5] 61 true,
oR 65 .pick [.t 61,.t 64,.c (.bool false)]]
def a38r14 : List IOp := [oV 66 9,
oR 67 (.bin .sub) [.t 66,oI 1],
oV 9 67]
def a38r15 : List IOp := [oR 68 (.bin .add) [.t 49,oI 1],
oV 49 68]
def a38r16 : List IOp := [oV 69 9,
oV 6 69,
oR 7 .mv [oI 0]]
def a38 : AFunc := ⟨70,[.tmp 6,.tmp 7],(.seq (.region a38r0 [0,1,2]) (.seq (.seq (.region a38r1 [0,1,2,8]) (.seq (.region a38r2 [0,1,2,8,17]) (.cond (.t 17) (.seq (.region a38r3 [6,7]) .ret) .skip))) (.seq (.seq (.region a38r4 [0,1,2,26]) (.cond (.t 26) (.seq (.region a38r5 [6,7]) .ret) .skip)) (.seq (.seq (.region a38r6 [0,1,2,29]) (.cond (.t 29) (.seq (.region a38r7 [6,7]) .ret) .skip)) (.seq (.region a38r8 [0,1,2,9]) (.seq (.region a38r9 [0,1,2,9,10,11]) (.seq (.seq (.region a38r10 [1,2,9,47,48,49]) (.block 0 (.loop (.seq (.region a38r11 [1,2,9,47,48,49,50]) (.seq (.cond (.t 50) .skip (.exit 0)) (.seq (.block 1 (.seq (.region a38r12 [1,2,9,13,47,48,49]) (.seq (.region a38r13 [1,2,9,47,48,49,65]) (.cond (.t 65) (.region a38r14 [1,2,9,47,48,49]) .skip)))) (.region a38r15 [1,2,9,47,48,49]))))))) (.seq (.region a38r16 [6,7]) .ret))))))))⟩
theorem a38_ok : compileF Tryz.prog (lk [(0,⟨[0,1,2],[],[]⟩),(1,⟨[0,1,2,8],[],[]⟩),(2,⟨[0,1,2,8,17],[],[]⟩),(3,⟨[6,7],[],[]⟩),(4,⟨[0,1,2,26],[],[]⟩),(5,⟨[6,7],[],[]⟩),(6,⟨[0,1,2,29],[],[]⟩),(7,⟨[6,7],[],[]⟩),(8,⟨[0,1,2,9],[],[]⟩),(9,⟨[0,1,2,9,10,11],[],[]⟩),(10,⟨[1,2,9,47,48,49],[],[]⟩),(11,⟨[1,2,9,47,48,49,50],[],[]⟩),(12,⟨[1,2,9,13,47,48,49],[],[]⟩),(13,⟨[1,2,9,47,48,49,65],[],[]⟩),(14,⟨[1,2,9,47,48,49],[],[]⟩),(15,⟨[1,2,9,47,48,49],[],[]⟩),(16,⟨[6,7],[],[]⟩)]) Tryz.f38 = some a38 := by kernel_rfl

/- payroll/payrollref3.Valid -/
def a39r0 : List IOp := [oR 2 .mv [oI 0]]
def a39r1 : List IOp := [oV 4 0,
oR 5 .len [.t 4],
oR 6 (.bin .gtr) [.t 5,oI 1024]]
def a39r2 : List IOp := [oR 2 .mv [oI 3]]
def a39r3 : List IOp := [oR 3 .mv [oI 0]]
def a39r4 : List IOp := [oV 7 3,
oV 8 0,
oR 9 .len [.t 8],
oR 10 (.bin .lss) [.t 7,.t 9]]
def a39r5 : List IOp := [oV 13 0,
oV 14 3,
oR 15 (.indexAddr 6) [.t 13,.t 14],
oR 16 (.loadA 6) [.t 15],
oR 17 (.call 58) [.t 16],
oR 18 .not [.t 17]]
def a39r6 : List IOp := [oR 2 .mv [oI 1]]
def a39r7 : List IOp := [oV 11 3,
oR 12 (.bin .add) [.t 11,oI 1],
oV 3 12]
def a39r8 : List IOp := [oR 2 .mv [oI 0]]
def a39 : AFunc := ⟨19,[.tmp 2],(.seq (.region a39r0 [0]) (.seq (.seq (.region a39r1 [0,6]) (.cond (.t 6) (.seq (.region a39r2 [2]) .ret) .skip)) (.seq (.seq (.region a39r3 [0,3]) (.block 0 (.loop (.seq (.seq (.region a39r4 [0,3,10]) (.cond (.t 10) .skip (.exit 0))) (.seq (.block 1 (.seq (.region a39r5 [0,3,18]) (.cond (.t 18) (.seq (.region a39r6 [2]) .ret) .skip))) (.region a39r7 [0,3])))))) (.seq (.region a39r8 [2]) .ret))))⟩
theorem a39_ok : compileF Tryz.prog (lk [(0,⟨[0],[],[]⟩),(1,⟨[0,6],[],[]⟩),(2,⟨[2],[],[]⟩),(3,⟨[0,3],[],[]⟩),(4,⟨[0,3,10],[],[]⟩),(5,⟨[0,3],[],[]⟩),(6,⟨[0,3,18],[],[]⟩),(7,⟨[2],[],[]⟩),(8,⟨[2],[],[]⟩)]) Tryz.f39 = some a39 := by kernel_rfl

/- payroll/payrollref5.weight -/
def a40r0 : List IOp := [oR 6 .mv [oI 0]]
def a40r1 : List IOp := [oV 12 1]
def a40r2 : List IOp := [oR 14 (.bin .eql) [.t 12,oI 0],
oV 13 14]
def a40r3 : List IOp := [oR 6 .mv [oI 1]]
def a40r4 : List IOp := [oR 16 (.bin .eql) [.t 12,oI 1],
oV 15 16]
def a40r5 : List IOp := [oV 17 2,
oV 18 0,
oR 19 (.call 59) [.t 17,.t 18]]
def a40r6 : List IOp := [oR 6 .mv [oI 1]]
def a40r7 : List IOp := [oR 6 .mv [oI 0]]
def a40r8 : List IOp := [oV 21 0,
oR 22 (.call 33) [.t 21],
oV 20 22,
oR 23 (.extract 0) [.t 20],
oR 24 (.extract 1) [.t 20],
oR 25 (.extract 2) [.t 20],
oR 26 (.extract 3) [.t 20],
oV 7 23,
oV 8 24,
oV 9 25,
oV 10 26]
def a40r9 : List IOp := [oV 27 0,
oR 28 (.call 32) [.t 27],
oR 29 (.call 20) [.t 28],
oV 11 29]
def a40r10 : List IOp := [oV 30 9,
oV 31 11,
oR 32 (.bin .eql) [.t 30,.t 31]]
def a40r11 : List IOp := [oV 33 11,
oR 34 (.bin .sub) [oI 31,.t 33],
oV 6 34]
def a40r12 : List IOp := [oR 6 .mv [oI 1]]
def a40 : AFunc := ⟨35,[.tmp 6],(.seq (.region a40r0 [0,1,2]) (.seq (.seq (.region a40r1 [0,2,12]) (.block 0 (.seq (.region a40r2 [0,2,12,13]) (.cond (.t 13) (.seq (.region a40r3 [6]) .ret) (.seq (.region a40r4 [0,2,15]) (.cond (.t 15) (.seq (.seq (.region a40r5 [19]) (.cond (.t 19) (.seq (.region a40r6 [6]) .ret) .skip)) (.seq (.region a40r7 [6]) .ret)) .skip)))))) (.seq (.region a40r8 [0,9]) (.seq (.seq (.region a40r9 [9,11]) (.seq (.region a40r10 [11,32]) (.cond (.t 32) (.seq (.region a40r11 [6]) .ret) .skip))) (.seq (.region a40r12 [6]) .ret)))))⟩
theorem a40_ok : compileF Tryz.prog (lk [(0,⟨[0,1,2],[],[]⟩),(1,⟨[0,2,12],[],[]⟩),(2,⟨[0,2,12,13],[],[]⟩),(3,⟨[6],[],[]⟩),(4,⟨[0,2,15],[],[]⟩),(5,⟨[19],[],[]⟩),(6,⟨[6],[],[]⟩),(7,⟨[6],[],[]⟩),(8,⟨[0,9],[],[]⟩),(9,⟨[9,11],[],[]⟩),(10,⟨[11,32],[],[]⟩),(11,⟨[6],[],[]⟩),(12,⟨[6],[],[]⟩)]) Tryz.f40 = some a40 := by kernel_rfl

/- payroll/ratio.New -/
def a41r0 : List IOp := [oR 4 (.alloc 61 [.int .i64 0,.int .i64 0]) [],
oR 5 .mv [oI 0]]
def a41r1 : List IOp := [oV 6 1,
oR 7 (.bin .eql) [.t 6,oI 0]]
def a41r2 : List IOp := [oR 8 (.build [.int .i64 0,.int .i64 0] []) [],
oN (.store 2) [.t 4,.t 8],
oR 5 .mv [oI 5]]
def a41r3 : List IOp := [oV 9 0,
oR 10 (.bin .lss) [.t 9,oI 0],
oV 11 1,
oR 12 (.bin .lss) [.t 11,oI 0],
oR 13 (.eqB true) [.t 10,.t 12],
oV 14 0,
oR 15 (.call 61) [.t 14],
oV 16 1,
oR 17 (.call 61) [.t 16],
oR 18 (.call 60) [.t 13,.t 15,.t 17],
oR 19 (.extract 0) [.t 18],
oR 20 (.extract 1) [.t 18],
oN (.store 2) [.t 4,.t 19],
oV 5 20]
def a41 : AFunc := ⟨21,[.cellA 4 2,.tmp 5],(.seq (.region a41r0 [0,1,4]) (.seq (.seq (.region a41r1 [0,1,4,7]) (.cond (.t 7) (.seq (.region a41r2 [4,5]) .ret) .skip)) (.seq (.region a41r3 [4,5]) .ret)))⟩
theorem a41_ok : compileF Tryz.prog (lk [(0,⟨[0,1,4],[],[]⟩),(1,⟨[0,1,4,7],[],[]⟩),(2,⟨[4,5],[],[]⟩),(3,⟨[4,5],[],[]⟩)]) Tryz.f41 = some a41 := by kernel_rfl

/- payroll/payrollref1.New -/
def a42r0 : List IOp := [oR 4 (.alloc 61 [.int .i64 0,.int .i64 0]) [],
oR 5 .mv [oI 0]]
def a42r1 : List IOp := [oV 10 1,
oR 11 (.bin .eql) [.t 10,oI 0]]
def a42r2 : List IOp := [oR 12 (.build [.int .i64 0,.int .i64 0] []) [],
oN (.store 2) [.t 4,.t 12],
oR 5 .mv [oI 5]]
def a42r3 : List IOp := [oV 13 0,
oR 14 (.call 62) [.t 13],
oV 15 1,
oR 16 (.call 62) [.t 15],
oV 6 14,
oV 7 16]
def a42r4 : List IOp := [oV 17 6,
oV 18 7,
oR 19 (.call 63) [.t 17,.t 18],
oV 8 19]
def a42r5 : List (Nat × DOp) := [(0,⟨oV 20 6,none,[1,3,4,5]⟩),
(1,⟨oV 21 8,none,[0,3,4,5]⟩),
(2,⟨oR 22 (.bin .quo) [.t 20,.t 21],none,[3,4,5]⟩),
(3,⟨oV 23 7,none,[0,1,2,4,6]⟩),
(4,⟨oV 24 8,none,[0,1,2,3,6]⟩),
(5,⟨oR 25 (.bin .quo) [.t 23,.t 24],none,[0,1,2,6]⟩),
(6,⟨oV 6 22,none,[3,4,5]⟩),
(7,⟨oV 7 25,none,[]⟩)]
def a42r6 : List IOp := [oV 26 6,
oR 27 (.bin .gtr) [.t 26,.c (.int .u64 1000000000000)],
oV 28 27,
oG 29 .mv [.t 7] 28 false,
oG 30 (.bin .gtr) [.t 29,.c (.int .u64 1000000)] 28 false,
oR 31 .pick [.t 28,.c (.bool true),.t 30]]
def a42r7 : List IOp := [oR 32 (.build [.int .i64 0,.int .i64 0] []) [],
oN (.store 2) [.t 4,.t 32],
oR 5 .mv [oI 4]]
def a42r8 : List IOp := [oV 33 6,
oR 34 (.conv .i64) [.t 33],
oV 35 7,
oR 36 (.conv .i64) [.t 35],
oR 37 (.build [.int .i64 0,.int .i64 0] [(0,1),(1,1)]) [.t 34,.t 36],
oR 9 (.alloc 61 [.int .i64 0,.int .i64 0]) [],
oN (.store 2) [.t 9,.t 37]]
def a42r9 : List IOp := [oV 38 0,
oR 39 (.bin .lss) [.t 38,oI 0],
oV 40 1,
oR 41 (.bin .lss) [.t 40,oI 0],
oR 42 (.eqB true) [.t 39,.t 41]]
def a42r10 : List IOp := [oR 43 (.fieldAddr 0) [.t 9],
oL 44 43,
oR 45 .neg [.t 44],
oR 46 (.fieldAddr 0) [.t 9],
oN (.store 1) [.t 46,.t 45]]
def a42r11 : List IOp := [oR 47 (.loadA 2) [.t 9],
oN (.store 2) [.t 4,.t 47],
oR 5 .mv [oI 0]]
def a42 : AFunc := ⟨48,[.cellA 4 2,.tmp 5],(.seq (.region a42r0 [0,1,4]) (.seq (.seq (.region a42r1 [0,1,4,11]) (.cond (.t 11) (.seq (.region a42r2 [4,5]) .ret) .skip)) (.seq (.region a42r3 [0,1,4,6,7]) (.seq (.region a42r4 [0,1,4,6,7,8]) (.seq (.draw a42r5 [] [0,1,4,6,7]) (.seq (.seq (.region a42r6 [0,1,4,6,7,31]) (.cond (.t 31) (.seq (.region a42r7 [4,5]) .ret) .skip)) (.seq (.region a42r8 [0,1,4,9]) (.seq (.seq (.region a42r9 [4,9,42]) (.cond (.t 42) (.region a42r10 [4,9]) .skip)) (.seq (.region a42r11 [4,5]) .ret)))))))))⟩
theorem a42_ok : compileF Tryz.prog (lk [(0,⟨[0,1,4],[],[]⟩),(1,⟨[0,1,4,11],[],[]⟩),(2,⟨[4,5],[],[]⟩),(3,⟨[0,1,4,6,7],[],[]⟩),(4,⟨[0,1,4,6,7,8],[],[]⟩),(5,⟨[0,1,4,6,7],[[],[],[0,1],[],[],[3,4],[2,0,1],[5,6,0,1,2,3,4]],[0,1,2,3,4,5,6,7]⟩),(6,⟨[0,1,4,6,7,31],[],[]⟩),(7,⟨[4,5],[],[]⟩),(8,⟨[0,1,4,9],[],[]⟩),(9,⟨[4,9,42],[],[]⟩),(10,⟨[4,9],[],[]⟩),(11,⟨[4,5],[],[]⟩)]) Tryz.f42 = some a42 := by kernel_rfl

/- payroll/rounding.Allocate -/
def a43r0 : List IOp := [oR 4 .mv [.c (.nils)],
oR 5 .mv [oI 0]]
def a43r1 : List IOp := [oV 11 1,
oR 12 .len [.t 11],
oR 13 (.bin .gtr) [.t 12,oI 1024]]
def a43r2 : List IOp := [oR 4 .mv [.c (.nils)],
oR 5 .mv [oI 3]]
def a43r3 : List IOp := [oV 14 0,
oR 15 (.bin .lss) [.t 14,oI (-1000000000)],
oV 16 15,
oG 17 .mv [.t 0] 16 false,
oG 18 (.bin .gtr) [.t 17,oI 1000000000] 16 false,
oR 19 .pick [.t 16,.c (.bool true),.t 18]]
def a43r4 : List IOp := [oR 4 .mv [.c (.nils)],
oR 5 .mv [oI 2]]
def a43r5 : List IOp := [oR 6 .mv [oI 0]]
def a43r6 : List IOp := [oV 20 1,
oR 21 .len [.t 20],
oR 22 .mv [oI 0]]
def a43r7 : List IOp := [oR 23 (.bin .lss) [.t 22,.t 21]]
def a43r8 : List IOp := [oR 24 (.indexAddr 1) [.t 20,.t 22],
oL 25 24,
oV 8 25]
def a43r9 : List IOp := [oV 26 8,
oR 27 (.bin .lss) [.t 26,oI 0],
oV 28 27,
oG 29 .mv [.t 8] 28 false,
oG 30 (.bin .gtr) [.t 29,oI 1000000000] 28 false,
oR 31 .pick [.t 28,.c (.bool true),.t 30]]
def a43r10 : List IOp := [oR 4 .mv [.c (.nils)],
oR 5 .mv [oI 2]]
def a43r11 : List IOp := [oV 32 6,
oV 33 8,
oR 34 (.bin .add) [.t 32,.t 33],
oV 6 34]
def a43r12 : List IOp := [oR 35 (.bin .add) [.t 22,oI 1],
oV 22 35]
def a43r13 : List IOp := [oV 36 6,
oR 37 (.bin .eql) [.t 36,oI 0]]
def a43r14 : List IOp := [oR 4 .mv [.c (.nils)],
oR 5 .mv [oI 5]]
def a43r15 : List IOp := [oV 38 0,
oR 39 (.bin .geq) [.t 38,oI 0]]
def a43r16 : List IOp := [oV 40 0,
oV 41 1,
oV 42 6,
oR 43 (.call 64) [.t 40,.t 41,.t 42],
oV 4 43,
oR 5 .mv [oI 0]]
def a43r17 : List IOp := [oV 44 0,
oR 45 .neg [.t 44],
oV 46 1,
oV 47 6,
oR 48 (.call 64) [.t 45,.t 46,.t 47],
oV 9 48]
def a43r18 : List IOp := [oV 49 9,
oR 50 .len [.t 49],
oR 51 .mv [oI 0]]
def a43r19 : List IOp := [oR 52 (.bin .lss) [.t 51,.t 50]]
def a43r20 : List IOp := [oV 53 51,
oV 10 53]
def a43r21 : List IOp := [oV 54 9,
oV 55 10,
oV 56 9,
oV 57 10,
oR 58 (.indexAddr 1) [.t 56,.t 57],
oL 59 58,
oR 60 .neg [.t 59],
oR 61 (.indexAddr 1) [.t 54,.t 55],
oN (.store 1) [.t 61,.t 60]]
def a43r22 : List IOp := [oR 62 (.bin .add) [.t 51,oI 1],
oV 51 62]
def a43r23 : List IOp := [oV 63 9,
oV 4 63,
oR 5 .mv [oI 0]]
def a43 : AFunc := ⟨64,[.tmp 4,.tmp 5],(.seq (.region a43r0 [0,1]) (.seq (.seq (.region a43r1 [0,1,13]) (.cond (.t 13) (.seq (.region a43r2 [4,5]) .ret) .skip)) (.seq (.seq (.region a43r3 [0,1,19]) (.cond (.t 19) (.seq (.region a43r4 [4,5]) .ret) .skip)) (.seq (.region a43r5 [0,1,6]) (.seq (.seq (.region a43r6 [0,1,6,20,21,22]) (.block 0 (.loop (.seq (.region a43r7 [0,1,6,20,21,22,23]) (.seq (.cond (.t 23) .skip (.exit 0)) (.seq (.block 1 (.seq (.region a43r8 [0,1,6,8,20,21,22]) (.seq (.seq (.region a43r9 [0,1,6,8,20,21,22,31]) (.cond (.t 31) (.seq (.region a43r10 [4,5]) .ret) .skip)) (.region a43r11 [0,1,6,20,21,22])))) (.region a43r12 [0,1,6,20,21,22]))))))) (.seq (.seq (.region a43r13 [0,1,6,37]) (.cond (.t 37) (.seq (.region a43r14 [4,5]) .ret) .skip)) (.seq (.seq (.region a43r15 [0,1,6,39]) (.cond (.t 39) (.seq (.region a43r16 [4,5]) .ret) .skip)) (.seq (.region a43r17 [9]) (.seq (.seq (.region a43r18 [9,50,51]) (.block 2 (.loop (.seq (.region a43r19 [9,50,51,52]) (.seq (.cond (.t 52) .skip (.exit 2)) (.seq (.block 3 (.seq (.region a43r20 [9,10,50,51]) (.region a43r21 [9,50,51]))) (.region a43r22 [9,50,51]))))))) (.seq (.region a43r23 [4,5]) .ret))))))))))⟩
theorem a43_ok : compileF Tryz.prog (lk [(0,⟨[0,1],[],[]⟩),(1,⟨[0,1,13],[],[]⟩),(2,⟨[4,5],[],[]⟩),(3,⟨[0,1,19],[],[]⟩),(4,⟨[4,5],[],[]⟩),(5,⟨[0,1,6],[],[]⟩),(6,⟨[0,1,6,20,21,22],[],[]⟩),(7,⟨[0,1,6,20,21,22,23],[],[]⟩),(8,⟨[0,1,6,8,20,21,22],[],[]⟩),(9,⟨[0,1,6,8,20,21,22,31],[],[]⟩),(10,⟨[4,5],[],[]⟩),(11,⟨[0,1,6,20,21,22],[],[]⟩),(12,⟨[0,1,6,20,21,22],[],[]⟩),(13,⟨[0,1,6,37],[],[]⟩),(14,⟨[4,5],[],[]⟩),(15,⟨[0,1,6,39],[],[]⟩),(16,⟨[4,5],[],[]⟩),(17,⟨[9],[],[]⟩),(18,⟨[9,50,51],[],[]⟩),(19,⟨[9,50,51,52],[],[]⟩),(20,⟨[9,10,50,51],[],[]⟩),(21,⟨[9,50,51],[],[]⟩),(22,⟨[9,50,51],[],[]⟩),(23,⟨[4,5],[],[]⟩)]) Tryz.f43 = some a43 := by kernel_rfl

/- payroll/payrollref2.Allocate -/
def a44r0 : List IOp := [oR 4 .mv [.c (.nils)],
oR 5 .mv [oI 0]]
def a44r1 : List IOp := [oV 16 1,
oR 17 .len [.t 16],
oR 18 (.bin .gtr) [.t 17,oI 1024]]
def a44r2 : List IOp := [oR 4 .mv [.c (.nils)],
oR 5 .mv [oI 3]]
def a44r3 : List IOp := [oV 19 0,
oR 20 (.bin .lss) [.t 19,oI (-1000000000)],
oV 21 20,
oG 22 .mv [.t 0] 21 false,
oG 23 (.bin .gtr) [.t 22,oI 1000000000] 21 false,
oR 24 .pick [.t 21,.c (.bool true),.t 23]]
def a44r4 : List IOp := [oR 4 .mv [.c (.nils)],
oR 5 .mv [oI 2]]
def a44r5 : List IOp := [oR 6 .mv [oI 0]]
def a44r6 : List IOp := [oR 7 .mv [oI 0]]
def a44r7 : List IOp := [oV 25 7,
oV 26 1,
oR 27 .len [.t 26],
oR 28 (.bin .lss) [.t 25,.t 27]]
def a44r8 : List IOp := [oV 31 1,
oV 32 7,
oR 33 (.indexAddr 1) [.t 31,.t 32],
oL 34 33,
oR 35 (.bin .lss) [.t 34,oI 0],
oV 36 35,
oG 37 .mv [.t 1] 36 false,
oG 38 .mv [.t 7] 36 false,
oG 39 (.indexAddr 1) [.t 37,.t 38] 36 false,
oG 40 .load1 [.t 39] 36 false,
oG 41 (.bin .gtr) [.t 40,oI 1000000000] 36 false,
oR 42 .pick [.t 36,.c (.bool true),.t 41]]
def a44r9 : List IOp := [oR 4 .mv [.c (.nils)],
oR 5 .mv [oI 2]]
def a44r10 : List IOp := [oV 43 6,
oV 44 1,
oV 45 7,
oR 46 (.indexAddr 1) [.t 44,.t 45],
oL 47 46,
oR 48 (.bin .add) [.t 43,.t 47],
oV 6 48]
def a44r11 : List IOp := [oV 29 7,
oR 30 (.bin .add) [.t 29,oI 1],
oV 7 30]
def a44r12 : List IOp := [oV 49 6,
oR 50 (.bin .eql) [.t 49,oI 0]]
def a44r13 : List IOp := [oR 4 .mv [.c (.nils)],
oR 5 .mv [oI 5]]
def a44r14 : List IOp := [oV 51 0,
oV 8 51]
def a44r15 : List IOp := [oV 52 0,
oR 53 (.bin .lss) [.t 52,oI 0]]
def a44r16 : List IOp := [oV 54 0,
oR 55 .neg [.t 54],
oV 8 55]
def a44r17 : List (Nat × DOp) := [(0,⟨oV 56 1,none,[3,4,5]⟩),
(1,⟨oR 57 .len [.t 56],none,[3,4,5]⟩),
(3,⟨oV 59 1,none,[0,1,2,6]⟩),
(4,⟨oR 60 .len [.t 59],none,[0,1,2,6]⟩),
(2,⟨oR 58 (.mkslice 3 1 8 [.int .i64 0]) [.t 57,.t 57],some 0,[3,4,5]⟩),
(6,⟨oV 9 58,none,[3,4,5]⟩),
(5,⟨oR 61 (.mkslice 3 1 8 [.int .i64 0]) [.t 60,.t 60],some 1,[0,1,2,6]⟩),
(7,⟨oV 10 61,none,[]⟩)]
def a44r18 : List IOp := [oV 62 8,
oV 11 62]
def a44r19 : List IOp := [oR 12 .mv [oI 0]]
def a44r20 : List IOp := [oV 63 12,
oV 64 1,
oR 65 .len [.t 64],
oR 66 (.bin .lss) [.t 63,.t 65]]
def a44r21 : List (Nat × DOp) := [(0,⟨oV 69 9,none,[1,2,3,4,5,6,7,8,9,10,11,12,13,14,15,16,17,18,19]⟩),
(1,⟨oV 70 12,none,[0,2,3,4,5,6,7,8,9,10,11,12,13,14,15,16,17,18,19]⟩),
(2,⟨oV 71 10,none,[0,1,3,4,5,6,7,8,9,10,11,12,13,14,15,16,17,18,19,20,21]⟩),
(3,⟨oV 72 12,none,[0,1,2,4,5,6,7,8,9,10,11,12,13,14,15,16,17,18,19,20,21]⟩),
(4,⟨oV 73 8,none,[0,1,2,3,5,6,7,8,10,12,13,14,15,16,17,18,19]⟩),
(5,⟨oV 74 1,none,[0,1,2,3,4,6,10,12,13,14,15,16,17,18,19]⟩),
(6,⟨oV 75 12,none,[0,1,2,3,4,5,10,12,13,14,15,16,17,18,19]⟩),
(7,⟨oR 76 (.indexAddr 1) [.t 74,.t 75],none,[0,1,2,3,4,10,12,13,14,15,16,17,18,19]⟩),
(8,⟨oL 77 76,none,[0,1,2,3,4,10,12,13,14,15,16,17,18,19]⟩),
(9,⟨oR 78 (.bin .mul) [.t 73,.t 77],none,[0,1,2,3,10,12,13,14,15,16,17,18,19]⟩),
(10,⟨oV 79 6,none,[0,1,2,3,4,5,6,7,8,9,12,13,14,15,16,17,18,19]⟩),
(11,⟨oR 80 (.bin .quo) [.t 78,.t 79],none,[0,1,2,3,12,13,14,15,16,17,18,19]⟩),
(12,⟨oV 81 8,none,[0,1,2,3,4,5,6,7,8,9,10,11,13,14,15,16,18,20,21]⟩),
(13,⟨oV 82 1,none,[0,1,2,3,4,5,6,7,8,9,10,11,12,14,18]⟩),
(14,⟨oV 83 12,none,[0,1,2,3,4,5,6,7,8,9,10,11,12,13,18]⟩),
(15,⟨oR 84 (.indexAddr 1) [.t 82,.t 83],none,[0,1,2,3,4,5,6,7,8,9,10,11,12,18]⟩),
(16,⟨oL 85 84,none,[0,1,2,3,4,5,6,7,8,9,10,11,12,18]⟩),
(17,⟨oR 86 (.bin .mul) [.t 81,.t 85],none,[0,1,2,3,4,5,6,7,8,9,10,11,18,20,21]⟩),
(18,⟨oV 87 6,none,[0,1,2,3,4,5,6,7,8,9,10,11,12,13,14,15,16,17,20,21]⟩),
(19,⟨oR 88 (.bin .rem) [.t 86,.t 87],none,[0,1,2,3,4,5,6,7,8,9,10,11,20,21]⟩),
(20,⟨oR 89 (.indexAddr 1) [.t 69,.t 70],none,[2,3,12,17,18,19]⟩),
(21,⟨oN (.store 1) [.t 89,.t 80],none,[2,3,12,17,18,19]⟩),
(22,⟨oR 90 (.indexAddr 1) [.t 71,.t 72],none,[]⟩),
(23,⟨oN (.store 1) [.t 90,.t 88],none,[]⟩)]
def a44r22 : List IOp := [oV 91 11,
oV 92 9,
oV 93 12,
oR 94 (.indexAddr 1) [.t 92,.t 93],
oL 95 94,
oR 96 (.bin .sub) [.t 91,.t 95],
oV 11 96]
def a44r23 : List IOp := [oV 67 12,
oR 68 (.bin .add) [.t 67,oI 1],
oV 12 68]
def a44r24 : List IOp := [oV 97 11,
oR 98 (.bin .gtr) [.t 97,oI 0]]
def a44r25 : List IOp := [oR 13 .mv [oI 0]]
def a44r26 : List IOp := [oR 14 .mv [oI 1]]
def a44r27 : List IOp := [oV 101 14,
oV 102 10,
oR 103 .len [.t 102],
oR 104 (.bin .lss) [.t 101,.t 103]]
def a44r28 : List (Nat × DOp) := [(0,⟨oV 107 10,none,[1,4,5,6,7]⟩),
(1,⟨oV 108 14,none,[0,4,5,6,7]⟩),
(2,⟨oR 109 (.indexAddr 1) [.t 107,.t 108],none,[4,5,6,7]⟩),
(3,⟨oL 110 109,none,[4,5,6,7]⟩),
(4,⟨oV 111 10,none,[0,1,2,3,5]⟩),
(5,⟨oV 112 13,none,[0,1,2,3,4]⟩),
(6,⟨oR 113 (.indexAddr 1) [.t 111,.t 112],none,[0,1,2,3]⟩),
(7,⟨oL 114 113,none,[0,1,2,3]⟩),
(8,⟨oR 115 (.bin .gtr) [.t 110,.t 114],none,[]⟩)]
def a44r29 : List IOp := [oV 116 14,
oV 13 116]
def a44r30 : List IOp := [oV 105 14,
oR 106 (.bin .add) [.t 105,oI 1],
oV 14 106]
def a44r31 : List IOp := [oV 117 9,
oV 118 13,
oR 119 (.indexAddr 1) [.t 117,.t 118],
oL 120 119,
oR 121 (.bin .add) [.t 120,oI 1],
oR 122 (.indexAddr 1) [.t 117,.t 118],
oN (.store 1) [.t 122,.t 121]]
def a44r32 : List IOp := [oV 123 10,
oV 124 13,
oR 125 (.indexAddr 1) [.t 123,.t 124],
oN (.store 1) [.t 125,oI (-1)]]
def a44r33 : List IOp := [oV 99 11,
oR 100 (.bin .sub) [.t 99,oI 1],
oV 11 100]
def a44r34 : List IOp := [oR 15 .mv [oI 0]]
def a44r35 : List IOp := [oV 126 0,
oR 127 (.bin .lss) [.t 126,oI 0],
oV 128 127,
oG 129 .mv [.t 15] 128 true,
oG 130 .mv [.t 9] 128 true,
oG 131 .len [.t 130] 128 true,
oG 132 (.bin .lss) [.t 129,.t 131] 128 true,
oR 133 .pick [.t 128,.t 132,.c (.bool false)]]
def a44r36 : List IOp := [oV 136 9,
oV 137 15,
oV 138 9,
oV 139 15,
oR 140 (.indexAddr 1) [.t 138,.t 139],
oL 141 140,
oR 142 .neg [.t 141],
oR 143 (.indexAddr 1) [.t 136,.t 137],
oN (.store 1) [.t 143,.t 142]]
def a44r37 : List IOp := [oV 134 15,
oR 135 (.bin .add) [.t 134,oI 1],
oV 15 135]
def a44r38 : List IOp := [oV 144 9,
oV 4 144,
oR 5 .mv [oI 0]]
def a44 : AFunc := ⟨145,[.tmp 4,.tmp 5],(.seq (.region a44r0 [0,1]) (.seq (.seq (.region a44r1 [0,1,18]) (.cond (.t 18) (.seq (.region a44r2 [4,5]) .ret) .skip)) (.seq (.seq (.region a44r3 [0,1,24]) (.cond (.t 24) (.seq (.region a44r4 [4,5]) .ret) .skip)) (.seq (.region a44r5 [0,1,6]) (.seq (.seq (.region a44r6 [0,1,6,7]) (.block 0 (.loop (.seq (.seq (.region a44r7 [0,1,6,7,28]) (.cond (.t 28) .skip (.exit 0))) (.seq (.block 1 (.seq (.seq (.region a44r8 [0,1,6,7,42]) (.cond (.t 42) (.seq (.region a44r9 [4,5]) .ret) .skip)) (.region a44r10 [0,1,6,7]))) (.region a44r11 [0,1,6,7])))))) (.seq (.seq (.region a44r12 [0,1,6,50]) (.cond (.t 50) (.seq (.region a44r13 [4,5]) .ret) .skip)) (.seq (.region a44r14 [0,1,6,8]) (.seq (.seq (.region a44r15 [0,1,6,8,53]) (.cond (.t 53) (.region a44r16 [0,1,6,8]) .skip)) (.seq (.draw a44r17 [(3,1),(3,1)] [0,1,6,8,9,10]) (.seq (.region a44r18 [0,1,6,8,9,10,11]) (.seq (.seq (.region a44r19 [0,1,6,8,9,10,11,12]) (.block 2 (.loop (.seq (.seq (.region a44r20 [0,1,6,8,9,10,11,12,66]) (.cond (.t 66) .skip (.exit 2))) (.seq (.block 3 (.seq (.draw a44r21 [] [0,1,6,8,9,10,11,12]) (.region a44r22 [0,1,6,8,9,10,11,12]))) (.region a44r23 [0,1,6,8,9,10,11,12])))))) (.seq (.block 4 (.loop (.seq (.seq (.region a44r24 [0,9,10,11,98]) (.cond (.t 98) .skip (.exit 4))) (.seq (.block 5 (.seq (.region a44r25 [0,9,10,11,13]) (.seq (.seq (.region a44r26 [0,9,10,11,13,14]) (.block 6 (.loop (.seq (.seq (.region a44r27 [0,9,10,11,13,14,104]) (.cond (.t 104) .skip (.exit 6))) (.seq (.block 7 (.seq (.draw a44r28 [] [0,9,10,11,13,14,115]) (.cond (.t 115) (.region a44r29 [0,9,10,11,13,14]) .skip))) (.region a44r30 [0,9,10,11,13,14])))))) (.seq (.region a44r31 [0,9,10,11,13]) (.region a44r32 [0,9,10,11]))))) (.region a44r33 [0,9,10,11]))))) (.seq (.seq (.region a44r34 [0,9,15]) (.block 8 (.loop (.seq (.seq (.region a44r35 [0,9,15,133]) (.cond (.t 133) .skip (.exit 8))) (.seq (.block 9 (.region a44r36 [0,9,15])) (.region a44r37 [0,9,15])))))) (.seq (.region a44r38 [4,5]) .ret))))))))))))))⟩
theorem a44_ok : compileF Tryz.prog (lk [(0,⟨[0,1],[],[]⟩),(1,⟨[0,1,18],[],[]⟩),(2,⟨[4,5],[],[]⟩),(3,⟨[0,1,24],[],[]⟩),(4,⟨[4,5],[],[]⟩),(5,⟨[0,1,6],[],[]⟩),(6,⟨[0,1,6,7],[],[]⟩),(7,⟨[0,1,6,7,28],[],[]⟩),(8,⟨[0,1,6,7],[],[]⟩),(9,⟨[0,1,6,7,42],[],[]⟩),(10,⟨[4,5],[],[]⟩),(11,⟨[0,1,6,7],[],[]⟩),(12,⟨[0,1,6,50],[],[]⟩),(13,⟨[4,5],[],[]⟩),(14,⟨[0,1,6,8],[],[]⟩),(15,⟨[0,1,6,8,53],[],[]⟩),(16,⟨[0,1,6,8],[],[]⟩),(17,⟨[0,1,6,8,9,10],[[],[0],[1,0],[],[3],[4,3],[2,0,1],[5,6,0,1,2,3,4]],[0,1,3,4,2,6,5,7]⟩),(18,⟨[0,1,6,8,9,10,11],[],[]⟩),(19,⟨[0,1,6,8,9,10,11,12],[],[]⟩),(20,⟨[0,1,6,8,9,10,11,12,66],[],[]⟩),(21,⟨[0,1,6,8,9,10,11,12],[],[]⟩),(22,⟨[0,1,6,8,9,10,11,12],[[],[],[],[],[],[],[],[5,6],[7,5,6],[4,8,7,5,6],[],[9,10,4,8,7,5,6],[],[],[],[13,14],[15,13,14],[12,16,15,13,14],[],[17,18,12,16,15,13,14],[0,1,4,5,6,7,8,9,10,11,16,15,13,14],[20,11,0,1,4,5,6,7,8,9,10,16,15,13,14],[2,3,0,1,4,5,6,7,8,9,10,11,12,13,14,15,16,17,18,19,20,21],[22,19,21,0,1,2,3,4,5,6,7,8,9,10,11,12,13,14,15,16,17,18,20]],[0,1,2,3,4,5,6,7,8,9,10,11,12,13,14,15,16,17,18,19,20,21,22,23]⟩),(23,⟨[0,1,6,8,9,10,11,12],[],[]⟩),(24,⟨[0,9,10,11,98],[],[]⟩),(25,⟨[0,9,10,11],[],[]⟩),(26,⟨[0,9,10,11,13],[],[]⟩),(27,⟨[0,9,10,11,13,14],[],[]⟩),(28,⟨[0,9,10,11,13,14,104],[],[]⟩),(29,⟨[0,9,10,11,13,14],[],[]⟩),(30,⟨[0,9,10,11,13,14,115],[[],[],[0,1],[2,0,1],[],[],[4,5],[6,4,5],[3,7,2,0,1,6,4,5]],[0,1,2,3,4,5,6,7,8]⟩),(31,⟨[0,9,10,11,13,14],[],[]⟩),(32,⟨[0,9,10,11,13],[],[]⟩),(33,⟨[0,9,10,11],[],[]⟩),(34,⟨[0,9,15],[],[]⟩),(35,⟨[0,9,15,133],[],[]⟩),(36,⟨[0,9,15],[],[]⟩),(37,⟨[0,9,15],[],[]⟩),(38,⟨[4,5],[],[]⟩)]) Tryz.f44 = some a44 := by kernel_rfl

/- payroll/period.Valid -/
def a45r0 : List IOp := [oR 1 (.box 27 2) [.t 0],
oR 2 .mv [oI 0]]
def a45r1 : List IOp := [oR 3 .mv [oI 0]]
def a45r2 : List IOp := [oR 4 (.fieldAddr 0) [.t 1],
oL 5 4]
def a45r3 : List IOp := [oR 7 (.bin .eql) [.t 5,oI 0],
oV 6 7]
def a45r4 : List IOp := [oR 8 (.bin .eql) [.t 5,oI 1],
oV 6 8]
def a45r5 : List IOp := [oR 10 (.bin .eql) [.t 5,oI 2],
oV 9 10]
def a45r6 : List IOp := [oR 3 .mv [oI 13]]
def a45r7 : List IOp := [oR 12 (.bin .eql) [.t 5,oI 3],
oV 11 12]
def a45r8 : List IOp := [oR 3 .mv [oI 6]]
def a45r9 : List IOp := [oR 2 .mv [oI 2]]
def a45r10 : List IOp := [oR 13 (.fieldAddr 1) [.t 1],
oL 14 13,
oR 15 (.bin .lss) [.t 14,oI 0],
oV 16 15,
oG 17 (.fieldAddr 1) [.t 1] 16 false,
oG 18 .load1 [.t 17] 16 false,
oG 19 .mv [.t 3] 16 false,
oG 20 (.bin .gtr) [.t 18,.t 19] 16 false,
oR 21 .pick [.t 16,.c (.bool true),.t 20]]
def a45r11 : List IOp := [oR 2 .mv [oI 2]]
def a45r12 : List IOp := [oR 2 .mv [oI 0]]
def a45 : AFunc := ⟨22,[.tmp 2],(.seq (.region a45r0 [1]) (.seq (.region a45r1 [1,3]) (.seq (.seq (.region a45r2 [1,3,5]) (.block 0 (.seq (.seq (.region a45r3 [1,3,5,6]) (.cond (.t 6) .skip (.region a45r4 [1,3,5,6]))) (.cond (.t 6) .skip (.seq (.region a45r5 [1,5,9]) (.cond (.t 9) (.region a45r6 [1,3]) (.seq (.region a45r7 [1,11]) (.cond (.t 11) (.region a45r8 [1,3]) (.seq (.region a45r9 [2]) .ret))))))))) (.seq (.seq (.region a45r10 [21]) (.cond (.t 21) (.seq (.region a45r11 [2]) .ret) .skip)) (.seq (.region a45r12 [2]) .ret)))))⟩
theorem a45_ok : compileF Tryz.prog (lk [(0,⟨[1],[],[]⟩),(1,⟨[1,3],[],[]⟩),(2,⟨[1,3,5],[],[]⟩),(3,⟨[2],[],[]⟩),(4,⟨[1,3,5,6],[],[]⟩),(5,⟨[1,3,5,6],[],[]⟩),(6,⟨[1,5,9],[],[]⟩),(7,⟨[1,3],[],[]⟩),(8,⟨[1,11],[],[]⟩),(9,⟨[1,3],[],[]⟩),(10,⟨[21],[],[]⟩),(11,⟨[2],[],[]⟩),(12,⟨[2],[],[]⟩)]) Tryz.f45 = some a45 := by kernel_rfl

/- payroll/period.month -/
def a46r0 : List IOp := [oR 2 (.alloc 34 [.int .i64 0,.int .i64 0]) []]
def a46r1 : List IOp := [oV 6 0,
oR 7 (.call 65) [.t 6],
oV 5 7,
oR 8 (.extract 0) [.t 5],
oR 9 (.extract 1) [.t 5],
oV 3 8,
oV 4 9]
def a46r2 : List IOp := [oV 10 3,
oV 11 3,
oV 12 0,
oR 13 (.call 66) [.t 12],
oR 14 (.bin .add) [.t 11,.t 13],
oR 15 (.bin .sub) [.t 14,oI 1],
oR 16 (.build [.int .i64 0,.int .i64 0] [(0,1),(1,1)]) [.t 10,.t 15],
oN (.store 2) [.t 2,.t 16]]
def a46 : AFunc := ⟨17,[.cellA 2 2],(.seq (.region a46r0 [0,2]) (.seq (.region a46r1 [0,2,3]) (.seq (.region a46r2 [2]) .ret)))⟩
theorem a46_ok : compileF Tryz.prog (lk [(0,⟨[0,2],[],[]⟩),(1,⟨[0,2,3],[],[]⟩),(2,⟨[2],[],[]⟩)]) Tryz.f46 = some a46 := by kernel_rfl

/- payroll/period.weeks -/
def a47r0 : List IOp := [oR 1 (.box 27 2) [.t 0],
oR 2 .mv [oI 0],
oR 3 .mv [oI 0]]
def a47r1 : List IOp := [oR 4 .mv [oI 7]]
def a47r2 : List IOp := [oR 5 (.fieldAddr 0) [.t 1],
oL 6 5,
oR 7 (.bin .eql) [.t 6,oI 2]]
def a47r3 : List IOp := [oR 4 .mv [oI 14]]
def a47r4 : List (Nat × DOp) := [(0,⟨oV 8 4,none,[1,2,3,4,5,6]⟩),
(1,⟨oV 9 4,none,[0,2,3,5,7]⟩),
(2,⟨oR 10 (.fieldAddr 1) [.t 1],none,[0,1,5,7]⟩),
(3,⟨oL 11 10,none,[0,1,5,7]⟩),
(4,⟨oR 12 (.bin .sub) [.t 9,.t 11],none,[0,5,7]⟩),
(5,⟨oV 13 4,none,[0,1,2,3,4,7]⟩),
(6,⟨oR 14 (.bin .rem) [.t 12,.t 13],none,[0,7]⟩),
(7,⟨oV 2 8,none,[1,2,3,4,5,6]⟩),
(8,⟨oV 3 14,none,[]⟩)]
def a47 : AFunc := ⟨15,[.tmp 2,.tmp 3],(.seq (.region a47r0 [1]) (.seq (.region a47r1 [1,4]) (.seq (.seq (.region a47r2 [1,4,7]) (.cond (.t 7) (.region a47r3 [1,4]) .skip)) (.seq (.draw a47r4 [] [2,3]) .ret))))⟩
theorem a47_ok : compileF Tryz.prog (lk [(0,⟨[1],[],[]⟩),(1,⟨[1,4],[],[]⟩),(2,⟨[1,4,7],[],[]⟩),(3,⟨[1,4],[],[]⟩),(4,⟨[2,3],[[],[],[],[2],[1,3,2],[],[4,5,1,3,2],[0],[6,7,0,1,2,3,4,5]],[0,1,2,3,4,5,6,7,8]⟩)]) Tryz.f47 = some a47 := by kernel_rfl

/- payroll/period.of -/
def a48r0 : List IOp := [oR 2 (.box 27 2) [.t 0],
oR 4 .mv [oI 0]]
def a48r1 : List IOp := [oR 12 (.fieldAddr 0) [.t 2],
oL 13 12]
def a48r2 : List IOp := [oR 15 (.bin .eql) [.t 13,oI 0],
oV 14 15]
def a48r3 : List IOp := [oV 16 1,
oR 17 (.call 67) [.t 16],
oV 4 17]
def a48r4 : List IOp := [oR 19 (.bin .eql) [.t 13,oI 1],
oV 18 19]
def a48r5 : List IOp := [oV 20 1,
oR 21 (.call 67) [.t 20],
oR 22 (.bin .mul) [oI 2,.t 21],
oV 5 22]
def a48r6 : List IOp := [oV 24 1,
oR 25 (.call 68) [.t 24],
oV 23 25,
oR 26 (.extract 0) [.t 23],
oR 27 (.extract 1) [.t 23],
oR 28 (.extract 2) [.t 23],
oR 29 (.extract 3) [.t 23],
oV 6 26,
oV 7 27,
oV 8 28,
oV 9 29]
def a48r7 : List IOp := [oV 30 8,
oR 31 (.bin .gtr) [.t 30,oI 15]]
def a48r8 : List IOp := [oV 32 5,
oR 33 (.bin .add) [.t 32,oI 1],
oV 5 33]
def a48r9 : List IOp := [oV 34 5,
oV 4 34]
def a48r10 : List IOp := [oR 36 (.loadA 2) [.t 2],
oR 37 (.call 47) [.t 36],
oV 35 37,
oR 38 (.extract 0) [.t 35],
oR 39 (.extract 1) [.t 35],
oV 10 38,
oV 11 39]
def a48r11 : List IOp := [oV 40 1,
oV 41 11,
oR 42 (.bin .add) [.t 40,.t 41],
oV 43 10,
oR 44 (.bin .quo) [.t 42,.t 43],
oV 4 44]
def a48 : AFunc := ⟨45,[.tmp 4],(.seq (.region a48r0 [1,2]) (.seq (.seq (.region a48r1 [1,2,13]) (.block 0 (.seq (.region a48r2 [1,2,13,14]) (.cond (.t 14) (.seq (.region a48r3 [4]) .ret) (.seq (.region a48r4 [1,2,18]) (.cond (.t 18) (.seq (.region a48r5 [1,5]) (.seq (.seq (.region a48r6 [5,8]) (.seq (.region a48r7 [5,31]) (.cond (.t 31) (.region a48r8 [5]) .skip))) (.seq (.region a48r9 [4]) .ret))) .skip)))))) (.seq (.region a48r10 [1,10,11]) (.seq (.region a48r11 [4]) .ret))))⟩
theorem a48_ok : compileF Tryz.prog (lk [(0,⟨[1,2],[],[]⟩),(1,⟨[1,2,13],[],[]⟩),(2,⟨[1,2,13,14],[],[]⟩),(3,⟨[4],[],[]⟩),(4,⟨[1,2,18],[],[]⟩),(5,⟨[1,5],[],[]⟩),(6,⟨[5,8],[],[]⟩),(7,⟨[5,31],[],[]⟩),(8,⟨[5],[],[]⟩),(9,⟨[4],[],[]⟩),(10,⟨[1,10,11],[],[]⟩),(11,⟨[4],[],[]⟩)]) Tryz.f48 = some a48 := by kernel_rfl

/- payroll/payrollref3.before -/
def a49r0 : List IOp := [oR 2 .mv [oI 0]]
def a49r1 : List IOp := [oV 5 0,
oR 6 (.bin .sub) [.t 5,oI 1970],
oR 7 (.bin .mul) [.t 6,oI 365],
oV 3 7]
def a49r2 : List IOp := [oR 4 .mv [oI 1972]]
def a49r3 : List IOp := [oV 8 4,
oV 9 0,
oR 10 (.bin .lss) [.t 8,.t 9]]
def a49r4 : List IOp := [oV 13 4,
oR 14 (.call 35) [.t 13,oI 2],
oR 15 (.bin .eql) [.t 14,oI 29]]
def a49r5 : List IOp := [oV 16 3,
oR 17 (.bin .add) [.t 16,oI 1],
oV 3 17]
def a49r6 : List IOp := [oV 11 4,
oR 12 (.bin .add) [.t 11,oI 4],
oV 4 12]
def a49r7 : List IOp := [oV 18 3,
oV 2 18]
def a49 : AFunc := ⟨19,[.tmp 2],(.seq (.region a49r0 [0]) (.seq (.region a49r1 [0,3]) (.seq (.seq (.region a49r2 [0,3,4]) (.block 0 (.loop (.seq (.seq (.region a49r3 [0,3,4,10]) (.cond (.t 10) .skip (.exit 0))) (.seq (.block 1 (.seq (.region a49r4 [0,3,4,15]) (.cond (.t 15) (.region a49r5 [0,3,4]) .skip))) (.region a49r6 [0,3,4])))))) (.seq (.region a49r7 [2]) .ret))))⟩
theorem a49_ok : compileF Tryz.prog (lk [(0,⟨[0],[],[]⟩),(1,⟨[0,3],[],[]⟩),(2,⟨[0,3,4],[],[]⟩),(3,⟨[0,3,4,10],[],[]⟩),(4,⟨[0,3,4],[],[]⟩),(5,⟨[0,3,4,15],[],[]⟩),(6,⟨[0,3,4],[],[]⟩),(7,⟨[2],[],[]⟩)]) Tryz.f49 = some a49 := by kernel_rfl

/- payroll/payrollref3.InYears -/
def a50r0 : List IOp := [oR 2 .mv [.c (.bool false)]]
def a50r1 : List IOp := [oV 3 0,
oR 4 (.bin .geq) [.t 3,oI 1970],
oV 5 4,
oG 6 .mv [.t 0] 5 true,
oG 7 (.bin .leq) [.t 6,oI 2199] 5 true,
oR 8 .pick [.t 5,.t 7,.c (.bool false)],
oV 2 8]
def a50 : AFunc := ⟨9,[.tmp 2],(.seq (.region a50r0 [0]) (.seq (.region a50r1 [2]) .ret))⟩
theorem a50_ok : compileF Tryz.prog (lk [(0,⟨[0],[],[]⟩),(1,⟨[2],[],[]⟩)]) Tryz.f50 = some a50 := by kernel_rfl

/- payroll/payrollref3.raw -/
def a51r0 : List IOp := [oR 6 .mv [oI 0]]
def a51r1 : List IOp := [oV 9 0,
oR 10 (.call 49) [.t 9],
oV 11 2,
oR 12 (.bin .add) [.t 10,.t 11],
oR 13 (.bin .sub) [.t 12,oI 1],
oV 7 13]
def a51r2 : List IOp := [oR 8 .mv [oI 1]]
def a51r3 : List IOp := [oV 14 8,
oV 15 1,
oR 16 (.bin .lss) [.t 14,.t 15]]
def a51r4 : List IOp := [oV 19 7,
oV 20 0,
oV 21 8,
oR 22 (.call 35) [.t 20,.t 21],
oR 23 (.bin .add) [.t 19,.t 22],
oV 7 23]
def a51r5 : List IOp := [oV 17 8,
oR 18 (.bin .add) [.t 17,oI 1],
oV 8 18]
def a51r6 : List IOp := [oV 24 7,
oV 6 24]
def a51 : AFunc := ⟨25,[.tmp 6],(.seq (.region a51r0 [0,1,2]) (.seq (.region a51r1 [0,1,7]) (.seq (.seq (.region a51r2 [0,1,7,8]) (.block 0 (.loop (.seq (.seq (.region a51r3 [0,1,7,8,16]) (.cond (.t 16) .skip (.exit 0))) (.seq (.block 1 (.region a51r4 [0,1,7,8])) (.region a51r5 [0,1,7,8])))))) (.seq (.region a51r6 [6]) .ret))))⟩
theorem a51_ok : compileF Tryz.prog (lk [(0,⟨[0,1,2],[],[]⟩),(1,⟨[0,1,7],[],[]⟩),(2,⟨[0,1,7,8],[],[]⟩),(3,⟨[0,1,7,8,16],[],[]⟩),(4,⟨[0,1,7,8],[],[]⟩),(5,⟨[0,1,7,8],[],[]⟩),(6,⟨[6],[],[]⟩)]) Tryz.f51 = some a51 := by kernel_rfl

/- payroll/calendar.validRule -/
def a52r0 : List IOp := [oR 1 (.box 53 6) [.t 0],
oR 2 .mv [.c (.bool false)]]
def a52r1 : List IOp := [oR 4 (.fieldAddr 0) [.t 1],
oL 5 4]
def a52r2 : List IOp := [oR 7 (.bin .eql) [.t 5,oI 0],
oV 6 7]
def a52r3 : List IOp := [oR 8 (.fieldAddr 1) [.t 1],
oL 9 8,
oR 10 (.bin .lss) [.t 9,oI 1],
oV 11 10,
oG 12 (.fieldAddr 1) [.t 1] 11 false,
oG 13 .load1 [.t 12] 11 false,
oG 14 (.bin .gtr) [.t 13,oI 12] 11 false,
oR 15 .pick [.t 11,.c (.bool true),.t 14],
oV 16 15,
oG 17 (.fieldAddr 3) [.t 1] 16 false,
oG 18 .load1 [.t 17] 16 false,
oG 19 (.bin .neq) [.t 18,oI 0] 16 false,
oR 20 .pick [.t 16,.c (.bool true),.t 19],
oV 21 20,
oG 22 (.fieldAddr 4) [.t 1] 21 false,
oG 23 .load1 [.t 22] 21 false,
oG 24 (.bin .neq) [.t 23,oI 0] 21 false,
oR 25 .pick [.t 21,.c (.bool true),.t 24]]
def a52r4 : List IOp := [oR 2 .mv [.c (.bool false)]]
def a52r5 : List IOp := [oR 26 (.fieldAddr 1) [.t 1],
oL 27 26,
oR 28 (.bin .sub) [.t 27,oI 1],
oR 29 .mv [],
oL 30 29,
oV 3 30]
def a52r6 : List IOp := [oR 31 (.fieldAddr 1) [.t 1],
oL 32 31,
oR 33 (.bin .eql) [.t 32,oI 2]]
def a52r7 : List IOp := [oR 3 .mv [oI 29]]
def a52r8 : List IOp := [oR 34 (.fieldAddr 2) [.t 1],
oL 35 34,
oR 36 (.bin .geq) [.t 35,oI 1],
oV 37 36,
oG 38 (.fieldAddr 2) [.t 1] 37 true,
oG 39 .load1 [.t 38] 37 true,
oG 40 .mv [.t 3] 37 true,
oG 41 (.bin .leq) [.t 39,.t 40] 37 true,
oR 42 .pick [.t 37,.t 41,.c (.bool false)],
oV 2 42]
def a52r9 : List IOp := [oR 44 (.bin .eql) [.t 5,oI 1],
oV 43 44]
def a52r10 : List IOp := [oR 45 (.fieldAddr 4) [.t 1],
oL 46 45,
oR 47 (.bin .geq) [.t 46,oI (-100)],
oV 48 47,
oG 49 (.fieldAddr 4) [.t 1] 48 true,
oG 50 .load1 [.t 49] 48 true,
oG 51 (.bin .leq) [.t 50,oI 100] 48 true,
oR 52 .pick [.t 48,.t 51,.c (.bool false)],
oV 53 52,
oG 54 (.fieldAddr 1) [.t 1] 53 true,
oG 55 .load1 [.t 54] 53 true,
oG 56 (.bin .eql) [.t 55,oI 0] 53 true,
oR 57 .pick [.t 53,.t 56,.c (.bool false)],
oV 58 57,
oG 59 (.fieldAddr 2) [.t 1] 58 true,
oG 60 .load1 [.t 59] 58 true,
oG 61 (.bin .eql) [.t 60,oI 0] 58 true,
oR 62 .pick [.t 58,.t 61,.c (.bool false)],
oV 63 62,
oG 64 (.fieldAddr 3) [.t 1] 63 true,
oG 65 .load1 [.t 64] 63 true,
oG 66 (.bin .eql) [.t 65,oI 0] 63 true,
oR 67 .pick [.t 63,.t 66,.c (.bool false)],
oV 2 67]
def a52r11 : List IOp := [oR 69 (.bin .eql) [.t 5,oI 2],
oV 68 69]
def a52r12 : List IOp := [oR 70 (.fieldAddr 1) [.t 1],
oL 71 70,
oR 72 (.bin .geq) [.t 71,oI 1],
oV 73 72,
oG 74 (.fieldAddr 1) [.t 1] 73 true,
oG 75 .load1 [.t 74] 73 true,
oG 76 (.bin .leq) [.t 75,oI 12] 73 true,
oR 77 .pick [.t 73,.t 76,.c (.bool false)],
oV 78 77,
oG 79 (.fieldAddr 2) [.t 1] 78 true,
oG 80 .load1 [.t 79] 78 true,
oG 81 (.bin .eql) [.t 80,oI (-1)] 78 true,
oG 82 .mv [.t 81] 78 true,
oG 83 (.fieldAddr 2) [.t 1] 82 false,
oG 84 .load1 [.t 83] 82 false,
oG 85 (.bin .geq) [.t 84,oI 1] 82 false,
oG 86 .mv [.t 85] 82 false,
oG 87 (.fieldAddr 2) [.t 1] 86 true,
oG 88 .load1 [.t 87] 86 true,
oG 89 (.bin .leq) [.t 88,oI 5] 86 true,
oG 90 .pick [.t 86,.t 89,.c (.bool false)] 82 false,
oG 91 .pick [.t 82,.c (.bool true),.t 90] 78 true,
oR 92 .pick [.t 78,.t 91,.c (.bool false)],
oV 93 92,
oG 94 (.fieldAddr 3) [.t 1] 93 true,
oG 95 .load1 [.t 94] 93 true,
oG 96 (.bin .geq) [.t 95,oI 0] 93 true,
oR 97 .pick [.t 93,.t 96,.c (.bool false)],
oV 98 97,
oG 99 (.fieldAddr 3) [.t 1] 98 true,
oG 100 .load1 [.t 99] 98 true,
oG 101 (.bin .leq) [.t 100,oI 6] 98 true,
oR 102 .pick [.t 98,.t 101,.c (.bool false)],
oV 103 102,
oG 104 (.fieldAddr 4) [.t 1] 103 true,
oG 105 .load1 [.t 104] 103 true,
oG 106 (.bin .geq) [.t 105,oI (-7)] 103 true,
oR 107 .pick [.t 103,.t 106,.c (.bool false)],
oV 108 107,
oG 109 (.fieldAddr 4) [.t 1] 108 true,
oG 110 .load1 [.t 109] 108 true,
oG 111 (.bin .leq) [.t 110,oI 7] 108 true,
oR 112 .pick [.t 108,.t 111,.c (.bool false)],
oV 2 112]
def a52r13 : List IOp := [oR 2 .mv [.c (.bool false)]]
def a52 : AFunc := ⟨113,[.tmp 2],(.seq (.region a52r0 [1]) (.seq (.seq (.region a52r1 [1,5]) (.block 0 (.seq (.region a52r2 [1,5,6]) (.cond (.t 6) (.seq (.seq (.region a52r3 [1,25]) (.cond (.t 25) (.seq (.region a52r4 [2]) .ret) .skip)) (.seq (.region a52r5 [1,3]) (.seq (.seq (.region a52r6 [1,3,33]) (.cond (.t 33) (.region a52r7 [1,3]) .skip)) (.seq (.region a52r8 [2]) .ret)))) (.seq (.region a52r9 [1,5,43]) (.cond (.t 43) (.seq (.region a52r10 [2]) .ret) (.seq (.region a52r11 [1,68]) (.cond (.t 68) (.seq (.region a52r12 [2]) .ret) .skip)))))))) (.seq (.region a52r13 [2]) .ret)))⟩
theorem a52_ok : compileF Tryz.prog (lk [(0,⟨[1],[],[]⟩),(1,⟨[1,5],[],[]⟩),(2,⟨[1,5,6],[],[]⟩),(3,⟨[1,25],[],[]⟩),(4,⟨[2],[],[]⟩),(5,⟨[1,3],[],[]⟩),(6,⟨[1,3,33],[],[]⟩),(7,⟨[1,3],[],[]⟩),(8,⟨[2],[],[]⟩),(9,⟨[1,5,43],[],[]⟩),(10,⟨[2],[],[]⟩),(11,⟨[1,68],[],[]⟩),(12,⟨[2],[],[]⟩),(13,⟨[2],[],[]⟩)]) Tryz.f52 = some a52 := by kernel_rfl

/- payroll/calendar.valid -/
def a53r0 : List IOp := [oR 2 .mv [.c (.bool false)]]
def a53r1 : List IOp := [oV 3 0,
oR 4 (.bin .geq) [.t 3,oI 0],
oV 5 4,
oG 6 .mv [.t 0] 5 true,
oG 7 (.bin .leq) [.t 6,oI 84005] 5 true,
oR 8 .pick [.t 5,.t 7,.c (.bool false)],
oV 2 8]
def a53 : AFunc := ⟨9,[.tmp 2],(.seq (.region a53r0 [0]) (.seq (.region a53r1 [2]) .ret))⟩
theorem a53_ok : compileF Tryz.prog (lk [(0,⟨[0],[],[]⟩),(1,⟨[2],[],[]⟩)]) Tryz.f53 = some a53 := by kernel_rfl

/- payroll/calendar.weekdaysBefore -/
def a54r0 : List IOp := [oR 2 .mv [oI 0]]
def a54r1 : List IOp := [oV 4 0,
oR 5 (.bin .add) [.t 4,oI 3],
oV 3 5]
def a54r2 : List IOp := [oV 6 3,
oR 7 (.bin .quo) [.t 6,oI 7],
oR 8 (.bin .mul) [.t 7,oI 5],
oV 9 3,
oR 10 (.bin .rem) [.t 9,oI 7],
oR 11 (.minmax false) [.t 10,oI 5],
oR 12 (.bin .add) [.t 8,.t 11],
oV 2 12]
def a54 : AFunc := ⟨13,[.tmp 2],(.seq (.region a54r0 [0]) (.seq (.region a54r1 [3]) (.seq (.region a54r2 [2]) .ret)))⟩
theorem a54_ok : compileF Tryz.prog (lk [(0,⟨[0],[],[]⟩),(1,⟨[3],[],[]⟩),(2,⟨[2],[],[]⟩)]) Tryz.f54 = some a54 := by kernel_rfl

/- payroll/calendar.yearOf -/
def a55r0 : List IOp := [oR 2 .mv [oI 0]]
def a55r1 : List IOp := [oV 4 0,
oR 5 (.bin .quo) [.t 4,oI 366],
oR 6 (.bin .add) [oI 1970,.t 5],
oV 3 6]
def a55r2 : List IOp := [oV 7 3,
oR 8 (.bin .add) [.t 7,oI 1],
oR 9 (.call 69) [.t 8],
oV 10 0,
oR 11 (.bin .leq) [.t 9,.t 10]]
def a55r3 : List IOp := [oV 12 3,
oR 13 (.bin .add) [.t 12,oI 1],
oV 3 13]
def a55r4 : List IOp := [oV 14 3,
oV 2 14]
def a55 : AFunc := ⟨15,[.tmp 2],(.seq (.region a55r0 [0]) (.seq (.region a55r1 [0,3]) (.seq (.block 0 (.loop (.seq (.seq (.region a55r2 [0,3,11]) (.cond (.t 11) .skip (.exit 0))) (.block 1 (.region a55r3 [0,3]))))) (.seq (.region a55r4 [2]) .ret))))⟩
theorem a55_ok : compileF Tryz.prog (lk [(0,⟨[0],[],[]⟩),(1,⟨[0,3],[],[]⟩),(2,⟨[0,3,11],[],[]⟩),(3,⟨[0,3],[],[]⟩),(4,⟨[2],[],[]⟩)]) Tryz.f55 = some a55 := by kernel_rfl

/- payroll/calendar.collect -/
def a56r0 : List IOp := [oR 6 .mv [.c (.nils)]]
def a56r1 : List IOp := [oR 7 .mv [.c (.nils)]]
def a56r2 : List IOp := [oV 13 1,
oV 8 13]
def a56r3 : List IOp := [oV 14 8,
oV 15 2,
oR 16 (.bin .leq) [.t 14,.t 15]]
def a56r4 : List IOp := [oV 19 0,
oR 20 .len [.t 19],
oR 21 .mv [oI 0]]
def a56r5 : List IOp := [oR 22 (.bin .lss) [.t 21,.t 20]]
def a56r6 : List IOp := [oR 23 (.indexAddr 6) [.t 19,.t 21],
oR 24 (.loadA 6) [.t 23],
oR 10 (.alloc 53 [.int .i64 0,.int .i64 0,.int .i64 0,.int .i64 0,.int .i64 0,.bool false]) [],
oN (.store 6) [.t 10,.t 24]]
def a56r7 : List IOp := [oR 26 (.loadA 6) [.t 10],
oV 27 8,
oR 28 (.call 70) [.t 26,.t 27],
oV 25 28,
oR 29 (.extract 0) [.t 25],
oR 30 (.extract 1) [.t 25],
oV 11 29,
oV 12 30]
def a56r8 : List IOp := [oV 31 12]
def a56r9 : List IOp := [oV 32 7,
oV 33 11,
oR 34 (.bslice 3 1 [.int .i64 0] 1 [0]) [.t 33],
oR 35 (.append 3 1 8) [.t 32,.t 34],
oV 7 35]
def a56r10 : List IOp := [oR 36 (.bin .add) [.t 21,oI 1],
oV 21 36]
def a56r11 : List IOp := [oV 17 8,
oR 18 (.bin .add) [.t 17,oI 1],
oV 8 18]
def a56r12 : List IOp := [oV 37 7,
oR 38 (.call 71) [.t 37]]
def a56r13 : List IOp := [oV 39 7,
oR 40 (.call 72) [.t 39],
oV 6 40]
def a56 : AFunc := ⟨41,[.tmp 6],(.seq (.region a56r0 [0,1,2]) (.seq (.region a56r1 [0,1,2,7]) (.seq (.seq (.region a56r2 [0,2,7,8]) (.block 0 (.loop (.seq (.seq (.region a56r3 [0,2,7,8,16]) (.cond (.t 16) .skip (.exit 0))) (.seq (.block 1 (.seq (.region a56r4 [0,2,7,8,19,20,21]) (.block 2 (.loop (.seq (.region a56r5 [0,2,7,8,19,20,21,22]) (.seq (.cond (.t 22) .skip (.exit 2)) (.seq (.block 3 (.seq (.region a56r6 [0,2,7,8,10,19,20,21]) (.seq (.region a56r7 [0,2,7,8,11,12,19,20,21]) (.seq (.region a56r8 [0,2,7,8,11,19,20,21,31]) (.cond (.t 31) (.region a56r9 [0,2,7,8,19,20,21]) .skip))))) (.region a56r10 [0,2,7,8,19,20,21])))))))) (.region a56r11 [0,2,7,8])))))) (.seq (.region a56r12 [7]) (.seq (.region a56r13 [6]) .ret)))))⟩
theorem a56_ok : compileF Tryz.prog (lk [(0,⟨[0,1,2],[],[]⟩),(1,⟨[0,1,2,7],[],[]⟩),(2,⟨[0,2,7,8],[],[]⟩),(3,⟨[0,2,7,8,16],[],[]⟩),(4,⟨[0,2,7,8],[],[]⟩),(5,⟨[0,2,7,8,19,20,21],[],[]⟩),(6,⟨[0,2,7,8,19,20,21,22],[],[]⟩),(7,⟨[0,2,7,8,10,19,20,21],[],[]⟩),(8,⟨[0,2,7,8,11,12,19,20,21],[],[]⟩),(9,⟨[0,2,7,8,11,19,20,21,31],[],[]⟩),(10,⟨[0,2,7,8,19,20,21],[],[]⟩),(11,⟨[0,2,7,8,19,20,21],[],[]⟩),(12,⟨[7],[],[]⟩),(13,⟨[6],[],[]⟩)]) Tryz.f56 = some a56 := by kernel_rfl

/- payroll/calendar.weekday -/
def a57r0 : List IOp := [oR 2 .mv [oI 0]]
def a57r1 : List IOp := [oV 3 0,
oR 4 (.bin .add) [.t 3,oI 3],
oR 5 (.bin .rem) [.t 4,oI 7],
oR 6 (.bin .add) [.t 5,oI 7],
oR 7 (.bin .rem) [.t 6,oI 7],
oV 2 7]
def a57 : AFunc := ⟨8,[.tmp 2],(.seq (.region a57r0 [0]) (.seq (.region a57r1 [2]) .ret))⟩
theorem a57_ok : compileF Tryz.prog (lk [(0,⟨[0],[],[]⟩),(1,⟨[2],[],[]⟩)]) Tryz.f57 = some a57 := by kernel_rfl

/- payroll/payrollref3.ValidRule -/
def a58r0 : List IOp := [oR 1 (.box 53 6) [.t 0],
oR 2 .mv [.c (.bool false)]]
def a58r1 : List IOp := [oR 3 (.fieldAddr 0) [.t 1],
oL 4 3]
def a58r2 : List IOp := [oR 6 (.bin .eql) [.t 4,oI 0],
oV 5 6]
def a58r3 : List (Nat × DOp) := [(0,⟨oR 7 (.fieldAddr 1) [.t 1],none,[]⟩),
(1,⟨oL 8 7,none,[]⟩),
(2,⟨oR 9 (.bin .geq) [.t 8,oI 1],none,[]⟩),
(3,⟨oV 10 9,none,[]⟩),
(4,⟨oG 11 (.fieldAddr 1) [.t 1] 10 true,none,[]⟩),
(5,⟨oG 12 .load1 [.t 11] 10 true,none,[]⟩),
(6,⟨oG 13 (.bin .leq) [.t 12,oI 12] 10 true,none,[]⟩),
(7,⟨oR 14 .pick [.t 10,.t 13,.c (.bool false)],none,[]⟩),
(8,⟨oV 15 14,none,[]⟩),
(9,⟨oG 16 (.fieldAddr 2) [.t 1] 15 true,none,[]⟩),
(10,⟨oG 17 .load1 [.t 16] 15 true,none,[]⟩),
(11,⟨oG 18 (.bin .geq) [.t 17,oI 1] 15 true,none,[]⟩),
(12,⟨oR 19 .pick [.t 15,.t 18,.c (.bool false)],none,[]⟩),
(13,⟨oV 20 19,none,[]⟩),
(14,⟨oG 21 (.fieldAddr 2) [.t 1] 20 true,none,[16,17,18]⟩),
(15,⟨oG 22 .load1 [.t 21] 20 true,none,[16,17,18]⟩),
(16,⟨oG 23 (.fieldAddr 1) [.t 1] 20 true,none,[14,15]⟩),
(17,⟨oG 24 .load1 [.t 23] 20 true,none,[14,15]⟩),
(18,⟨oG 25 (.call 35) [oI 2000,.t 24] 20 true,none,[14,15]⟩),
(19,⟨oG 26 (.bin .leq) [.t 22,.t 25] 20 true,none,[]⟩),
(20,⟨oR 27 .pick [.t 20,.t 26,.c (.bool false)],none,[]⟩),
(21,⟨oV 28 27,none,[]⟩),
(22,⟨oG 29 (.fieldAddr 3) [.t 1] 28 true,none,[]⟩),
(23,⟨oG 30 .load1 [.t 29] 28 true,none,[]⟩),
(24,⟨oG 31 (.bin .eql) [.t 30,oI 0] 28 true,none,[]⟩),
(25,⟨oR 32 .pick [.t 28,.t 31,.c (.bool false)],none,[]⟩),
(26,⟨oV 33 32,none,[]⟩),
(27,⟨oG 34 (.fieldAddr 4) [.t 1] 33 true,none,[]⟩),
(28,⟨oG 35 .load1 [.t 34] 33 true,none,[]⟩),
(29,⟨oG 36 (.bin .eql) [.t 35,oI 0] 33 true,none,[]⟩),
(30,⟨oR 37 .pick [.t 33,.t 36,.c (.bool false)],none,[]⟩),
(31,⟨oV 2 37,none,[]⟩)]
def a58r4 : List IOp := [oR 39 (.bin .eql) [.t 4,oI 1],
oV 38 39]
def a58r5 : List IOp := [oR 40 (.fieldAddr 4) [.t 1],
oL 41 40,
oR 42 (.bin .geq) [.t 41,oI (-100)],
oV 43 42,
oG 44 (.fieldAddr 4) [.t 1] 43 true,
oG 45 .load1 [.t 44] 43 true,
oG 46 (.bin .leq) [.t 45,oI 100] 43 true,
oR 47 .pick [.t 43,.t 46,.c (.bool false)],
oV 48 47,
oG 49 (.fieldAddr 1) [.t 1] 48 true,
oG 50 .load1 [.t 49] 48 true,
oG 51 (.bin .eql) [.t 50,oI 0] 48 true,
oR 52 .pick [.t 48,.t 51,.c (.bool false)],
oV 53 52,
oG 54 (.fieldAddr 2) [.t 1] 53 true,
oG 55 .load1 [.t 54] 53 true,
oG 56 (.bin .eql) [.t 55,oI 0] 53 true,
oR 57 .pick [.t 53,.t 56,.c (.bool false)],
oV 58 57,
oG 59 (.fieldAddr 3) [.t 1] 58 true,
oG 60 .load1 [.t 59] 58 true,
oG 61 (.bin .eql) [.t 60,oI 0] 58 true,
oR 62 .pick [.t 58,.t 61,.c (.bool false)],
oV 2 62]
def a58r6 : List IOp := [oR 64 (.bin .eql) [.t 4,oI 2],
oV 63 64]
def a58r7 : List IOp := [oR 65 (.fieldAddr 1) [.t 1],
oL 66 65,
oR 67 (.bin .geq) [.t 66,oI 1],
oV 68 67,
oG 69 (.fieldAddr 1) [.t 1] 68 true,
oG 70 .load1 [.t 69] 68 true,
oG 71 (.bin .leq) [.t 70,oI 12] 68 true,
oR 72 .pick [.t 68,.t 71,.c (.bool false)],
oV 73 72,
oG 74 (.fieldAddr 2) [.t 1] 73 true,
oG 75 .load1 [.t 74] 73 true,
oG 76 (.bin .eql) [.t 75,oI (-1)] 73 true,
oG 77 .mv [.t 76] 73 true,
oG 78 (.fieldAddr 2) [.t 1] 77 false,
oG 79 .load1 [.t 78] 77 false,
oG 80 (.bin .geq) [.t 79,oI 1] 77 false,
oG 81 .mv [.t 80] 77 false,
oG 82 (.fieldAddr 2) [.t 1] 81 true,
oG 83 .load1 [.t 82] 81 true,
oG 84 (.bin .leq) [.t 83,oI 5] 81 true,
oG 85 .pick [.t 81,.t 84,.c (.bool false)] 77 false,
oG 86 .pick [.t 77,.c (.bool true),.t 85] 73 true,
oR 87 .pick [.t 73,.t 86,.c (.bool false)],
oV 88 87,
oG 89 (.fieldAddr 3) [.t 1] 88 true,
oG 90 .load1 [.t 89] 88 true,
oG 91 (.bin .geq) [.t 90,oI 0] 88 true,
oR 92 .pick [.t 88,.t 91,.c (.bool false)],
oV 93 92,
oG 94 (.fieldAddr 3) [.t 1] 93 true,
oG 95 .load1 [.t 94] 93 true,
oG 96 (.bin .leq) [.t 95,oI 6] 93 true,
oR 97 .pick [.t 93,.t 96,.c (.bool false)],
oV 98 97,
oG 99 (.fieldAddr 4) [.t 1] 98 true,
oG 100 .load1 [.t 99] 98 true,
oG 101 (.bin .geq) [.t 100,oI (-7)] 98 true,
oR 102 .pick [.t 98,.t 101,.c (.bool false)],
oV 103 102,
oG 104 (.fieldAddr 4) [.t 1] 103 true,
oG 105 .load1 [.t 104] 103 true,
oG 106 (.bin .leq) [.t 105,oI 7] 103 true,
oR 107 .pick [.t 103,.t 106,.c (.bool false)],
oV 2 107]
def a58r8 : List IOp := [oR 2 .mv [.c (.bool false)]]
def a58 : AFunc := ⟨108,[.tmp 2],(.seq (.region a58r0 [1]) (.seq (.seq (.region a58r1 [1,4]) (.block 0 (.seq (.region a58r2 [1,4,5]) (.cond (.t 5) (.seq (.draw a58r3 [] [2]) .ret) (.seq (.region a58r4 [1,4,38]) (.cond (.t 38) (.seq (.region a58r5 [2]) .ret) (.seq (.region a58r6 [1,63]) (.cond (.t 63) (.seq (.region a58r7 [2]) .ret) .skip)))))))) (.seq (.region a58r8 [2]) .ret)))⟩
theorem a58_ok : compileF Tryz.prog (lk [(0,⟨[1],[],[]⟩),(1,⟨[1,4],[],[]⟩),(2,⟨[1,4,5],[],[]⟩),(3,⟨[2],[[],[0],[1,0],[2,1,0],[3,2,1,0],[4,3,2,1,0],[5,3,4,2,1,0],[3,6,2,1,0,5,4],[7,3,6,2,1,0,5,4],[8,7,3,6,2,1,0,5,4],[9,8,7,3,6,2,1,0,5,4],[10,8,9,7,3,6,2,1,0,5,4],[8,11,7,3,6,2,1,0,5,4,10,9],[12,8,11,7,3,6,2,1,0,5,4,10,9],[13,12,8,11,7,3,6,2,1,0,5,4,10,9],[14,13,12,8,11,7,3,6,2,1,0,5,4,10,9],[13,12,8,11,7,3,6,2,1,0,5,4,10,9],[16,13,12,8,11,7,3,6,2,1,0,5,4,10,9],[17,13,16,12,8,11,7,3,6,2,1,0,5,4,10,9],[15,18,13,14,12,8,11,7,3,6,2,1,0,5,4,10,9,17,16],[13,19,12,8,11,7,3,6,2,1,0,5,4,10,9,15,18,14,17,16],[20,18,13,19,12,8,11,7,3,6,2,1,0,5,4,10,9,15,14,17,16],[21,20,18,13,19,12,8,11,7,3,6,2,1,0,5,4,10,9,15,14,17,16],[22,21,20,18,13,19,12,8,11,7,3,6,2,1,0,5,4,10,9,15,14,17,16],[23,21,22,20,18,13,19,12,8,11,7,3,6,2,1,0,5,4,10,9,15,14,17,16],[21,24,20,18,13,19,12,8,11,7,3,6,2,1,0,5,4,10,9,15,14,17,16,23,22],[25,21,24,20,18,13,19,12,8,11,7,3,6,2,1,0,5,4,10,9,15,14,17,16,23,22],[26,25,21,24,20,18,13,19,12,8,11,7,3,6,2,1,0,5,4,10,9,15,14,17,16,23,22],[27,26,25,21,24,20,18,13,19,12,8,11,7,3,6,2,1,0,5,4,10,9,15,14,17,16,23,22],[28,26,27,25,21,24,20,18,13,19,12,8,11,7,3,6,2,1,0,5,4,10,9,15,14,17,16,23,22],[26,29,25,21,24,20,18,13,19,12,8,11,7,3,6,2,1,0,5,4,10,9,15,14,17,16,23,22,28,27],[30,26,0,1,2,3,4,5,6,7,8,9,10,11,12,13,14,15,16,17,18,19,20,21,22,23,24,25,27,28,29]],[0,1,2,3,4,5,6,7,8,9,10,11,12,13,14,15,16,17,18,19,20,21,22,23,24,25,26,27,28,29,30,31]⟩),(4,⟨[1,4,38],[],[]⟩),(5,⟨[2],[],[]⟩),(6,⟨[1,63],[],[]⟩),(7,⟨[2],[],[]⟩),(8,⟨[2],[],[]⟩)]) Tryz.f58 = some a58 := by kernel_rfl

/- payroll/payrollref3.IsWorkday -/
def a59r0 : List IOp := [oR 4 .mv [.c (.bool false)]]
def a59r1 : List IOp := [oV 5 1,
oR 6 (.call 73) [.t 5],
oR 7 (.bin .lss) [.t 6,oI 5],
oV 8 7,
oG 9 .mv [.t 0] 8 true,
oG 10 .mv [.t 1] 8 true,
oG 11 (.call 74) [.t 9,.t 10] 8 true,
oG 12 .not [.t 11] 8 true,
oR 13 .pick [.t 8,.t 12,.c (.bool false)],
oV 4 13]
def a59 : AFunc := ⟨14,[.tmp 4],(.seq (.region a59r0 [0,1]) (.seq (.region a59r1 [4]) .ret))⟩
theorem a59_ok : compileF Tryz.prog (lk [(0,⟨[0,1],[],[]⟩),(1,⟨[4],[],[]⟩)]) Tryz.f59 = some a59 := by kernel_rfl

/- payroll/ratio.fit -/
def a60r0 : List IOp := [oR 6 (.alloc 61 [.int .i64 0,.int .i64 0]) [],
oR 7 .mv [oI 0]]
def a60r1 : List IOp := [oV 10 1,
oV 11 2,
oR 12 (.call 75) [.t 10,.t 11],
oV 8 12]
def a60r2 : List (Nat × DOp) := [(0,⟨oV 13 1,none,[1,3,4,5]⟩),
(1,⟨oV 14 8,none,[0,3,4,5]⟩),
(2,⟨oR 15 (.bin .quo) [.t 13,.t 14],none,[3,4,5]⟩),
(3,⟨oV 16 2,none,[0,1,2,4,6]⟩),
(4,⟨oV 17 8,none,[0,1,2,3,6]⟩),
(5,⟨oR 18 (.bin .quo) [.t 16,.t 17],none,[0,1,2,6]⟩),
(6,⟨oV 1 15,none,[3,4,5]⟩),
(7,⟨oV 2 18,none,[]⟩)]
def a60r3 : List IOp := [oV 19 1,
oR 20 (.bin .gtr) [.t 19,.c (.int .u64 1000000000000)],
oV 21 20,
oG 22 .mv [.t 2] 21 false,
oG 23 (.bin .gtr) [.t 22,.c (.int .u64 1000000)] 21 false,
oR 24 .pick [.t 21,.c (.bool true),.t 23]]
def a60r4 : List IOp := [oR 25 (.build [.int .i64 0,.int .i64 0] []) [],
oN (.store 2) [.t 6,.t 25],
oR 7 .mv [oI 4]]
def a60r5 : List IOp := [oV 26 1,
oR 27 (.conv .i64) [.t 26],
oV 9 27]
def a60r6 : List IOp := [oV 28 0]
def a60r7 : List IOp := [oV 29 9,
oR 30 .neg [.t 29],
oV 9 30]
def a60r8 : List IOp := [oV 31 9,
oV 32 2,
oR 33 (.conv .i64) [.t 32],
oR 34 (.build [.int .i64 0,.int .i64 0] [(0,1),(1,1)]) [.t 31,.t 33],
oN (.store 2) [.t 6,.t 34],
oR 7 .mv [oI 0]]
def a60 : AFunc := ⟨35,[.cellA 6 2,.tmp 7],(.seq (.region a60r0 [0,1,2,6]) (.seq (.region a60r1 [0,1,2,6,8]) (.seq (.draw a60r2 [] [0,1,2,6]) (.seq (.seq (.region a60r3 [0,1,2,6,24]) (.cond (.t 24) (.seq (.region a60r4 [6,7]) .ret) .skip)) (.seq (.region a60r5 [0,2,6,9]) (.seq (.seq (.region a60r6 [2,6,9,28]) (.cond (.t 28) (.region a60r7 [2,6,9]) .skip)) (.seq (.region a60r8 [6,7]) .ret)))))))⟩
theorem a60_ok : compileF Tryz.prog (lk [(0,⟨[0,1,2,6],[],[]⟩),(1,⟨[0,1,2,6,8],[],[]⟩),(2,⟨[0,1,2,6],[[],[],[0,1],[],[],[3,4],[2,0,1],[5,6,0,1,2,3,4]],[0,1,2,3,4,5,6,7]⟩),(3,⟨[0,1,2,6,24],[],[]⟩),(4,⟨[6,7],[],[]⟩),(5,⟨[0,2,6,9],[],[]⟩),(6,⟨[2,6,9,28],[],[]⟩),(7,⟨[2,6,9],[],[]⟩),(8,⟨[6,7],[],[]⟩)]) Tryz.f60 = some a60 := by kernel_rfl

/- payroll/ratio.magnitude -/
def a61r0 : List IOp := [oR 2 .mv [.c (.int .u64 0)]]
def a61r1 : List IOp := [oV 3 0,
oR 4 (.bin .lss) [.t 3,oI 0]]
def a61r2 : List IOp := [oV 5 0,
oR 6 (.conv .u64) [.t 5],
oR 7 .neg [.t 6],
oV 2 7]
def a61r3 : List IOp := [oV 8 0,
oR 9 (.conv .u64) [.t 8],
oV 2 9]
def a61 : AFunc := ⟨10,[.tmp 2],(.seq (.region a61r0 [0]) (.seq (.seq (.region a61r1 [0,4]) (.cond (.t 4) (.seq (.region a61r2 [2]) .ret) .skip)) (.seq (.region a61r3 [2]) .ret)))⟩
theorem a61_ok : compileF Tryz.prog (lk [(0,⟨[0],[],[]⟩),(1,⟨[0,4],[],[]⟩),(2,⟨[2],[],[]⟩),(3,⟨[2],[],[]⟩)]) Tryz.f61 = some a61 := by kernel_rfl

/- payroll/payrollref1.size -/
def a62r0 : List IOp := [oR 2 .mv [.c (.int .u64 0)]]
def a62r1 : List IOp := [oV 3 0,
oR 4 (.bin .lss) [.t 3,oI 0]]
def a62r2 : List IOp := [oV 5 0,
oR 6 (.bin .add) [.t 5,oI 1],
oR 7 .neg [.t 6],
oR 8 (.conv .u64) [.t 7],
oR 9 (.bin .add) [.t 8,.c (.int .u64 1)],
oV 2 9]
def a62r3 : List IOp := [oV 10 0,
oR 11 (.conv .u64) [.t 10],
oV 2 11]
def a62 : AFunc := ⟨12,[.tmp 2],(.seq (.region a62r0 [0]) (.seq (.seq (.region a62r1 [0,4]) (.cond (.t 4) (.seq (.region a62r2 [2]) .ret) .skip)) (.seq (.region a62r3 [2]) .ret)))⟩
theorem a62_ok : compileF Tryz.prog (lk [(0,⟨[0],[],[]⟩),(1,⟨[0,4],[],[]⟩),(2,⟨[2],[],[]⟩),(3,⟨[2],[],[]⟩)]) Tryz.f62 = some a62 := by kernel_rfl

/- payroll/payrollref1.common -/
def a63r0 : List IOp := [oR 4 .mv [.c (.int .u64 0)]]
def a63r1 : List IOp := [oV 5 1,
oR 6 (.bin .neq) [.t 5,.c (.int .u64 0)]]
def a63r2 : List (Nat × DOp) := [(0,⟨oV 7 1,none,[1,2,3]⟩),
(1,⟨oV 8 0,none,[0,2]⟩),
(2,⟨oV 9 1,none,[0,1,4]⟩),
(3,⟨oR 10 (.bin .rem) [.t 8,.t 9],none,[0,4]⟩),
(4,⟨oV 0 7,none,[2,3]⟩),
(5,⟨oV 1 10,none,[]⟩)]
def a63r3 : List IOp := [oV 11 0,
oV 4 11]
def a63 : AFunc := ⟨12,[.tmp 4],(.seq (.region a63r0 [0,1]) (.seq (.block 0 (.loop (.seq (.seq (.region a63r1 [0,1,6]) (.cond (.t 6) .skip (.exit 0))) (.block 1 (.draw a63r2 [] [0,1]))))) (.seq (.region a63r3 [4]) .ret)))⟩
theorem a63_ok : compileF Tryz.prog (lk [(0,⟨[0,1],[],[]⟩),(1,⟨[0,1,6],[],[]⟩),(2,⟨[0,1],[[],[],[],[1,2],[0,1],[3,4,0,1,2]],[0,1,2,3,4,5]⟩),(3,⟨[4],[],[]⟩)]) Tryz.f63 = some a63 := by kernel_rfl

/- payroll/rounding.divide -/
def a64r0 : List IOp := [oR 6 .mv [.c (.nils)]]
def a64r1 : List IOp := [oV 15 1,
oR 16 .len [.t 15],
oR 17 (.mkslice 3 1 8 [.int .i64 0]) [.t 16,.t 16],
oV 7 17]
def a64r2 : List IOp := [oV 18 1,
oR 19 .len [.t 18],
oR 20 (.mkslice 3 1 8 [.int .i64 0]) [.t 19,.t 19],
oR 8 (.alloc 22 [.nils]) [],
oN (.store 1) [.t 8,.t 20]]
def a64r3 : List IOp := [oV 21 1,
oR 22 .len [.t 21],
oR 23 (.mkslice 3 1 8 [.int .i64 0]) [.t 22,.t 22],
oV 9 23]
def a64r4 : List IOp := [oV 24 0,
oV 10 24]
def a64r5 : List IOp := [oV 25 1,
oR 26 .len [.t 25],
oR 27 .mv [oI 0]]
def a64r6 : List IOp := [oR 28 (.bin .lss) [.t 27,.t 26]]
def a64r7 : List IOp := [oV 29 27,
oR 30 (.indexAddr 1) [.t 25,.t 27],
oL 31 30,
oV 11 29,
oV 12 31]
def a64r8 : List (Nat × DOp) := [(0,⟨oV 32 7,none,[1,2,3,4,5,6,7,8,9,10,11,12,13]⟩),
(1,⟨oV 33 11,none,[0,2,3,4,5,6,7,8,9,10,11,12,13]⟩),
(2,⟨oL 34 8,none,[0,1,3,4,5,6,7,8,9,10,11,12,13,14,15]⟩),
(3,⟨oV 35 11,none,[0,1,2,4,5,6,7,8,9,10,11,12,13,14,15]⟩),
(4,⟨oV 36 0,none,[0,1,2,3,5,7,9,10,11,12,13]⟩),
(5,⟨oV 37 12,none,[0,1,2,3,4,7,9,10,11,12,13]⟩),
(6,⟨oR 38 (.bin .mul) [.t 36,.t 37],none,[0,1,2,3,7,9,10,11,12,13]⟩),
(7,⟨oV 39 2,none,[0,1,2,3,4,5,6,9,10,11,12,13]⟩),
(8,⟨oR 40 (.bin .quo) [.t 38,.t 39],none,[0,1,2,3,9,10,11,12,13]⟩),
(9,⟨oV 41 0,none,[0,1,2,3,4,5,6,7,8,10,12,14,15]⟩),
(10,⟨oV 42 12,none,[0,1,2,3,4,5,6,7,8,9,12,14,15]⟩),
(11,⟨oR 43 (.bin .mul) [.t 41,.t 42],none,[0,1,2,3,4,5,6,7,8,12,14,15]⟩),
(12,⟨oV 44 2,none,[0,1,2,3,4,5,6,7,8,9,10,11,14,15]⟩),
(13,⟨oR 45 (.bin .rem) [.t 43,.t 44],none,[0,1,2,3,4,5,6,7,8,14,15]⟩),
(14,⟨oR 46 (.indexAddr 1) [.t 32,.t 33],none,[2,3,9,10,11,12,13]⟩),
(15,⟨oN (.store 1) [.t 46,.t 40],none,[2,3,9,10,11,12,13]⟩),
(16,⟨oR 47 (.indexAddr 1) [.t 34,.t 35],none,[]⟩),
(17,⟨oN (.store 1) [.t 47,.t 45],none,[]⟩)]
def a64r9 : List IOp := [oV 48 9,
oV 49 11,
oV 50 11,
oR 51 (.indexAddr 1) [.t 48,.t 49],
oN (.store 1) [.t 51,.t 50]]
def a64r10 : List IOp := [oV 52 10,
oV 53 7,
oV 54 11,
oR 55 (.indexAddr 1) [.t 53,.t 54],
oL 56 55,
oR 57 (.bin .sub) [.t 52,.t 56],
oV 10 57]
def a64r11 : List IOp := [oR 58 (.bin .add) [.t 27,oI 1],
oV 27 58]
def a64r12 : List IOp := [oV 59 9,
oR 60 (.mkfn 77) [.t 8],
oR 61 (.call 76) [.t 59,.t 60]]
def a64r13 : List IOp := [oV 62 9,
oV 63 10,
oR 64 (.slice false true 1) [.t 62,.t 63],
oR 65 .len [.t 64],
oR 66 .mv [oI 0]]
def a64r14 : List IOp := [oR 67 (.bin .lss) [.t 66,.t 65]]
def a64r15 : List IOp := [oR 68 (.indexAddr 1) [.t 64,.t 66],
oL 69 68,
oV 14 69]
def a64r16 : List IOp := [oV 70 7,
oV 71 14,
oR 72 (.indexAddr 1) [.t 70,.t 71],
oL 73 72,
oR 74 (.bin .add) [.t 73,oI 1],
oR 75 (.indexAddr 1) [.t 70,.t 71],
oN (.store 1) [.t 75,.t 74]]
def a64r17 : List IOp := [oR 76 (.bin .add) [.t 66,oI 1],
oV 66 76]
def a64r18 : List IOp := [oV 77 7,
oV 6 77]
def a64 : AFunc := ⟨78,[.tmp 6],(.seq (.region a64r0 [0,1,2]) (.seq (.region a64r1 [0,1,2,7]) (.seq (.region a64r2 [0,1,2,7,8]) (.seq (.region a64r3 [0,1,2,7,8,9]) (.seq (.region a64r4 [0,1,2,7,8,9,10]) (.seq (.seq (.region a64r5 [0,2,7,8,9,10,25,26,27]) (.block 0 (.loop (.seq (.region a64r6 [0,2,7,8,9,10,25,26,27,28]) (.seq (.cond (.t 28) .skip (.exit 0)) (.seq (.block 1 (.seq (.region a64r7 [0,2,7,8,9,10,11,12,25,26,27]) (.seq (.draw a64r8 [] [0,2,7,8,9,10,11,25,26,27]) (.seq (.region a64r9 [0,2,7,8,9,10,11,25,26,27]) (.region a64r10 [0,2,7,8,9,10,25,26,27]))))) (.region a64r11 [0,2,7,8,9,10,25,26,27]))))))) (.seq (.region a64r12 [7,9,10]) (.seq (.seq (.region a64r13 [7,64,65,66]) (.block 2 (.loop (.seq (.region a64r14 [7,64,65,66,67]) (.seq (.cond (.t 67) .skip (.exit 2)) (.seq (.block 3 (.seq (.region a64r15 [7,14,64,65,66]) (.region a64r16 [7,64,65,66]))) (.region a64r17 [7,64,65,66]))))))) (.seq (.region a64r18 [6]) .ret)))))))))⟩
theorem a64_ok : compileF Tryz.prog (lk [(0,⟨[0,1,2],[],[]⟩),(1,⟨[0,1,2,7],[],[]⟩),(2,⟨[0,1,2,7,8],[],[]⟩),(3,⟨[0,1,2,7,8,9],[],[]⟩),(4,⟨[0,1,2,7,8,9,10],[],[]⟩),(5,⟨[0,2,7,8,9,10,25,26,27],[],[]⟩),(6,⟨[0,2,7,8,9,10,25,26,27,28],[],[]⟩),(7,⟨[0,2,7,8,9,10,11,12,25,26,27],[],[]⟩),(8,⟨[0,2,7,8,9,10,11,25,26,27],[[],[],[],[],[],[],[4,5],[],[6,7,4,5],[],[],[9,10],[],[11,12,9,10],[0,1,4,5,6,7,8],[14,8,0,1,4,5,6,7],[2,3,0,1,4,5,6,7,8,9,10,11,12,13,14,15],[16,13,15,0,1,2,3,4,5,6,7,8,9,10,11,12,14]],[0,1,2,3,4,5,6,7,8,9,10,11,12,13,14,15,16,17]⟩),(9,⟨[0,2,7,8,9,10,11,25,26,27],[],[]⟩),(10,⟨[0,2,7,8,9,10,25,26,27],[],[]⟩),(11,⟨[0,2,7,8,9,10,25,26,27],[],[]⟩),(12,⟨[7,9,10],[],[]⟩),(13,⟨[7,64,65,66],[],[]⟩),(14,⟨[7,64,65,66,67],[],[]⟩),(15,⟨[7,14,64,65,66],[],[]⟩),(16,⟨[7,64,65,66],[],[]⟩),(17,⟨[7,64,65,66],[],[]⟩),(18,⟨[6],[],[]⟩)]) Tryz.f64 = some a64 := by kernel_rfl

/- payroll/calendar.First -/
def a65r0 : List IOp := [oR 2 .mv [oI 0],
oR 3 .mv [.c (.bool false)]]
def a65r1 : List IOp := [oV 4 0,
oR 5 (.bin .lss) [.t 4,oI 0],
oV 6 5,
oG 7 .mv [.t 0] 6 false,
oG 8 (.bin .gtr) [.t 7,oI 2759] 6 false,
oR 9 .pick [.t 6,.c (.bool true),.t 8]]
def a65r2 : List IOp := [oR 2 .mv [oI 0],
oR 3 .mv [.c (.bool false)]]
def a65r3 : List IOp := [oV 10 0,
oR 11 (.bin .quo) [.t 10,oI 12],
oR 12 (.bin .add) [oI 1970,.t 11],
oV 13 0,
oR 14 (.bin .rem) [.t 13,oI 12],
oR 15 (.bin .add) [.t 14,oI 1],
oR 16 (.call 79) [.t 12,.t 15,oI 1],
oV 2 16,
oR 3 .mv [.c (.bool true)]]
def a65 : AFunc := ⟨17,[.tmp 2,.tmp 3],(.seq (.region a65r0 [0]) (.seq (.seq (.region a65r1 [0,9]) (.cond (.t 9) (.seq (.region a65r2 [2,3]) .ret) .skip)) (.seq (.region a65r3 [2,3]) .ret)))⟩
theorem a65_ok : compileF Tryz.prog (lk [(0,⟨[0],[],[]⟩),(1,⟨[0,9],[],[]⟩),(2,⟨[2,3],[],[]⟩),(3,⟨[2,3],[],[]⟩)]) Tryz.f65 = some a65 := by kernel_rfl

/- payroll/calendar.Length -/
def a66r0 : List IOp := [oR 2 .mv [oI 0]]
def a66r1 : List IOp := [oV 3 0,
oR 4 (.bin .lss) [.t 3,oI 0],
oV 5 4,
oG 6 .mv [.t 0] 5 false,
oG 7 (.bin .gtr) [.t 6,oI 2759] 5 false,
oR 8 .pick [.t 5,.c (.bool true),.t 7]]
def a66r2 : List IOp := [oR 2 .mv [oI 0]]
def a66r3 : List IOp := [oV 9 0,
oR 10 (.bin .quo) [.t 9,oI 12],
oR 11 (.bin .add) [oI 1970,.t 10],
oV 12 0,
oR 13 (.bin .rem) [.t 12,oI 12],
oR 14 (.bin .add) [.t 13,oI 1],
oR 15 (.call 80) [.t 11,.t 14],
oV 2 15]
def a66 : AFunc := ⟨16,[.tmp 2],(.seq (.region a66r0 [0]) (.seq (.seq (.region a66r1 [0,8]) (.cond (.t 8) (.seq (.region a66r2 [2]) .ret) .skip)) (.seq (.region a66r3 [2]) .ret)))⟩
theorem a66_ok : compileF Tryz.prog (lk [(0,⟨[0],[],[]⟩),(1,⟨[0,8],[],[]⟩),(2,⟨[2],[],[]⟩),(3,⟨[2],[],[]⟩)]) Tryz.f66 = some a66 := by kernel_rfl

/- payroll/calendar.Month -/
def a67r0 : List IOp := [oR 2 .mv [oI 0]]
def a67r1 : List IOp := [oV 8 0,
oR 9 (.call 68) [.t 8],
oV 7 9,
oR 10 (.extract 0) [.t 7],
oR 11 (.extract 1) [.t 7],
oR 12 (.extract 2) [.t 7],
oR 13 (.extract 3) [.t 7],
oV 3 10,
oV 4 11,
oV 5 12,
oV 6 13]
def a67r2 : List IOp := [oV 14 6,
oR 15 .not [.t 14]]
def a67r3 : List IOp := [oR 2 .mv [oI (-1)]]
def a67r4 : List IOp := [oV 16 3,
oR 17 (.bin .sub) [.t 16,oI 1970],
oR 18 (.bin .mul) [.t 17,oI 12],
oV 19 4,
oR 20 (.bin .add) [.t 18,.t 19],
oR 21 (.bin .sub) [.t 20,oI 1],
oV 2 21]
def a67 : AFunc := ⟨22,[.tmp 2],(.seq (.region a67r0 [0]) (.seq (.region a67r1 [3,4,6]) (.seq (.seq (.region a67r2 [3,4,15]) (.cond (.t 15) (.seq (.region a67r3 [2]) .ret) .skip)) (.seq (.region a67r4 [2]) .ret))))⟩
theorem a67_ok : compileF Tryz.prog (lk [(0,⟨[0],[],[]⟩),(1,⟨[3,4,6],[],[]⟩),(2,⟨[3,4,15],[],[]⟩),(3,⟨[2],[],[]⟩),(4,⟨[2],[],[]⟩)]) Tryz.f67 = some a67 := by kernel_rfl

/- payroll/calendar.Date -/
def a68r0 : List IOp := [oR 2 .mv [oI 0],
oR 3 .mv [oI 0],
oR 4 .mv [oI 0],
oR 5 .mv [.c (.bool false)]]
def a68r1 : List IOp := [oV 9 0,
oR 10 (.call 53) [.t 9],
oR 11 .not [.t 10]]
def a68r2 : List IOp := [oR 2 .mv [oI 0],
oR 3 .mv [oI 0],
oR 4 .mv [oI 0],
oR 5 .mv [.c (.bool false)]]
def a68r3 : List IOp := [oV 12 0,
oR 13 (.call 55) [.t 12],
oV 6 13]
def a68r4 : List IOp := [oV 14 0,
oV 15 6,
oR 16 (.call 69) [.t 15],
oR 17 (.bin .sub) [.t 14,.t 16],
oV 7 17]
def a68r5 : List IOp := [oR 8 .mv [oI 1]]
def a68r6 : List IOp := [oV 18 7,
oV 19 6,
oV 20 8,
oR 21 (.call 80) [.t 19,.t 20],
oR 22 (.bin .geq) [.t 18,.t 21]]
def a68r7 : List IOp := [oV 23 7,
oV 24 6,
oV 25 8,
oR 26 (.call 80) [.t 24,.t 25],
oR 27 (.bin .sub) [.t 23,.t 26],
oV 7 27]
def a68r8 : List IOp := [oV 28 8,
oR 29 (.bin .add) [.t 28,oI 1],
oV 8 29]
def a68r9 : List IOp := [oV 30 6,
oV 31 8,
oV 32 7,
oR 33 (.bin .add) [.t 32,oI 1],
oV 2 30,
oV 3 31,
oV 4 33,
oR 5 .mv [.c (.bool true)]]
def a68 : AFunc := ⟨34,[.tmp 2,.tmp 3,.tmp 4,.tmp 5],(.seq (.region a68r0 [0]) (.seq (.seq (.region a68r1 [0,11]) (.cond (.t 11) (.seq (.region a68r2 [2,3,4,5]) .ret) .skip)) (.seq (.region a68r3 [0,6]) (.seq (.region a68r4 [6,7]) (.seq (.region a68r5 [6,7,8]) (.seq (.block 0 (.loop (.seq (.seq (.region a68r6 [6,7,8,22]) (.cond (.t 22) .skip (.exit 0))) (.block 1 (.seq (.region a68r7 [6,7,8]) (.region a68r8 [6,7,8])))))) (.seq (.region a68r9 [2,3,4,5]) .ret)))))))⟩
theorem a68_ok : compileF Tryz.prog (lk [(0,⟨[0],[],[]⟩),(1,⟨[0,11],[],[]⟩),(2,⟨[2,3,4,5],[],[]⟩),(3,⟨[0,6],[],[]⟩),(4,⟨[6,7],[],[]⟩),(5,⟨[6,7,8],[],[]⟩),(6,⟨[6,7,8,22],[],[]⟩),(7,⟨[6,7,8],[],[]⟩),(8,⟨[6,7,8],[],[]⟩),(9,⟨[2,3,4,5],[],[]⟩)]) Tryz.f68 = some a68 := by kernel_rfl

/- payroll/calendar.begin -/
def a69r0 : List IOp := [oR 2 .mv [oI 0]]
def a69r1 : List IOp := [oV 3 0,
oR 4 (.bin .sub) [.t 3,oI 1970],
oR 5 (.bin .mul) [oI 365,.t 4],
oV 6 0,
oR 7 (.bin .sub) [.t 6,oI 1],
oR 8 (.call 81) [.t 7],
oR 9 (.bin .add) [.t 5,.t 8],
oR 10 (.call 81) [oI 1969],
oR 11 (.bin .sub) [.t 9,.t 10],
oV 2 11]
def a69 : AFunc := ⟨12,[.tmp 2],(.seq (.region a69r0 [0]) (.seq (.region a69r1 [2]) .ret))⟩
theorem a69_ok : compileF Tryz.prog (lk [(0,⟨[0],[],[]⟩),(1,⟨[2],[],[]⟩)]) Tryz.f69 = some a69 := by kernel_rfl

/- payroll/calendar.named -/
def a70r0 : List IOp := [oR 2 (.box 53 6) [.t 0],
oR 4 .mv [oI 0],
oR 5 .mv [.c (.bool false)]]
def a70r1 : List IOp := [oR 6 .mv [oI 0]]
def a70r2 : List IOp := [oR 7 .mv [.c (.bool false)]]
def a70r3 : List IOp := [oR 9 (.fieldAddr 0) [.t 2],
oL 10 9]
def a70r4 : List IOp := [oR 12 (.bin .eql) [.t 10,oI 0],
oV 11 12]
def a70r5 : List IOp := [oV 14 1,
oR 15 (.fieldAddr 1) [.t 2],
oL 16 15,
oR 17 (.fieldAddr 2) [.t 2],
oL 18 17,
oR 19 (.call 82) [.t 14,.t 16,.t 18],
oV 13 19,
oR 20 (.extract 0) [.t 13],
oR 21 (.extract 1) [.t 13],
oV 6 20,
oV 7 21]
def a70r6 : List IOp := [oR 23 (.bin .eql) [.t 10,oI 1],
oV 22 23]
def a70r7 : List IOp := [oV 25 1,
oR 26 (.call 83) [.t 25],
oV 24 26,
oR 27 (.extract 0) [.t 24],
oR 28 (.extract 1) [.t 24],
oV 6 27,
oV 7 28]
def a70r8 : List IOp := [oR 30 (.bin .eql) [.t 10,oI 2],
oV 29 30]
def a70r9 : List IOp := [oV 32 1,
oR 33 (.fieldAddr 1) [.t 2],
oL 34 33,
oR 35 (.fieldAddr 3) [.t 2],
oL 36 35,
oR 37 (.fieldAddr 2) [.t 2],
oL 38 37,
oR 39 (.call 84) [.t 32,.t 34,.t 36,.t 38],
oV 31 39,
oR 40 (.extract 0) [.t 31],
oR 41 (.extract 1) [.t 31],
oV 6 40,
oV 7 41]
def a70r10 : List IOp := [oV 42 7,
oR 43 .not [.t 42]]
def a70r11 : List IOp := [oR 4 .mv [oI 0],
oR 5 .mv [.c (.bool false)]]
def a70r12 : List IOp := [oV 44 6,
oR 45 (.fieldAddr 4) [.t 2],
oL 46 45,
oR 47 (.bin .add) [.t 44,.t 46],
oV 6 47]
def a70r13 : List IOp := [oV 48 6,
oR 49 (.call 57) [.t 48],
oV 8 49]
def a70r14 : List IOp := [oR 50 (.fieldAddr 5) [.t 2],
oL 51 50,
oV 52 51,
oG 53 .mv [.t 8] 52 true,
oG 54 (.bin .geq) [.t 53,oI 5] 52 true,
oR 55 .pick [.t 52,.t 54,.c (.bool false)]]
def a70r15 : List IOp := [oV 56 6,
oV 57 8,
oR 58 (.bin .sub) [oI 7,.t 57],
oR 59 (.bin .add) [.t 56,.t 58],
oV 6 59]
def a70r16 : List IOp := [oV 60 6,
oR 61 (.call 53) [.t 60],
oR 62 .not [.t 61]]
def a70r17 : List IOp := [oR 4 .mv [oI 0],
oR 5 .mv [.c (.bool false)]]
def a70r18 : List IOp := [oV 63 6,
oV 4 63,
oR 5 .mv [.c (.bool true)]]
def a70 : AFunc := ⟨64,[.tmp 4,.tmp 5],(.seq (.region a70r0 [1,2]) (.seq (.region a70r1 [1,2,6]) (.seq (.region a70r2 [1,2,6,7]) (.seq (.seq (.region a70r3 [1,2,6,7,10]) (.block 0 (.seq (.region a70r4 [1,2,6,7,10,11]) (.cond (.t 11) (.region a70r5 [2,6,7]) (.seq (.region a70r6 [1,2,6,7,10,22]) (.cond (.t 22) (.region a70r7 [2,6,7]) (.seq (.region a70r8 [1,2,6,7,29]) (.cond (.t 29) (.region a70r9 [2,6,7]) .skip)))))))) (.seq (.seq (.region a70r10 [2,6,43]) (.cond (.t 43) (.seq (.region a70r11 [4,5]) .ret) .skip)) (.seq (.region a70r12 [2,6]) (.seq (.seq (.region a70r13 [2,6,8]) (.seq (.region a70r14 [6,8,55]) (.cond (.t 55) (.region a70r15 [6]) .skip))) (.seq (.seq (.region a70r16 [6,62]) (.cond (.t 62) (.seq (.region a70r17 [4,5]) .ret) .skip)) (.seq (.region a70r18 [4,5]) .ret)))))))))⟩
theorem a70_ok : compileF Tryz.prog (lk [(0,⟨[1,2],[],[]⟩),(1,⟨[1,2,6],[],[]⟩),(2,⟨[1,2,6,7],[],[]⟩),(3,⟨[1,2,6,7,10],[],[]⟩),(4,⟨[1,2,6,7,10,11],[],[]⟩),(5,⟨[2,6,7],[],[]⟩),(6,⟨[1,2,6,7,10,22],[],[]⟩),(7,⟨[2,6,7],[],[]⟩),(8,⟨[1,2,6,7,29],[],[]⟩),(9,⟨[2,6,7],[],[]⟩),(10,⟨[2,6,43],[],[]⟩),(11,⟨[4,5],[],[]⟩),(12,⟨[2,6],[],[]⟩),(13,⟨[2,6,8],[],[]⟩),(14,⟨[6,8,55],[],[]⟩),(15,⟨[6],[],[]⟩),(16,⟨[6,62],[],[]⟩),(17,⟨[4,5],[],[]⟩),(18,⟨[4,5],[],[]⟩)]) Tryz.f70 = some a70 := by kernel_rfl

/- payroll/payrollref3.Shown -/
def a73r0 : List IOp := [oR 2 .mv [oI 0]]
def a73r1 : List IOp := [oV 3 0,
oR 4 (.bin .add) [.t 3,oI 3],
oR 5 (.bin .rem) [.t 4,oI 7],
oR 6 (.bin .add) [.t 5,oI 7],
oR 7 (.bin .rem) [.t 6,oI 7],
oV 2 7]
def a73 : AFunc := ⟨8,[.tmp 2],(.seq (.region a73r0 [0]) (.seq (.region a73r1 [2]) .ret))⟩
theorem a73_ok : compileF Tryz.prog (lk [(0,⟨[0],[],[]⟩),(1,⟨[2],[],[]⟩)]) Tryz.f73 = some a73 := by kernel_rfl

/- payroll/payrollref3.IsHoliday -/
def a74r0 : List IOp := [oR 4 .mv [.c (.bool false)]]
def a74r1 : List IOp := [oV 14 1,
oR 15 (.call 33) [.t 14],
oV 13 15,
oR 16 (.extract 0) [.t 13],
oR 17 (.extract 1) [.t 13],
oR 18 (.extract 2) [.t 13],
oR 19 (.extract 3) [.t 13],
oV 5 16,
oV 6 17,
oV 7 18,
oV 8 19]
def a74r2 : List IOp := [oR 9 .mv [oI 0]]
def a74r3 : List IOp := [oV 20 8,
oV 21 20,
oG 22 .mv [.t 9] 21 true,
oG 23 .mv [.t 0] 21 true,
oG 24 .len [.t 23] 21 true,
oG 25 (.bin .lss) [.t 22,.t 24] 21 true,
oR 26 .pick [.t 21,.t 25,.c (.bool false)]]
def a74r4 : List IOp := [oV 29 5,
oR 30 (.bin .sub) [.t 29,oI 1],
oR 31 (.minmax true) [.t 30,oI 1970],
oV 10 31]
def a74r5 : List IOp := [oV 32 10,
oV 33 5,
oR 34 (.bin .add) [.t 33,oI 1],
oR 35 (.minmax false) [.t 34,oI 2199],
oR 36 (.bin .leq) [.t 32,.t 35]]
def a74r6 : List IOp := [oV 40 0,
oV 41 9,
oR 42 (.indexAddr 6) [.t 40,.t 41],
oR 43 (.loadA 6) [.t 42],
oV 44 10,
oR 45 (.call 87) [.t 43,.t 44],
oV 39 45,
oR 46 (.extract 0) [.t 39],
oR 47 (.extract 1) [.t 39],
oV 11 46,
oV 12 47]
def a74r7 : List IOp := [oV 48 12,
oV 49 48,
oG 50 .mv [.t 11] 49 true,
oG 51 .mv [.t 1] 49 true,
oG 52 (.bin .eql) [.t 50,.t 51] 49 true,
oR 53 .pick [.t 49,.t 52,.c (.bool false)]]
def a74r8 : List IOp := [oR 4 .mv [.c (.bool true)]]
def a74r9 : List IOp := [oV 37 10,
oR 38 (.bin .add) [.t 37,oI 1],
oV 10 38]
def a74r10 : List IOp := [oV 27 9,
oR 28 (.bin .add) [.t 27,oI 1],
oV 9 28]
def a74r11 : List IOp := [oR 4 .mv [.c (.bool false)]]
def a74 : AFunc := ⟨54,[.tmp 4],(.seq (.region a74r0 [0,1]) (.seq (.region a74r1 [0,1,5,8]) (.seq (.seq (.region a74r2 [0,1,5,8,9]) (.block 0 (.loop (.seq (.seq (.region a74r3 [0,1,5,8,9,26]) (.cond (.t 26) .skip (.exit 0))) (.seq (.block 1 (.seq (.region a74r4 [0,1,5,8,9,10]) (.block 2 (.loop (.seq (.seq (.region a74r5 [0,1,5,8,9,10,36]) (.cond (.t 36) .skip (.exit 2))) (.seq (.block 3 (.seq (.region a74r6 [0,1,5,8,9,10,11,12]) (.seq (.region a74r7 [0,1,5,8,9,10,53]) (.cond (.t 53) (.seq (.region a74r8 [4]) .ret) .skip)))) (.region a74r9 [0,1,5,8,9,10]))))))) (.region a74r10 [0,1,5,8,9])))))) (.seq (.region a74r11 [4]) .ret))))⟩
theorem a74_ok : compileF Tryz.prog (lk [(0,⟨[0,1],[],[]⟩),(1,⟨[0,1,5,8],[],[]⟩),(2,⟨[0,1,5,8,9],[],[]⟩),(3,⟨[0,1,5,8,9,26],[],[]⟩),(4,⟨[0,1,5,8,9],[],[]⟩),(5,⟨[0,1,5,8,9,10],[],[]⟩),(6,⟨[0,1,5,8,9,10,36],[],[]⟩),(7,⟨[0,1,5,8,9,10],[],[]⟩),(8,⟨[0,1,5,8,9,10,11,12],[],[]⟩),(9,⟨[0,1,5,8,9,10,53],[],[]⟩),(10,⟨[4],[],[]⟩),(11,⟨[4],[],[]⟩)]) Tryz.f74 = some a74 := by kernel_rfl

/- payroll/ratio.gcd -/
def a75r0 : List IOp := [oR 4 .mv [.c (.int .u64 0)]]
def a75r1 : List IOp := [oV 5 1,
oR 6 (.bin .neq) [.t 5,.c (.int .u64 0)]]
def a75r2 : List (Nat × DOp) := [(0,⟨oV 7 1,none,[1,2,3]⟩),
(1,⟨oV 8 0,none,[0,2]⟩),
(2,⟨oV 9 1,none,[0,1,4]⟩),
(3,⟨oR 10 (.bin .rem) [.t 8,.t 9],none,[0,4]⟩),
(4,⟨oV 0 7,none,[2,3]⟩),
(5,⟨oV 1 10,none,[]⟩)]
def a75r3 : List IOp := [oV 11 0,
oV 4 11]
def a75 : AFunc := ⟨12,[.tmp 4],(.seq (.region a75r0 [0,1]) (.seq (.block 0 (.loop (.seq (.seq (.region a75r1 [0,1,6]) (.cond (.t 6) .skip (.exit 0))) (.block 1 (.draw a75r2 [] [0,1]))))) (.seq (.region a75r3 [4]) .ret)))⟩
theorem a75_ok : compileF Tryz.prog (lk [(0,⟨[0,1],[],[]⟩),(1,⟨[0,1,6],[],[]⟩),(2,⟨[0,1],[[],[],[],[1,2],[0,1],[3,4,0,1,2]],[0,1,2,3,4,5]⟩),(3,⟨[4],[],[]⟩)]) Tryz.f75 = some a75 := by kernel_rfl

/- slices.SortStableFunc[[]int,int] -/
def a76r0 : List IOp := [oV 4 0,
oV 5 0,
oR 6 .len [.t 5],
oV 7 1,
oR 8 (.call 88) [.t 4,.t 6,.t 7]]
def a76 : AFunc := ⟨9,[],(.region a76r0 [])⟩
theorem a76_ok : compileF Tryz.prog (lk [(0,⟨[],[],[]⟩)]) Tryz.f76 = some a76 := by kernel_rfl

/- payroll/rounding.divide$1 -/
def a77r0 : List IOp := [oR 5 .mv [oI 0]]
def a77r1 : List (Nat × DOp) := [(0,⟨oL 6 2,none,[1,4,5,6,7]⟩),
(1,⟨oV 7 1,none,[0,4,5,6,7]⟩),
(2,⟨oR 8 (.indexAddr 1) [.t 6,.t 7],none,[4,5,6,7]⟩),
(3,⟨oL 9 8,none,[4,5,6,7]⟩),
(4,⟨oL 10 2,none,[0,1,2,3,5]⟩),
(5,⟨oV 11 0,none,[0,1,2,3,4]⟩),
(6,⟨oR 12 (.indexAddr 1) [.t 10,.t 11],none,[0,1,2,3]⟩),
(7,⟨oL 13 12,none,[0,1,2,3]⟩),
(8,⟨oR 14 (.call 78) [.t 9,.t 13],none,[]⟩),
(9,⟨oV 5 14,none,[]⟩)]
def a77 : AFunc := ⟨15,[.tmp 5],(.seq (.region a77r0 [0,1,2]) (.seq (.draw a77r1 [] [5]) .ret))⟩
theorem a77_ok : compileF Tryz.prog (lk [(0,⟨[0,1,2],[],[]⟩),(1,⟨[5],[[],[],[0,1],[2,0,1],[],[],[4,5],[6,4,5],[3,7,2,0,1,6,4,5],[8,0,1,2,3,4,5,6,7]],[0,1,2,3,4,5,6,7,8,9]⟩)]) Tryz.f77 = some a77 := by kernel_rfl

/- cmp.Compare[int] -/
def a78r0 : List IOp := [oR 4 .mv [oI 0]]
def a78r1 : List IOp := [oV 7 0,
oR 8 (.call 89) [.t 7],
oV 5 8]
def a78r2 : List IOp := [oV 9 1,
oR 10 (.call 89) [.t 9],
oV 6 10]
def a78r3 : List IOp := [oV 11 5]
def a78r4 : List IOp := [oV 12 6]
def a78r5 : List IOp := [oR 4 .mv [oI 0]]
def a78r6 : List IOp := [oR 4 .mv [oI (-1)]]
def a78r7 : List IOp := [oV 13 6]
def a78r8 : List IOp := [oR 4 .mv [oI 1]]
def a78r9 : List IOp := [oV 14 0,
oV 15 1,
oR 16 (.bin .lss) [.t 14,.t 15]]
def a78r10 : List IOp := [oR 4 .mv [oI (-1)]]
def a78r11 : List IOp := [oV 17 0,
oV 18 1,
oR 19 (.bin .gtr) [.t 17,.t 18]]
def a78r12 : List IOp := [oR 4 .mv [oI 1]]
def a78r13 : List IOp := [oR 4 .mv [oI 0]]
def a78 : AFunc := ⟨20,[.tmp 4],(.seq (.region a78r0 [0,1]) (.seq (.region a78r1 [0,1,5]) (.seq (.region a78r2 [0,1,5,6]) (.seq (.seq (.region a78r3 [0,1,6,11]) (.cond (.t 11) (.seq (.seq (.region a78r4 [12]) (.cond (.t 12) (.seq (.region a78r5 [4]) .ret) .skip)) (.seq (.region a78r6 [4]) .ret)) .skip)) (.seq (.seq (.region a78r7 [0,1,13]) (.cond (.t 13) (.seq (.region a78r8 [4]) .ret) .skip)) (.seq (.seq (.region a78r9 [0,1,16]) (.cond (.t 16) (.seq (.region a78r10 [4]) .ret) .skip)) (.seq (.seq (.region a78r11 [19]) (.cond (.t 19) (.seq (.region a78r12 [4]) .ret) .skip)) (.seq (.region a78r13 [4]) .ret))))))))⟩
theorem a78_ok : compileF Tryz.prog (lk [(0,⟨[0,1],[],[]⟩),(1,⟨[0,1,5],[],[]⟩),(2,⟨[0,1,5,6],[],[]⟩),(3,⟨[0,1,6,11],[],[]⟩),(4,⟨[12],[],[]⟩),(5,⟨[4],[],[]⟩),(6,⟨[4],[],[]⟩),(7,⟨[0,1,13],[],[]⟩),(8,⟨[4],[],[]⟩),(9,⟨[0,1,16],[],[]⟩),(10,⟨[4],[],[]⟩),(11,⟨[19],[],[]⟩),(12,⟨[4],[],[]⟩),(13,⟨[4],[],[]⟩)]) Tryz.f78 = some a78 := by kernel_rfl

/- payroll/calendar.number -/
def a79r0 : List IOp := [oR 6 .mv [oI 0]]
def a79r1 : List IOp := [oV 9 0,
oR 10 (.call 69) [.t 9],
oV 7 10]
def a79r2 : List IOp := [oR 8 .mv [oI 1]]
def a79r3 : List IOp := [oV 11 8,
oV 12 1,
oR 13 (.bin .lss) [.t 11,.t 12]]
def a79r4 : List IOp := [oV 16 7,
oV 17 0,
oV 18 8,
oR 19 (.call 80) [.t 17,.t 18],
oR 20 (.bin .add) [.t 16,.t 19],
oV 7 20]
def a79r5 : List IOp := [oV 14 8,
oR 15 (.bin .add) [.t 14,oI 1],
oV 8 15]
def a79r6 : List IOp := [oV 21 7,
oV 22 2,
oR 23 (.bin .add) [.t 21,.t 22],
oR 24 (.bin .sub) [.t 23,oI 1],
oV 6 24]
def a79 : AFunc := ⟨25,[.tmp 6],(.seq (.region a79r0 [0,1,2]) (.seq (.region a79r1 [0,1,2,7]) (.seq (.seq (.region a79r2 [0,1,2,7,8]) (.block 0 (.loop (.seq (.seq (.region a79r3 [0,1,2,7,8,13]) (.cond (.t 13) .skip (.exit 0))) (.seq (.block 1 (.region a79r4 [0,1,2,7,8])) (.region a79r5 [0,1,2,7,8])))))) (.seq (.region a79r6 [6]) .ret))))⟩
theorem a79_ok : compileF Tryz.prog (lk [(0,⟨[0,1,2],[],[]⟩),(1,⟨[0,1,2,7],[],[]⟩),(2,⟨[0,1,2,7,8],[],[]⟩),(3,⟨[0,1,2,7,8,13],[],[]⟩),(4,⟨[0,1,2,7,8],[],[]⟩),(5,⟨[0,1,2,7,8],[],[]⟩),(6,⟨[6],[],[]⟩)]) Tryz.f79 = some a79 := by kernel_rfl

/- payroll/calendar.leaps -/
def a81r0 : List IOp := [oR 2 .mv [oI 0]]
def a81r1 : List IOp := [oV 3 0,
oR 4 (.bin .quo) [.t 3,oI 4],
oV 5 0,
oR 6 (.bin .quo) [.t 5,oI 100],
oR 7 (.bin .sub) [.t 4,.t 6],
oV 8 0,
oR 9 (.bin .quo) [.t 8,oI 400],
oR 10 (.bin .add) [.t 7,.t 9],
oV 2 10]
def a81 : AFunc := ⟨11,[.tmp 2],(.seq (.region a81r0 [0]) (.seq (.region a81r1 [2]) .ret))⟩
theorem a81_ok : compileF Tryz.prog (lk [(0,⟨[0],[],[]⟩),(1,⟨[2],[],[]⟩)]) Tryz.f81 = some a81 := by kernel_rfl

/- payroll/calendar.Day -/
def a82r0 : List IOp := [oR 6 .mv [oI 0],
oR 7 .mv [.c (.bool false)]]
def a82r1 : List IOp := [oV 8 0,
oR 9 (.bin .lss) [.t 8,oI 1970],
oV 10 9,
oG 11 .mv [.t 0] 10 false,
oG 12 (.bin .gtr) [.t 11,oI 2199] 10 false,
oR 13 .pick [.t 10,.c (.bool true),.t 12],
oV 14 13,
oG 15 .mv [.t 1] 14 false,
oG 16 (.bin .lss) [.t 15,oI 1] 14 false,
oR 17 .pick [.t 14,.c (.bool true),.t 16],
oV 18 17,
oG 19 .mv [.t 1] 18 false,
oG 20 (.bin .gtr) [.t 19,oI 12] 18 false,
oR 21 .pick [.t 18,.c (.bool true),.t 20]]
def a82r2 : List IOp := [oR 6 .mv [oI 0],
oR 7 .mv [.c (.bool false)]]
def a82r3 : List IOp := [oV 22 2,
oR 23 (.bin .lss) [.t 22,oI 1],
oV 24 23,
oG 25 .mv [.t 2] 24 false,
oG 26 .mv [.t 0] 24 false,
oG 27 .mv [.t 1] 24 false,
oG 28 (.call 80) [.t 26,.t 27] 24 false,
oG 29 (.bin .gtr) [.t 25,.t 28] 24 false,
oR 30 .pick [.t 24,.c (.bool true),.t 29]]
def a82r4 : List IOp := [oR 6 .mv [oI 0],
oR 7 .mv [.c (.bool false)]]
def a82r5 : List IOp := [oV 31 0,
oV 32 1,
oV 33 2,
oR 34 (.call 79) [.t 31,.t 32,.t 33],
oV 6 34,
oR 7 .mv [.c (.bool true)]]
def a82 : AFunc := ⟨35,[.tmp 6,.tmp 7],(.seq (.region a82r0 [0,1,2]) (.seq (.seq (.region a82r1 [0,1,2,21]) (.cond (.t 21) (.seq (.region a82r2 [6,7]) .ret) .skip)) (.seq (.seq (.region a82r3 [0,1,2,30]) (.cond (.t 30) (.seq (.region a82r4 [6,7]) .ret) .skip)) (.seq (.region a82r5 [6,7]) .ret))))⟩
theorem a82_ok : compileF Tryz.prog (lk [(0,⟨[0,1,2],[],[]⟩),(1,⟨[0,1,2,21],[],[]⟩),(2,⟨[6,7],[],[]⟩),(3,⟨[0,1,2,30],[],[]⟩),(4,⟨[6,7],[],[]⟩),(5,⟨[6,7],[],[]⟩)]) Tryz.f82 = some a82 := by kernel_rfl

/- payroll/calendar.Easter -/
def a83r0 : List IOp := [oR 2 .mv [oI 0],
oR 3 .mv [.c (.bool false)]]
def a83r1 : List IOp := [oV 12 0,
oR 13 (.bin .lss) [.t 12,oI 1970],
oV 14 13,
oG 15 .mv [.t 0] 14 false,
oG 16 (.bin .gtr) [.t 15,oI 2199] 14 false,
oR 17 .pick [.t 14,.c (.bool true),.t 16]]
def a83r2 : List IOp := [oR 2 .mv [oI 0],
oR 3 .mv [.c (.bool false)]]
def a83r3 : List IOp := [oV 18 0,
oR 19 (.bin .rem) [.t 18,oI 19],
oV 20 0,
oR 21 (.bin .quo) [.t 20,oI 100],
oV 22 0,
oR 23 (.bin .rem) [.t 22,oI 100],
oV 4 19,
oV 5 21,
oV 6 23]
def a83r4 : List IOp := [oV 24 5,
oV 25 5,
oR 26 (.bin .add) [.t 25,oI 8],
oR 27 (.bin .quo) [.t 26,oI 25],
oR 28 (.bin .sub) [.t 24,.t 27],
oR 29 (.bin .add) [.t 28,oI 1],
oR 30 (.bin .quo) [.t 29,oI 3],
oV 7 30]
def a83r5 : List IOp := [oV 31 4,
oR 32 (.bin .mul) [oI 19,.t 31],
oV 33 5,
oR 34 (.bin .add) [.t 32,.t 33],
oV 35 5,
oR 36 (.bin .quo) [.t 35,oI 4],
oR 37 (.bin .sub) [.t 34,.t 36],
oV 38 7,
oR 39 (.bin .sub) [.t 37,.t 38],
oR 40 (.bin .add) [.t 39,oI 15],
oR 41 (.bin .rem) [.t 40,oI 30],
oV 8 41]
def a83r6 : List IOp := [oV 42 5,
oR 43 (.bin .rem) [.t 42,oI 4],
oR 44 (.bin .mul) [oI 2,.t 43],
oR 45 (.bin .add) [oI 32,.t 44],
oV 46 6,
oR 47 (.bin .quo) [.t 46,oI 4],
oR 48 (.bin .mul) [oI 2,.t 47],
oR 49 (.bin .add) [.t 45,.t 48],
oV 50 8,
oR 51 (.bin .sub) [.t 49,.t 50],
oV 52 6,
oR 53 (.bin .rem) [.t 52,oI 4],
oR 54 (.bin .sub) [.t 51,.t 53],
oR 55 (.bin .rem) [.t 54,oI 7],
oV 9 55]
def a83r7 : List IOp := [oV 56 4,
oV 57 8,
oR 58 (.bin .mul) [oI 11,.t 57],
oR 59 (.bin .add) [.t 56,.t 58],
oV 60 9,
oR 61 (.bin .mul) [oI 22,.t 60],
oR 62 (.bin .add) [.t 59,.t 61],
oR 63 (.bin .quo) [.t 62,oI 451],
oV 10 63]
def a83r8 : List IOp := [oV 64 8,
oV 65 9,
oR 66 (.bin .add) [.t 64,.t 65],
oV 67 10,
oR 68 (.bin .mul) [oI 7,.t 67],
oR 69 (.bin .sub) [.t 66,.t 68],
oR 70 (.bin .add) [.t 69,oI 114],
oV 11 70]
def a83r9 : List IOp := [oV 71 0,
oV 72 11,
oR 73 (.bin .quo) [.t 72,oI 31],
oV 74 11,
oR 75 (.bin .rem) [.t 74,oI 31],
oR 76 (.bin .add) [.t 75,oI 1],
oR 77 (.call 82) [.t 71,.t 73,.t 76],
oR 78 (.extract 0) [.t 77],
oR 79 (.extract 1) [.t 77],
oV 2 78,
oV 3 79]
def a83 : AFunc := ⟨80,[.tmp 2,.tmp 3],(.seq (.region a83r0 [0]) (.seq (.seq (.region a83r1 [0,17]) (.cond (.t 17) (.seq (.region a83r2 [2,3]) .ret) .skip)) (.seq (.region a83r3 [0,4,5,6]) (.seq (.region a83r4 [0,4,5,6,7]) (.seq (.region a83r5 [0,4,5,6,8]) (.seq (.region a83r6 [0,4,8,9]) (.seq (.region a83r7 [0,8,9,10]) (.seq (.region a83r8 [0,11]) (.seq (.region a83r9 [2,3]) .ret)))))))))⟩
theorem a83_ok : compileF Tryz.prog (lk [(0,⟨[0],[],[]⟩),(1,⟨[0,17],[],[]⟩),(2,⟨[2,3],[],[]⟩),(3,⟨[0,4,5,6],[],[]⟩),(4,⟨[0,4,5,6,7],[],[]⟩),(5,⟨[0,4,5,6,8],[],[]⟩),(6,⟨[0,4,8,9],[],[]⟩),(7,⟨[0,8,9,10],[],[]⟩),(8,⟨[0,11],[],[]⟩),(9,⟨[2,3],[],[]⟩)]) Tryz.f83 = some a83 := by kernel_rfl

/- payroll/calendar.nth -/
def a84r0 : List IOp := [oR 8 .mv [oI 0],
oR 9 .mv [.c (.bool false)]]
def a84r1 : List IOp := [oV 13 0,
oV 14 1,
oR 15 (.call 79) [.t 13,.t 14,oI 1],
oV 10 15]
def a84r2 : List IOp := [oV 16 0,
oV 17 1,
oR 18 (.call 80) [.t 16,.t 17],
oV 11 18]
def a84r3 : List IOp := [oV 19 2,
oV 20 10,
oR 21 (.call 57) [.t 20],
oR 22 (.bin .sub) [.t 19,.t 21],
oR 23 (.bin .add) [.t 22,oI 7],
oR 24 (.bin .rem) [.t 23,oI 7],
oV 12 24]
def a84r4 : List IOp := [oV 25 3,
oR 26 (.bin .eql) [.t 25,oI (-1)]]
def a84r5 : List IOp := [oV 27 12,
oV 28 11,
oR 29 (.bin .sub) [.t 28,oI 1],
oV 30 12,
oR 31 (.bin .sub) [.t 29,.t 30],
oR 32 (.bin .quo) [.t 31,oI 7],
oR 33 (.bin .mul) [.t 32,oI 7],
oR 34 (.bin .add) [.t 27,.t 33],
oV 12 34]
def a84r6 : List IOp := [oV 35 12,
oV 36 3,
oR 37 (.bin .sub) [.t 36,oI 1],
oR 38 (.bin .mul) [oI 7,.t 37],
oR 39 (.bin .add) [.t 35,.t 38],
oV 12 39]
def a84r7 : List IOp := [oV 40 12,
oV 41 11,
oR 42 (.bin .geq) [.t 40,.t 41]]
def a84r8 : List IOp := [oR 8 .mv [oI 0],
oR 9 .mv [.c (.bool false)]]
def a84r9 : List IOp := [oV 43 10,
oV 44 12,
oR 45 (.bin .add) [.t 43,.t 44],
oV 8 45,
oR 9 .mv [.c (.bool true)]]
def a84 : AFunc := ⟨46,[.tmp 8,.tmp 9],(.seq (.region a84r0 [0,1,2,3]) (.seq (.region a84r1 [0,1,2,3,10]) (.seq (.region a84r2 [2,3,10,11]) (.seq (.region a84r3 [3,10,11,12]) (.seq (.seq (.region a84r4 [3,10,11,12,26]) (.cond (.t 26) (.region a84r5 [10,11,12]) (.region a84r6 [10,11,12]))) (.seq (.seq (.region a84r7 [10,12,42]) (.cond (.t 42) (.seq (.region a84r8 [8,9]) .ret) .skip)) (.seq (.region a84r9 [8,9]) .ret)))))))⟩
theorem a84_ok : compileF Tryz.prog (lk [(0,⟨[0,1,2,3],[],[]⟩),(1,⟨[0,1,2,3,10],[],[]⟩),(2,⟨[2,3,10,11],[],[]⟩),(3,⟨[3,10,11,12],[],[]⟩),(4,⟨[3,10,11,12,26],[],[]⟩),(5,⟨[10,11,12],[],[]⟩),(6,⟨[10,11,12],[],[]⟩),(7,⟨[10,12,42],[],[]⟩),(8,⟨[8,9],[],[]⟩),(9,⟨[8,9],[],[]⟩)]) Tryz.f84 = some a84 := by kernel_rfl

/- payroll/payrollref3.named -/
def a87r0 : List IOp := [oR 2 (.box 53 6) [.t 0],
oR 4 .mv [oI 0],
oR 5 .mv [.c (.bool false)]]
def a87r1 : List IOp := [oR 6 .mv [oI 0]]
def a87r2 : List IOp := [oR 10 (.fieldAddr 0) [.t 2],
oL 11 10]
def a87r3 : List IOp := [oR 54 (.bin .eql) [.t 11,oI 0],
oV 53 54]
def a87r4 : List (Nat × DOp) := [(0,⟨oR 55 (.fieldAddr 2) [.t 2],none,[2,3,4,5]⟩),
(1,⟨oL 56 55,none,[2,3,4,5]⟩),
(2,⟨oV 57 1,none,[0,1,3,4]⟩),
(3,⟨oR 58 (.fieldAddr 1) [.t 2],none,[0,1,2]⟩),
(4,⟨oL 59 58,none,[0,1,2]⟩),
(5,⟨oR 60 (.call 35) [.t 57,.t 59],none,[0,1]⟩),
(6,⟨oR 61 (.bin .gtr) [.t 56,.t 60],none,[]⟩)]
def a87r5 : List IOp := [oR 4 .mv [oI 0],
oR 5 .mv [.c (.bool false)]]
def a87r6 : List IOp := [oV 62 1,
oR 63 (.fieldAddr 1) [.t 2],
oL 64 63,
oR 65 (.fieldAddr 2) [.t 2],
oL 66 65,
oR 67 (.call 51) [.t 62,.t 64,.t 66],
oV 6 67]
def a87r7 : List IOp := [oR 69 (.bin .eql) [.t 11,oI 1],
oV 68 69]
def a87r8 : List (Nat × DOp) := [(0,⟨oV 70 1,none,[2,3]⟩),
(2,⟨oR 72 (.fieldAddr 4) [.t 2],none,[0,1]⟩),
(3,⟨oL 73 72,none,[0,1]⟩),
(1,⟨oR 71 (.call 102) [.t 70],none,[2,3]⟩),
(4,⟨oR 74 (.bin .add) [.t 71,.t 73],none,[]⟩),
(5,⟨oV 6 74,none,[]⟩)]
def a87r9 : List IOp := [oV 12 1,
oR 13 (.fieldAddr 1) [.t 2],
oL 14 13,
oR 15 (.call 51) [.t 12,.t 14,oI 1],
oV 7 15]
def a87r10 : List IOp := [oV 16 1,
oR 17 (.fieldAddr 1) [.t 2],
oL 18 17,
oR 19 (.call 35) [.t 16,.t 18],
oV 8 19]
def a87r11 : List (Nat × DOp) := [(0,⟨oV 20 7,none,[1,2,3,4,5,6,7]⟩),
(1,⟨oR 21 (.fieldAddr 3) [.t 2],none,[0,3,4]⟩),
(2,⟨oL 22 21,none,[0,3,4]⟩),
(3,⟨oV 23 7,none,[0,1,2]⟩),
(4,⟨oR 24 (.call 73) [.t 23],none,[0,1,2]⟩),
(5,⟨oR 25 (.bin .sub) [.t 22,.t 24],none,[0]⟩),
(6,⟨oR 26 (.bin .add) [.t 25,oI 7],none,[0]⟩),
(7,⟨oR 27 (.bin .rem) [.t 26,oI 7],none,[0]⟩),
(8,⟨oR 28 (.bin .add) [.t 20,.t 27],none,[]⟩),
(9,⟨oV 6 28,none,[]⟩)]
def a87r12 : List IOp := [oR 29 (.fieldAddr 2) [.t 2],
oL 30 29,
oV 9 30]
def a87r13 : List IOp := [oV 31 9,
oR 32 (.bin .eql) [.t 31,oI (-1)]]
def a87r14 : List IOp := [oR 9 .mv [oI 5]]
def a87r15 : List IOp := [oV 33 6,
oR 34 (.bin .add) [.t 33,oI 28],
oV 35 7,
oV 36 8,
oR 37 (.bin .add) [.t 35,.t 36],
oR 38 (.bin .geq) [.t 34,.t 37]]
def a87r16 : List IOp := [oR 9 .mv [oI 4]]
def a87r17 : List IOp := [oV 39 6,
oV 40 9,
oR 41 (.bin .sub) [.t 40,oI 1],
oR 42 (.bin .mul) [oI 7,.t 41],
oR 43 (.bin .add) [.t 39,.t 42],
oV 6 43]
def a87r18 : List IOp := [oV 44 6,
oV 45 7,
oV 46 8,
oR 47 (.bin .add) [.t 45,.t 46],
oR 48 (.bin .geq) [.t 44,.t 47]]
def a87r19 : List IOp := [oR 4 .mv [oI 0],
oR 5 .mv [.c (.bool false)]]
def a87r20 : List IOp := [oV 49 6,
oR 50 (.fieldAddr 4) [.t 2],
oL 51 50,
oR 52 (.bin .add) [.t 49,.t 51],
oV 6 52]
def a87r21 : List IOp := [oR 75 (.fieldAddr 5) [.t 2],
oL 76 75,
oV 77 76,
oG 78 .mv [.t 6] 77 true,
oG 79 (.call 73) [.t 78] 77 true,
oG 80 (.bin .geq) [.t 79,oI 5] 77 true,
oR 81 .pick [.t 77,.t 80,.c (.bool false)]]
def a87r22 : List IOp := [oV 82 6,
oV 83 6,
oR 84 (.call 73) [.t 83],
oR 85 (.bin .sub) [oI 7,.t 84],
oR 86 (.bin .add) [.t 82,.t 85],
oV 6 86]
def a87r23 : List IOp := [oV 87 6,
oV 88 6,
oR 89 (.call 16) [.t 88],
oV 4 87,
oV 5 89]
def a87 : AFunc := ⟨90,[.tmp 4,.tmp 5],(.seq (.region a87r0 [1,2]) (.seq (.region a87r1 [1,2]) (.seq (.seq (.region a87r2 [1,2,11]) (.block 0 (.seq (.region a87r3 [1,2,11,53]) (.cond (.t 53) (.seq (.seq (.draw a87r4 [] [1,2,61]) (.cond (.t 61) (.seq (.region a87r5 [4,5]) .ret) .skip)) (.region a87r6 [2,6])) (.seq (.region a87r7 [1,2,68]) (.cond (.t 68) (.draw a87r8 [] [2,6]) (.seq (.region a87r9 [1,2,7]) (.seq (.region a87r10 [2,7,8]) (.seq (.draw a87r11 [] [2,6,7,8]) (.seq (.region a87r12 [2,6,7,8,9]) (.seq (.seq (.region a87r13 [2,6,7,8,9,32]) (.cond (.t 32) (.seq (.region a87r14 [2,6,7,8,9]) (.seq (.region a87r15 [2,6,7,8,9,38]) (.cond (.t 38) (.region a87r16 [2,6,7,8,9]) .skip))) .skip)) (.seq (.region a87r17 [2,6,7,8]) (.seq (.seq (.region a87r18 [2,6,48]) (.cond (.t 48) (.seq (.region a87r19 [4,5]) .ret) .skip)) (.region a87r20 [2,6])))))))))))))) (.seq (.seq (.region a87r21 [6,81]) (.cond (.t 81) (.region a87r22 [6]) .skip)) (.seq (.region a87r23 [4,5]) .ret)))))⟩
theorem a87_ok : compileF Tryz.prog (lk [(0,⟨[1,2],[],[]⟩),(1,⟨[1,2],[],[]⟩),(2,⟨[1,2,11],[],[]⟩),(3,⟨[1,2,7],[],[]⟩),(4,⟨[2,7,8],[],[]⟩),(5,⟨[2,6,7,8],[[],[],[1],[],[3],[2,4,1,3],[5,2,4,1,3],[6,5,2,4,1,3],[0,7,6,5,2,4,1,3],[8,4,0,1,2,3,5,6,7]],[0,1,2,3,4,5,6,7,8,9]⟩),(6,⟨[2,6,7,8,9],[],[]⟩),(7,⟨[2,6,7,8,9,32],[],[]⟩),(8,⟨[2,6,7,8,9],[],[]⟩),(9,⟨[2,6,7,8,9,38],[],[]⟩),(10,⟨[2,6,7,8,9],[],[]⟩),(11,⟨[2,6,7,8],[],[]⟩),(12,⟨[2,6,48],[],[]⟩),(13,⟨[4,5],[],[]⟩),(14,⟨[2,6],[],[]⟩),(15,⟨[1,2,11,53],[],[]⟩),(16,⟨[1,2,61],[[],[0],[],[],[3],[2,4,3],[1,5,0,2,4,3]],[0,1,2,3,4,5,6]⟩),(17,⟨[4,5],[],[]⟩),(18,⟨[2,6],[],[]⟩),(19,⟨[1,2,68],[],[]⟩),(20,⟨[2,6],[[],[0],[],[2],[1,3,0,2],[4,1,0,2,3]],[0,2,3,1,4,5]⟩),(21,⟨[6,81],[],[]⟩),(22,⟨[6],[],[]⟩),(23,⟨[4,5],[],[]⟩)]) Tryz.f87 = some a87 := by kernel_rfl

/- slices.stableCmpFunc[int] -/
def a88r0 : List IOp := [oR 6 .mv [oI 20]]
def a88r1 : List IOp := [oV 10 6,
oR 7 .mv [oI 0],
oV 8 10]
def a88r2 : List IOp := [oV 11 8,
oV 12 1,
oR 13 (.bin .leq) [.t 11,.t 12]]
def a88r3 : List IOp := [oV 14 0,
oV 15 7,
oV 16 8,
oV 17 2,
oR 18 (.call 103) [.t 14,.t 15,.t 16,.t 17]]
def a88r4 : List IOp := [oV 19 8,
oV 7 19]
def a88r5 : List IOp := [oV 20 8,
oV 21 6,
oR 22 (.bin .add) [.t 20,.t 21],
oV 8 22]
def a88r6 : List IOp := [oV 23 0,
oV 24 7,
oV 25 1,
oV 26 2,
oR 27 (.call 103) [.t 23,.t 24,.t 25,.t 26]]
def a88r7 : List IOp := [oV 28 6,
oV 29 1,
oR 30 (.bin .lss) [.t 28,.t 29]]
def a88r8 : List IOp := [oV 31 6,
oR 32 (.bin .mul) [oI 2,.t 31],
oR 7 .mv [oI 0],
oV 8 32]
def a88r9 : List IOp := [oV 33 8,
oV 34 1,
oR 35 (.bin .leq) [.t 33,.t 34]]
def a88r10 : List IOp := [oV 36 0,
oV 37 7,
oV 38 7,
oV 39 6,
oR 40 (.bin .add) [.t 38,.t 39],
oV 41 8,
oV 42 2,
oR 43 (.call 104) [.t 36,.t 37,.t 40,.t 41,.t 42]]
def a88r11 : List IOp := [oV 44 8,
oV 7 44]
def a88r12 : List IOp := [oV 45 8,
oV 46 6,
oR 47 (.bin .mul) [oI 2,.t 46],
oR 48 (.bin .add) [.t 45,.t 47],
oV 8 48]
def a88r13 : List IOp := [oV 49 7,
oV 50 6,
oR 51 (.bin .add) [.t 49,.t 50],
oV 9 51]
def a88r14 : List IOp := [oV 52 9,
oV 53 1,
oR 54 (.bin .lss) [.t 52,.t 53]]
def a88r15 : List IOp := [oV 55 0,
oV 56 7,
oV 57 9,
oV 58 1,
oV 59 2,
oR 60 (.call 104) [.t 55,.t 56,.t 57,.t 58,.t 59]]
def a88r16 : List IOp := [oV 61 6,
oR 62 (.bin .mul) [.t 61,oI 2],
oV 6 62]
def a88 : AFunc := ⟨63,[],(.seq (.region a88r0 [0,1,2,6]) (.seq (.region a88r1 [0,1,2,6,7,8]) (.seq (.block 0 (.loop (.seq (.seq (.region a88r2 [0,1,2,6,7,8,13]) (.cond (.t 13) .skip (.exit 0))) (.block 1 (.seq (.region a88r3 [0,1,2,6,8]) (.seq (.region a88r4 [0,1,2,6,7,8]) (.region a88r5 [0,1,2,6,7,8]))))))) (.seq (.region a88r6 [0,1,2,6]) (.block 2 (.loop (.seq (.seq (.region a88r7 [0,1,2,6,30]) (.cond (.t 30) .skip (.exit 2))) (.block 3 (.seq (.region a88r8 [0,1,2,6,7,8]) (.seq (.block 4 (.loop (.seq (.seq (.region a88r9 [0,1,2,6,7,8,35]) (.cond (.t 35) .skip (.exit 4))) (.block 5 (.seq (.region a88r10 [0,1,2,6,8]) (.seq (.region a88r11 [0,1,2,6,7,8]) (.region a88r12 [0,1,2,6,7,8]))))))) (.seq (.seq (.region a88r13 [0,1,2,6,7,9]) (.seq (.region a88r14 [0,1,2,6,7,9,54]) (.cond (.t 54) (.region a88r15 [0,1,2,6]) .skip))) (.region a88r16 [0,1,2,6]))))))))))))⟩
theorem a88_ok : compileF Tryz.prog (lk [(0,⟨[0,1,2,6],[],[]⟩),(1,⟨[0,1,2,6,7,8],[],[]⟩),(2,⟨[0,1,2,6,7,8,13],[],[]⟩),(3,⟨[0,1,2,6,8],[],[]⟩),(4,⟨[0,1,2,6,7,8],[],[]⟩),(5,⟨[0,1,2,6,7,8],[],[]⟩),(6,⟨[0,1,2,6],[],[]⟩),(7,⟨[0,1,2,6,30],[],[]⟩),(8,⟨[0,1,2,6,7,8],[],[]⟩),(9,⟨[0,1,2,6,7,8,35],[],[]⟩),(10,⟨[0,1,2,6,8],[],[]⟩),(11,⟨[0,1,2,6,7,8],[],[]⟩),(12,⟨[0,1,2,6,7,8],[],[]⟩),(13,⟨[0,1,2,6,7,9],[],[]⟩),(14,⟨[0,1,2,6,7,9,54],[],[]⟩),(15,⟨[0,1,2,6],[],[]⟩),(16,⟨[0,1,2,6],[],[]⟩)]) Tryz.f88 = some a88 := by kernel_rfl

/- cmp.isNaN[int] -/
def a89r0 : List IOp := [oR 2 .mv [.c (.bool false)]]
def a89r1 : List IOp := [oV 3 0,
oV 4 0,
oR 5 (.bin .neq) [.t 3,.t 4],
oV 2 5]
def a89 : AFunc := ⟨6,[.tmp 2],(.seq (.region a89r0 [0]) (.seq (.region a89r1 [2]) .ret))⟩
theorem a89_ok : compileF Tryz.prog (lk [(0,⟨[0],[],[]⟩),(1,⟨[2],[],[]⟩)]) Tryz.f89 = some a89 := by kernel_rfl

/- payroll/calendar.leap -/
/- payroll/payrollref3.easter -/
def a102r0 : List IOp := [oR 2 .mv [oI 0]]
def a102r1 : List IOp := [oV 9 0,
oR 10 (.bin .rem) [.t 9,oI 19],
oV 11 0,
oR 12 (.bin .quo) [.t 11,oI 100],
oV 13 0,
oR 14 (.bin .rem) [.t 13,oI 100],
oV 3 10,
oV 4 12,
oV 5 14]
def a102r2 : List IOp := [oV 15 3,
oR 16 (.bin .mul) [oI 19,.t 15],
oV 17 4,
oR 18 (.bin .add) [.t 16,.t 17],
oV 19 4,
oR 20 (.bin .quo) [.t 19,oI 4],
oR 21 (.bin .sub) [.t 18,.t 20],
oV 22 4,
oV 23 4,
oR 24 (.bin .add) [.t 23,oI 8],
oR 25 (.bin .quo) [.t 24,oI 25],
oR 26 (.bin .sub) [.t 22,.t 25],
oR 27 (.bin .add) [.t 26,oI 1],
oR 28 (.bin .quo) [.t 27,oI 3],
oR 29 (.bin .sub) [.t 21,.t 28],
oR 30 (.bin .add) [.t 29,oI 15],
oR 31 (.bin .rem) [.t 30,oI 30],
oV 6 31]
def a102r3 : List IOp := [oV 32 4,
oR 33 (.bin .rem) [.t 32,oI 4],
oR 34 (.bin .mul) [oI 2,.t 33],
oR 35 (.bin .add) [oI 32,.t 34],
oV 36 5,
oR 37 (.bin .quo) [.t 36,oI 4],
oR 38 (.bin .mul) [oI 2,.t 37],
oR 39 (.bin .add) [.t 35,.t 38],
oV 40 6,
oR 41 (.bin .sub) [.t 39,.t 40],
oV 42 5,
oR 43 (.bin .rem) [.t 42,oI 4],
oR 44 (.bin .sub) [.t 41,.t 43],
oR 45 (.bin .rem) [.t 44,oI 7],
oV 7 45]
def a102r4 : List IOp := [oV 46 6,
oV 47 7,
oR 48 (.bin .add) [.t 46,.t 47],
oV 49 3,
oV 50 6,
oR 51 (.bin .mul) [oI 11,.t 50],
oR 52 (.bin .add) [.t 49,.t 51],
oV 53 7,
oR 54 (.bin .mul) [oI 22,.t 53],
oR 55 (.bin .add) [.t 52,.t 54],
oR 56 (.bin .quo) [.t 55,oI 451],
oR 57 (.bin .mul) [oI 7,.t 56],
oR 58 (.bin .sub) [.t 48,.t 57],
oR 59 (.bin .add) [.t 58,oI 114],
oV 8 59]
def a102r5 : List IOp := [oV 60 0,
oV 61 8,
oR 62 (.bin .quo) [.t 61,oI 31],
oV 63 8,
oR 64 (.bin .rem) [.t 63,oI 31],
oR 65 (.bin .add) [.t 64,oI 1],
oR 66 (.call 51) [.t 60,.t 62,.t 65],
oV 2 66]
def a102 : AFunc := ⟨67,[.tmp 2],(.seq (.region a102r0 [0]) (.seq (.region a102r1 [0,3,4,5]) (.seq (.region a102r2 [0,3,4,5,6]) (.seq (.region a102r3 [0,3,6,7]) (.seq (.region a102r4 [0,8]) (.seq (.region a102r5 [2]) .ret))))))⟩
theorem a102_ok : compileF Tryz.prog (lk [(0,⟨[0],[],[]⟩),(1,⟨[0,3,4,5],[],[]⟩),(2,⟨[0,3,4,5,6],[],[]⟩),(3,⟨[0,3,6,7],[],[]⟩),(4,⟨[0,8],[],[]⟩),(5,⟨[2],[],[]⟩)]) Tryz.f102 = some a102 := by kernel_rfl

/- slices.insertionSortCmpFunc[int] -/
def a103r0 : List IOp := [oV 10 1,
oR 11 (.bin .add) [.t 10,oI 1],
oV 8 11]
def a103r1 : List IOp := [oV 12 8,
oV 13 2,
oR 14 (.bin .lss) [.t 12,.t 13]]
def a103r2 : List IOp := [oV 17 8,
oV 9 17]
def a103r3 : List (Nat × DOp) := [(0,⟨oV 18 9,none,[1]⟩),
(1,⟨oV 19 1,none,[0]⟩),
(2,⟨oR 20 (.bin .gtr) [.t 18,.t 19],none,[]⟩),
(3,⟨oV 21 20,none,[]⟩),
(4,⟨oG 22 .mv [.t 3] 21 true,none,[5,6,7,8,9,10,11,12,13]⟩),
(5,⟨oG 23 .mv [.t 0] 21 true,none,[4,6,9,10,11,12,13]⟩),
(6,⟨oG 24 .mv [.t 9] 21 true,none,[4,5,9,10,11,12,13]⟩),
(7,⟨oG 25 (.indexAddr 1) [.t 23,.t 24] 21 true,none,[4,9,10,11,12,13]⟩),
(8,⟨oG 26 .load1 [.t 25] 21 true,none,[4,9,10,11,12,13]⟩),
(9,⟨oG 27 .mv [.t 0] 21 true,none,[4,5,6,7,8,10,11]⟩),
(10,⟨oG 28 .mv [.t 9] 21 true,none,[4,5,6,7,8,9]⟩),
(11,⟨oG 29 (.bin .sub) [.t 28,oI 1] 21 true,none,[4,5,6,7,8,9]⟩),
(12,⟨oG 30 (.indexAddr 1) [.t 27,.t 29] 21 true,none,[4,5,6,7,8]⟩),
(13,⟨oG 31 .load1 [.t 30] 21 true,none,[4,5,6,7,8]⟩),
(14,⟨oG 32 .callv [.t 22,.t 26,.t 31] 21 true,none,[]⟩),
(15,⟨oG 33 (.bin .lss) [.t 32,oI 0] 21 true,none,[]⟩),
(16,⟨oR 34 .pick [.t 21,.t 33,.c (.bool false)],none,[]⟩)]
def a103r4 : List (Nat × DOp) := [(0,⟨oV 37 0,none,[1,2,3,4,5,6,7,8,9,10,11,12,13]⟩),
(1,⟨oV 38 9,none,[0,2,3,4,5,6,7,8,9,10,11,12,13]⟩),
(2,⟨oV 39 0,none,[0,1,3,4,5,6,7,8,9,10,11,12,13,14,15]⟩),
(3,⟨oV 40 9,none,[0,1,2,5,6,7,8,9,10,11,12,13,14,15]⟩),
(4,⟨oR 41 (.bin .sub) [.t 40,oI 1],none,[0,1,2,5,6,7,8,9,10,11,12,13,14,15]⟩),
(5,⟨oV 42 0,none,[0,1,2,3,4,6,7,10,11,12,13]⟩),
(6,⟨oV 43 9,none,[0,1,2,3,4,5,10,11,12,13]⟩),
(7,⟨oR 44 (.bin .sub) [.t 43,oI 1],none,[0,1,2,3,4,5,10,11,12,13]⟩),
(8,⟨oR 45 (.indexAddr 1) [.t 42,.t 44],none,[0,1,2,3,4,10,11,12,13]⟩),
(9,⟨oL 46 45,none,[0,1,2,3,4,10,11,12,13]⟩),
(10,⟨oV 47 0,none,[0,1,2,3,4,5,6,7,8,9,11]⟩),
(11,⟨oV 48 9,none,[0,1,2,3,4,5,6,7,8,9,10]⟩),
(12,⟨oR 49 (.indexAddr 1) [.t 47,.t 48],none,[0,1,2,3,4,5,6,7,8,9]⟩),
(13,⟨oL 50 49,none,[0,1,2,3,4,5,6,7,8,9]⟩),
(14,⟨oR 51 (.indexAddr 1) [.t 37,.t 38],none,[2,3,4]⟩),
(15,⟨oN (.store 1) [.t 51,.t 46],none,[2,3,4]⟩),
(16,⟨oR 52 (.indexAddr 1) [.t 39,.t 41],none,[]⟩),
(17,⟨oN (.store 1) [.t 52,.t 50],none,[]⟩)]
def a103r5 : List IOp := [oV 35 9,
oR 36 (.bin .sub) [.t 35,oI 1],
oV 9 36]
def a103r6 : List IOp := [oV 15 8,
oR 16 (.bin .add) [.t 15,oI 1],
oV 8 16]
def a103 : AFunc := ⟨53,[],(.seq (.region a103r0 [0,1,2,3,8]) (.block 0 (.loop (.seq (.seq (.region a103r1 [0,1,2,3,8,14]) (.cond (.t 14) .skip (.exit 0))) (.seq (.block 1 (.seq (.region a103r2 [0,1,2,3,8,9]) (.block 2 (.loop (.seq (.seq (.draw a103r3 [] [0,1,2,3,8,9,34]) (.cond (.t 34) .skip (.exit 2))) (.seq (.block 3 (.draw a103r4 [] [0,1,2,3,8,9])) (.region a103r5 [0,1,2,3,8,9]))))))) (.region a103r6 [0,1,2,3,8]))))))⟩
theorem a103_ok : compileF Tryz.prog (lk [(0,⟨[0,1,2,3,8],[],[]⟩),(1,⟨[0,1,2,3,8,14],[],[]⟩),(2,⟨[0,1,2,3,8],[],[]⟩),(3,⟨[0,1,2,3,8,9],[],[]⟩),(4,⟨[0,1,2,3,8,9,34],[[],[],[0,1],[2,0,1],[3,2,0,1],[3,2,0,1],[3,2,0,1],[5,6,3,2,0,1],[7,3,5,6,2,0,1],[3,2,0,1],[3,2,0,1],[10,3,2,0,1],[9,11,3,2,0,1,10],[12,3,9,11,2,0,1,10],[4,8,13,3,2,0,1,7,5,6,12,9,11,10],[14,3,4,8,13,2,0,1,7,5,6,12,9,11,10],[3,15,2,0,1,14,4,8,13,7,5,6,12,9,11,10]],[0,1,2,3,4,5,6,7,8,9,10,11,12,13,14,15,16]⟩),(5,⟨[0,1,2,3,8,9],[],[]⟩),(6,⟨[0,1,2,3,8,9],[[],[],[],[],[3],[],[],[6],[5,7,6],[8,5,7,6],[],[],[10,11],[12,10,11],[0,1,5,6,7,8,9,13,12,10,11],[14,9,0,1,5,6,7,8,13,12,10,11],[2,4,0,1,3,5,6,7,8,9,10,11,12,13,14,15],[16,13,15,0,1,2,3,4,5,6,7,8,9,10,11,12,14]],[0,1,2,3,4,5,6,7,8,9,10,11,12,13,14,15,16,17]⟩)]) Tryz.f103 = some a103 := by kernel_rfl

/- slices.symMergeCmpFunc[int] -/
def a104r0 : List IOp := [oV 25 2,
oV 26 1,
oR 27 (.bin .sub) [.t 25,.t 26],
oR 28 (.bin .eql) [.t 27,oI 1]]
def a104r1 : List IOp := [oV 29 2,
oV 10 29]
def a104r2 : List IOp := [oV 30 3,
oV 11 30]
def a104r3 : List IOp := [oV 31 10,
oV 32 11,
oR 33 (.bin .lss) [.t 31,.t 32]]
def a104r4 : List IOp := [oV 34 10,
oV 35 11,
oR 36 (.bin .add) [.t 34,.t 35],
oR 37 (.conv .u64) [.t 36],
oR 38 (.bin .shr) [.t 37,.c (.int .u64 1)],
oR 39 (.conv .i64) [.t 38],
oV 12 39]
def a104r5 : List (Nat × DOp) := [(0,⟨oV 40 4,none,[1,2,3,4,5,6,7,8]⟩),
(1,⟨oV 41 0,none,[0,2,5,6,7,8]⟩),
(2,⟨oV 42 12,none,[0,1,5,6,7,8]⟩),
(3,⟨oR 43 (.indexAddr 1) [.t 41,.t 42],none,[0,5,6,7,8]⟩),
(4,⟨oL 44 43,none,[0,5,6,7,8]⟩),
(5,⟨oV 45 0,none,[0,1,2,3,4,6]⟩),
(6,⟨oV 46 1,none,[0,1,2,3,4,5]⟩),
(7,⟨oR 47 (.indexAddr 1) [.t 45,.t 46],none,[0,1,2,3,4]⟩),
(8,⟨oL 48 47,none,[0,1,2,3,4]⟩),
(9,⟨oR 49 .callv [.t 40,.t 44,.t 48],none,[]⟩),
(10,⟨oR 50 (.bin .lss) [.t 49,oI 0],none,[]⟩)]
def a104r6 : List IOp := [oV 51 12,
oR 52 (.bin .add) [.t 51,oI 1],
oV 10 52]
def a104r7 : List IOp := [oV 53 12,
oV 11 53]
def a104r8 : List IOp := [oV 54 1,
oV 13 54]
def a104r9 : List IOp := [oV 55 13,
oV 56 10,
oR 57 (.bin .sub) [.t 56,oI 1],
oR 58 (.bin .lss) [.t 55,.t 57]]
def a104r10 : List (Nat × DOp) := [(0,⟨oV 61 0,none,[1,2,3,4,5,6,7,8,9,10,11,12,13]⟩),
(1,⟨oV 62 13,none,[0,2,3,4,5,6,7,8,9,10,11,12,13]⟩),
(2,⟨oV 63 0,none,[0,1,3,4,5,6,7,8,9,10,11,12,13,14,15]⟩),
(3,⟨oV 64 13,none,[0,1,2,5,6,7,8,9,10,11,12,13,14,15]⟩),
(4,⟨oR 65 (.bin .add) [.t 64,oI 1],none,[0,1,2,5,6,7,8,9,10,11,12,13,14,15]⟩),
(5,⟨oV 66 0,none,[0,1,2,3,4,6,7,10,11,12,13]⟩),
(6,⟨oV 67 13,none,[0,1,2,3,4,5,10,11,12,13]⟩),
(7,⟨oR 68 (.bin .add) [.t 67,oI 1],none,[0,1,2,3,4,5,10,11,12,13]⟩),
(8,⟨oR 69 (.indexAddr 1) [.t 66,.t 68],none,[0,1,2,3,4,10,11,12,13]⟩),
(9,⟨oL 70 69,none,[0,1,2,3,4,10,11,12,13]⟩),
(10,⟨oV 71 0,none,[0,1,2,3,4,5,6,7,8,9,11]⟩),
(11,⟨oV 72 13,none,[0,1,2,3,4,5,6,7,8,9,10]⟩),
(12,⟨oR 73 (.indexAddr 1) [.t 71,.t 72],none,[0,1,2,3,4,5,6,7,8,9]⟩),
(13,⟨oL 74 73,none,[0,1,2,3,4,5,6,7,8,9]⟩),
(14,⟨oR 75 (.indexAddr 1) [.t 61,.t 62],none,[2,3,4]⟩),
(15,⟨oN (.store 1) [.t 75,.t 70],none,[2,3,4]⟩),
(16,⟨oR 76 (.indexAddr 1) [.t 63,.t 65],none,[]⟩),
(17,⟨oN (.store 1) [.t 76,.t 74],none,[]⟩)]
def a104r11 : List IOp := [oV 59 13,
oR 60 (.bin .add) [.t 59,oI 1],
oV 13 60]
def a104r12 : List IOp := [oV 77 3,
oV 78 2,
oR 79 (.bin .sub) [.t 77,.t 78],
oR 80 (.bin .eql) [.t 79,oI 1]]
def a104r13 : List IOp := [oV 81 1,
oV 14 81]
def a104r14 : List IOp := [oV 82 2,
oV 15 82]
def a104r15 : List IOp := [oV 83 14,
oV 84 15,
oR 85 (.bin .lss) [.t 83,.t 84]]
def a104r16 : List IOp := [oV 86 14,
oV 87 15,
oR 88 (.bin .add) [.t 86,.t 87],
oR 89 (.conv .u64) [.t 88],
oR 90 (.bin .shr) [.t 89,.c (.int .u64 1)],
oR 91 (.conv .i64) [.t 90],
oV 16 91]
def a104r17 : List (Nat × DOp) := [(0,⟨oV 92 4,none,[1,2,3,4,5,6,7,8]⟩),
(1,⟨oV 93 0,none,[0,2,5,6,7,8]⟩),
(2,⟨oV 94 2,none,[0,1,5,6,7,8]⟩),
(3,⟨oR 95 (.indexAddr 1) [.t 93,.t 94],none,[0,5,6,7,8]⟩),
(4,⟨oL 96 95,none,[0,5,6,7,8]⟩),
(5,⟨oV 97 0,none,[0,1,2,3,4,6]⟩),
(6,⟨oV 98 16,none,[0,1,2,3,4,5]⟩),
(7,⟨oR 99 (.indexAddr 1) [.t 97,.t 98],none,[0,1,2,3,4]⟩),
(8,⟨oL 100 99,none,[0,1,2,3,4]⟩),
(9,⟨oR 101 .callv [.t 92,.t 96,.t 100],none,[]⟩),
(10,⟨oR 102 (.bin .lss) [.t 101,oI 0],none,[]⟩),
(11,⟨oR 103 .not [.t 102],none,[]⟩)]
def a104r18 : List IOp := [oV 104 16,
oR 105 (.bin .add) [.t 104,oI 1],
oV 14 105]
def a104r19 : List IOp := [oV 106 16,
oV 15 106]
def a104r20 : List IOp := [oV 107 2,
oV 17 107]
def a104r21 : List IOp := [oV 108 17,
oV 109 14,
oR 110 (.bin .gtr) [.t 108,.t 109]]
def a104r22 : List (Nat × DOp) := [(0,⟨oV 113 0,none,[1,2,3,4,5,6,7,8,9,10,11,12,13]⟩),
(1,⟨oV 114 17,none,[0,2,3,4,5,6,7,8,9,10,11,12,13]⟩),
(2,⟨oV 115 0,none,[0,1,3,4,5,6,7,8,9,10,11,12,13,14,15]⟩),
(3,⟨oV 116 17,none,[0,1,2,5,6,7,8,9,10,11,12,13,14,15]⟩),
(4,⟨oR 117 (.bin .sub) [.t 116,oI 1],none,[0,1,2,5,6,7,8,9,10,11,12,13,14,15]⟩),
(5,⟨oV 118 0,none,[0,1,2,3,4,6,7,10,11,12,13]⟩),
(6,⟨oV 119 17,none,[0,1,2,3,4,5,10,11,12,13]⟩),
(7,⟨oR 120 (.bin .sub) [.t 119,oI 1],none,[0,1,2,3,4,5,10,11,12,13]⟩),
(8,⟨oR 121 (.indexAddr 1) [.t 118,.t 120],none,[0,1,2,3,4,10,11,12,13]⟩),
(9,⟨oL 122 121,none,[0,1,2,3,4,10,11,12,13]⟩),
(10,⟨oV 123 0,none,[0,1,2,3,4,5,6,7,8,9,11]⟩),
(11,⟨oV 124 17,none,[0,1,2,3,4,5,6,7,8,9,10]⟩),
(12,⟨oR 125 (.indexAddr 1) [.t 123,.t 124],none,[0,1,2,3,4,5,6,7,8,9]⟩),
(13,⟨oL 126 125,none,[0,1,2,3,4,5,6,7,8,9]⟩),
(14,⟨oR 127 (.indexAddr 1) [.t 113,.t 114],none,[2,3,4]⟩),
(15,⟨oN (.store 1) [.t 127,.t 122],none,[2,3,4]⟩),
(16,⟨oR 128 (.indexAddr 1) [.t 115,.t 117],none,[]⟩),
(17,⟨oN (.store 1) [.t 128,.t 126],none,[]⟩)]
def a104r23 : List IOp := [oV 111 17,
oR 112 (.bin .sub) [.t 111,oI 1],
oV 17 112]
def a104r24 : List IOp := [oV 129 1,
oV 130 3,
oR 131 (.bin .add) [.t 129,.t 130],
oR 132 (.conv .u64) [.t 131],
oR 133 (.bin .shr) [.t 132,.c (.int .u64 1)],
oR 134 (.conv .i64) [.t 133],
oV 18 134]
def a104r25 : List IOp := [oV 135 18,
oV 136 2,
oR 137 (.bin .add) [.t 135,.t 136],
oV 19 137]
def a104r26 : List IOp := [oR 20 .mv [oI 0],
oR 21 .mv [oI 0]]
def a104r27 : List IOp := [oV 138 2,
oV 139 18,
oR 140 (.bin .gtr) [.t 138,.t 139]]
def a104r28 : List IOp := [oV 141 19,
oV 142 3,
oR 143 (.bin .sub) [.t 141,.t 142],
oV 20 143]
def a104r29 : List IOp := [oV 144 18,
oV 21 144]
def a104r30 : List IOp := [oV 145 1,
oV 20 145]
def a104r31 : List IOp := [oV 146 2,
oV 21 146]
def a104r32 : List IOp := [oV 147 19,
oR 148 (.bin .sub) [.t 147,oI 1],
oV 22 148]
def a104r33 : List IOp := [oV 149 20,
oV 150 21,
oR 151 (.bin .lss) [.t 149,.t 150]]
def a104r34 : List IOp := [oV 152 20,
oV 153 21,
oR 154 (.bin .add) [.t 152,.t 153],
oR 155 (.conv .u64) [.t 154],
oR 156 (.bin .shr) [.t 155,.c (.int .u64 1)],
oR 157 (.conv .i64) [.t 156],
oV 23 157]
def a104r35 : List (Nat × DOp) := [(0,⟨oV 158 4,none,[1,2,3,4,5,6,7,8,9,10]⟩),
(1,⟨oV 159 0,none,[0,2,3,4,7,8,9,10]⟩),
(2,⟨oV 160 22,none,[0,1,3,7,8,9,10]⟩),
(3,⟨oV 161 23,none,[0,1,2,7,8,9,10]⟩),
(4,⟨oR 162 (.bin .sub) [.t 160,.t 161],none,[0,1,7,8,9,10]⟩),
(5,⟨oR 163 (.indexAddr 1) [.t 159,.t 162],none,[0,7,8,9,10]⟩),
(6,⟨oL 164 163,none,[0,7,8,9,10]⟩),
(7,⟨oV 165 0,none,[0,1,2,3,4,5,6,8]⟩),
(8,⟨oV 166 23,none,[0,1,2,3,4,5,6,7]⟩),
(9,⟨oR 167 (.indexAddr 1) [.t 165,.t 166],none,[0,1,2,3,4,5,6]⟩),
(10,⟨oL 168 167,none,[0,1,2,3,4,5,6]⟩),
(11,⟨oR 169 .callv [.t 158,.t 164,.t 168],none,[]⟩),
(12,⟨oR 170 (.bin .lss) [.t 169,oI 0],none,[]⟩),
(13,⟨oR 171 .not [.t 170],none,[]⟩)]
def a104r36 : List IOp := [oV 172 23,
oR 173 (.bin .add) [.t 172,oI 1],
oV 20 173]
def a104r37 : List IOp := [oV 174 23,
oV 21 174]
def a104r38 : List IOp := [oV 175 19,
oV 176 20,
oR 177 (.bin .sub) [.t 175,.t 176],
oV 24 177]
def a104r39 : List IOp := [oV 178 20,
oV 179 2,
oR 180 (.bin .lss) [.t 178,.t 179],
oV 181 180,
oG 182 .mv [.t 2] 181 true,
oG 183 .mv [.t 24] 181 true,
oG 184 (.bin .lss) [.t 182,.t 183] 181 true,
oR 185 .pick [.t 181,.t 184,.c (.bool false)]]
def a104r40 : List IOp := [oV 186 0,
oV 187 20,
oV 188 2,
oV 189 24,
oV 190 4,
oR 191 (.call 110) [.t 186,.t 187,.t 188,.t 189,.t 190]]
def a104r41 : List IOp := [oV 192 1,
oV 193 20,
oR 194 (.bin .lss) [.t 192,.t 193],
oV 195 194,
oG 196 .mv [.t 20] 195 true,
oG 197 .mv [.t 18] 195 true,
oG 198 (.bin .lss) [.t 196,.t 197] 195 true,
oR 199 .pick [.t 195,.t 198,.c (.bool false)]]
def a104r42 : List IOp := [oV 200 0,
oV 201 1,
oV 202 20,
oV 203 18,
oV 204 4,
oR 205 (.call 104) [.t 200,.t 201,.t 202,.t 203,.t 204]]
def a104r43 : List IOp := [oV 206 18,
oV 207 24,
oR 208 (.bin .lss) [.t 206,.t 207],
oV 209 208,
oG 210 .mv [.t 24] 209 true,
oG 211 .mv [.t 3] 209 true,
oG 212 (.bin .lss) [.t 210,.t 211] 209 true,
oR 213 .pick [.t 209,.t 212,.c (.bool false)]]
def a104r44 : List IOp := [oV 214 0,
oV 215 18,
oV 216 24,
oV 217 3,
oV 218 4,
oR 219 (.call 104) [.t 214,.t 215,.t 216,.t 217,.t 218]]
def a104 : AFunc := ⟨220,[],(.seq (.seq (.region a104r0 [0,1,2,3,4,28]) (.cond (.t 28) (.seq (.region a104r1 [0,1,3,4,10]) (.seq (.region a104r2 [0,1,4,10,11]) (.seq (.block 0 (.loop (.seq (.seq (.region a104r3 [0,1,4,10,11,33]) (.cond (.t 33) .skip (.exit 0))) (.block 1 (.seq (.region a104r4 [0,1,4,10,11,12]) (.seq (.draw a104r5 [] [0,1,4,10,11,12,50]) (.cond (.t 50) (.region a104r6 [0,1,4,10,11]) (.region a104r7 [0,1,4,10,11])))))))) (.seq (.seq (.region a104r8 [0,10,13]) (.block 2 (.loop (.seq (.seq (.region a104r9 [0,10,13,58]) (.cond (.t 58) .skip (.exit 2))) (.seq (.block 3 (.draw a104r10 [] [0,10,13])) (.region a104r11 [0,10,13])))))) .ret)))) .skip)) (.seq (.seq (.region a104r12 [0,1,2,3,4,80]) (.cond (.t 80) (.seq (.region a104r13 [0,2,4,14]) (.seq (.region a104r14 [0,2,4,14,15]) (.seq (.block 4 (.loop (.seq (.seq (.region a104r15 [0,2,4,14,15,85]) (.cond (.t 85) .skip (.exit 4))) (.block 5 (.seq (.region a104r16 [0,2,4,14,15,16]) (.seq (.draw a104r17 [] [0,2,4,14,15,16,103]) (.cond (.t 103) (.region a104r18 [0,2,4,14,15]) (.region a104r19 [0,2,4,14,15])))))))) (.seq (.seq (.region a104r20 [0,14,17]) (.block 6 (.loop (.seq (.seq (.region a104r21 [0,14,17,110]) (.cond (.t 110) .skip (.exit 6))) (.seq (.block 7 (.draw a104r22 [] [0,14,17])) (.region a104r23 [0,14,17])))))) .ret)))) .skip)) (.seq (.region a104r24 [0,1,2,3,4,18]) (.seq (.region a104r25 [0,1,2,3,4,18,19]) (.seq (.region a104r26 [0,1,2,3,4,18,19]) (.seq (.seq (.region a104r27 [0,1,2,3,4,18,19,140]) (.cond (.t 140) (.seq (.region a104r28 [0,1,2,3,4,18,19,20]) (.region a104r29 [0,1,2,3,4,18,19,20,21])) (.seq (.region a104r30 [0,1,2,3,4,18,19,20]) (.region a104r31 [0,1,2,3,4,18,19,20,21])))) (.seq (.region a104r32 [0,1,2,3,4,18,19,20,21,22]) (.seq (.block 8 (.loop (.seq (.seq (.region a104r33 [0,1,2,3,4,18,19,20,21,22,151]) (.cond (.t 151) .skip (.exit 8))) (.block 9 (.seq (.region a104r34 [0,1,2,3,4,18,19,20,21,22,23]) (.seq (.draw a104r35 [] [0,1,2,3,4,18,19,20,21,22,23,171]) (.cond (.t 171) (.region a104r36 [0,1,2,3,4,18,19,20,21,22]) (.region a104r37 [0,1,2,3,4,18,19,20,21,22])))))))) (.seq (.region a104r38 [0,1,2,3,4,18,20,24]) (.seq (.seq (.region a104r39 [0,1,2,3,4,18,20,24,185]) (.cond (.t 185) (.region a104r40 [0,1,3,4,18,20,24]) .skip)) (.seq (.seq (.region a104r41 [0,1,3,4,18,20,24,199]) (.cond (.t 199) (.region a104r42 [0,3,4,18,24]) .skip)) (.seq (.region a104r43 [0,3,4,18,24,213]) (.cond (.t 213) (.region a104r44 []) .skip)))))))))))))⟩
theorem a104_ok : compileF Tryz.prog (lk [(0,⟨[0,1,2,3,4,28],[],[]⟩),(1,⟨[0,1,3,4,10],[],[]⟩),(2,⟨[0,1,4,10,11],[],[]⟩),(3,⟨[0,1,4,10,11,33],[],[]⟩),(4,⟨[0,1,4,10,11,12],[],[]⟩),(5,⟨[0,1,4,10,11,12,50],[[],[],[],[1,2],[3,1,2],[],[],[5,6],[7,5,6],[0,4,8,3,1,2,7,5,6],[9,0,4,8,3,1,2,7,5,6]],[0,1,2,3,4,5,6,7,8,9,10]⟩),(6,⟨[0,1,4,10,11],[],[]⟩),(7,⟨[0,1,4,10,11],[],[]⟩),(8,⟨[0,10,13],[],[]⟩),(9,⟨[0,10,13,58],[],[]⟩),(10,⟨[0,10,13],[],[]⟩),(11,⟨[0,10,13],[[],[],[],[],[3],[],[],[6],[5,7,6],[8,5,7,6],[],[],[10,11],[12,10,11],[0,1,5,6,7,8,9,13,12,10,11],[14,9,0,1,5,6,7,8,13,12,10,11],[2,4,0,1,3,5,6,7,8,9,10,11,12,13,14,15],[16,13,15,0,1,2,3,4,5,6,7,8,9,10,11,12,14]],[0,1,2,3,4,5,6,7,8,9,10,11,12,13,14,15,16,17]⟩),(12,⟨[0,1,2,3,4,80],[],[]⟩),(13,⟨[0,2,4,14],[],[]⟩),(14,⟨[0,2,4,14,15],[],[]⟩),(15,⟨[0,2,4,14,15,85],[],[]⟩),(16,⟨[0,2,4,14,15,16],[],[]⟩),(17,⟨[0,2,4,14,15,16,103],[[],[],[],[1,2],[3,1,2],[],[],[5,6],[7,5,6],[0,4,8,3,1,2,7,5,6],[9,0,4,8,3,1,2,7,5,6],[10,9,0,4,8,3,1,2,7,5,6]],[0,1,2,3,4,5,6,7,8,9,10,11]⟩),(18,⟨[0,2,4,14,15],[],[]⟩),(19,⟨[0,2,4,14,15],[],[]⟩),(20,⟨[0,14,17],[],[]⟩),(21,⟨[0,14,17,110],[],[]⟩),(22,⟨[0,14,17],[],[]⟩),(23,⟨[0,14,17],[[],[],[],[],[3],[],[],[6],[5,7,6],[8,5,7,6],[],[],[10,11],[12,10,11],[0,1,5,6,7,8,9,13,12,10,11],[14,9,0,1,5,6,7,8,13,12,10,11],[2,4,0,1,3,5,6,7,8,9,10,11,12,13,14,15],[16,13,15,0,1,2,3,4,5,6,7,8,9,10,11,12,14]],[0,1,2,3,4,5,6,7,8,9,10,11,12,13,14,15,16,17]⟩),(24,⟨[0,1,2,3,4,18],[],[]⟩),(25,⟨[0,1,2,3,4,18,19],[],[]⟩),(26,⟨[0,1,2,3,4,18,19],[],[]⟩),(27,⟨[0,1,2,3,4,18,19,140],[],[]⟩),(28,⟨[0,1,2,3,4,18,19,20],[],[]⟩),(29,⟨[0,1,2,3,4,18,19,20,21],[],[]⟩),(30,⟨[0,1,2,3,4,18,19,20],[],[]⟩),(31,⟨[0,1,2,3,4,18,19,20,21],[],[]⟩),(32,⟨[0,1,2,3,4,18,19,20,21,22],[],[]⟩),(33,⟨[0,1,2,3,4,18,19,20,21,22,151],[],[]⟩),(34,⟨[0,1,2,3,4,18,19,20,21,22,23],[],[]⟩),(35,⟨[0,1,2,3,4,18,19,20,21,22,23,171],[[],[],[],[],[2,3],[1,4,2,3],[5,1,4,2,3],[],[],[7,8],[9,7,8],[0,6,10,5,1,4,2,3,9,7,8],[11,0,6,10,5,1,4,2,3,9,7,8],[12,11,0,6,10,5,1,4,2,3,9,7,8]],[0,1,2,3,4,5,6,7,8,9,10,11,12,13]⟩),(36,⟨[0,1,2,3,4,18,19,20,21,22],[],[]⟩),(37,⟨[0,1,2,3,4,18,19,20,21,22],[],[]⟩),(38,⟨[0,1,2,3,4,18,20,24],[],[]⟩),(39,⟨[0,1,2,3,4,18,20,24,185],[],[]⟩),(40,⟨[0,1,3,4,18,20,24],[],[]⟩),(41,⟨[0,1,3,4,18,20,24,199],[],[]⟩),(42,⟨[0,3,4,18,24],[],[]⟩),(43,⟨[0,3,4,18,24,213],[],[]⟩),(44,⟨[],[],[]⟩)]) Tryz.f104 = some a104 := by kernel_rfl

/- slices.rotateCmpFunc[int] -/
def a110r0 : List IOp := [oV 12 2,
oV 13 1,
oR 14 (.bin .sub) [.t 12,.t 13],
oV 10 14]
def a110r1 : List IOp := [oV 15 3,
oV 16 2,
oR 17 (.bin .sub) [.t 15,.t 16],
oV 11 17]
def a110r2 : List IOp := [oV 18 10,
oV 19 11,
oR 20 (.bin .neq) [.t 18,.t 19]]
def a110r3 : List IOp := [oV 21 10,
oV 22 11,
oR 23 (.bin .gtr) [.t 21,.t 22]]
def a110r4 : List IOp := [oV 24 0,
oV 25 2,
oV 26 10,
oR 27 (.bin .sub) [.t 25,.t 26],
oV 28 2,
oV 29 11,
oV 30 4,
oR 31 (.call 112) [.t 24,.t 27,.t 28,.t 29,.t 30]]
def a110r5 : List IOp := [oV 32 10,
oV 33 11,
oR 34 (.bin .sub) [.t 32,.t 33],
oV 10 34]
def a110r6 : List IOp := [oV 35 0,
oV 36 2,
oV 37 10,
oR 38 (.bin .sub) [.t 36,.t 37],
oV 39 2,
oV 40 11,
oR 41 (.bin .add) [.t 39,.t 40],
oV 42 10,
oR 43 (.bin .sub) [.t 41,.t 42],
oV 44 10,
oV 45 4,
oR 46 (.call 112) [.t 35,.t 38,.t 43,.t 44,.t 45]]
def a110r7 : List IOp := [oV 47 11,
oV 48 10,
oR 49 (.bin .sub) [.t 47,.t 48],
oV 11 49]
def a110r8 : List IOp := [oV 50 0,
oV 51 2,
oV 52 10,
oR 53 (.bin .sub) [.t 51,.t 52],
oV 54 2,
oV 55 10,
oV 56 4,
oR 57 (.call 112) [.t 50,.t 53,.t 54,.t 55,.t 56]]
def a110 : AFunc := ⟨58,[],(.seq (.region a110r0 [0,2,3,4,10]) (.seq (.region a110r1 [0,2,4,10,11]) (.seq (.block 0 (.loop (.seq (.seq (.region a110r2 [0,2,4,10,11,20]) (.cond (.t 20) .skip (.exit 0))) (.block 1 (.seq (.region a110r3 [0,2,4,10,11,23]) (.cond (.t 23) (.seq (.region a110r4 [0,2,4,10,11]) (.region a110r5 [0,2,4,10,11])) (.seq (.region a110r6 [0,2,4,10,11]) (.region a110r7 [0,2,4,10,11])))))))) (.region a110r8 []))))⟩
theorem a110_ok : compileF Tryz.prog (lk [(0,⟨[0,2,3,4,10],[],[]⟩),(1,⟨[0,2,4,10,11],[],[]⟩),(2,⟨[0,2,4,10,11,20],[],[]⟩),(3,⟨[0,2,4,10,11,23],[],[]⟩),(4,⟨[0,2,4,10,11],[],[]⟩),(5,⟨[0,2,4,10,11],[],[]⟩),(6,⟨[0,2,4,10,11],[],[]⟩),(7,⟨[0,2,4,10,11],[],[]⟩),(8,⟨[],[],[]⟩)]) Tryz.f110 = some a110 := by kernel_rfl

/- slices.swapRangeCmpFunc[int] -/
def a112r0 : List IOp := [oR 10 .mv [oI 0]]
def a112r1 : List IOp := [oV 11 10,
oV 12 3,
oR 13 (.bin .lss) [.t 11,.t 12]]
def a112r2 : List (Nat × DOp) := [(0,⟨oV 16 0,none,[1,2,3,4,5,6,7,8,9,10,11,12,13,14,15,16,17,18,19]⟩),
(1,⟨oV 17 1,none,[0,2,4,5,6,7,8,9,10,11,12,13,14,15,16,17,18,19]⟩),
(2,⟨oV 18 10,none,[0,1,4,5,6,7,8,9,10,11,12,13,14,15,16,17,18,19]⟩),
(3,⟨oR 19 (.bin .add) [.t 17,.t 18],none,[0,4,5,6,7,8,9,10,11,12,13,14,15,16,17,18,19]⟩),
(4,⟨oV 20 0,none,[0,1,2,3,5,6,7,8,9,10,11,12,13,14,15,16,17,18,19,20,21]⟩),
(5,⟨oV 21 2,none,[0,1,2,3,4,6,8,9,10,11,12,13,14,15,16,17,18,19,20,21]⟩),
(6,⟨oV 22 10,none,[0,1,2,3,4,5,8,9,10,11,12,13,14,15,16,17,18,19,20,21]⟩),
(7,⟨oR 23 (.bin .add) [.t 21,.t 22],none,[0,1,2,3,4,8,9,10,11,12,13,14,15,16,17,18,19,20,21]⟩),
(8,⟨oV 24 0,none,[0,1,2,3,4,5,6,7,9,10,11,14,15,16,17,18,19]⟩),
(9,⟨oV 25 2,none,[0,1,2,3,4,5,6,7,8,10,14,15,16,17,18,19]⟩),
(10,⟨oV 26 10,none,[0,1,2,3,4,5,6,7,8,9,14,15,16,17,18,19]⟩),
(11,⟨oR 27 (.bin .add) [.t 25,.t 26],none,[0,1,2,3,4,5,6,7,8,14,15,16,17,18,19]⟩),
(12,⟨oR 28 (.indexAddr 1) [.t 24,.t 27],none,[0,1,2,3,4,5,6,7,14,15,16,17,18,19]⟩),
(13,⟨oL 29 28,none,[0,1,2,3,4,5,6,7,14,15,16,17,18,19]⟩),
(14,⟨oV 30 0,none,[0,1,2,3,4,5,6,7,8,9,10,11,12,13,15,16,17]⟩),
(15,⟨oV 31 1,none,[0,1,2,3,4,5,6,7,8,9,10,11,12,13,14,16]⟩),
(16,⟨oV 32 10,none,[0,1,2,3,4,5,6,7,8,9,10,11,12,13,14,15]⟩),
(17,⟨oR 33 (.bin .add) [.t 31,.t 32],none,[0,1,2,3,4,5,6,7,8,9,10,11,12,13,14]⟩),
(18,⟨oR 34 (.indexAddr 1) [.t 30,.t 33],none,[0,1,2,3,4,5,6,7,8,9,10,11,12,13]⟩),
(19,⟨oL 35 34,none,[0,1,2,3,4,5,6,7,8,9,10,11,12,13]⟩),
(20,⟨oR 36 (.indexAddr 1) [.t 16,.t 19],none,[4,5,6,7]⟩),
(21,⟨oN (.store 1) [.t 36,.t 29],none,[4,5,6,7]⟩),
(22,⟨oR 37 (.indexAddr 1) [.t 20,.t 23],none,[]⟩),
(23,⟨oN (.store 1) [.t 37,.t 35],none,[]⟩)]
def a112r3 : List IOp := [oV 14 10,
oR 15 (.bin .add) [.t 14,oI 1],
oV 10 15]
def a112 : AFunc := ⟨38,[],(.seq (.region a112r0 [0,1,2,3,10]) (.block 0 (.loop (.seq (.seq (.region a112r1 [0,1,2,3,10,13]) (.cond (.t 13) .skip (.exit 0))) (.seq (.block 1 (.draw a112r2 [] [0,1,2,3,10])) (.region a112r3 [0,1,2,3,10]))))))⟩
theorem a112_ok : compileF Tryz.prog (lk [(0,⟨[0,1,2,3,10],[],[]⟩),(1,⟨[0,1,2,3,10,13],[],[]⟩),(2,⟨[0,1,2,3,10],[],[]⟩),(3,⟨[0,1,2,3,10],[[],[],[],[1,2],[],[],[],[5,6],[],[],[],[9,10],[8,11,9,10],[12,8,11,9,10],[],[],[],[15,16],[14,17,15,16],[18,14,17,15,16],[0,3,1,2,8,9,10,11,12,13,19,18,14,17,15,16],[20,13,0,1,2,3,8,9,10,11,12,19,18,14,17,15,16],[4,7,0,1,2,3,5,6,8,9,10,11,12,13,14,15,16,17,18,19,20,21],[22,19,21,0,1,2,3,4,5,6,7,8,9,10,11,12,13,14,15,16,17,18,20]],[0,1,2,3,4,5,6,7,8,9,10,11,12,13,14,15,16,17,18,19,20,21,22,23]⟩)]) Tryz.f112 = some a112 := by kernel_rfl

end Go.Proofs.YtlanehcihoiglaaGreatDoor
