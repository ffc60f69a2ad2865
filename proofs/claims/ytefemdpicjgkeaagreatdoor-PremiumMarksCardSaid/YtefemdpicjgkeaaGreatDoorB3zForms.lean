/- The abstract forms of the functions,printed by a program,and that the given program has these forms. -/
import Derived.Test.YtefemdpicjgkeaaGreatDoorAbsMd
import Derived.Test.YtefemdpicjgkeaaGreatDoorProg
import Derived.KernelRfl
set_option linter.unusedSimpArgs false
set_option linter.unusedVariables false
set_option linter.unusedSectionVars false
namespace Go.Proofs.YtefemdpicjgkeaaGreatDoor
open Go Go.Abs
/- payroll/payrolllaw13.PremiumMarks -/
def a3r0 : List IOp := [⟨some 2,.mv,[.c (.bool false)],none⟩]
def a3r1 : List IOp := [⟨some 13,.mv,[.t 0],none⟩,
  ⟨some 14,.call 4,[.t 13],none⟩,
  ⟨some 3,.mv,[.t 14],none⟩]
def a3r2 : List IOp := [⟨some 4,.mv,[.c (.int .i64 0)],none⟩]
def a3r3 : List IOp := [⟨some 15,.mv,[.t 4],none⟩,
  ⟨some 16,.bin .lss,[.t 15,.c (.int .i64 2)],none⟩]
def a3r4 : List IOp := [⟨some 19,.mv,[.t 3],none⟩,
  ⟨some 20,.call 5,[.t 19],none⟩,
  ⟨some 21,.mv,[.t 3],none⟩,
  ⟨some 22,.call 6,[.t 21,.c (.bool true)],none⟩,
  ⟨some 23,.mv,[.t 3],none⟩,
  ⟨some 24,.call 7,[.t 23,.c (.bool true)],none⟩,
  ⟨some 25,.mv,[.t 3],none⟩,
  ⟨some 26,.mv,[.t 3],none⟩,
  ⟨some 27,.call 9,[.t 26,.c (.int .i64 4)],none⟩,
  ⟨some 28,.call 8,[.t 25,.t 27],none⟩,
  ⟨some 5,.alloc 27 [.int .i64 0,.nils],[],none⟩,
  ⟨none,.store 2,[.t 5,.t 20],none⟩,
  ⟨some 6,.mv,[.t 22],none⟩,
  ⟨some 7,.mv,[.t 24],none⟩,
  ⟨some 8,.mv,[.t 28],none⟩]
def a3r5 : List IOp := [⟨some 29,.mv,[.t 3],none⟩,
  ⟨some 30,.call 10,[.t 29,.c (.int .i64 10)],none⟩,
  ⟨some 31,.bin .eql,[.t 30,.c (.int .i64 9)],none⟩]
def a3r6 : List IOp := [⟨some 32,.mv,[.t 3],none⟩,
  ⟨some 33,.loadA 2,[.t 5],none⟩,
  ⟨some 34,.call 11,[.t 32,.t 33],none⟩,
  ⟨none,.store 2,[.t 5,.t 34],none⟩]
def a3r7 : List IOp := [⟨some 36,.loadA 2,[.t 5],none⟩,
  ⟨some 37,.mv,[.t 6],none⟩,
  ⟨some 38,.mv,[.t 7],none⟩,
  ⟨some 39,.mv,[.t 8],none⟩,
  ⟨some 40,.call 12,[.t 36,.t 37,.t 38,.t 39],none⟩,
  ⟨some 35,.mv,[.t 40],none⟩,
  ⟨some 41,.extract 0,[.t 35],none⟩,
  ⟨some 42,.extract 1,[.t 35],none⟩,
  ⟨some 9,.mv,[.t 41],none⟩,
  ⟨some 10,.mv,[.t 42],none⟩]
def a3r8 : List IOp := [⟨some 44,.loadA 2,[.t 5],none⟩,
  ⟨some 45,.mv,[.t 6],none⟩,
  ⟨some 46,.mv,[.t 7],none⟩,
  ⟨some 47,.mv,[.t 8],none⟩,
  ⟨some 48,.call 13,[.t 44,.t 45,.t 46,.t 47],none⟩,
  ⟨some 43,.mv,[.t 48],none⟩,
  ⟨some 49,.extract 0,[.t 43],none⟩,
  ⟨some 50,.extract 1,[.t 43],none⟩,
  ⟨some 11,.mv,[.t 49],none⟩,
  ⟨some 12,.mv,[.t 50],none⟩]
def a3r9 : List (Nat × DOp) := [(0,⟨⟨some 51,.mv,[.t 9],none⟩,none,[1]⟩),
  (1,⟨⟨some 52,.mv,[.t 11],none⟩,none,[0]⟩),
  (2,⟨⟨some 53,.call 14,[.t 51,.t 52],none⟩,none,[]⟩),
  (3,⟨⟨some 54,.not,[.t 53],none⟩,none,[]⟩),
  (4,⟨⟨some 55,.mv,[.t 54],none⟩,none,[]⟩),
  (5,⟨⟨some 56,.mv,[.t 10],some (55,false)⟩,none,[6]⟩),
  (6,⟨⟨some 57,.mv,[.t 12],some (55,false)⟩,none,[5]⟩),
  (7,⟨⟨some 58,.bin .neq,[.t 56,.t 57],some (55,false)⟩,none,[]⟩),
  (8,⟨⟨some 59,.pick,[.t 55,.c (.bool true),.t 58],none⟩,none,[]⟩),
  (9,⟨⟨some 60,.mv,[.t 59],none⟩,none,[]⟩),
  (10,⟨⟨some 61,.loadA 2,[.t 5],some (60,false)⟩,none,[11,12,14,15,16]⟩),
  (11,⟨⟨some 62,.mv,[.t 6],some (60,false)⟩,none,[10,12,14,15,16]⟩),
  (12,⟨⟨some 63,.mv,[.t 7],some (60,false)⟩,none,[10,11,14,15,16]⟩),
  (14,⟨⟨some 65,.loadA 2,[.t 5],some (60,false)⟩,none,[10,11,12,13,15,16]⟩),
  (15,⟨⟨some 66,.mv,[.t 6],some (60,false)⟩,none,[10,11,12,13,14,16]⟩),
  (16,⟨⟨some 67,.mv,[.t 7],some (60,false)⟩,none,[10,11,12,13,14,15]⟩),
  (13,⟨⟨some 64,.call 15,[.t 61,.t 62,.t 63],some (60,false)⟩,none,[14,15,16]⟩),
  (17,⟨⟨some 68,.call 16,[.t 65,.t 66,.t 67],some (60,false)⟩,none,[]⟩),
  (18,⟨⟨some 69,.bin .neq,[.t 64,.t 68],some (60,false)⟩,none,[]⟩),
  (19,⟨⟨some 70,.pick,[.t 60,.c (.bool true),.t 69],none⟩,none,[]⟩)]
def a3r10 : List IOp := [⟨some 2,.mv,[.c (.bool false)],none⟩]
def a3r11 : List IOp := [⟨some 17,.mv,[.t 4],none⟩,
  ⟨some 18,.bin .add,[.t 17,.c (.int .i64 1)],none⟩,
  ⟨some 4,.mv,[.t 18],none⟩]
def a3r12 : List IOp := [⟨some 71,.call 17,[],none⟩,
  ⟨some 2,.mv,[.t 71],none⟩]
def a3 : AFunc := ⟨72,[.tmp 2],(.seq (.region a3r0 [0]) (.seq (.region a3r1 [3]) (.seq (.seq (.region a3r2 [3,4]) (.block 0 (.loop (.seq (.seq (.region a3r3 [3,4,16]) (.cond (.t 16) .skip (.exit 0))) (.seq (.block 1 (.seq (.region a3r4 [3,4,5,6,7,8]) (.seq (.seq (.region a3r5 [3,4,5,6,7,8,31]) (.cond (.t 31) (.region a3r6 [3,4,5,6,7,8]) .skip)) (.seq (.region a3r7 [3,4,5,6,7,8,9,10]) (.seq (.region a3r8 [3,4,5,6,7,9,10,11,12]) (.seq (.draw a3r9 [] [3,4,70]) (.cond (.t 70) (.seq (.region a3r10 [2]) .ret) .skip))))))) (.region a3r11 [3,4])))))) (.seq (.region a3r12 [2]) .ret))))⟩
theorem a3_ok : compileF Tryz.prog (lk [(0,⟨[0],[],[]⟩),(1,⟨[3],[],[]⟩),(2,⟨[3,4],[],[]⟩),(3,⟨[3,4,16],[],[]⟩),(4,⟨[3,4],[],[]⟩),(5,⟨[3,4,5,6,7,8],[],[]⟩),(6,⟨[3,4,5,6,7,8,31],[],[]⟩),(7,⟨[3,4,5,6,7,8],[],[]⟩),(8,⟨[3,4,5,6,7,8,9,10],[],[]⟩),(9,⟨[3,4,5,6,7,9,10,11,12],[],[]⟩),(10,⟨[3,4,70],[[],[],[0,1],[2,0,1],[3,2,0,1],[4,3,2,0,1],[4,3,2,0,1],[5,6,4,3,2,0,1],[4,7,3,2,0,1,5,6],[8,4,7,3,2,0,1,5,6],[9,8,4,7,3,2,0,1,5,6],[9,8,4,7,3,2,0,1,5,6],[9,8,4,7,3,2,0,1,5,6],[10,11,12,9,8,4,7,3,2,0,1,5,6],[9,8,4,7,3,2,0,1,5,6],[9,8,4,7,3,2,0,1,5,6],[9,8,4,7,3,2,0,1,5,6],[14,15,16,13,9,8,4,7,3,2,0,1,5,6,10,11,12],[13,17,9,10,11,12,8,4,7,3,2,0,1,5,6,14,15,16],[9,18,8,4,7,3,2,0,1,5,6,13,17,10,11,12,14,15,16]],[0,1,2,3,4,5,6,7,8,9,10,11,12,14,15,16,13,17,18,19]⟩),(11,⟨[2],[],[]⟩),(12,⟨[2],[],[]⟩)]) Tryz.f3 = some a3 := by kernel_rfl

/- payroll/payrollgen.New -/
def a4r0 : List IOp := [⟨some 2,.mv,[.c (.nilp)],none⟩]
def a4r1 : List IOp := [⟨some 3,.mv,[.t 0],none⟩,
  ⟨some 4,.build [.nils,.int .i64 0] [(0,1)],[.t 3],none⟩,
  ⟨some 5,.box 47 2,[.t 4],none⟩,
  ⟨some 2,.mv,[.t 5],none⟩]
def a4 : AFunc := ⟨6,[.tmp 2],(.seq (.region a4r0 [0]) (.seq (.region a4r1 [2]) .ret))⟩
theorem a4_ok : compileF Tryz.prog (lk [(0,⟨[0],[],[]⟩),(1,⟨[2],[],[]⟩)]) Tryz.f4 = some a4 := by kernel_rfl

/- (*payroll/payrollgen.Tape).Zone -/
def a5r0 : List IOp := [⟨some 2,.alloc 27 [.int .i64 0,.nils],[],none⟩]
def a5r1 : List IOp := [⟨some 6,.mv,[.t 0],none⟩,
  ⟨some 7,.bslice 3 1 [.int .i64 0] 6 [0,1,2,3,4,5],[.c (.int .i64 0),.c (.int .i64 60),.c (.int .i64 (-300)),.c (.int .i64 840),.c (.int .i64 (-840)),.c (.int .i64 570)],none⟩,
  ⟨some 8,.call 18,[.t 6,.t 7],none⟩,
  ⟨some 9,.build [.int .i64 0,.nils] [(0,1)],[.t 8],none⟩,
  ⟨some 3,.alloc 27 [.int .i64 0,.nils],[],none⟩,
  ⟨none,.store 2,[.t 3,.t 9],none⟩]
def a5r2 : List IOp := [⟨some 10,.mv,[.t 0],none⟩,
  ⟨some 11,.bslice 3 1 [.int .i64 0] 5 [0,1,2,3,4],[.c (.int .i64 0),.c (.int .i64 29453760),.c (.int .i64 29455200),.c (.int .i64 29456700),.c (.int .i64 29453060)],none⟩,
  ⟨some 12,.call 18,[.t 10,.t 11],none⟩,
  ⟨some 4,.mv,[.t 12],none⟩]
def a5r3 : List IOp := [⟨some 13,.mv,[.t 0],none⟩,
  ⟨some 14,.call 10,[.t 13,.c (.int .i64 4)],none⟩,
  ⟨some 5,.mv,[.t 14],none⟩]
def a5r4 : List IOp := [⟨some 15,.mv,[.t 5],none⟩,
  ⟨some 16,.bin .gtr,[.t 15,.c (.int .i64 0)],none⟩]
def a5r5 : List (Nat × DOp) := [(0,⟨⟨some 19,.fieldAddr 1,[.t 3],none⟩,none,[2,3,4,5,6,7]⟩),
  (1,⟨⟨some 20,.load1,[.t 19],none⟩,none,[2,3,4,5,6,7]⟩),
  (2,⟨⟨some 21,.mv,[.t 4],none⟩,none,[0,1,3,4,5]⟩),
  (3,⟨⟨some 22,.mv,[.t 0],none⟩,none,[0,1,2,4]⟩),
  (4,⟨⟨some 23,.bslice 3 1 [.int .i64 0] 6 [0,1,2,3,4,5],[.c (.int .i64 60),.c (.int .i64 120),.c (.int .i64 0),.c (.int .i64 (-300)),.c (.int .i64 840),.c (.int .i64 (-840))],none⟩,some 0,[0,1,2,3]⟩),
  (5,⟨⟨some 24,.call 18,[.t 22,.t 23],none⟩,none,[0,1,2]⟩),
  (6,⟨⟨some 25,.build [.int .i64 0,.int .i64 0] [(0,1),(1,1)],[.t 21,.t 24],none⟩,none,[0,1]⟩),
  (7,⟨⟨some 26,.bslice 50 2 [.int .i64 0,.int .i64 0] 1 [0],[.t 25],none⟩,some 1,[0,1]⟩),
  (8,⟨⟨some 27,.append 50 2 16,[.t 20,.t 26],none⟩,none,[]⟩),
  (9,⟨⟨some 28,.fieldAddr 1,[.t 3],none⟩,none,[]⟩),
  (10,⟨⟨none,.store 1,[.t 28,.t 27],none⟩,none,[]⟩)]
def a5r6 : List IOp := [⟨some 29,.mv,[.t 4],none⟩,
  ⟨some 30,.mv,[.t 0],none⟩,
  ⟨some 31,.bslice 3 1 [.int .i64 0] 5 [0,1,2,3,4],[.c (.int .i64 60),.c (.int .i64 1440),.c (.int .i64 30),.c (.int .i64 4320),.c (.int .i64 1)],none⟩,
  ⟨some 32,.call 18,[.t 30,.t 31],none⟩,
  ⟨some 33,.bin .add,[.t 29,.t 32],none⟩,
  ⟨some 4,.mv,[.t 33],none⟩]
def a5r7 : List IOp := [⟨some 17,.mv,[.t 5],none⟩,
  ⟨some 18,.bin .sub,[.t 17,.c (.int .i64 1)],none⟩,
  ⟨some 5,.mv,[.t 18],none⟩]
def a5r8 : List IOp := [⟨some 34,.loadA 2,[.t 3],none⟩,
  ⟨none,.store 2,[.t 2,.t 34],none⟩]
def a5 : AFunc := ⟨35,[.cellA 2 2],(.seq (.region a5r0 [0,2]) (.seq (.region a5r1 [0,2,3]) (.seq (.region a5r2 [0,2,3,4]) (.seq (.seq (.region a5r3 [0,2,3,4,5]) (.block 0 (.loop (.seq (.seq (.region a5r4 [0,2,3,4,5,16]) (.cond (.t 16) .skip (.exit 0))) (.seq (.block 1 (.seq (.draw a5r5 [(3,1),(50,2)] [0,2,3,4,5]) (.region a5r6 [0,2,3,4,5]))) (.region a5r7 [0,2,3,4,5])))))) (.seq (.region a5r8 [2]) .ret)))))⟩
theorem a5_ok : compileF Tryz.prog (lk [(0,⟨[0,2],[],[]⟩),(1,⟨[0,2,3],[],[]⟩),(2,⟨[0,2,3,4],[],[]⟩),(3,⟨[0,2,3,4,5],[],[]⟩),(4,⟨[0,2,3,4,5,16],[],[]⟩),(5,⟨[0,2,3,4,5],[],[]⟩),(6,⟨[0,2,3,4,5],[[],[0],[],[],[],[3,4],[2,5,3,4],[6,2,5,3,4],[1,7,5,0,6,2,3,4],[0,1,2,3,4,5,6,7,8],[9,8,0,1,2,3,4,5,6,7]],[0,1,2,3,4,5,6,7,8,9,10]⟩),(7,⟨[0,2,3,4,5],[],[]⟩),(8,⟨[2],[],[]⟩)]) Tryz.f5 = some a5 := by kernel_rfl

/- (*payroll/payrollgen.Tape).Holidays -/
def a6r0 : List IOp := [⟨some 4,.mv,[.c (.nils)],none⟩]
def a6r1 : List IOp := [⟨some 8,.build [.int .i64 0,.int .i64 0,.int .i64 0,.int .i64 0,.int .i64 0,.bool false] [(0,1),(1,1),(2,1)],[.c (.int .i64 0),.c (.int .i64 1),.c (.int .i64 1)],none⟩,
  ⟨some 9,.build [.int .i64 0,.int .i64 0,.int .i64 0,.int .i64 0,.int .i64 0,.bool false] [(0,1),(1,1),(2,1),(5,1)],[.c (.int .i64 0),.c (.int .i64 12),.c (.int .i64 25),.c (.bool true)],none⟩,
  ⟨some 10,.build [.int .i64 0,.int .i64 0,.int .i64 0,.int .i64 0,.int .i64 0,.bool false] [(0,1),(1,1),(2,1)],[.c (.int .i64 0),.c (.int .i64 2),.c (.int .i64 29)],none⟩,
  ⟨some 11,.build [.int .i64 0,.int .i64 0,.int .i64 0,.int .i64 0,.int .i64 0,.bool false] [(0,1),(4,1)],[.c (.int .i64 1),.c (.int .i64 1)],none⟩,
  ⟨some 12,.build [.int .i64 0,.int .i64 0,.int .i64 0,.int .i64 0,.int .i64 0,.bool false] [(0,1),(4,1)],[.c (.int .i64 1),.c (.int .i64 (-2))],none⟩,
  ⟨some 13,.build [.int .i64 0,.int .i64 0,.int .i64 0,.int .i64 0,.int .i64 0,.bool false] [(0,1),(4,1)],[.c (.int .i64 1),.c (.int .i64 (-100))],none⟩,
  ⟨some 14,.build [.int .i64 0,.int .i64 0,.int .i64 0,.int .i64 0,.int .i64 0,.bool false] [(0,1),(1,1),(3,1),(2,1)],[.c (.int .i64 2),.c (.int .i64 11),.c (.int .i64 3),.c (.int .i64 4)],none⟩,
  ⟨some 15,.build [.int .i64 0,.int .i64 0,.int .i64 0,.int .i64 0,.int .i64 0,.bool false] [(0,1),(1,1),(3,1),(2,1)],[.c (.int .i64 2),.c (.int .i64 1),.c (.int .i64 0),.c (.int .i64 (-1))],none⟩,
  ⟨some 16,.build [.int .i64 0,.int .i64 0,.int .i64 0,.int .i64 0,.int .i64 0,.bool false] [(0,1),(1,1),(3,1),(2,1),(5,1)],[.c (.int .i64 2),.c (.int .i64 1),.c (.int .i64 5),.c (.int .i64 1),.c (.bool true)],none⟩,
  ⟨some 17,.build [.int .i64 0,.int .i64 0,.int .i64 0,.int .i64 0,.int .i64 0,.bool false] [(0,1),(1,1),(3,1),(2,1),(4,1)],[.c (.int .i64 2),.c (.int .i64 12),.c (.int .i64 3),.c (.int .i64 5),.c (.int .i64 7)],none⟩,
  ⟨some 18,.build [.int .i64 0,.int .i64 0,.int .i64 0,.int .i64 0,.int .i64 0,.bool false] [(0,1),(1,1),(3,1),(2,1),(4,1)],[.c (.int .i64 2),.c (.int .i64 1),.c (.int .i64 4),.c (.int .i64 1),.c (.int .i64 (-7))],none⟩,
  ⟨some 19,.bslice 52 6 [.int .i64 0,.int .i64 0,.int .i64 0,.int .i64 0,.int .i64 0,.bool false] 11 [0,1,2,3,4,5,6,7,8,9,10],[.t 8,.t 9,.t 10,.t 11,.t 12,.t 13,.t 14,.t 15,.t 16,.t 17,.t 18],none⟩,
  ⟨some 5,.mv,[.t 19],none⟩]
def a6r2 : List IOp := [⟨some 6,.mv,[.c (.nils)],none⟩]
def a6r3 : List IOp := [⟨some 20,.mv,[.t 0],none⟩,
  ⟨some 21,.call 10,[.t 20,.c (.int .i64 4)],none⟩,
  ⟨some 7,.mv,[.t 21],none⟩]
def a6r4 : List IOp := [⟨some 22,.mv,[.t 7],none⟩,
  ⟨some 23,.bin .gtr,[.t 22,.c (.int .i64 0)],none⟩]
def a6r5 : List IOp := [⟨some 26,.mv,[.t 6],none⟩,
  ⟨some 27,.mv,[.t 5],none⟩,
  ⟨some 28,.mv,[.t 0],none⟩,
  ⟨some 29,.mv,[.t 5],none⟩,
  ⟨some 30,.len,[.t 29],none⟩,
  ⟨some 31,.call 10,[.t 28,.t 30],none⟩,
  ⟨some 32,.indexAddr 6,[.t 27,.t 31],none⟩,
  ⟨some 33,.loadA 6,[.t 32],none⟩,
  ⟨some 34,.bslice 52 6 [.int .i64 0,.int .i64 0,.int .i64 0,.int .i64 0,.int .i64 0,.bool false] 1 [0],[.t 33],none⟩,
  ⟨some 35,.append 52 6 48,[.t 26,.t 34],none⟩,
  ⟨some 6,.mv,[.t 35],none⟩]
def a6r6 : List IOp := [⟨some 24,.mv,[.t 7],none⟩,
  ⟨some 25,.bin .sub,[.t 24,.c (.int .i64 1)],none⟩,
  ⟨some 7,.mv,[.t 25],none⟩]
def a6r7 : List IOp := [⟨some 36,.mv,[.t 1],none⟩,
  ⟨some 37,.mv,[.t 36],none⟩,
  ⟨some 38,.mv,[.t 0],some (37,true)⟩,
  ⟨some 39,.call 10,[.t 38,.c (.int .i64 6)],some (37,true)⟩,
  ⟨some 40,.bin .eql,[.t 39,.c (.int .i64 5)],some (37,true)⟩,
  ⟨some 41,.pick,[.t 37,.t 40,.c (.bool false)],none⟩]
def a6r8 : List IOp := [⟨some 42,.mv,[.t 6],none⟩,
  ⟨some 43,.mv,[.t 0],none⟩,
  ⟨some 44,.call 10,[.t 43,.c (.int .i64 4)],none⟩,
  ⟨some 45,.mv,[.t 0],none⟩,
  ⟨some 46,.call 10,[.t 45,.c (.int .i64 14)],none⟩,
  ⟨some 47,.mv,[.t 0],none⟩,
  ⟨some 48,.bslice 3 1 [.int .i64 0] 4 [0,1,2,3],[.c (.int .i64 0),.c (.int .i64 6),.c (.int .i64 31),.c (.int .i64 (-1))],none⟩,
  ⟨some 49,.call 18,[.t 47,.t 48],none⟩,
  ⟨some 50,.mv,[.t 0],none⟩,
  ⟨some 51,.call 10,[.t 50,.c (.int .i64 8)],none⟩,
  ⟨some 52,.mv,[.t 0],none⟩,
  ⟨some 53,.bslice 3 1 [.int .i64 0] 3 [0,1,2],[.c (.int .i64 0),.c (.int .i64 8),.c (.int .i64 101)],none⟩,
  ⟨some 54,.call 18,[.t 52,.t 53],none⟩,
  ⟨some 55,.build [.int .i64 0,.int .i64 0,.int .i64 0,.int .i64 0,.int .i64 0,.bool false] [(0,1),(1,1),(2,1),(3,1),(4,1)],[.t 44,.t 46,.t 49,.t 51,.t 54],none⟩,
  ⟨some 56,.bslice 52 6 [.int .i64 0,.int .i64 0,.int .i64 0,.int .i64 0,.int .i64 0,.bool false] 1 [0],[.t 55],none⟩,
  ⟨some 57,.append 52 6 48,[.t 42,.t 56],none⟩,
  ⟨some 6,.mv,[.t 57],none⟩]
def a6r9 : List IOp := [⟨some 58,.mv,[.t 6],none⟩,
  ⟨some 4,.mv,[.t 58],none⟩]
def a6 : AFunc := ⟨59,[.tmp 4],(.seq (.region a6r0 [0,1]) (.seq (.region a6r1 [0,1,5]) (.seq (.region a6r2 [0,1,5,6]) (.seq (.seq (.region a6r3 [0,1,5,6,7]) (.block 0 (.loop (.seq (.seq (.region a6r4 [0,1,5,6,7,23]) (.cond (.t 23) .skip (.exit 0))) (.seq (.block 1 (.region a6r5 [0,1,5,6,7])) (.region a6r6 [0,1,5,6,7])))))) (.seq (.seq (.region a6r7 [0,6,41]) (.cond (.t 41) (.region a6r8 [6]) .skip)) (.seq (.region a6r9 [4]) .ret))))))⟩
theorem a6_ok : compileF Tryz.prog (lk [(0,⟨[0,1],[],[]⟩),(1,⟨[0,1,5],[],[]⟩),(2,⟨[0,1,5,6],[],[]⟩),(3,⟨[0,1,5,6,7],[],[]⟩),(4,⟨[0,1,5,6,7,23],[],[]⟩),(5,⟨[0,1,5,6,7],[],[]⟩),(6,⟨[0,1,5,6,7],[],[]⟩),(7,⟨[0,6,41],[],[]⟩),(8,⟨[6],[],[]⟩),(9,⟨[4],[],[]⟩)]) Tryz.f6 = some a6 := by kernel_rfl

/- (*payroll/payrollgen.Tape).Windows -/
def a7r0 : List IOp := [⟨some 4,.mv,[.c (.nils)],none⟩]
def a7r1 : List IOp := [⟨some 5,.mv,[.c (.nils)],none⟩]
def a7r2 : List IOp := [⟨some 8,.mv,[.t 0],none⟩,
  ⟨some 9,.call 10,[.t 8,.c (.int .i64 4)],none⟩,
  ⟨some 6,.mv,[.t 9],none⟩]
def a7r3 : List IOp := [⟨some 10,.mv,[.t 6],none⟩,
  ⟨some 11,.bin .gtr,[.t 10,.c (.int .i64 0)],none⟩]
def a7r4 : List (Nat × DOp) := [(0,⟨⟨some 14,.bslice 9 1 [.str ⟨#[]⟩] 4 [0,1,2,3],[.c (.str ⟨#[110,105,103,104,116]⟩),.c (.str ⟨#[108,97,116,101]⟩),.c (.str ⟨#[115,117,110,100,97,121]⟩),.c (.str ⟨#[104,111,108,105,100,97,121]⟩)],none⟩,some 0,[1,2,5,6,7,8,9,10,11,12,13,14,15,16,17,18,19,20,21,22,24]⟩),
  (1,⟨⟨some 15,.mv,[.t 0],none⟩,none,[0,5,6,10,12,13,15,16,18,19,21,24]⟩),
  (5,⟨⟨some 19,.bslice 9 1 [.str ⟨#[]⟩] 4 [0,1,2,3],[.c (.str ⟨#[]⟩),.c (.str ⟨#[97]⟩),.c (.str ⟨#[97]⟩),.c (.str ⟨#[98]⟩)],none⟩,some 1,[0,1,2,3,4,6,7,10,11,12,13,14,15,16,17,18,19,20,21,22,24]⟩),
  (6,⟨⟨some 20,.mv,[.t 0],none⟩,none,[0,1,2,3,4,5,10,12,13,15,16,18,19,21,24]⟩),
  (10,⟨⟨some 24,.mv,[.t 0],none⟩,none,[0,1,2,3,4,5,6,7,8,9,12,13,15,16,18,19,21,24]⟩),
  (12,⟨⟨some 26,.mv,[.t 0],none⟩,none,[0,1,2,3,4,5,6,7,8,9,10,11,13,15,16,18,19,21,24]⟩),
  (13,⟨⟨some 27,.bslice 3 1 [.int .i64 0] 4 [0,1,2,3],[.c (.int .i64 1320),.c (.int .i64 0),.c (.int .i64 1080),.c (.int .i64 360)],none⟩,some 2,[0,1,2,3,4,5,6,7,8,9,10,11,12,15,16,18,19,21,24]⟩),
  (15,⟨⟨some 29,.mv,[.t 0],none⟩,none,[0,1,2,3,4,5,6,7,8,9,10,11,12,13,14,16,18,19,21,24]⟩),
  (16,⟨⟨some 30,.bslice 3 1 [.int .i64 0] 5 [0,1,2,3,4],[.c (.int .i64 360),.c (.int .i64 1440),.c (.int .i64 0),.c (.int .i64 1380),.c (.int .i64 1080)],none⟩,some 3,[0,1,2,3,4,5,6,7,8,9,10,11,12,13,14,15,18,19,21,24]⟩),
  (18,⟨⟨some 32,.mv,[.t 0],none⟩,none,[0,1,2,3,4,5,6,7,8,9,10,11,12,13,14,15,16,17,19,21,24]⟩),
  (19,⟨⟨some 33,.bslice 3 1 [.int .i64 0] 5 [0,1,2,3,4],[.c (.int .i64 127),.c (.int .i64 64),.c (.int .i64 31),.c (.int .i64 8),.c (.int .i64 0)],none⟩,some 4,[0,1,2,3,4,5,6,7,8,9,10,11,12,13,14,15,16,17,18,21,24]⟩),
  (21,⟨⟨some 35,.mv,[.t 0],none⟩,none,[0,1,2,3,4,5,6,7,8,9,10,11,12,13,14,15,16,17,18,19,20,24]⟩),
  (24,⟨⟨some 7,.alloc 55 [.str ⟨#[]⟩,.str ⟨#[]⟩,.int .i64 0,.int .i64 0,.int .i64 0,.int .i64 0,.int .i64 0],[],none⟩,some 5,[0,1,2,3,4,5,6,7,8,9,10,11,12,13,14,15,16,17,18,19,20,21,22,23]⟩),
  (2,⟨⟨some 16,.call 10,[.t 15,.c (.int .i64 4)],none⟩,none,[0,5,6,10,12,13,15,16,18,19,21,24]⟩),
  (3,⟨⟨some 17,.indexAddr 1,[.t 14,.t 16],none⟩,none,[5,6,7,8,9,10,11,12,13,14,15,16,17,18,19,20,21,22,24]⟩),
  (4,⟨⟨some 18,.load1,[.t 17],none⟩,none,[5,6,7,8,9,10,11,12,13,14,15,16,17,18,19,20,21,22,24]⟩),
  (7,⟨⟨some 21,.call 10,[.t 20,.c (.int .i64 4)],none⟩,none,[0,3,4,5,10,12,13,15,16,18,19,21,24]⟩),
  (8,⟨⟨some 22,.indexAddr 1,[.t 19,.t 21],none⟩,none,[0,3,4,10,11,12,13,14,15,16,17,18,19,20,21,22,24]⟩),
  (9,⟨⟨some 23,.load1,[.t 22],none⟩,none,[0,3,4,10,11,12,13,14,15,16,17,18,19,20,21,22,24]⟩),
  (11,⟨⟨some 25,.call 10,[.t 24,.c (.int .i64 3)],none⟩,none,[0,3,4,5,8,9,12,13,15,16,18,19,21,24]⟩),
  (14,⟨⟨some 28,.call 18,[.t 26,.t 27],none⟩,none,[0,3,4,5,8,9,15,16,18,19,21,24]⟩),
  (17,⟨⟨some 31,.call 18,[.t 29,.t 30],none⟩,none,[0,3,4,5,8,9,18,19,21,24]⟩),
  (20,⟨⟨some 34,.call 18,[.t 32,.t 33],none⟩,none,[0,3,4,5,8,9,21,24]⟩),
  (22,⟨⟨some 36,.call 10,[.t 35,.c (.int .i64 3)],none⟩,none,[0,3,4,5,8,9,24]⟩),
  (23,⟨⟨some 37,.build [.str ⟨#[]⟩,.str ⟨#[]⟩,.int .i64 0,.int .i64 0,.int .i64 0,.int .i64 0,.int .i64 0] [(0,1),(1,1),(2,1),(3,1),(4,1),(5,1),(6,1)],[.t 18,.t 23,.t 25,.t 28,.t 31,.t 34,.t 36],none⟩,none,[24]⟩),
  (25,⟨⟨none,.store 7,[.t 7,.t 37],none⟩,none,[]⟩)]
def a7r5 : List IOp := [⟨some 38,.mv,[.t 1],none⟩,
  ⟨some 39,.mv,[.t 38],none⟩,
  ⟨some 40,.mv,[.t 0],some (39,true)⟩,
  ⟨some 41,.call 10,[.t 40,.c (.int .i64 12)],some (39,true)⟩,
  ⟨some 42,.bin .eql,[.t 41,.c (.int .i64 11)],some (39,true)⟩,
  ⟨some 43,.pick,[.t 39,.t 42,.c (.bool false)],none⟩]
def a7r6 : List IOp := [⟨some 44,.mv,[.t 0],none⟩,
  ⟨some 45,.bslice 3 1 [.int .i64 0] 3 [0,1,2],[.c (.int .i64 1440),.c (.int .i64 (-1)),.c (.int .i64 5)],none⟩,
  ⟨some 46,.call 18,[.t 44,.t 45],none⟩,
  ⟨some 47,.mv,[.t 0],none⟩,
  ⟨some 48,.bslice 3 1 [.int .i64 0] 2 [0,1],[.c (.int .i64 128),.c (.int .i64 127)],none⟩,
  ⟨some 49,.call 18,[.t 47,.t 48],none⟩,
  ⟨some 50,.fieldAddr 3,[.t 7],none⟩,
  ⟨none,.store 1,[.t 50,.t 46],none⟩,
  ⟨some 51,.fieldAddr 5,[.t 7],none⟩,
  ⟨none,.store 1,[.t 51,.t 49],none⟩]
def a7r7 : List IOp := [⟨some 52,.mv,[.t 5],none⟩,
  ⟨some 53,.loadA 7,[.t 7],none⟩,
  ⟨some 54,.bslice 55 7 [.str ⟨#[]⟩,.str ⟨#[]⟩,.int .i64 0,.int .i64 0,.int .i64 0,.int .i64 0,.int .i64 0] 1 [0],[.t 53],none⟩,
  ⟨some 55,.append 55 7 72,[.t 52,.t 54],none⟩,
  ⟨some 5,.mv,[.t 55],none⟩]
def a7r8 : List IOp := [⟨some 12,.mv,[.t 6],none⟩,
  ⟨some 13,.bin .sub,[.t 12,.c (.int .i64 1)],none⟩,
  ⟨some 6,.mv,[.t 13],none⟩]
def a7r9 : List IOp := [⟨some 56,.mv,[.t 5],none⟩,
  ⟨some 4,.mv,[.t 56],none⟩]
def a7 : AFunc := ⟨57,[.tmp 4],(.seq (.region a7r0 [0,1]) (.seq (.region a7r1 [0,1,5]) (.seq (.seq (.region a7r2 [0,1,5,6]) (.block 0 (.loop (.seq (.seq (.region a7r3 [0,1,5,6,11]) (.cond (.t 11) .skip (.exit 0))) (.seq (.block 1 (.seq (.draw a7r4 [(9,1),(9,1),(3,1),(3,1),(3,1),(55,7)] [0,1,5,6,7]) (.seq (.seq (.region a7r5 [0,1,5,6,7,43]) (.cond (.t 43) (.region a7r6 [0,1,5,6,7]) .skip)) (.region a7r7 [0,1,5,6])))) (.region a7r8 [0,1,5,6])))))) (.seq (.region a7r9 [4]) .ret))))⟩
theorem a7_ok : compileF Tryz.prog (lk [(0,⟨[0,1],[],[]⟩),(1,⟨[0,1,5],[],[]⟩),(2,⟨[0,1,5,6],[],[]⟩),(3,⟨[0,1,5,6,11],[],[]⟩),(4,⟨[0,1,5,6],[],[]⟩),(5,⟨[0,1,5,6,7],[[],[],[1],[0,2,1],[3,0,2,1],[],[],[6,2,1],[5,7,6,2,1],[8,5,7,6,2,1],[],[10,7,6,2,1],[],[],[12,13,11,10,7,6,2,1],[],[],[15,16,14,12,13,11,10,7,6,2,1],[],[],[18,19,17,15,16,14,12,13,11,10,7,6,2,1],[],[21,20,18,19,17,15,16,14,12,13,11,10,7,6,2,1],[4,9,11,14,17,20,22,3,0,2,1,8,5,7,6,10,12,13,15,16,18,19,21],[],[24,23,22,0,1,2,3,4,5,6,7,8,9,10,11,12,13,14,15,16,17,18,19,20,21]],[0,1,5,6,10,12,13,15,16,18,19,21,24,2,3,4,7,8,9,11,14,17,20,22,23,25]⟩),(6,⟨[0,1,5,6,7,43],[],[]⟩),(7,⟨[0,1,5,6,7],[],[]⟩),(8,⟨[0,1,5,6],[],[]⟩),(9,⟨[4],[],[]⟩)]) Tryz.f7 = some a7 := by kernel_rfl

/- payroll/payrolllaw13.spoil -/
def a8r0 : List IOp := [⟨some 4,.mv,[.c (.nils)],none⟩]
def a8r1 : List IOp := [⟨some 5,.mv,[.t 1],none⟩,
  ⟨some 6,.len,[.t 5],none⟩,
  ⟨some 7,.bin .eql,[.t 6,.c (.int .i64 0)],none⟩,
  ⟨some 8,.mv,[.t 7],none⟩,
  ⟨some 9,.mv,[.t 0],some (8,false)⟩,
  ⟨some 10,.call 10,[.t 9,.c (.int .i64 8)],some (8,false)⟩,
  ⟨some 11,.bin .lss,[.t 10,.c (.int .i64 7)],some (8,false)⟩,
  ⟨some 12,.pick,[.t 8,.c (.bool true),.t 11],none⟩]
def a8r2 : List IOp := [⟨some 13,.mv,[.t 1],none⟩,
  ⟨some 4,.mv,[.t 13],none⟩]
def a8r3 : List IOp := [⟨some 14,.mv,[.t 1],none⟩,
  ⟨some 15,.mv,[.t 0],none⟩,
  ⟨some 16,.bslice 3 1 [.int .i64 0] 3 [0,1,2],[.c (.int .i64 20454),.c (.int .i64 (-1)),.c (.int .i64 84006)],none⟩,
  ⟨some 17,.call 18,[.t 15,.t 16],none⟩,
  ⟨some 18,.mv,[.t 0],none⟩,
  ⟨some 19,.bslice 3 1 [.int .i64 0] 3 [0,1,2],[.c (.int .i64 5),.c (.int .i64 (-1)),.c (.int .i64 0)],none⟩,
  ⟨some 20,.call 18,[.t 18,.t 19],none⟩,
  ⟨some 21,.mv,[.t 0],none⟩,
  ⟨some 22,.bslice 3 1 [.int .i64 0] 3 [0,1,2],[.c (.int .i64 5),.c (.int .i64 120968641),.c (.int .i64 100001)],none⟩,
  ⟨some 23,.call 18,[.t 21,.t 22],none⟩,
  ⟨some 24,.build [.int .i64 0,.int .i64 0] [(0,1),(1,1)],[.t 20,.t 23],none⟩,
  ⟨some 25,.build [.int .i64 0,.int .i64 0,.int .i64 0,.str ⟨#[]⟩] [(0,1),(1,2)],[.t 17,.t 24],none⟩,
  ⟨some 26,.indexAddr 4,[.t 14,.c (.int .i64 0)],none⟩,
  ⟨none,.store 4,[.t 26,.t 25],none⟩]
def a8r4 : List IOp := [⟨some 27,.mv,[.t 1],none⟩,
  ⟨some 4,.mv,[.t 27],none⟩]
def a8 : AFunc := ⟨28,[.tmp 4],(.seq (.region a8r0 [0,1]) (.seq (.seq (.region a8r1 [0,1,12]) (.cond (.t 12) (.seq (.region a8r2 [4]) .ret) .skip)) (.seq (.region a8r3 [1]) (.seq (.region a8r4 [4]) .ret))))⟩
theorem a8_ok : compileF Tryz.prog (lk [(0,⟨[0,1],[],[]⟩),(1,⟨[0,1,12],[],[]⟩),(2,⟨[4],[],[]⟩),(3,⟨[1],[],[]⟩),(4,⟨[4],[],[]⟩)]) Tryz.f8 = some a8 := by kernel_rfl

/- (*payroll/payrollgen.Tape).Pieces -/
def a9r0 : List IOp := [⟨some 4,.mv,[.c (.nils)],none⟩]
def a9r1 : List IOp := [⟨some 5,.mv,[.c (.nils)],none⟩]
def a9r2 : List IOp := [⟨some 9,.mv,[.t 0],none⟩,
  ⟨some 10,.bslice 3 1 [.int .i64 0] 3 [0,1,2],[.c (.int .i64 0),.c (.int .i64 1000),.c (.int .i64 (-100))],none⟩,
  ⟨some 11,.call 18,[.t 9,.t 10],none⟩,
  ⟨some 12,.bin .add,[.c (.int .i64 29453760),.t 11],none⟩,
  ⟨some 6,.mv,[.t 12],none⟩]
def a9r3 : List IOp := [⟨some 13,.mv,[.t 0],none⟩,
  ⟨some 14,.mv,[.t 1],none⟩,
  ⟨some 15,.bin .add,[.t 14,.c (.int .i64 1)],none⟩,
  ⟨some 16,.call 10,[.t 13,.t 15],none⟩,
  ⟨some 7,.mv,[.t 16],none⟩]
def a9r4 : List IOp := [⟨some 17,.mv,[.t 7],none⟩,
  ⟨some 18,.bin .gtr,[.t 17,.c (.int .i64 0)],none⟩]
def a9r5 : List IOp := [⟨some 21,.mv,[.t 0],none⟩,
  ⟨some 22,.bslice 3 1 [.int .i64 0] 3 [0,1,2],[.c (.int .i64 60),.c (.int .i64 1),.c (.int .i64 240)],none⟩,
  ⟨some 23,.call 18,[.t 21,.t 22],none⟩,
  ⟨some 8,.mv,[.t 23],none⟩]
def a9r6 : List IOp := [⟨some 24,.mv,[.t 5],none⟩,
  ⟨some 25,.mv,[.t 6],none⟩,
  ⟨some 26,.bin .quo,[.t 25,.c (.int .i64 1440)],none⟩,
  ⟨some 27,.mv,[.t 6],none⟩,
  ⟨some 28,.mv,[.t 6],none⟩,
  ⟨some 29,.mv,[.t 8],none⟩,
  ⟨some 30,.bin .add,[.t 28,.t 29],none⟩,
  ⟨some 31,.build [.int .i64 0,.int .i64 0] [(0,1),(1,1)],[.t 27,.t 30],none⟩,
  ⟨some 32,.bslice 9 1 [.str ⟨#[]⟩] 2 [0,1],[.c (.str ⟨#[110,111,114,109,97,108]⟩),.c (.str ⟨#[111,116,49]⟩)],none⟩,
  ⟨some 33,.mv,[.t 0],none⟩,
  ⟨some 34,.call 10,[.t 33,.c (.int .i64 2)],none⟩,
  ⟨some 35,.indexAddr 1,[.t 32,.t 34],none⟩,
  ⟨some 36,.load1,[.t 35],none⟩,
  ⟨some 37,.build [.int .i64 0,.int .i64 0,.int .i64 0,.str ⟨#[]⟩] [(0,1),(1,2),(3,1)],[.t 26,.t 31,.t 36],none⟩,
  ⟨some 38,.bslice 59 4 [.int .i64 0,.int .i64 0,.int .i64 0,.str ⟨#[]⟩] 1 [0],[.t 37],none⟩,
  ⟨some 39,.append 59 4 40,[.t 24,.t 38],none⟩,
  ⟨some 5,.mv,[.t 39],none⟩]
def a9r7 : List IOp := [⟨some 40,.mv,[.t 6],none⟩,
  ⟨some 41,.mv,[.t 8],none⟩,
  ⟨some 42,.mv,[.t 0],none⟩,
  ⟨some 43,.bslice 3 1 [.int .i64 0] 3 [0,1,2],[.c (.int .i64 0),.c (.int .i64 300),.c (.int .i64 1200)],none⟩,
  ⟨some 44,.call 18,[.t 42,.t 43],none⟩,
  ⟨some 45,.bin .add,[.t 41,.t 44],none⟩,
  ⟨some 46,.bin .add,[.t 40,.t 45],none⟩,
  ⟨some 6,.mv,[.t 46],none⟩]
def a9r8 : List IOp := [⟨some 19,.mv,[.t 7],none⟩,
  ⟨some 20,.bin .sub,[.t 19,.c (.int .i64 1)],none⟩,
  ⟨some 7,.mv,[.t 20],none⟩]
def a9r9 : List IOp := [⟨some 47,.mv,[.t 5],none⟩,
  ⟨some 4,.mv,[.t 47],none⟩]
def a9 : AFunc := ⟨48,[.tmp 4],(.seq (.region a9r0 [0,1]) (.seq (.region a9r1 [0,1,5]) (.seq (.region a9r2 [0,1,5,6]) (.seq (.seq (.region a9r3 [0,5,6,7]) (.block 0 (.loop (.seq (.seq (.region a9r4 [0,5,6,7,18]) (.cond (.t 18) .skip (.exit 0))) (.seq (.block 1 (.seq (.region a9r5 [0,5,6,7,8]) (.seq (.region a9r6 [0,5,6,7,8]) (.region a9r7 [0,5,6,7])))) (.region a9r8 [0,5,6,7])))))) (.seq (.region a9r9 [4]) .ret)))))⟩
theorem a9_ok : compileF Tryz.prog (lk [(0,⟨[0,1],[],[]⟩),(1,⟨[0,1,5],[],[]⟩),(2,⟨[0,1,5,6],[],[]⟩),(3,⟨[0,5,6,7],[],[]⟩),(4,⟨[0,5,6,7,18],[],[]⟩),(5,⟨[0,5,6,7],[],[]⟩),(6,⟨[0,5,6,7,8],[],[]⟩),(7,⟨[0,5,6,7,8],[],[]⟩),(8,⟨[0,5,6,7],[],[]⟩),(9,⟨[4],[],[]⟩)]) Tryz.f9 = some a9 := by kernel_rfl

/- (*payroll/payrollgen.Tape).Next -/
def a10r0 : List IOp := [⟨some 4,.mv,[.c (.int .i64 0)],none⟩]
def a10r1 : List (Nat × DOp) := [(0,⟨⟨some 5,.mv,[.t 1],none⟩,none,[]⟩),
  (1,⟨⟨some 6,.bin .lss,[.t 5,.c (.int .i64 1)],none⟩,none,[]⟩),
  (2,⟨⟨some 7,.mv,[.t 6],none⟩,none,[]⟩),
  (3,⟨⟨some 8,.mv,[.t 0],some (7,false)⟩,none,[7,8,9,10,11]⟩),
  (4,⟨⟨some 9,.nilchk,[.t 8],some (7,false)⟩,none,[7,8,9,10,11]⟩),
  (5,⟨⟨some 10,.fieldAddr 1,[.t 9],some (7,false)⟩,none,[7,8,9,10,11]⟩),
  (6,⟨⟨some 11,.load1,[.t 10],some (7,false)⟩,none,[7,8,9,10,11]⟩),
  (7,⟨⟨some 12,.mv,[.t 0],some (7,false)⟩,none,[3,4,5,6]⟩),
  (8,⟨⟨some 13,.nilchk,[.t 12],some (7,false)⟩,none,[3,4,5,6]⟩),
  (9,⟨⟨some 14,.fieldAddr 0,[.t 13],some (7,false)⟩,none,[3,4,5,6]⟩),
  (10,⟨⟨some 15,.load1,[.t 14],some (7,false)⟩,none,[3,4,5,6]⟩),
  (11,⟨⟨some 16,.len,[.t 15],some (7,false)⟩,none,[3,4,5,6]⟩),
  (12,⟨⟨some 17,.bin .geq,[.t 11,.t 16],some (7,false)⟩,none,[]⟩),
  (13,⟨⟨some 18,.pick,[.t 7,.c (.bool true),.t 17],none⟩,none,[]⟩)]
def a10r2 : List IOp := [⟨some 4,.mv,[.c (.int .i64 0)],none⟩]
def a10r3 : List IOp := [⟨some 19,.mv,[.t 0],none⟩,
  ⟨some 20,.nilchk,[.t 19],none⟩,
  ⟨some 21,.fieldAddr 1,[.t 20],none⟩,
  ⟨some 22,.load1,[.t 21],none⟩,
  ⟨some 23,.bin .add,[.t 22,.c (.int .i64 1)],none⟩,
  ⟨some 24,.nilchk,[.t 19],none⟩,
  ⟨some 25,.fieldAddr 1,[.t 24],none⟩,
  ⟨none,.store 1,[.t 25,.t 23],none⟩]
def a10r4 : List (Nat × DOp) := [(0,⟨⟨some 26,.mv,[.t 0],none⟩,none,[4,5,6,7,8,11]⟩),
  (1,⟨⟨some 27,.nilchk,[.t 26],none⟩,none,[4,5,6,7,8,11]⟩),
  (2,⟨⟨some 28,.fieldAddr 0,[.t 27],none⟩,none,[4,5,6,7,8,11]⟩),
  (3,⟨⟨some 29,.load1,[.t 28],none⟩,none,[4,5,6,7,8,11]⟩),
  (4,⟨⟨some 30,.mv,[.t 0],none⟩,none,[0,1,2,3,11]⟩),
  (5,⟨⟨some 31,.nilchk,[.t 30],none⟩,none,[0,1,2,3,11]⟩),
  (6,⟨⟨some 32,.fieldAddr 1,[.t 31],none⟩,none,[0,1,2,3,11]⟩),
  (7,⟨⟨some 33,.load1,[.t 32],none⟩,none,[0,1,2,3,11]⟩),
  (8,⟨⟨some 34,.bin .sub,[.t 33,.c (.int .i64 1)],none⟩,none,[0,1,2,3,11]⟩),
  (9,⟨⟨some 35,.indexAddr 1,[.t 29,.t 34],none⟩,none,[11]⟩),
  (10,⟨⟨some 36,.load1,[.t 35],none⟩,none,[11]⟩),
  (11,⟨⟨some 37,.mv,[.t 1],none⟩,none,[0,1,2,3,4,5,6,7,8,9,10]⟩),
  (12,⟨⟨some 38,.call 19,[.t 36,.t 37],none⟩,none,[]⟩),
  (13,⟨⟨some 4,.mv,[.t 38],none⟩,none,[]⟩)]
def a10 : AFunc := ⟨39,[.tmp 4],(.seq (.region a10r0 [0,1]) (.seq (.seq (.draw a10r1 [] [0,1,18]) (.cond (.t 18) (.seq (.region a10r2 [4]) .ret) .skip)) (.seq (.region a10r3 [0,1]) (.seq (.draw a10r4 [] [4]) .ret))))⟩
theorem a10_ok : compileF Tryz.prog (lk [(0,⟨[0,1],[],[]⟩),(1,⟨[0,1,18],[[],[0],[1,0],[2,1,0],[3,2,1,0],[4,2,3,1,0],[5,2,4,3,1,0],[2,1,0],[7,2,1,0],[8,2,7,1,0],[9,2,8,7,1,0],[10,2,9,8,7,1,0],[6,11,2,5,4,3,1,0,10,9,8,7],[2,12,1,0,6,11,5,4,3,10,9,8,7]],[0,1,2,3,4,5,6,7,8,9,10,11,12,13]⟩),(2,⟨[4],[],[]⟩),(3,⟨[0,1],[],[]⟩),(4,⟨[4],[[],[0],[1,0],[2,1,0],[],[4],[5,4],[6,5,4],[7,6,5,4],[3,8,2,1,0,7,6,5,4],[9,3,8,2,1,0,7,6,5,4],[],[10,11,9,3,8,2,1,0,7,6,5,4],[12,0,1,2,3,4,5,6,7,8,9,10,11]],[0,1,2,3,4,5,6,7,8,9,10,11,12,13]⟩)]) Tryz.f10 = some a10 := by kernel_rfl

/- (*payroll/payrollgen.Tape).SpoilZone -/
def a11r0 : List IOp := [⟨some 3,.box 27 2,[.t 1],none⟩,
  ⟨some 4,.alloc 27 [.int .i64 0,.nils],[],none⟩]
def a11r1 : List IOp := [⟨some 6,.nilsl,[],none⟩,
  ⟨some 7,.fieldAddr 1,[.t 3],none⟩,
  ⟨some 8,.load1,[.t 7],none⟩,
  ⟨some 9,.append 50 2 16,[.t 6,.t 8],none⟩,
  ⟨some 5,.mv,[.t 9],none⟩]
def a11r2 : List IOp := [⟨some 10,.mv,[.t 0],none⟩,
  ⟨some 11,.call 10,[.t 10,.c (.int .i64 4)],none⟩]
def a11r3 : List IOp := [⟨some 19,.bin .eql,[.t 11,.c (.int .i64 0)],none⟩,
  ⟨some 18,.mv,[.t 19],none⟩]
def a11r4 : List IOp := [⟨some 20,.mv,[.t 0],none⟩,
  ⟨some 21,.bslice 3 1 [.int .i64 0] 2 [0,1],[.c (.int .i64 841),.c (.int .i64 (-841))],none⟩,
  ⟨some 22,.call 18,[.t 20,.t 21],none⟩,
  ⟨some 23,.fieldAddr 0,[.t 3],none⟩,
  ⟨none,.store 1,[.t 23,.t 22],none⟩]
def a11r5 : List IOp := [⟨some 25,.bin .eql,[.t 11,.c (.int .i64 1)],none⟩,
  ⟨some 24,.mv,[.t 25],none⟩]
def a11r6 : List IOp := [⟨some 26,.mv,[.t 5],none⟩,
  ⟨some 27,.mv,[.t 0],none⟩,
  ⟨some 28,.bslice 3 1 [.int .i64 0] 3 [0,1,2],[.c (.int .i64 (-1)),.c (.int .i64 120968640),.c (.int .i64 0)],none⟩,
  ⟨some 29,.call 18,[.t 27,.t 28],none⟩,
  ⟨some 30,.build [.int .i64 0,.int .i64 0] [(0,1),(1,1)],[.t 29,.c (.int .i64 60)],none⟩,
  ⟨some 31,.bslice 50 2 [.int .i64 0,.int .i64 0] 1 [0],[.t 30],none⟩,
  ⟨some 32,.append 50 2 16,[.t 26,.t 31],none⟩,
  ⟨some 5,.mv,[.t 32],none⟩]
def a11r7 : List IOp := [⟨some 34,.bin .eql,[.t 11,.c (.int .i64 2)],none⟩,
  ⟨some 33,.mv,[.t 34],none⟩]
def a11r8 : List IOp := [⟨some 35,.mv,[.t 5],none⟩,
  ⟨some 36,.len,[.t 35],none⟩,
  ⟨some 37,.bin .gtr,[.t 36,.c (.int .i64 0)],none⟩]
def a11r9 : List IOp := [⟨some 38,.mv,[.t 5],none⟩,
  ⟨some 39,.mv,[.t 5],none⟩,
  ⟨some 40,.mv,[.t 5],none⟩,
  ⟨some 41,.len,[.t 40],none⟩,
  ⟨some 42,.bin .sub,[.t 41,.c (.int .i64 1)],none⟩,
  ⟨some 43,.indexAddr 2,[.t 39,.t 42],none⟩,
  ⟨some 44,.loadA 2,[.t 43],none⟩,
  ⟨some 45,.bslice 50 2 [.int .i64 0,.int .i64 0] 1 [0],[.t 44],none⟩,
  ⟨some 46,.append 50 2 16,[.t 38,.t 45],none⟩,
  ⟨some 5,.mv,[.t 46],none⟩]
def a11r10 : List IOp := [⟨some 12,.mv,[.t 5],none⟩,
  ⟨some 13,.len,[.t 12],none⟩,
  ⟨some 14,.bin .gtr,[.t 13,.c (.int .i64 0)],none⟩]
def a11r11 : List IOp := [⟨some 15,.mv,[.t 5],none⟩,
  ⟨some 16,.indexAddr 2,[.t 15,.c (.int .i64 0)],none⟩,
  ⟨some 17,.fieldAddr 1,[.t 16],none⟩,
  ⟨none,.store 1,[.t 17,.c (.int .i64 1000)],none⟩]
def a11r12 : List IOp := [⟨some 47,.mv,[.t 5],none⟩,
  ⟨some 48,.fieldAddr 1,[.t 3],none⟩,
  ⟨none,.store 1,[.t 48,.t 47],none⟩]
def a11r13 : List IOp := [⟨some 49,.loadA 2,[.t 3],none⟩,
  ⟨none,.store 2,[.t 4,.t 49],none⟩]
def a11 : AFunc := ⟨50,[.cellA 4 2],(.seq (.region a11r0 [0,3,4]) (.seq (.region a11r1 [0,3,4,5]) (.seq (.seq (.region a11r2 [0,3,4,5,11]) (.block 0 (.seq (.region a11r3 [0,3,4,5,11,18]) (.cond (.t 18) (.region a11r4 [3,4,5]) (.seq (.region a11r5 [0,3,4,5,11,24]) (.cond (.t 24) (.region a11r6 [3,4,5]) (.seq (.region a11r7 [3,4,5,33]) (.cond (.t 33) (.seq (.region a11r8 [3,4,5,37]) (.cond (.t 37) (.region a11r9 [3,4,5]) .skip)) (.seq (.region a11r10 [3,4,5,14]) (.cond (.t 14) (.region a11r11 [3,4,5]) .skip)))))))))) (.seq (.region a11r12 [3,4]) (.seq (.region a11r13 [4]) .ret)))))⟩
theorem a11_ok : compileF Tryz.prog (lk [(0,⟨[0,3,4],[],[]⟩),(1,⟨[0,3,4,5],[],[]⟩),(2,⟨[0,3,4,5,11],[],[]⟩),(3,⟨[3,4,5,14],[],[]⟩),(4,⟨[3,4,5],[],[]⟩),(5,⟨[0,3,4,5,11,18],[],[]⟩),(6,⟨[3,4,5],[],[]⟩),(7,⟨[0,3,4,5,11,24],[],[]⟩),(8,⟨[3,4,5],[],[]⟩),(9,⟨[3,4,5,33],[],[]⟩),(10,⟨[3,4,5,37],[],[]⟩),(11,⟨[3,4,5],[],[]⟩),(12,⟨[3,4],[],[]⟩),(13,⟨[4],[],[]⟩)]) Tryz.f11 = some a11 := by kernel_rfl

/- payroll/premium.Mark -/
def a12r0 : List IOp := [⟨some 4,.box 27 2,[.t 0],none⟩,
  ⟨some 8,.mv,[.c (.nils)],none⟩,
  ⟨some 9,.mv,[.c (.int .i64 0)],none⟩]
def a12r1 : List IOp := [⟨some 19,.loadA 2,[.t 4],none⟩,
  ⟨some 20,.mv,[.t 1],none⟩,
  ⟨some 21,.mv,[.t 2],none⟩,
  ⟨some 22,.call 15,[.t 19,.t 20,.t 21],none⟩,
  ⟨some 10,.mv,[.t 22],none⟩]
def a12r2 : List IOp := [⟨some 23,.mv,[.t 10],none⟩,
  ⟨some 24,.bin .neq,[.t 23,.c (.int .i64 0)],none⟩]
def a12r3 : List IOp := [⟨some 25,.mv,[.t 10],none⟩,
  ⟨some 8,.mv,[.c (.nils)],none⟩,
  ⟨some 9,.mv,[.t 25],none⟩]
def a12r4 : List IOp := [⟨some 26,.mv,[.t 3],none⟩,
  ⟨some 27,.call 20,[.t 26],none⟩,
  ⟨some 11,.mv,[.t 27],none⟩]
def a12r5 : List IOp := [⟨some 28,.mv,[.t 11],none⟩,
  ⟨some 29,.bin .neq,[.t 28,.c (.int .i64 0)],none⟩]
def a12r6 : List IOp := [⟨some 30,.mv,[.t 11],none⟩,
  ⟨some 8,.mv,[.c (.nils)],none⟩,
  ⟨some 9,.mv,[.t 30],none⟩]
def a12r7 : List IOp := [⟨some 31,.loadA 2,[.t 4],none⟩,
  ⟨some 32,.mv,[.t 1],none⟩,
  ⟨some 33,.mv,[.t 2],none⟩,
  ⟨some 34,.mv,[.t 3],none⟩,
  ⟨some 35,.call 21,[.t 31,.t 32,.t 33,.t 34],none⟩,
  ⟨some 12,.mv,[.t 35],none⟩]
def a12r8 : List IOp := [⟨some 13,.mv,[.c (.nils)],none⟩]
def a12r9 : List IOp := [⟨some 36,.mv,[.t 12],none⟩,
  ⟨some 37,.call 23,[.t 36],none⟩,
  ⟨some 38,.call 22,[.t 37],none⟩,
  ⟨some 39,.len,[.t 38],none⟩,
  ⟨some 40,.mv,[.c (.int .i64 0)],none⟩]
def a12r10 : List IOp := [⟨some 41,.bin .lss,[.t 40,.t 39],none⟩]
def a12r11 : List IOp := [⟨some 42,.indexAddr 1,[.t 38,.t 40],none⟩,
  ⟨some 43,.load1,[.t 42],none⟩,
  ⟨some 15,.mv,[.t 43],none⟩]
def a12r12 : List IOp := [⟨some 44,.mv,[.t 12],none⟩,
  ⟨some 45,.mv,[.t 15],none⟩,
  ⟨some 46,.look false false [.int .i64] (.agg [.int .i64 0,.int .i64 0,.int .i64 0,.int .i64 0,.int .i64 0,.int .i64 0,.int .i64 0,.int .i64 0,.int .i64 0,.int .i64 0,.int .i64 0,.int .i64 0,.int .i64 0,.int .i64 0,.int .i64 0,.int .i64 0]),[.t 44,.t 45],none⟩,
  ⟨some 16,.alloc 68 [.int .i64 0,.int .i64 0,.int .i64 0,.int .i64 0,.int .i64 0,.int .i64 0,.int .i64 0,.int .i64 0,.int .i64 0,.int .i64 0,.int .i64 0,.int .i64 0,.int .i64 0,.int .i64 0,.int .i64 0,.int .i64 0],[],none⟩,
  ⟨none,.store 16,[.t 16,.t 46],none⟩]
def a12r13 : List IOp := [⟨some 47,.mv,[.t 2],none⟩,
  ⟨some 48,.len,[.t 47],none⟩,
  ⟨some 49,.mv,[.c (.int .i64 0)],none⟩]
def a12r14 : List IOp := [⟨some 50,.bin .lss,[.t 49,.t 48],none⟩]
def a12r15 : List IOp := [⟨some 51,.mv,[.t 49],none⟩,
  ⟨some 52,.indexAddr 7,[.t 47,.t 49],none⟩,
  ⟨some 53,.loadA 7,[.t 52],none⟩,
  ⟨some 18,.alloc 55 [.str ⟨#[]⟩,.str ⟨#[]⟩,.int .i64 0,.int .i64 0,.int .i64 0,.int .i64 0,.int .i64 0],[],none⟩,
  ⟨some 17,.mv,[.t 51],none⟩,
  ⟨none,.store 7,[.t 18,.t 53],none⟩]
def a12r16 : List IOp := [⟨some 54,.mv,[.t 17],none⟩,
  ⟨some 55,.indexArr 16 1,[.t 16,.t 54],none⟩,
  ⟨some 56,.load1,[.t 55],none⟩,
  ⟨some 57,.bin .gtr,[.t 56,.c (.int .i64 0)],none⟩]
def a12r17 : List (Nat × DOp) := [(0,⟨⟨some 58,.mv,[.t 13],none⟩,none,[1,2,3,4,5,6,7,8]⟩),
  (1,⟨⟨some 59,.mv,[.t 15],none⟩,none,[0,2,3,4,5,6]⟩),
  (2,⟨⟨some 60,.fieldAddr 0,[.t 18],none⟩,none,[0,1,4,5,6]⟩),
  (3,⟨⟨some 61,.load1,[.t 60],none⟩,none,[0,1,4,5,6]⟩),
  (4,⟨⟨some 62,.mv,[.t 17],none⟩,none,[0,1,2,3]⟩),
  (5,⟨⟨some 63,.indexArr 16 1,[.t 16,.t 62],none⟩,none,[0,1,2,3]⟩),
  (6,⟨⟨some 64,.load1,[.t 63],none⟩,none,[0,1,2,3]⟩),
  (7,⟨⟨some 65,.build [.int .i64 0,.str ⟨#[]⟩,.int .i64 0] [(0,1),(1,1),(2,1)],[.t 59,.t 61,.t 64],none⟩,none,[0]⟩),
  (8,⟨⟨some 66,.bslice 70 3 [.int .i64 0,.str ⟨#[]⟩,.int .i64 0] 1 [0],[.t 65],none⟩,some 0,[0]⟩),
  (9,⟨⟨some 67,.append 70 3 32,[.t 58,.t 66],none⟩,none,[]⟩),
  (10,⟨⟨some 13,.mv,[.t 67],none⟩,none,[]⟩)]
def a12r18 : List IOp := [⟨some 68,.bin .add,[.t 49,.c (.int .i64 1)],none⟩,
  ⟨some 49,.mv,[.t 68],none⟩]
def a12r19 : List IOp := [⟨some 69,.bin .add,[.t 40,.c (.int .i64 1)],none⟩,
  ⟨some 40,.mv,[.t 69],none⟩]
def a12r20 : List IOp := [⟨some 70,.mv,[.t 13],none⟩,
  ⟨some 8,.mv,[.t 70],none⟩,
  ⟨some 9,.mv,[.c (.int .i64 0)],none⟩]
def a12 : AFunc := ⟨71,[.tmp 8,.tmp 9],(.seq (.region a12r0 [1,2,3,4]) (.seq (.seq (.region a12r1 [1,2,3,4,10]) (.seq (.region a12r2 [1,2,3,4,10,24]) (.cond (.t 24) (.seq (.region a12r3 [8,9]) .ret) .skip))) (.seq (.seq (.region a12r4 [1,2,3,4,11]) (.seq (.region a12r5 [1,2,3,4,11,29]) (.cond (.t 29) (.seq (.region a12r6 [8,9]) .ret) .skip))) (.seq (.region a12r7 [2,12]) (.seq (.region a12r8 [2,12,13]) (.seq (.seq (.region a12r9 [2,12,13,38,39,40]) (.block 0 (.loop (.seq (.region a12r10 [2,12,13,38,39,40,41]) (.seq (.cond (.t 41) .skip (.exit 0)) (.seq (.block 1 (.seq (.region a12r11 [2,12,13,15,38,39,40]) (.seq (.region a12r12 [2,12,13,15,16,38,39,40]) (.seq (.region a12r13 [2,12,13,15,16,38,39,40,47,48,49]) (.block 2 (.loop (.seq (.region a12r14 [2,12,13,15,16,38,39,40,47,48,49,50]) (.seq (.cond (.t 50) .skip (.exit 2)) (.seq (.block 3 (.seq (.region a12r15 [2,12,13,15,16,17,18,38,39,40,47,48,49]) (.seq (.region a12r16 [2,12,13,15,16,17,18,38,39,40,47,48,49,57]) (.cond (.t 57) (.draw a12r17 [(70,3)] [2,12,13,15,16,38,39,40,47,48,49]) .skip)))) (.region a12r18 [2,12,13,15,16,38,39,40,47,48,49])))))))))) (.region a12r19 [2,12,13,38,39,40]))))))) (.seq (.region a12r20 [8,9]) .ret)))))))⟩
theorem a12_ok : compileF Tryz.prog (lk [(0,⟨[1,2,3,4],[],[]⟩),(1,⟨[1,2,3,4,10],[],[]⟩),(2,⟨[1,2,3,4,10,24],[],[]⟩),(3,⟨[8,9],[],[]⟩),(4,⟨[1,2,3,4,11],[],[]⟩),(5,⟨[1,2,3,4,11,29],[],[]⟩),(6,⟨[8,9],[],[]⟩),(7,⟨[2,12],[],[]⟩),(8,⟨[2,12,13],[],[]⟩),(9,⟨[2,12,13,38,39,40],[],[]⟩),(10,⟨[2,12,13,38,39,40,41],[],[]⟩),(11,⟨[2,12,13,15,38,39,40],[],[]⟩),(12,⟨[2,12,13,15,16,38,39,40],[],[]⟩),(13,⟨[2,12,13,15,16,38,39,40,47,48,49],[],[]⟩),(14,⟨[2,12,13,15,16,38,39,40,47,48,49,50],[],[]⟩),(15,⟨[2,12,13,15,16,17,18,38,39,40,47,48,49],[],[]⟩),(16,⟨[2,12,13,15,16,17,18,38,39,40,47,48,49,57],[],[]⟩),(17,⟨[2,12,13,15,16,38,39,40,47,48,49],[[],[],[],[2],[],[4],[5,4],[1,3,6,2,5,4],[7,1,3,6,2,5,4],[0,8,7,1,3,6,2,5,4],[9,0,1,2,3,4,5,6,7,8]],[0,1,2,3,4,5,6,7,8,9,10]⟩),(18,⟨[2,12,13,15,16,38,39,40,47,48,49],[],[]⟩),(19,⟨[2,12,13,38,39,40],[],[]⟩),(20,⟨[8,9],[],[]⟩)]) Tryz.f12 = some a12 := by kernel_rfl

/- payroll/payrollref13.Mark -/
def a13r0 : List IOp := [⟨some 4,.box 27 2,[.t 0],none⟩,
  ⟨some 8,.mv,[.c (.nils)],none⟩,
  ⟨some 9,.mv,[.c (.int .i64 0)],none⟩]
def a13r1 : List IOp := [⟨some 24,.loadA 2,[.t 4],none⟩,
  ⟨some 25,.mv,[.t 1],none⟩,
  ⟨some 26,.mv,[.t 2],none⟩,
  ⟨some 27,.call 16,[.t 24,.t 25,.t 26],none⟩,
  ⟨some 10,.mv,[.t 27],none⟩]
def a13r2 : List IOp := [⟨some 28,.mv,[.t 10],none⟩,
  ⟨some 29,.bin .neq,[.t 28,.c (.int .i64 0)],none⟩]
def a13r3 : List IOp := [⟨some 30,.mv,[.t 10],none⟩,
  ⟨some 8,.mv,[.c (.nils)],none⟩,
  ⟨some 9,.mv,[.t 30],none⟩]
def a13r4 : List IOp := [⟨some 31,.mv,[.t 3],none⟩,
  ⟨some 32,.len,[.t 31],none⟩,
  ⟨some 33,.bin .gtr,[.t 32,.c (.int .i64 4096)],none⟩]
def a13r5 : List IOp := [⟨some 8,.mv,[.c (.nils)],none⟩,
  ⟨some 9,.mv,[.c (.int .i64 3)],none⟩]
def a13r6 : List IOp := [⟨some 11,.mv,[.c (.int .i64 0)],none⟩]
def a13r7 : List IOp := [⟨some 12,.mv,[.c (.int .i64 0)],none⟩]
def a13r8 : List IOp := [⟨some 34,.mv,[.t 12],none⟩,
  ⟨some 35,.mv,[.t 3],none⟩,
  ⟨some 36,.len,[.t 35],none⟩,
  ⟨some 37,.bin .lss,[.t 34,.t 36],none⟩]
def a13r9 : List IOp := [⟨some 40,.mv,[.t 3],none⟩,
  ⟨some 41,.mv,[.t 12],none⟩,
  ⟨some 42,.indexAddr 4,[.t 40,.t 41],none⟩,
  ⟨some 43,.fieldAddr 0,[.t 42],none⟩,
  ⟨some 44,.load1,[.t 43],none⟩,
  ⟨some 45,.bin .lss,[.t 44,.c (.int .i64 0)],none⟩,
  ⟨some 46,.mv,[.t 45],none⟩,
  ⟨some 47,.mv,[.t 3],some (46,false)⟩,
  ⟨some 48,.mv,[.t 12],some (46,false)⟩,
  ⟨some 49,.indexAddr 4,[.t 47,.t 48],some (46,false)⟩,
  ⟨some 50,.fieldAddr 0,[.t 49],some (46,false)⟩,
  ⟨some 51,.load1,[.t 50],some (46,false)⟩,
  ⟨some 52,.bin .gtr,[.t 51,.c (.int .i64 84005)],some (46,false)⟩,
  ⟨some 53,.pick,[.t 46,.c (.bool true),.t 52],none⟩,
  ⟨some 54,.mv,[.t 53],none⟩,
  ⟨some 55,.mv,[.t 3],some (54,false)⟩,
  ⟨some 56,.mv,[.t 12],some (54,false)⟩,
  ⟨some 57,.indexAddr 4,[.t 55,.t 56],some (54,false)⟩,
  ⟨some 58,.fieldAddr 1,[.t 57],some (54,false)⟩,
  ⟨some 59,.loadA 2,[.t 58],some (54,false)⟩,
  ⟨some 60,.call 24,[.t 59],some (54,false)⟩,
  ⟨some 61,.not,[.t 60],some (54,false)⟩,
  ⟨some 62,.pick,[.t 54,.c (.bool true),.t 61],none⟩]
def a13r10 : List IOp := [⟨some 8,.mv,[.c (.nils)],none⟩,
  ⟨some 9,.mv,[.c (.int .i64 1)],none⟩]
def a13r11 : List (Nat × DOp) := [(0,⟨⟨some 63,.mv,[.t 11],none⟩,none,[1,2,3,4,5,6,7,8,9,10,11,12,13]⟩),
  (1,⟨⟨some 64,.mv,[.t 3],none⟩,none,[0,2,7,8,9,10,11,12]⟩),
  (2,⟨⟨some 65,.mv,[.t 12],none⟩,none,[0,1,7,8,9,10,11,12]⟩),
  (3,⟨⟨some 66,.indexAddr 4,[.t 64,.t 65],none⟩,none,[0,7,8,9,10,11,12]⟩),
  (4,⟨⟨some 67,.fieldAddr 1,[.t 66],none⟩,none,[0,7,8,9,10,11,12]⟩),
  (5,⟨⟨some 68,.fieldAddr 1,[.t 67],none⟩,none,[0,7,8,9,10,11,12]⟩),
  (6,⟨⟨some 69,.load1,[.t 68],none⟩,none,[0,7,8,9,10,11,12]⟩),
  (7,⟨⟨some 70,.mv,[.t 3],none⟩,none,[0,1,2,3,4,5,6,8]⟩),
  (8,⟨⟨some 71,.mv,[.t 12],none⟩,none,[0,1,2,3,4,5,6,7]⟩),
  (9,⟨⟨some 72,.indexAddr 4,[.t 70,.t 71],none⟩,none,[0,1,2,3,4,5,6]⟩),
  (10,⟨⟨some 73,.fieldAddr 1,[.t 72],none⟩,none,[0,1,2,3,4,5,6]⟩),
  (11,⟨⟨some 74,.fieldAddr 0,[.t 73],none⟩,none,[0,1,2,3,4,5,6]⟩),
  (12,⟨⟨some 75,.load1,[.t 74],none⟩,none,[0,1,2,3,4,5,6]⟩),
  (13,⟨⟨some 76,.bin .sub,[.t 69,.t 75],none⟩,none,[0]⟩),
  (14,⟨⟨some 77,.bin .add,[.t 63,.t 76],none⟩,none,[]⟩),
  (15,⟨⟨some 11,.mv,[.t 77],none⟩,none,[]⟩)]
def a13r12 : List IOp := [⟨some 38,.mv,[.t 12],none⟩,
  ⟨some 39,.bin .add,[.t 38,.c (.int .i64 1)],none⟩,
  ⟨some 12,.mv,[.t 39],none⟩]
def a13r13 : List IOp := [⟨some 78,.mv,[.t 11],none⟩,
  ⟨some 79,.bin .gtr,[.t 78,.c (.int .i64 100000)],none⟩]
def a13r14 : List IOp := [⟨some 8,.mv,[.c (.nils)],none⟩,
  ⟨some 9,.mv,[.c (.int .i64 3)],none⟩]
def a13r15 : List IOp := [⟨some 13,.mv,[.c (.nils)],none⟩]
def a13r16 : List IOp := [⟨some 80,.mkmap false [.int .i64],[],none⟩,
  ⟨some 14,.mv,[.t 80],none⟩]
def a13r17 : List IOp := [⟨some 15,.mv,[.c (.int .i64 0)],none⟩]
def a13r18 : List IOp := [⟨some 81,.mv,[.t 15],none⟩,
  ⟨some 82,.mv,[.t 3],none⟩,
  ⟨some 83,.len,[.t 82],none⟩,
  ⟨some 84,.bin .lss,[.t 81,.t 83],none⟩,
  ⟨some 85,.mv,[.t 84],none⟩,
  ⟨some 86,.mv,[.t 2],some (85,true)⟩,
  ⟨some 87,.len,[.t 86],some (85,true)⟩,
  ⟨some 88,.bin .gtr,[.t 87,.c (.int .i64 0)],some (85,true)⟩,
  ⟨some 89,.pick,[.t 85,.t 88,.c (.bool false)],none⟩]
def a13r19 : List IOp := [⟨some 92,.mv,[.t 14],none⟩,
  ⟨some 93,.mv,[.t 3],none⟩,
  ⟨some 94,.mv,[.t 15],none⟩,
  ⟨some 95,.indexAddr 4,[.t 93,.t 94],none⟩,
  ⟨some 96,.fieldAddr 0,[.t 95],none⟩,
  ⟨some 97,.load1,[.t 96],none⟩,
  ⟨some 98,.look false false [.int .i64] (.nils),[.t 92,.t 97],none⟩,
  ⟨some 99,.len,[.t 98],none⟩,
  ⟨some 100,.bin .eql,[.t 99,.c (.int .i64 0)],none⟩]
def a13r20 : List (Nat × DOp) := [(0,⟨⟨some 101,.mv,[.t 14],none⟩,none,[1,2,3,4,5,6,7,8]⟩),
  (1,⟨⟨some 102,.mv,[.t 3],none⟩,none,[0,2,6,7,8]⟩),
  (2,⟨⟨some 103,.mv,[.t 15],none⟩,none,[0,1,6,7,8]⟩),
  (3,⟨⟨some 104,.indexAddr 4,[.t 102,.t 103],none⟩,none,[0,6,7,8]⟩),
  (4,⟨⟨some 105,.fieldAddr 0,[.t 104],none⟩,none,[0,6,7,8]⟩),
  (5,⟨⟨some 106,.load1,[.t 105],none⟩,none,[0,6,7,8]⟩),
  (6,⟨⟨some 107,.mv,[.t 2],none⟩,none,[0,1,2,3,4,5]⟩),
  (7,⟨⟨some 108,.len,[.t 107],none⟩,none,[0,1,2,3,4,5]⟩),
  (8,⟨⟨some 109,.mkslice 3 1 8 [.int .i64 0],[.t 108,.t 108],none⟩,none,[0,1,2,3,4,5]⟩),
  (9,⟨⟨none,.mset false [.int .i64],[.t 101,.t 106,.t 109],none⟩,none,[]⟩)]
def a13r21 : List IOp := [⟨some 110,.mv,[.t 13],none⟩,
  ⟨some 111,.len,[.t 110],none⟩,
  ⟨some 16,.mv,[.t 111],none⟩]
def a13r22 : List (Nat × DOp) := [(0,⟨⟨some 112,.mv,[.t 16],none⟩,none,[]⟩),
  (1,⟨⟨some 113,.bin .gtr,[.t 112,.c (.int .i64 0)],none⟩,none,[]⟩),
  (2,⟨⟨some 114,.mv,[.t 113],none⟩,none,[]⟩),
  (3,⟨⟨some 115,.mv,[.t 13],some (114,true)⟩,none,[4,5,8,9,10,11,12]⟩),
  (4,⟨⟨some 116,.mv,[.t 16],some (114,true)⟩,none,[3,8,9,10,11,12]⟩),
  (5,⟨⟨some 117,.bin .sub,[.t 116,.c (.int .i64 1)],some (114,true)⟩,none,[3,8,9,10,11,12]⟩),
  (6,⟨⟨some 118,.indexAddr 1,[.t 115,.t 117],some (114,true)⟩,none,[8,9,10,11,12]⟩),
  (7,⟨⟨some 119,.load1,[.t 118],some (114,true)⟩,none,[8,9,10,11,12]⟩),
  (8,⟨⟨some 120,.mv,[.t 3],some (114,true)⟩,none,[3,4,5,6,7,9]⟩),
  (9,⟨⟨some 121,.mv,[.t 15],some (114,true)⟩,none,[3,4,5,6,7,8]⟩),
  (10,⟨⟨some 122,.indexAddr 4,[.t 120,.t 121],some (114,true)⟩,none,[3,4,5,6,7]⟩),
  (11,⟨⟨some 123,.fieldAddr 0,[.t 122],some (114,true)⟩,none,[3,4,5,6,7]⟩),
  (12,⟨⟨some 124,.load1,[.t 123],some (114,true)⟩,none,[3,4,5,6,7]⟩),
  (13,⟨⟨some 125,.bin .gtr,[.t 119,.t 124],some (114,true)⟩,none,[]⟩),
  (14,⟨⟨some 126,.pick,[.t 114,.t 125,.c (.bool false)],none⟩,none,[]⟩)]
def a13r23 : List IOp := [⟨some 127,.mv,[.t 16],none⟩,
  ⟨some 128,.bin .sub,[.t 127,.c (.int .i64 1)],none⟩,
  ⟨some 16,.mv,[.t 128],none⟩]
def a13r24 : List IOp := [⟨some 129,.mv,[.t 13],none⟩,
  ⟨some 130,.bslice 3 1 [.int .i64 0] 1 [0],[.c (.int .i64 0)],none⟩,
  ⟨some 131,.append 3 1 8,[.t 129,.t 130],none⟩,
  ⟨some 13,.mv,[.t 131],none⟩]
def a13r25 : List (Nat × DOp) := [(0,⟨⟨some 132,.mv,[.t 13],none⟩,none,[1,2,4,5,6]⟩),
  (1,⟨⟨some 133,.mv,[.t 16],none⟩,none,[0,4,5,6]⟩),
  (2,⟨⟨some 134,.bin .add,[.t 133,.c (.int .i64 1)],none⟩,none,[0,4,5,6]⟩),
  (3,⟨⟨some 135,.slice true false 1,[.t 132,.t 134],none⟩,none,[4,5,6]⟩),
  (4,⟨⟨some 136,.mv,[.t 13],none⟩,none,[0,1,2,3,5]⟩),
  (5,⟨⟨some 137,.mv,[.t 16],none⟩,none,[0,1,2,3,4]⟩),
  (6,⟨⟨some 138,.slice true false 1,[.t 136,.t 137],none⟩,none,[0,1,2,3]⟩),
  (7,⟨⟨some 139,.copy 1,[.t 135,.t 138],none⟩,none,[]⟩)]
def a13r26 : List IOp := [⟨some 140,.mv,[.t 13],none⟩,
  ⟨some 141,.mv,[.t 16],none⟩,
  ⟨some 142,.mv,[.t 3],none⟩,
  ⟨some 143,.mv,[.t 15],none⟩,
  ⟨some 144,.indexAddr 4,[.t 142,.t 143],none⟩,
  ⟨some 145,.fieldAddr 0,[.t 144],none⟩,
  ⟨some 146,.load1,[.t 145],none⟩,
  ⟨some 147,.indexAddr 1,[.t 140,.t 141],none⟩,
  ⟨none,.store 1,[.t 147,.t 146],none⟩]
def a13r27 : List IOp := [⟨some 148,.mv,[.t 3],none⟩,
  ⟨some 149,.mv,[.t 15],none⟩,
  ⟨some 150,.indexAddr 4,[.t 148,.t 149],none⟩,
  ⟨some 151,.fieldAddr 1,[.t 150],none⟩,
  ⟨some 152,.fieldAddr 0,[.t 151],none⟩,
  ⟨some 153,.load1,[.t 152],none⟩,
  ⟨some 17,.mv,[.t 153],none⟩]
def a13r28 : List IOp := [⟨some 154,.mv,[.t 17],none⟩,
  ⟨some 155,.mv,[.t 3],none⟩,
  ⟨some 156,.mv,[.t 15],none⟩,
  ⟨some 157,.indexAddr 4,[.t 155,.t 156],none⟩,
  ⟨some 158,.fieldAddr 1,[.t 157],none⟩,
  ⟨some 159,.fieldAddr 1,[.t 158],none⟩,
  ⟨some 160,.load1,[.t 159],none⟩,
  ⟨some 161,.bin .lss,[.t 154,.t 160],none⟩]
def a13r29 : List IOp := [⟨some 164,.loadA 2,[.t 4],none⟩,
  ⟨some 165,.mv,[.t 1],none⟩,
  ⟨some 166,.mv,[.t 2],none⟩,
  ⟨some 167,.mv,[.t 17],none⟩,
  ⟨some 168,.call 25,[.t 164,.t 165,.t 166,.t 167],none⟩,
  ⟨some 18,.mv,[.t 168],none⟩]
def a13r30 : List IOp := [⟨some 19,.mv,[.c (.int .i64 0)],none⟩]
def a13r31 : List IOp := [⟨some 169,.mv,[.t 19],none⟩,
  ⟨some 170,.mv,[.t 18],none⟩,
  ⟨some 171,.len,[.t 170],none⟩,
  ⟨some 172,.bin .lss,[.t 169,.t 171],none⟩]
def a13r32 : List IOp := [⟨some 175,.mv,[.t 18],none⟩,
  ⟨some 176,.mv,[.t 19],none⟩,
  ⟨some 177,.indexAddr 1,[.t 175,.t 176],none⟩,
  ⟨some 178,.load1,[.t 177],none⟩]
def a13r33 : List IOp := [⟨some 179,.mv,[.t 14],none⟩,
  ⟨some 180,.mv,[.t 3],none⟩,
  ⟨some 181,.mv,[.t 15],none⟩,
  ⟨some 182,.indexAddr 4,[.t 180,.t 181],none⟩,
  ⟨some 183,.fieldAddr 0,[.t 182],none⟩,
  ⟨some 184,.load1,[.t 183],none⟩,
  ⟨some 185,.look false false [.int .i64] (.nils),[.t 179,.t 184],none⟩,
  ⟨some 186,.mv,[.t 19],none⟩,
  ⟨some 187,.indexAddr 1,[.t 185,.t 186],none⟩,
  ⟨some 188,.load1,[.t 187],none⟩,
  ⟨some 189,.bin .add,[.t 188,.c (.int .i64 1)],none⟩,
  ⟨some 190,.indexAddr 1,[.t 185,.t 186],none⟩,
  ⟨none,.store 1,[.t 190,.t 189],none⟩]
def a13r34 : List IOp := [⟨some 173,.mv,[.t 19],none⟩,
  ⟨some 174,.bin .add,[.t 173,.c (.int .i64 1)],none⟩,
  ⟨some 19,.mv,[.t 174],none⟩]
def a13r35 : List IOp := [⟨some 162,.mv,[.t 17],none⟩,
  ⟨some 163,.bin .add,[.t 162,.c (.int .i64 1)],none⟩,
  ⟨some 17,.mv,[.t 163],none⟩]
def a13r36 : List IOp := [⟨some 90,.mv,[.t 15],none⟩,
  ⟨some 91,.bin .add,[.t 90,.c (.int .i64 1)],none⟩,
  ⟨some 15,.mv,[.t 91],none⟩]
def a13r37 : List IOp := [⟨some 20,.mv,[.c (.nils)],none⟩]
def a13r38 : List IOp := [⟨some 21,.mv,[.c (.int .i64 0)],none⟩]
def a13r39 : List IOp := [⟨some 191,.mv,[.t 21],none⟩,
  ⟨some 192,.mv,[.t 13],none⟩,
  ⟨some 193,.len,[.t 192],none⟩,
  ⟨some 194,.bin .lss,[.t 191,.t 193],none⟩]
def a13r40 : List IOp := [⟨some 22,.mv,[.c (.int .i64 0)],none⟩]
def a13r41 : List IOp := [⟨some 197,.mv,[.t 22],none⟩,
  ⟨some 198,.mv,[.t 2],none⟩,
  ⟨some 199,.len,[.t 198],none⟩,
  ⟨some 200,.bin .lss,[.t 197,.t 199],none⟩]
def a13r42 : List IOp := [⟨some 203,.mv,[.t 14],none⟩,
  ⟨some 204,.mv,[.t 13],none⟩,
  ⟨some 205,.mv,[.t 21],none⟩,
  ⟨some 206,.indexAddr 1,[.t 204,.t 205],none⟩,
  ⟨some 207,.load1,[.t 206],none⟩,
  ⟨some 208,.look false false [.int .i64] (.nils),[.t 203,.t 207],none⟩,
  ⟨some 209,.mv,[.t 22],none⟩,
  ⟨some 210,.indexAddr 1,[.t 208,.t 209],none⟩,
  ⟨some 211,.load1,[.t 210],none⟩,
  ⟨some 23,.mv,[.t 211],none⟩]
def a13r43 : List IOp := [⟨some 212,.mv,[.t 23],none⟩,
  ⟨some 213,.bin .gtr,[.t 212,.c (.int .i64 0)],none⟩]
def a13r44 : List (Nat × DOp) := [(0,⟨⟨some 214,.mv,[.t 20],none⟩,none,[1,2,3,4,5,6,7,8,9,10,11,12]⟩),
  (1,⟨⟨some 215,.mv,[.t 13],none⟩,none,[0,2,5,6,7,8,9,10]⟩),
  (2,⟨⟨some 216,.mv,[.t 21],none⟩,none,[0,1,5,6,7,8,9,10]⟩),
  (3,⟨⟨some 217,.indexAddr 1,[.t 215,.t 216],none⟩,none,[0,5,6,7,8,9,10]⟩),
  (4,⟨⟨some 218,.load1,[.t 217],none⟩,none,[0,5,6,7,8,9,10]⟩),
  (5,⟨⟨some 219,.mv,[.t 2],none⟩,none,[0,1,2,3,4,6,10]⟩),
  (6,⟨⟨some 220,.mv,[.t 22],none⟩,none,[0,1,2,3,4,5,10]⟩),
  (7,⟨⟨some 221,.indexAddr 7,[.t 219,.t 220],none⟩,none,[0,1,2,3,4,10]⟩),
  (8,⟨⟨some 222,.fieldAddr 0,[.t 221],none⟩,none,[0,1,2,3,4,10]⟩),
  (9,⟨⟨some 223,.load1,[.t 222],none⟩,none,[0,1,2,3,4,10]⟩),
  (10,⟨⟨some 224,.mv,[.t 23],none⟩,none,[0,1,2,3,4,5,6,7,8,9]⟩),
  (11,⟨⟨some 225,.build [.int .i64 0,.str ⟨#[]⟩,.int .i64 0] [(0,1),(1,1),(2,1)],[.t 218,.t 223,.t 224],none⟩,none,[0]⟩),
  (12,⟨⟨some 226,.bslice 70 3 [.int .i64 0,.str ⟨#[]⟩,.int .i64 0] 1 [0],[.t 225],none⟩,some 0,[0]⟩),
  (13,⟨⟨some 227,.append 70 3 32,[.t 214,.t 226],none⟩,none,[]⟩),
  (14,⟨⟨some 20,.mv,[.t 227],none⟩,none,[]⟩)]
def a13r45 : List IOp := [⟨some 201,.mv,[.t 22],none⟩,
  ⟨some 202,.bin .add,[.t 201,.c (.int .i64 1)],none⟩,
  ⟨some 22,.mv,[.t 202],none⟩]
def a13r46 : List IOp := [⟨some 195,.mv,[.t 21],none⟩,
  ⟨some 196,.bin .add,[.t 195,.c (.int .i64 1)],none⟩,
  ⟨some 21,.mv,[.t 196],none⟩]
def a13r47 : List IOp := [⟨some 228,.mv,[.t 20],none⟩,
  ⟨some 8,.mv,[.t 228],none⟩,
  ⟨some 9,.mv,[.c (.int .i64 0)],none⟩]
def a13 : AFunc := ⟨229,[.tmp 8,.tmp 9],(.seq (.region a13r0 [1,2,3,4]) (.seq (.seq (.region a13r1 [1,2,3,4,10]) (.seq (.region a13r2 [1,2,3,4,10,29]) (.cond (.t 29) (.seq (.region a13r3 [8,9]) .ret) .skip))) (.seq (.seq (.region a13r4 [1,2,3,4,33]) (.cond (.t 33) (.seq (.region a13r5 [8,9]) .ret) .skip)) (.seq (.region a13r6 [1,2,3,4,11]) (.seq (.seq (.region a13r7 [1,2,3,4,11,12]) (.block 0 (.loop (.seq (.seq (.region a13r8 [1,2,3,4,11,12,37]) (.cond (.t 37) .skip (.exit 0))) (.seq (.block 1 (.seq (.seq (.region a13r9 [1,2,3,4,11,12,62]) (.cond (.t 62) (.seq (.region a13r10 [8,9]) .ret) .skip)) (.draw a13r11 [] [1,2,3,4,11,12]))) (.region a13r12 [1,2,3,4,11,12])))))) (.seq (.seq (.region a13r13 [1,2,3,4,79]) (.cond (.t 79) (.seq (.region a13r14 [8,9]) .ret) .skip)) (.seq (.region a13r15 [1,2,3,4,13]) (.seq (.region a13r16 [1,2,3,4,13,14]) (.seq (.seq (.region a13r17 [1,2,3,4,13,14,15]) (.block 2 (.loop (.seq (.seq (.region a13r18 [1,2,3,4,13,14,15,89]) (.cond (.t 89) .skip (.exit 2))) (.seq (.block 3 (.seq (.seq (.region a13r19 [1,2,3,4,13,14,15,100]) (.cond (.t 100) (.seq (.draw a13r20 [] [1,2,3,4,13,14,15]) (.seq (.region a13r21 [1,2,3,4,13,14,15,16]) (.seq (.block 4 (.loop (.seq (.seq (.draw a13r22 [] [1,2,3,4,13,14,15,16,126]) (.cond (.t 126) .skip (.exit 4))) (.block 5 (.region a13r23 [1,2,3,4,13,14,15,16]))))) (.seq (.region a13r24 [1,2,3,4,13,14,15,16]) (.seq (.draw a13r25 [] [1,2,3,4,13,14,15,16]) (.region a13r26 [1,2,3,4,13,14,15])))))) .skip)) (.seq (.region a13r27 [1,2,3,4,13,14,15,17]) (.block 6 (.loop (.seq (.seq (.region a13r28 [1,2,3,4,13,14,15,17,161]) (.cond (.t 161) .skip (.exit 6))) (.seq (.block 7 (.seq (.region a13r29 [1,2,3,4,13,14,15,17,18]) (.seq (.region a13r30 [1,2,3,4,13,14,15,17,18,19]) (.block 8 (.loop (.seq (.seq (.region a13r31 [1,2,3,4,13,14,15,17,18,19,172]) (.cond (.t 172) .skip (.exit 8))) (.seq (.block 9 (.seq (.region a13r32 [1,2,3,4,13,14,15,17,18,19,178]) (.cond (.t 178) (.region a13r33 [1,2,3,4,13,14,15,17,18,19]) .skip))) (.region a13r34 [1,2,3,4,13,14,15,17,18,19])))))))) (.region a13r35 [1,2,3,4,13,14,15,17])))))))) (.region a13r36 [1,2,3,4,13,14,15])))))) (.seq (.region a13r37 [2,13,14,20]) (.seq (.seq (.region a13r38 [2,13,14,20,21]) (.block 10 (.loop (.seq (.seq (.region a13r39 [2,13,14,20,21,194]) (.cond (.t 194) .skip (.exit 10))) (.seq (.block 11 (.seq (.region a13r40 [2,13,14,20,21,22]) (.block 12 (.loop (.seq (.seq (.region a13r41 [2,13,14,20,21,22,200]) (.cond (.t 200) .skip (.exit 12))) (.seq (.block 13 (.seq (.region a13r42 [2,13,14,20,21,22,23]) (.seq (.region a13r43 [2,13,14,20,21,22,23,213]) (.cond (.t 213) (.draw a13r44 [(70,3)] [2,13,14,20,21,22]) .skip)))) (.region a13r45 [2,13,14,20,21,22]))))))) (.region a13r46 [2,13,14,20,21])))))) (.seq (.region a13r47 [8,9]) .ret))))))))))))⟩
theorem a13_ok : compileF Tryz.prog (lk [(0,⟨[1,2,3,4],[],[]⟩),(1,⟨[1,2,3,4,10],[],[]⟩),(2,⟨[1,2,3,4,10,29],[],[]⟩),(3,⟨[8,9],[],[]⟩),(4,⟨[1,2,3,4,33],[],[]⟩),(5,⟨[8,9],[],[]⟩),(6,⟨[1,2,3,4,11],[],[]⟩),(7,⟨[1,2,3,4,11,12],[],[]⟩),(8,⟨[1,2,3,4,11,12,37],[],[]⟩),(9,⟨[1,2,3,4,11,12],[],[]⟩),(10,⟨[1,2,3,4,11,12,62],[],[]⟩),(11,⟨[8,9],[],[]⟩),(12,⟨[1,2,3,4,11,12],[[],[],[],[1,2],[3,1,2],[4,3,1,2],[5,4,3,1,2],[],[],[7,8],[9,7,8],[10,9,7,8],[11,10,9,7,8],[6,12,5,4,3,1,2,11,10,9,7,8],[0,13,6,12,5,4,3,1,2,11,10,9,7,8],[14,0,1,2,3,4,5,6,7,8,9,10,11,12,13]],[0,1,2,3,4,5,6,7,8,9,10,11,12,13,14,15]⟩),(13,⟨[1,2,3,4,79],[],[]⟩),(14,⟨[8,9],[],[]⟩),(15,⟨[1,2,3,4,13],[],[]⟩),(16,⟨[1,2,3,4,13,14],[],[]⟩),(17,⟨[1,2,3,4,13,14,15],[],[]⟩),(18,⟨[1,2,3,4,13,14,15,89],[],[]⟩),(19,⟨[1,2,3,4,13,14,15],[],[]⟩),(20,⟨[1,2,3,4,13,14,15,100],[],[]⟩),(21,⟨[1,2,3,4,13,14,15],[[],[],[],[1,2],[3,1,2],[4,3,1,2],[],[6],[7,6],[0,5,8,1,2,3,4,6,7]],[0,1,2,3,4,5,6,7,8,9]⟩),(22,⟨[1,2,3,4,13,14,15,16],[],[]⟩),(23,⟨[1,2,3,4,13,14,15,16,126],[[],[0],[1,0],[2,1,0],[2,1,0],[4,2,1,0],[3,5,2,1,0,4],[6,2,3,5,1,0,4],[2,1,0],[2,1,0],[8,9,2,1,0],[10,2,8,9,1,0],[11,2,10,8,9,1,0],[7,12,2,6,3,5,1,0,4,11,10,8,9],[2,13,1,0,7,12,6,3,5,4,11,10,8,9]],[0,1,2,3,4,5,6,7,8,9,10,11,12,13,14]⟩),(24,⟨[1,2,3,4,13,14,15,16],[],[]⟩),(25,⟨[1,2,3,4,13,14,15,16],[],[]⟩),(26,⟨[1,2,3,4,13,14,15,16],[[],[],[1],[0,2,1],[],[],[4,5],[3,6,0,2,1,4,5]],[0,1,2,3,4,5,6,7]⟩),(27,⟨[1,2,3,4,13,14,15],[],[]⟩),(28,⟨[1,2,3,4,13,14,15,17],[],[]⟩),(29,⟨[1,2,3,4,13,14,15,17,161],[],[]⟩),(30,⟨[1,2,3,4,13,14,15,17],[],[]⟩),(31,⟨[1,2,3,4,13,14,15,17,18],[],[]⟩),(32,⟨[1,2,3,4,13,14,15,17,18,19],[],[]⟩),(33,⟨[1,2,3,4,13,14,15,17,18,19,172],[],[]⟩),(34,⟨[1,2,3,4,13,14,15,17,18,19],[],[]⟩),(35,⟨[1,2,3,4,13,14,15,17,18,19,178],[],[]⟩),(36,⟨[1,2,3,4,13,14,15,17,18,19],[],[]⟩),(37,⟨[2,13,14,20],[],[]⟩),(38,⟨[2,13,14,20,21],[],[]⟩),(39,⟨[2,13,14,20,21,194],[],[]⟩),(40,⟨[2,13,14,20,21],[],[]⟩),(41,⟨[2,13,14,20,21,22],[],[]⟩),(42,⟨[2,13,14,20,21,22,200],[],[]⟩),(43,⟨[2,13,14,20,21,22],[],[]⟩),(44,⟨[2,13,14,20,21,22,23],[],[]⟩),(45,⟨[2,13,14,20,21,22,23,213],[],[]⟩),(46,⟨[2,13,14,20,21,22],[[],[],[],[1,2],[3,1,2],[],[],[5,6],[7,5,6],[8,7,5,6],[],[4,9,10,3,1,2,8,7,5,6],[11,4,9,10,3,1,2,8,7,5,6],[0,12,11,4,9,10,3,1,2,8,7,5,6],[13,0,1,2,3,4,5,6,7,8,9,10,11,12]],[0,1,2,3,4,5,6,7,8,9,10,11,12,13,14]⟩),(47,⟨[8,9],[],[]⟩)]) Tryz.f13 = some a13 := by kernel_rfl

/- payroll/payrolllaw13.same -/
def a14r0 : List IOp := [⟨some 4,.mv,[.c (.bool false)],none⟩]
def a14r1 : List IOp := [⟨some 6,.mv,[.t 0],none⟩,
  ⟨some 7,.len,[.t 6],none⟩,
  ⟨some 8,.mv,[.t 1],none⟩,
  ⟨some 9,.len,[.t 8],none⟩,
  ⟨some 10,.bin .neq,[.t 7,.t 9],none⟩]
def a14r2 : List IOp := [⟨some 4,.mv,[.c (.bool false)],none⟩]
def a14r3 : List IOp := [⟨some 5,.mv,[.c (.int .i64 0)],none⟩]
def a14r4 : List IOp := [⟨some 11,.mv,[.t 5],none⟩,
  ⟨some 12,.mv,[.t 0],none⟩,
  ⟨some 13,.len,[.t 12],none⟩,
  ⟨some 14,.bin .lss,[.t 11,.t 13],none⟩]
def a14r5 : List (Nat × DOp) := [(0,⟨⟨some 17,.mv,[.t 0],none⟩,none,[1,4,5,6,7]⟩),
  (1,⟨⟨some 18,.mv,[.t 5],none⟩,none,[0,4,5,6,7]⟩),
  (2,⟨⟨some 19,.indexAddr 3,[.t 17,.t 18],none⟩,none,[4,5,6,7]⟩),
  (3,⟨⟨some 20,.loadA 3,[.t 19],none⟩,none,[4,5,6,7]⟩),
  (4,⟨⟨some 21,.mv,[.t 1],none⟩,none,[0,1,2,3,5]⟩),
  (5,⟨⟨some 22,.mv,[.t 5],none⟩,none,[0,1,2,3,4]⟩),
  (6,⟨⟨some 23,.indexAddr 3,[.t 21,.t 22],none⟩,none,[0,1,2,3]⟩),
  (7,⟨⟨some 24,.loadA 3,[.t 23],none⟩,none,[0,1,2,3]⟩),
  (8,⟨⟨some 25,.eqA true [.int .i64,.str,.int .i64],[.t 20,.t 24],none⟩,none,[]⟩)]
def a14r6 : List IOp := [⟨some 4,.mv,[.c (.bool false)],none⟩]
def a14r7 : List IOp := [⟨some 15,.mv,[.t 5],none⟩,
  ⟨some 16,.bin .add,[.t 15,.c (.int .i64 1)],none⟩,
  ⟨some 5,.mv,[.t 16],none⟩]
def a14r8 : List IOp := [⟨some 4,.mv,[.c (.bool true)],none⟩]
def a14 : AFunc := ⟨26,[.tmp 4],(.seq (.region a14r0 [0,1]) (.seq (.seq (.region a14r1 [0,1,10]) (.cond (.t 10) (.seq (.region a14r2 [4]) .ret) .skip)) (.seq (.seq (.region a14r3 [0,1,5]) (.block 0 (.loop (.seq (.seq (.region a14r4 [0,1,5,14]) (.cond (.t 14) .skip (.exit 0))) (.seq (.block 1 (.seq (.draw a14r5 [] [0,1,5,25]) (.cond (.t 25) (.seq (.region a14r6 [4]) .ret) .skip))) (.region a14r7 [0,1,5])))))) (.seq (.region a14r8 [4]) .ret))))⟩
theorem a14_ok : compileF Tryz.prog (lk [(0,⟨[0,1],[],[]⟩),(1,⟨[0,1,10],[],[]⟩),(2,⟨[4],[],[]⟩),(3,⟨[0,1,5],[],[]⟩),(4,⟨[0,1,5,14],[],[]⟩),(5,⟨[0,1,5],[],[]⟩),(6,⟨[0,1,5,25],[[],[],[0,1],[2,0,1],[],[],[4,5],[6,4,5],[3,7,2,0,1,6,4,5]],[0,1,2,3,4,5,6,7,8]⟩),(7,⟨[4],[],[]⟩),(8,⟨[4],[],[]⟩)]) Tryz.f14 = some a14 := by kernel_rfl

/- payroll/premium.Valid -/
def a15r0 : List IOp := [⟨some 3,.box 27 2,[.t 0],none⟩,
  ⟨some 6,.mv,[.c (.int .i64 0)],none⟩]
def a15r1 : List IOp := [⟨some 11,.loadA 2,[.t 3],none⟩,
  ⟨some 12,.call 26,[.t 11],none⟩,
  ⟨some 7,.mv,[.t 12],none⟩]
def a15r2 : List IOp := [⟨some 13,.mv,[.t 7],none⟩,
  ⟨some 14,.bin .neq,[.t 13,.c (.int .i64 0)],none⟩]
def a15r3 : List IOp := [⟨some 15,.mv,[.t 7],none⟩,
  ⟨some 6,.mv,[.t 15],none⟩]
def a15r4 : List IOp := [⟨some 16,.mv,[.t 1],none⟩,
  ⟨some 17,.call 27,[.t 16],none⟩,
  ⟨some 8,.mv,[.t 17],none⟩]
def a15r5 : List IOp := [⟨some 18,.mv,[.t 8],none⟩,
  ⟨some 19,.bin .neq,[.t 18,.c (.int .i64 0)],none⟩]
def a15r6 : List IOp := [⟨some 20,.mv,[.t 8],none⟩,
  ⟨some 6,.mv,[.t 20],none⟩]
def a15r7 : List IOp := [⟨some 21,.mv,[.t 2],none⟩,
  ⟨some 22,.len,[.t 21],none⟩,
  ⟨some 23,.bin .gtr,[.t 22,.c (.int .i64 16)],none⟩]
def a15r8 : List IOp := [⟨some 6,.mv,[.c (.int .i64 3)],none⟩]
def a15r9 : List IOp := [⟨some 24,.mv,[.t 2],none⟩,
  ⟨some 25,.len,[.t 24],none⟩,
  ⟨some 26,.mv,[.c (.int .i64 0)],none⟩]
def a15r10 : List IOp := [⟨some 27,.bin .lss,[.t 26,.t 25],none⟩]
def a15r11 : List IOp := [⟨some 28,.indexAddr 7,[.t 24,.t 26],none⟩,
  ⟨some 29,.loadA 7,[.t 28],none⟩,
  ⟨some 10,.alloc 55 [.str ⟨#[]⟩,.str ⟨#[]⟩,.int .i64 0,.int .i64 0,.int .i64 0,.int .i64 0,.int .i64 0],[],none⟩,
  ⟨none,.store 7,[.t 10,.t 29],none⟩]
def a15r12 : List IOp := [⟨some 30,.loadA 7,[.t 10],none⟩,
  ⟨some 31,.call 28,[.t 30],none⟩,
  ⟨some 32,.not,[.t 31],none⟩]
def a15r13 : List IOp := [⟨some 6,.mv,[.c (.int .i64 1)],none⟩]
def a15r14 : List IOp := [⟨some 33,.bin .add,[.t 26,.c (.int .i64 1)],none⟩,
  ⟨some 26,.mv,[.t 33],none⟩]
def a15r15 : List IOp := [⟨some 6,.mv,[.c (.int .i64 0)],none⟩]
def a15 : AFunc := ⟨34,[.tmp 6],(.seq (.region a15r0 [1,2,3]) (.seq (.seq (.region a15r1 [1,2,7]) (.seq (.region a15r2 [1,2,7,14]) (.cond (.t 14) (.seq (.region a15r3 [6]) .ret) .skip))) (.seq (.seq (.region a15r4 [2,8]) (.seq (.region a15r5 [2,8,19]) (.cond (.t 19) (.seq (.region a15r6 [6]) .ret) .skip))) (.seq (.seq (.region a15r7 [2,23]) (.cond (.t 23) (.seq (.region a15r8 [6]) .ret) .skip)) (.seq (.seq (.region a15r9 [24,25,26]) (.block 0 (.loop (.seq (.region a15r10 [24,25,26,27]) (.seq (.cond (.t 27) .skip (.exit 0)) (.seq (.block 1 (.seq (.region a15r11 [10,24,25,26]) (.seq (.region a15r12 [24,25,26,32]) (.cond (.t 32) (.seq (.region a15r13 [6]) .ret) .skip)))) (.region a15r14 [24,25,26]))))))) (.seq (.region a15r15 [6]) .ret))))))⟩
theorem a15_ok : compileF Tryz.prog (lk [(0,⟨[1,2,3],[],[]⟩),(1,⟨[1,2,7],[],[]⟩),(2,⟨[1,2,7,14],[],[]⟩),(3,⟨[6],[],[]⟩),(4,⟨[2,8],[],[]⟩),(5,⟨[2,8,19],[],[]⟩),(6,⟨[6],[],[]⟩),(7,⟨[2,23],[],[]⟩),(8,⟨[6],[],[]⟩),(9,⟨[24,25,26],[],[]⟩),(10,⟨[24,25,26,27],[],[]⟩),(11,⟨[10,24,25,26],[],[]⟩),(12,⟨[24,25,26,32],[],[]⟩),(13,⟨[6],[],[]⟩),(14,⟨[24,25,26],[],[]⟩),(15,⟨[6],[],[]⟩)]) Tryz.f15 = some a15 := by kernel_rfl

/- payroll/payrollref13.Valid -/
def a16r0 : List IOp := [⟨some 3,.box 27 2,[.t 0],none⟩,
  ⟨some 6,.mv,[.c (.int .i64 0)],none⟩]
def a16r1 : List IOp := [⟨some 10,.loadA 2,[.t 3],none⟩,
  ⟨some 11,.call 29,[.t 10],none⟩,
  ⟨some 7,.mv,[.t 11],none⟩]
def a16r2 : List IOp := [⟨some 12,.mv,[.t 7],none⟩,
  ⟨some 13,.bin .neq,[.t 12,.c (.int .i64 0)],none⟩]
def a16r3 : List IOp := [⟨some 14,.mv,[.t 7],none⟩,
  ⟨some 6,.mv,[.t 14],none⟩]
def a16r4 : List IOp := [⟨some 15,.mv,[.t 1],none⟩,
  ⟨some 16,.call 30,[.t 15],none⟩,
  ⟨some 8,.mv,[.t 16],none⟩]
def a16r5 : List IOp := [⟨some 17,.mv,[.t 8],none⟩,
  ⟨some 18,.bin .neq,[.t 17,.c (.int .i64 0)],none⟩]
def a16r6 : List IOp := [⟨some 19,.mv,[.t 8],none⟩,
  ⟨some 6,.mv,[.t 19],none⟩]
def a16r7 : List IOp := [⟨some 20,.mv,[.t 2],none⟩,
  ⟨some 21,.len,[.t 20],none⟩,
  ⟨some 22,.bin .gtr,[.t 21,.c (.int .i64 16)],none⟩]
def a16r8 : List IOp := [⟨some 6,.mv,[.c (.int .i64 3)],none⟩]
def a16r9 : List IOp := [⟨some 9,.mv,[.c (.int .i64 0)],none⟩]
def a16r10 : List IOp := [⟨some 23,.mv,[.t 9],none⟩,
  ⟨some 24,.mv,[.t 2],none⟩,
  ⟨some 25,.len,[.t 24],none⟩,
  ⟨some 26,.bin .lss,[.t 23,.t 25],none⟩]
def a16r11 : List IOp := [⟨some 29,.mv,[.t 2],none⟩,
  ⟨some 30,.mv,[.t 9],none⟩,
  ⟨some 31,.indexAddr 7,[.t 29,.t 30],none⟩,
  ⟨some 32,.loadA 7,[.t 31],none⟩,
  ⟨some 33,.call 31,[.t 32],none⟩,
  ⟨some 34,.not,[.t 33],none⟩]
def a16r12 : List IOp := [⟨some 6,.mv,[.c (.int .i64 1)],none⟩]
def a16r13 : List IOp := [⟨some 27,.mv,[.t 9],none⟩,
  ⟨some 28,.bin .add,[.t 27,.c (.int .i64 1)],none⟩,
  ⟨some 9,.mv,[.t 28],none⟩]
def a16r14 : List IOp := [⟨some 6,.mv,[.c (.int .i64 0)],none⟩]
def a16 : AFunc := ⟨35,[.tmp 6],(.seq (.region a16r0 [1,2,3]) (.seq (.seq (.region a16r1 [1,2,7]) (.seq (.region a16r2 [1,2,7,13]) (.cond (.t 13) (.seq (.region a16r3 [6]) .ret) .skip))) (.seq (.seq (.region a16r4 [2,8]) (.seq (.region a16r5 [2,8,18]) (.cond (.t 18) (.seq (.region a16r6 [6]) .ret) .skip))) (.seq (.seq (.region a16r7 [2,22]) (.cond (.t 22) (.seq (.region a16r8 [6]) .ret) .skip)) (.seq (.seq (.region a16r9 [2,9]) (.block 0 (.loop (.seq (.seq (.region a16r10 [2,9,26]) (.cond (.t 26) .skip (.exit 0))) (.seq (.block 1 (.seq (.region a16r11 [2,9,34]) (.cond (.t 34) (.seq (.region a16r12 [6]) .ret) .skip))) (.region a16r13 [2,9])))))) (.seq (.region a16r14 [6]) .ret))))))⟩
theorem a16_ok : compileF Tryz.prog (lk [(0,⟨[1,2,3],[],[]⟩),(1,⟨[1,2,7],[],[]⟩),(2,⟨[1,2,7,13],[],[]⟩),(3,⟨[6],[],[]⟩),(4,⟨[2,8],[],[]⟩),(5,⟨[2,8,18],[],[]⟩),(6,⟨[6],[],[]⟩),(7,⟨[2,22],[],[]⟩),(8,⟨[6],[],[]⟩),(9,⟨[2,9],[],[]⟩),(10,⟨[2,9,26],[],[]⟩),(11,⟨[2,9],[],[]⟩),(12,⟨[2,9,34],[],[]⟩),(13,⟨[6],[],[]⟩),(14,⟨[6],[],[]⟩)]) Tryz.f16 = some a16 := by kernel_rfl

/- payroll/payrolllaw13.sane -/
def a17r0 : List IOp := [⟨some 0,.mv,[.c (.bool false)],none⟩]
def a17r1 : List IOp := [⟨some 4,.call 32,[.c (.int .i64 2)],none⟩,
  ⟨some 1,.alloc 55 [.str ⟨#[]⟩,.str ⟨#[]⟩,.int .i64 0,.int .i64 0,.int .i64 0,.int .i64 0,.int .i64 0],[],none⟩,
  ⟨none,.store 7,[.t 1,.t 4],none⟩]
def a17r2 : List IOp := [⟨some 5,.fieldAddr 0,[.t 1],none⟩,
  ⟨none,.store 1,[.t 5,.c (.str ⟨#[108,97,116,101]⟩)],none⟩]
def a17r3 : List (Nat × DOp) := [(0,⟨⟨some 7,.build [.int .i64 0,.nils] [],[],none⟩,none,[1,2,3,4,5,6]⟩),
  (2,⟨⟨some 9,.loadA 7,[.t 1],none⟩,none,[0,1,4,5,6]⟩),
  (4,⟨⟨some 11,.build [.int .i64 0,.int .i64 0] [(0,1),(1,1)],[.c (.int .i64 5640),.c (.int .i64 5800)],none⟩,none,[0,1,2,3]⟩),
  (5,⟨⟨some 12,.build [.int .i64 0,.int .i64 0,.int .i64 0,.str ⟨#[]⟩] [(0,1),(1,2),(3,1)],[.c (.int .i64 3),.t 11,.c (.str ⟨#[120]⟩)],none⟩,none,[0,1,2,3]⟩),
  (6,⟨⟨some 13,.bslice 59 4 [.int .i64 0,.int .i64 0,.int .i64 0,.str ⟨#[]⟩] 1 [0],[.t 12],none⟩,some 1,[0,1,2,3]⟩),
  (1,⟨⟨some 8,.call 32,[.c (.int .i64 1)],none⟩,none,[0,2,4,5,6]⟩),
  (3,⟨⟨some 10,.bslice 55 7 [.str ⟨#[]⟩,.str ⟨#[]⟩,.int .i64 0,.int .i64 0,.int .i64 0,.int .i64 0,.int .i64 0] 2 [0,1],[.t 8,.t 9],none⟩,some 0,[0,4,5,6]⟩),
  (7,⟨⟨some 14,.call 12,[.t 7,.c (.nils),.t 10,.t 13],none⟩,none,[]⟩),
  (8,⟨⟨some 6,.mv,[.t 14],none⟩,none,[]⟩),
  (9,⟨⟨some 15,.extract 0,[.t 6],none⟩,none,[10]⟩),
  (10,⟨⟨some 16,.extract 1,[.t 6],none⟩,none,[9,11]⟩),
  (11,⟨⟨some 2,.mv,[.t 15],none⟩,none,[10]⟩),
  (12,⟨⟨some 3,.mv,[.t 16],none⟩,none,[]⟩)]
def a17r4 : List IOp := [⟨some 17,.build [.int .i64 0,.nils] [],[],none⟩,
  ⟨some 18,.call 32,[.c (.int .i64 1)],none⟩,
  ⟨some 19,.call 33,[.t 17,.c (.nils),.t 18,.c (.int .i64 5640)],none⟩,
  ⟨some 20,.mv,[.t 19],none⟩,
  ⟨some 21,.build [.int .i64 0,.nils] [],[],some (20,true)⟩,
  ⟨some 22,.call 32,[.c (.int .i64 1)],some (20,true)⟩,
  ⟨some 23,.call 33,[.t 21,.c (.nils),.t 22,.c (.int .i64 5639)],some (20,true)⟩,
  ⟨some 24,.not,[.t 23],some (20,true)⟩,
  ⟨some 25,.pick,[.t 20,.t 24,.c (.bool false)],none⟩,
  ⟨some 26,.mv,[.t 25],none⟩,
  ⟨some 27,.build [.int .i64 0,.nils] [],[],some (26,true)⟩,
  ⟨some 28,.call 32,[.c (.int .i64 1)],some (26,true)⟩,
  ⟨some 29,.call 33,[.t 27,.c (.nils),.t 28,.c (.int .i64 359)],some (26,true)⟩,
  ⟨some 30,.pick,[.t 26,.t 29,.c (.bool false)],none⟩,
  ⟨some 31,.mv,[.t 30],none⟩,
  ⟨some 32,.mv,[.t 3],some (31,true)⟩,
  ⟨some 33,.bin .eql,[.t 32,.c (.int .i64 0)],some (31,true)⟩,
  ⟨some 34,.pick,[.t 31,.t 33,.c (.bool false)],none⟩,
  ⟨some 35,.mv,[.t 34],none⟩,
  ⟨some 36,.mv,[.t 2],some (35,true)⟩,
  ⟨some 37,.len,[.t 36],some (35,true)⟩,
  ⟨some 38,.bin .eql,[.t 37,.c (.int .i64 1)],some (35,true)⟩,
  ⟨some 39,.pick,[.t 35,.t 38,.c (.bool false)],none⟩,
  ⟨some 40,.mv,[.t 39],none⟩,
  ⟨some 41,.mv,[.t 2],some (40,true)⟩,
  ⟨some 42,.indexAddr 3,[.t 41,.c (.int .i64 0)],some (40,true)⟩,
  ⟨some 43,.loadA 3,[.t 42],some (40,true)⟩,
  ⟨some 44,.build [.int .i64 0,.str ⟨#[]⟩,.int .i64 0] [(0,1),(1,1),(2,1)],[.c (.int .i64 3),.c (.str ⟨#[108,97,116,101]⟩),.c (.int .i64 160)],some (40,true)⟩,
  ⟨some 45,.eqA false [.int .i64,.str,.int .i64],[.t 43,.t 44],some (40,true)⟩,
  ⟨some 46,.pick,[.t 40,.t 45,.c (.bool false)],none⟩,
  ⟨some 47,.mv,[.t 46],none⟩,
  ⟨some 48,.build [.int .i64 0,.nils] [],[],some (47,true)⟩,
  ⟨some 49,.loadA 7,[.t 1],some (47,true)⟩,
  ⟨some 50,.bslice 55 7 [.str ⟨#[]⟩,.str ⟨#[]⟩,.int .i64 0,.int .i64 0,.int .i64 0,.int .i64 0,.int .i64 0] 1 [0],[.t 49],some (47,true)⟩,
  ⟨some 51,.call 15,[.t 48,.c (.nils),.t 50],some (47,true)⟩,
  ⟨some 52,.bin .eql,[.t 51,.c (.int .i64 0)],some (47,true)⟩,
  ⟨some 53,.pick,[.t 47,.t 52,.c (.bool false)],none⟩,
  ⟨some 0,.mv,[.t 53],none⟩]
def a17 : AFunc := ⟨54,[.tmp 0],(.seq (.region a17r0 []) (.seq (.region a17r1 [1]) (.seq (.region a17r2 [1]) (.seq (.draw a17r3 [(55,7),(59,4)] [1,2,3]) (.seq (.region a17r4 [0]) .ret)))))⟩
theorem a17_ok : compileF Tryz.prog (lk [(0,⟨[],[],[]⟩),(1,⟨[1],[],[]⟩),(2,⟨[1],[],[]⟩),(3,⟨[1,2,3],[[],[],[],[1,2],[],[4],[5,4],[0,3,6,1,2,5,4],[7,0,3,6,1,2,5,4],[8,7,0,3,6,1,2,5,4],[8,7,0,3,6,1,2,5,4],[9,7,0,1,2,3,4,5,6,8],[10,11,0,1,2,3,4,5,6,7,8,9]],[0,2,4,5,6,1,3,7,8,9,10,11,12]⟩),(4,⟨[0],[],[]⟩)]) Tryz.f17 = some a17 := by kernel_rfl

/- (*payroll/payrollgen.Tape).Pick -/
def a18r0 : List IOp := [⟨some 4,.mv,[.c (.int .i64 0)],none⟩]
def a18r1 : List IOp := [⟨some 5,.mv,[.t 1],none⟩,
  ⟨some 6,.mv,[.t 0],none⟩,
  ⟨some 7,.mv,[.t 1],none⟩,
  ⟨some 8,.len,[.t 7],none⟩,
  ⟨some 9,.call 10,[.t 6,.t 8],none⟩,
  ⟨some 10,.indexAddr 1,[.t 5,.t 9],none⟩,
  ⟨some 11,.load1,[.t 10],none⟩,
  ⟨some 4,.mv,[.t 11],none⟩]
def a18 : AFunc := ⟨12,[.tmp 4],(.seq (.region a18r0 [0,1]) (.seq (.region a18r1 [4]) .ret))⟩
theorem a18_ok : compileF Tryz.prog (lk [(0,⟨[0,1],[],[]⟩),(1,⟨[4],[],[]⟩)]) Tryz.f18 = some a18 := by kernel_rfl

/- payroll/payrollgen.Mod -/
def a19r0 : List IOp := [⟨some 4,.mv,[.c (.int .i64 0)],none⟩]
def a19r1 : List IOp := [⟨some 6,.mv,[.t 0],none⟩,
  ⟨some 7,.mv,[.t 1],none⟩,
  ⟨some 8,.bin .rem,[.t 6,.t 7],none⟩,
  ⟨some 5,.mv,[.t 8],none⟩]
def a19r2 : List IOp := [⟨some 9,.mv,[.t 5],none⟩,
  ⟨some 10,.bin .lss,[.t 9,.c (.int .i64 0)],none⟩]
def a19r3 : List IOp := [⟨some 11,.mv,[.t 5],none⟩,
  ⟨some 12,.mv,[.t 1],none⟩,
  ⟨some 13,.bin .add,[.t 11,.t 12],none⟩,
  ⟨some 5,.mv,[.t 13],none⟩]
def a19r4 : List IOp := [⟨some 14,.mv,[.t 5],none⟩,
  ⟨some 4,.mv,[.t 14],none⟩]
def a19 : AFunc := ⟨15,[.tmp 4],(.seq (.region a19r0 [0,1]) (.seq (.region a19r1 [1,5]) (.seq (.seq (.region a19r2 [1,5,10]) (.cond (.t 10) (.region a19r3 [5]) .skip)) (.seq (.region a19r4 [4]) .ret))))⟩
theorem a19_ok : compileF Tryz.prog (lk [(0,⟨[0,1],[],[]⟩),(1,⟨[1,5],[],[]⟩),(2,⟨[1,5,10],[],[]⟩),(3,⟨[5],[],[]⟩),(4,⟨[4],[],[]⟩)]) Tryz.f19 = some a19 := by kernel_rfl

/- payroll/premium.checkPieces -/
def a20r0 : List IOp := [⟨some 2,.mv,[.c (.int .i64 0)],none⟩]
def a20r1 : List IOp := [⟨some 6,.mv,[.t 0],none⟩,
  ⟨some 7,.len,[.t 6],none⟩,
  ⟨some 8,.bin .gtr,[.t 7,.c (.int .i64 4096)],none⟩]
def a20r2 : List IOp := [⟨some 2,.mv,[.c (.int .i64 3)],none⟩]
def a20r3 : List IOp := [⟨some 3,.mv,[.c (.int .i64 0)],none⟩]
def a20r4 : List IOp := [⟨some 9,.mv,[.t 0],none⟩,
  ⟨some 10,.len,[.t 9],none⟩,
  ⟨some 11,.mv,[.c (.int .i64 0)],none⟩]
def a20r5 : List IOp := [⟨some 12,.bin .lss,[.t 11,.t 10],none⟩]
def a20r6 : List IOp := [⟨some 13,.indexAddr 4,[.t 9,.t 11],none⟩,
  ⟨some 14,.loadA 4,[.t 13],none⟩,
  ⟨some 5,.alloc 59 [.int .i64 0,.int .i64 0,.int .i64 0,.str ⟨#[]⟩],[],none⟩,
  ⟨none,.store 4,[.t 5,.t 14],none⟩]
def a20r7 : List IOp := [⟨some 15,.fieldAddr 0,[.t 5],none⟩,
  ⟨some 16,.load1,[.t 15],none⟩,
  ⟨some 17,.bin .lss,[.t 16,.c (.int .i64 0)],none⟩,
  ⟨some 18,.mv,[.t 17],none⟩,
  ⟨some 19,.fieldAddr 0,[.t 5],some (18,false)⟩,
  ⟨some 20,.load1,[.t 19],some (18,false)⟩,
  ⟨some 21,.bin .gtr,[.t 20,.c (.int .i64 84005)],some (18,false)⟩,
  ⟨some 22,.pick,[.t 18,.c (.bool true),.t 21],none⟩]
def a20r8 : List IOp := [⟨some 2,.mv,[.c (.int .i64 1)],none⟩]
def a20r9 : List IOp := [⟨some 23,.fieldAddr 1,[.t 5],none⟩,
  ⟨some 24,.fieldAddr 0,[.t 23],none⟩,
  ⟨some 25,.load1,[.t 24],none⟩,
  ⟨some 26,.bin .lss,[.t 25,.c (.int .i64 0)],none⟩,
  ⟨some 27,.mv,[.t 26],none⟩,
  ⟨some 28,.fieldAddr 1,[.t 5],some (27,false)⟩,
  ⟨some 29,.fieldAddr 1,[.t 28],some (27,false)⟩,
  ⟨some 30,.load1,[.t 29],some (27,false)⟩,
  ⟨some 31,.fieldAddr 1,[.t 5],some (27,false)⟩,
  ⟨some 32,.fieldAddr 0,[.t 31],some (27,false)⟩,
  ⟨some 33,.load1,[.t 32],some (27,false)⟩,
  ⟨some 34,.bin .leq,[.t 30,.t 33],some (27,false)⟩,
  ⟨some 35,.pick,[.t 27,.c (.bool true),.t 34],none⟩,
  ⟨some 36,.mv,[.t 35],none⟩,
  ⟨some 37,.fieldAddr 1,[.t 5],some (36,false)⟩,
  ⟨some 38,.fieldAddr 1,[.t 37],some (36,false)⟩,
  ⟨some 39,.load1,[.t 38],some (36,false)⟩,
  ⟨some 40,.bin .gtr,[.t 39,.c (.int .i64 120968640)],some (36,false)⟩,
  ⟨some 41,.pick,[.t 36,.c (.bool true),.t 40],none⟩]
def a20r10 : List IOp := [⟨some 2,.mv,[.c (.int .i64 1)],none⟩]
def a20r11 : List IOp := [⟨some 42,.mv,[.t 3],none⟩,
  ⟨some 43,.fieldAddr 1,[.t 5],none⟩,
  ⟨some 44,.fieldAddr 1,[.t 43],none⟩,
  ⟨some 45,.load1,[.t 44],none⟩,
  ⟨some 46,.fieldAddr 1,[.t 5],none⟩,
  ⟨some 47,.fieldAddr 0,[.t 46],none⟩,
  ⟨some 48,.load1,[.t 47],none⟩,
  ⟨some 49,.bin .sub,[.t 45,.t 48],none⟩,
  ⟨some 50,.bin .add,[.t 42,.t 49],none⟩,
  ⟨some 3,.mv,[.t 50],none⟩]
def a20r12 : List IOp := [⟨some 51,.bin .add,[.t 11,.c (.int .i64 1)],none⟩,
  ⟨some 11,.mv,[.t 51],none⟩]
def a20r13 : List IOp := [⟨some 52,.mv,[.t 3],none⟩,
  ⟨some 53,.bin .gtr,[.t 52,.c (.int .i64 100000)],none⟩]
def a20r14 : List IOp := [⟨some 2,.mv,[.c (.int .i64 3)],none⟩]
def a20r15 : List IOp := [⟨some 2,.mv,[.c (.int .i64 0)],none⟩]
def a20 : AFunc := ⟨54,[.tmp 2],(.seq (.region a20r0 [0]) (.seq (.seq (.region a20r1 [0,8]) (.cond (.t 8) (.seq (.region a20r2 [2]) .ret) .skip)) (.seq (.region a20r3 [0,3]) (.seq (.seq (.region a20r4 [3,9,10,11]) (.block 0 (.loop (.seq (.region a20r5 [3,9,10,11,12]) (.seq (.cond (.t 12) .skip (.exit 0)) (.seq (.block 1 (.seq (.region a20r6 [3,5,9,10,11]) (.seq (.seq (.region a20r7 [3,5,9,10,11,22]) (.cond (.t 22) (.seq (.region a20r8 [2]) .ret) .skip)) (.seq (.seq (.region a20r9 [3,5,9,10,11,41]) (.cond (.t 41) (.seq (.region a20r10 [2]) .ret) .skip)) (.region a20r11 [3,9,10,11]))))) (.region a20r12 [3,9,10,11]))))))) (.seq (.seq (.region a20r13 [53]) (.cond (.t 53) (.seq (.region a20r14 [2]) .ret) .skip)) (.seq (.region a20r15 [2]) .ret))))))⟩
theorem a20_ok : compileF Tryz.prog (lk [(0,⟨[0],[],[]⟩),(1,⟨[0,8],[],[]⟩),(2,⟨[2],[],[]⟩),(3,⟨[0,3],[],[]⟩),(4,⟨[3,9,10,11],[],[]⟩),(5,⟨[3,9,10,11,12],[],[]⟩),(6,⟨[3,5,9,10,11],[],[]⟩),(7,⟨[3,5,9,10,11,22],[],[]⟩),(8,⟨[2],[],[]⟩),(9,⟨[3,5,9,10,11,41],[],[]⟩),(10,⟨[2],[],[]⟩),(11,⟨[3,9,10,11],[],[]⟩),(12,⟨[3,9,10,11],[],[]⟩),(13,⟨[53],[],[]⟩),(14,⟨[2],[],[]⟩),(15,⟨[2],[],[]⟩)]) Tryz.f20 = some a20 := by kernel_rfl

/- payroll/premium.count -/
def a21r0 : List IOp := [⟨some 4,.box 27 2,[.t 0],none⟩,
  ⟨some 8,.mv,[.c (.nilm)],none⟩]
def a21r1 : List IOp := [⟨some 23,.mv,[.t 1],none⟩,
  ⟨some 24,.call 34,[.t 23],none⟩,
  ⟨some 9,.mv,[.t 24],none⟩]
def a21r2 : List IOp := [⟨some 25,.mkmap false [.int .i64],[],none⟩,
  ⟨some 10,.mv,[.t 25],none⟩]
def a21r3 : List IOp := [⟨some 26,.mkmap false [.int .i64],[],none⟩,
  ⟨some 11,.mv,[.t 26],none⟩]
def a21r4 : List IOp := [⟨some 27,.mv,[.t 3],none⟩,
  ⟨some 28,.len,[.t 27],none⟩,
  ⟨some 29,.mv,[.c (.int .i64 0)],none⟩]
def a21r5 : List IOp := [⟨some 30,.bin .lss,[.t 29,.t 28],none⟩]
def a21r6 : List IOp := [⟨some 31,.indexAddr 4,[.t 27,.t 29],none⟩,
  ⟨some 32,.loadA 4,[.t 31],none⟩,
  ⟨some 13,.alloc 59 [.int .i64 0,.int .i64 0,.int .i64 0,.str ⟨#[]⟩],[],none⟩,
  ⟨none,.store 4,[.t 13,.t 32],none⟩]
def a21r7 : List IOp := [⟨some 33,.mv,[.t 11],none⟩,
  ⟨some 34,.fieldAddr 0,[.t 13],none⟩,
  ⟨some 35,.load1,[.t 34],none⟩,
  ⟨some 36,.look false false [.int .i64] (.agg [.int .i64 0,.int .i64 0,.int .i64 0,.int .i64 0,.int .i64 0,.int .i64 0,.int .i64 0,.int .i64 0,.int .i64 0,.int .i64 0,.int .i64 0,.int .i64 0,.int .i64 0,.int .i64 0,.int .i64 0,.int .i64 0]),[.t 33,.t 35],none⟩,
  ⟨some 14,.alloc 68 [.int .i64 0,.int .i64 0,.int .i64 0,.int .i64 0,.int .i64 0,.int .i64 0,.int .i64 0,.int .i64 0,.int .i64 0,.int .i64 0,.int .i64 0,.int .i64 0,.int .i64 0,.int .i64 0,.int .i64 0,.int .i64 0],[],none⟩,
  ⟨none,.store 16,[.t 14,.t 36],none⟩]
def a21r8 : List IOp := [⟨some 37,.fieldAddr 1,[.t 13],none⟩,
  ⟨some 38,.fieldAddr 0,[.t 37],none⟩,
  ⟨some 39,.load1,[.t 38],none⟩,
  ⟨some 15,.mv,[.t 39],none⟩]
def a21r9 : List IOp := [⟨some 40,.mv,[.t 15],none⟩,
  ⟨some 41,.fieldAddr 1,[.t 13],none⟩,
  ⟨some 42,.fieldAddr 1,[.t 41],none⟩,
  ⟨some 43,.load1,[.t 42],none⟩,
  ⟨some 44,.bin .lss,[.t 40,.t 43],none⟩]
def a21r10 : List IOp := [⟨some 47,.loadA 2,[.t 4],none⟩,
  ⟨some 48,.mv,[.t 9],none⟩,
  ⟨some 49,.mv,[.t 15],none⟩,
  ⟨some 50,.call 35,[.t 47,.t 48,.t 49],none⟩,
  ⟨some 16,.alloc 84 [.int .i64 0,.int .i64 0,.bool false],[],none⟩,
  ⟨none,.store 3,[.t 16,.t 50],none⟩]
def a21r11 : List IOp := [⟨some 17,.mv,[.c (.int .i64 0)],none⟩]
def a21r12 : List IOp := [⟨some 51,.mv,[.t 2],none⟩,
  ⟨some 52,.len,[.t 51],none⟩,
  ⟨some 53,.mv,[.c (.int .i64 0)],none⟩]
def a21r13 : List IOp := [⟨some 54,.bin .lss,[.t 53,.t 52],none⟩]
def a21r14 : List IOp := [⟨some 55,.mv,[.t 53],none⟩,
  ⟨some 56,.indexAddr 7,[.t 51,.t 53],none⟩,
  ⟨some 57,.loadA 7,[.t 56],none⟩,
  ⟨some 19,.alloc 55 [.str ⟨#[]⟩,.str ⟨#[]⟩,.int .i64 0,.int .i64 0,.int .i64 0,.int .i64 0,.int .i64 0],[],none⟩,
  ⟨some 18,.mv,[.t 55],none⟩,
  ⟨none,.store 7,[.t 19,.t 57],none⟩]
def a21r15 : List IOp := [⟨some 58,.loadA 7,[.t 19],none⟩,
  ⟨some 59,.loadA 3,[.t 16],none⟩,
  ⟨some 60,.call 36,[.t 58,.t 59],none⟩]
def a21r16 : List IOp := [⟨some 61,.mv,[.t 17],none⟩,
  ⟨some 62,.mv,[.t 18],none⟩,
  ⟨some 63,.bin .shl,[.c (.int .i64 1),.t 62],none⟩,
  ⟨some 64,.bin .or,[.t 61,.t 63],none⟩,
  ⟨some 17,.mv,[.t 64],none⟩]
def a21r17 : List IOp := [⟨some 65,.bin .add,[.t 53,.c (.int .i64 1)],none⟩,
  ⟨some 53,.mv,[.t 65],none⟩]
def a21r18 : List IOp := [⟨some 67,.mv,[.t 10],none⟩,
  ⟨some 68,.mv,[.t 17],none⟩,
  ⟨some 69,.look true false [.int .i64] (.int .i64 0),[.t 67,.t 68],none⟩,
  ⟨some 66,.mv,[.t 69],none⟩,
  ⟨some 70,.extract 0,[.t 66],none⟩,
  ⟨some 71,.extract 1,[.t 66],none⟩,
  ⟨some 20,.mv,[.t 70],none⟩,
  ⟨some 21,.mv,[.t 71],none⟩]
def a21r19 : List IOp := [⟨some 72,.mv,[.t 21],none⟩,
  ⟨some 73,.not,[.t 72],none⟩]
def a21r20 : List IOp := [⟨some 74,.mv,[.t 2],none⟩,
  ⟨some 75,.mv,[.t 17],none⟩,
  ⟨some 76,.call 37,[.t 74,.t 75],none⟩,
  ⟨some 20,.mv,[.t 76],none⟩]
def a21r21 : List IOp := [⟨some 77,.mv,[.t 10],none⟩,
  ⟨some 78,.mv,[.t 17],none⟩,
  ⟨some 79,.mv,[.t 20],none⟩,
  ⟨none,.mset false [.int .i64],[.t 77,.t 78,.t 79],none⟩]
def a21r22 : List IOp := [⟨some 80,.mv,[.t 2],none⟩,
  ⟨some 81,.len,[.t 80],none⟩,
  ⟨some 82,.mv,[.c (.int .i64 0)],none⟩]
def a21r23 : List IOp := [⟨some 83,.bin .lss,[.t 82,.t 81],none⟩]
def a21r24 : List IOp := [⟨some 84,.mv,[.t 82],none⟩,
  ⟨some 22,.mv,[.t 84],none⟩]
def a21r25 : List (Nat × DOp) := [(0,⟨⟨some 85,.mv,[.t 22],none⟩,none,[3,4,5,6]⟩),
  (1,⟨⟨some 86,.indexArr 16 1,[.t 14,.t 85],none⟩,none,[3,4,5,6]⟩),
  (2,⟨⟨some 87,.load1,[.t 86],none⟩,none,[3,4,5,6]⟩),
  (3,⟨⟨some 88,.mv,[.t 20],none⟩,none,[0,1,2,4]⟩),
  (4,⟨⟨some 89,.mv,[.t 22],none⟩,none,[0,1,2,3]⟩),
  (5,⟨⟨some 90,.bin .shr,[.t 88,.t 89],none⟩,none,[0,1,2]⟩),
  (6,⟨⟨some 91,.bin .and,[.t 90,.c (.int .i64 1)],none⟩,none,[0,1,2]⟩),
  (7,⟨⟨some 92,.bin .add,[.t 87,.t 91],none⟩,none,[]⟩),
  (8,⟨⟨some 93,.indexArr 16 1,[.t 14,.t 85],none⟩,none,[]⟩),
  (9,⟨⟨none,.store 1,[.t 93,.t 92],none⟩,none,[]⟩)]
def a21r26 : List IOp := [⟨some 94,.bin .add,[.t 82,.c (.int .i64 1)],none⟩,
  ⟨some 82,.mv,[.t 94],none⟩]
def a21r27 : List IOp := [⟨some 45,.mv,[.t 15],none⟩,
  ⟨some 46,.bin .add,[.t 45,.c (.int .i64 1)],none⟩,
  ⟨some 15,.mv,[.t 46],none⟩]
def a21r28 : List IOp := [⟨some 95,.mv,[.t 11],none⟩,
  ⟨some 96,.fieldAddr 0,[.t 13],none⟩,
  ⟨some 97,.load1,[.t 96],none⟩,
  ⟨some 98,.loadA 16,[.t 14],none⟩,
  ⟨none,.mset false [.int .i64],[.t 95,.t 97,.t 98],none⟩]
def a21r29 : List IOp := [⟨some 99,.bin .add,[.t 29,.c (.int .i64 1)],none⟩,
  ⟨some 29,.mv,[.t 99],none⟩]
def a21r30 : List IOp := [⟨some 100,.mv,[.t 11],none⟩,
  ⟨some 8,.mv,[.t 100],none⟩]
def a21 : AFunc := ⟨101,[.tmp 8],(.seq (.region a21r0 [1,2,3,4]) (.seq (.region a21r1 [2,3,4,9]) (.seq (.region a21r2 [2,3,4,9,10]) (.seq (.region a21r3 [2,3,4,9,10,11]) (.seq (.seq (.region a21r4 [2,4,9,10,11,27,28,29]) (.block 0 (.loop (.seq (.region a21r5 [2,4,9,10,11,27,28,29,30]) (.seq (.cond (.t 30) .skip (.exit 0)) (.seq (.block 1 (.seq (.region a21r6 [2,4,9,10,11,13,27,28,29]) (.seq (.region a21r7 [2,4,9,10,11,13,14,27,28,29]) (.seq (.seq (.region a21r8 [2,4,9,10,11,13,14,15,27,28,29]) (.block 2 (.loop (.seq (.seq (.region a21r9 [2,4,9,10,11,13,14,15,27,28,29,44]) (.cond (.t 44) .skip (.exit 2))) (.seq (.block 3 (.seq (.region a21r10 [2,4,9,10,11,13,14,15,16,27,28,29]) (.seq (.region a21r11 [2,4,9,10,11,13,14,15,16,17,27,28,29]) (.seq (.seq (.region a21r12 [2,4,9,10,11,13,14,15,16,17,27,28,29,51,52,53]) (.block 4 (.loop (.seq (.region a21r13 [2,4,9,10,11,13,14,15,16,17,27,28,29,51,52,53,54]) (.seq (.cond (.t 54) .skip (.exit 4)) (.seq (.block 5 (.seq (.region a21r14 [2,4,9,10,11,13,14,15,16,17,18,19,27,28,29,51,52,53]) (.seq (.region a21r15 [2,4,9,10,11,13,14,15,16,17,18,27,28,29,51,52,53,60]) (.cond (.t 60) (.region a21r16 [2,4,9,10,11,13,14,15,16,17,27,28,29,51,52,53]) .skip)))) (.region a21r17 [2,4,9,10,11,13,14,15,16,17,27,28,29,51,52,53]))))))) (.seq (.region a21r18 [2,4,9,10,11,13,14,15,17,20,21,27,28,29]) (.seq (.seq (.region a21r19 [2,4,9,10,11,13,14,15,17,20,27,28,29,73]) (.cond (.t 73) (.seq (.region a21r20 [2,4,9,10,11,13,14,15,17,20,27,28,29]) (.region a21r21 [2,4,9,10,11,13,14,15,20,27,28,29])) .skip)) (.seq (.region a21r22 [2,4,9,10,11,13,14,15,20,27,28,29,81,82]) (.block 6 (.loop (.seq (.region a21r23 [2,4,9,10,11,13,14,15,20,27,28,29,81,82,83]) (.seq (.cond (.t 83) .skip (.exit 6)) (.seq (.block 7 (.seq (.region a21r24 [2,4,9,10,11,13,14,15,20,22,27,28,29,81,82]) (.draw a21r25 [] [2,4,9,10,11,13,14,15,20,27,28,29,81,82]))) (.region a21r26 [2,4,9,10,11,13,14,15,20,27,28,29,81,82]))))))))))))) (.region a21r27 [2,4,9,10,11,13,14,15,27,28,29])))))) (.region a21r28 [2,4,9,10,11,27,28,29]))))) (.region a21r29 [2,4,9,10,11,27,28,29]))))))) (.seq (.region a21r30 [8]) .ret))))))⟩
theorem a21_ok : compileF Tryz.prog (lk [(0,⟨[1,2,3,4],[],[]⟩),(1,⟨[2,3,4,9],[],[]⟩),(2,⟨[2,3,4,9,10],[],[]⟩),(3,⟨[2,3,4,9,10,11],[],[]⟩),(4,⟨[2,4,9,10,11,27,28,29],[],[]⟩),(5,⟨[2,4,9,10,11,27,28,29,30],[],[]⟩),(6,⟨[2,4,9,10,11,13,27,28,29],[],[]⟩),(7,⟨[2,4,9,10,11,13,14,27,28,29],[],[]⟩),(8,⟨[2,4,9,10,11,13,14,15,27,28,29],[],[]⟩),(9,⟨[2,4,9,10,11,13,14,15,27,28,29,44],[],[]⟩),(10,⟨[2,4,9,10,11,13,14,15,27,28,29],[],[]⟩),(11,⟨[2,4,9,10,11,13,14,15,16,27,28,29],[],[]⟩),(12,⟨[2,4,9,10,11,13,14,15,16,17,27,28,29],[],[]⟩),(13,⟨[2,4,9,10,11,13,14,15,16,17,27,28,29,51,52,53],[],[]⟩),(14,⟨[2,4,9,10,11,13,14,15,16,17,27,28,29,51,52,53,54],[],[]⟩),(15,⟨[2,4,9,10,11,13,14,15,16,17,18,19,27,28,29,51,52,53],[],[]⟩),(16,⟨[2,4,9,10,11,13,14,15,16,17,18,27,28,29,51,52,53,60],[],[]⟩),(17,⟨[2,4,9,10,11,13,14,15,16,17,27,28,29,51,52,53],[],[]⟩),(18,⟨[2,4,9,10,11,13,14,15,16,17,27,28,29,51,52,53],[],[]⟩),(19,⟨[2,4,9,10,11,13,14,15,17,20,21,27,28,29],[],[]⟩),(20,⟨[2,4,9,10,11,13,14,15,17,20,27,28,29,73],[],[]⟩),(21,⟨[2,4,9,10,11,13,14,15,17,20,27,28,29],[],[]⟩),(22,⟨[2,4,9,10,11,13,14,15,20,27,28,29],[],[]⟩),(23,⟨[2,4,9,10,11,13,14,15,20,27,28,29,81,82],[],[]⟩),(24,⟨[2,4,9,10,11,13,14,15,20,27,28,29,81,82,83],[],[]⟩),(25,⟨[2,4,9,10,11,13,14,15,20,22,27,28,29,81,82],[],[]⟩),(26,⟨[2,4,9,10,11,13,14,15,20,27,28,29,81,82],[[],[0],[1,0],[],[],[3,4],[5,3,4],[2,6,1,0,5,3,4],[0,1,2,3,4,5,6,7],[8,7,0,1,2,3,4,5,6]],[0,1,2,3,4,5,6,7,8,9]⟩),(27,⟨[2,4,9,10,11,13,14,15,20,27,28,29,81,82],[],[]⟩),(28,⟨[2,4,9,10,11,27,28,29],[],[]⟩),(29,⟨[2,4,9,10,11,27,28,29],[],[]⟩),(30,⟨[8],[],[]⟩)]) Tryz.f21 = some a21 := by kernel_rfl

/- slices.Sorted[int] -/
def a22r0 : List IOp := [⟨some 2,.mv,[.c (.nils)],none⟩]
def a22r1 : List IOp := [⟨some 4,.mv,[.t 0],none⟩,
  ⟨some 5,.call 38,[.t 4],none⟩,
  ⟨some 3,.mv,[.t 5],none⟩]
def a22r2 : List IOp := [⟨some 6,.mv,[.t 3],none⟩,
  ⟨some 7,.call 39,[.t 6],none⟩]
def a22r3 : List IOp := [⟨some 8,.mv,[.t 3],none⟩,
  ⟨some 2,.mv,[.t 8],none⟩]
def a22 : AFunc := ⟨9,[.tmp 2],(.seq (.region a22r0 [0]) (.seq (.region a22r1 [3]) (.seq (.region a22r2 [3]) (.seq (.region a22r3 [2]) .ret))))⟩
/- maps.Keys[map[int][16]int,int,[16]int] -/
def a23r0 : List IOp := [⟨some 1,.box 62 1,[.t 0],none⟩,
  ⟨some 2,.mv,[],none⟩]
def a23r1 : List IOp := [⟨some 3,.mkfn 40,[.t 1],none⟩,
  ⟨some 2,.mv,[.t 3],none⟩]
def a23 : AFunc := ⟨4,[.tmp 2],(.seq (.region a23r0 [1]) (.seq (.region a23r1 [2]) .ret))⟩
/- payroll/payrollref9.IsInterval -/
def a24r0 : List IOp := [⟨some 1,.box 57 2,[.t 0],none⟩,
  ⟨some 2,.mv,[.c (.bool false)],none⟩]
def a24r1 : List IOp := [⟨some 3,.fieldAddr 0,[.t 1],none⟩,
  ⟨some 4,.load1,[.t 3],none⟩,
  ⟨some 5,.bin .geq,[.t 4,.c (.int .i64 0)],none⟩,
  ⟨some 6,.mv,[.t 5],none⟩,
  ⟨some 7,.fieldAddr 0,[.t 1],some (6,true)⟩,
  ⟨some 8,.load1,[.t 7],some (6,true)⟩,
  ⟨some 9,.fieldAddr 1,[.t 1],some (6,true)⟩,
  ⟨some 10,.load1,[.t 9],some (6,true)⟩,
  ⟨some 11,.bin .lss,[.t 8,.t 10],some (6,true)⟩,
  ⟨some 12,.pick,[.t 6,.t 11,.c (.bool false)],none⟩,
  ⟨some 13,.mv,[.t 12],none⟩,
  ⟨some 14,.fieldAddr 1,[.t 1],some (13,true)⟩,
  ⟨some 15,.load1,[.t 14],some (13,true)⟩,
  ⟨some 16,.bin .leq,[.t 15,.c (.int .i64 120968640)],some (13,true)⟩,
  ⟨some 17,.pick,[.t 13,.t 16,.c (.bool false)],none⟩,
  ⟨some 2,.mv,[.t 17],none⟩]
def a24 : AFunc := ⟨18,[.tmp 2],(.seq (.region a24r0 [1]) (.seq (.region a24r1 [2]) .ret))⟩
theorem a24_ok : compileF Tryz.prog (lk [(0,⟨[1],[],[]⟩),(1,⟨[2],[],[]⟩)]) Tryz.f24 = some a24 := by kernel_rfl

/- payroll/payrollref13.count -/
def a25r0 : List IOp := [⟨some 4,.box 27 2,[.t 0],none⟩,
  ⟨some 8,.mv,[.c (.nils)],none⟩]
def a25r1 : List IOp := [⟨some 17,.mv,[.t 3],none⟩,
  ⟨some 18,.loadA 2,[.t 4],none⟩,
  ⟨some 19,.mv,[.t 3],none⟩,
  ⟨some 20,.call 42,[.t 18,.t 19],none⟩,
  ⟨some 21,.bin .add,[.t 17,.t 20],none⟩,
  ⟨some 22,.call 41,[.t 21],none⟩,
  ⟨some 16,.mv,[.t 22],none⟩,
  ⟨some 23,.extract 0,[.t 16],none⟩,
  ⟨some 24,.extract 1,[.t 16],none⟩,
  ⟨some 9,.mv,[.t 23],none⟩,
  ⟨some 10,.mv,[.t 24],none⟩]
def a25r2 : List IOp := [⟨some 25,.mv,[.t 2],none⟩,
  ⟨some 26,.len,[.t 25],none⟩,
  ⟨some 27,.mkslice 4 1 1 [.bool false],[.t 26,.t 26],none⟩,
  ⟨some 11,.mv,[.t 27],none⟩]
def a25r3 : List IOp := [⟨some 12,.mv,[.c (.int .i64 0)],none⟩]
def a25r4 : List IOp := [⟨some 28,.mv,[.t 12],none⟩,
  ⟨some 29,.mv,[.t 2],none⟩,
  ⟨some 30,.len,[.t 29],none⟩,
  ⟨some 31,.bin .lss,[.t 28,.t 30],none⟩]
def a25r5 : List IOp := [⟨some 34,.mv,[.t 11],none⟩,
  ⟨some 35,.mv,[.t 12],none⟩,
  ⟨some 36,.mv,[.t 1],none⟩,
  ⟨some 37,.mv,[.t 2],none⟩,
  ⟨some 38,.mv,[.t 12],none⟩,
  ⟨some 39,.indexAddr 7,[.t 37,.t 38],none⟩,
  ⟨some 40,.loadA 7,[.t 39],none⟩,
  ⟨some 41,.mv,[.t 9],none⟩,
  ⟨some 42,.mv,[.t 10],none⟩,
  ⟨some 43,.call 43,[.t 36,.t 40,.t 41,.t 42],none⟩,
  ⟨some 44,.indexAddr 1,[.t 34,.t 35],none⟩,
  ⟨none,.store 1,[.t 44,.t 43],none⟩]
def a25r6 : List IOp := [⟨some 32,.mv,[.t 12],none⟩,
  ⟨some 33,.bin .add,[.t 32,.c (.int .i64 1)],none⟩,
  ⟨some 12,.mv,[.t 33],none⟩]
def a25r7 : List IOp := [⟨some 45,.mv,[.t 2],none⟩,
  ⟨some 46,.len,[.t 45],none⟩,
  ⟨some 47,.mkslice 4 1 1 [.bool false],[.t 46,.t 46],none⟩,
  ⟨some 13,.mv,[.t 47],none⟩]
def a25r8 : List IOp := [⟨some 14,.mv,[.c (.int .i64 0)],none⟩]
def a25r9 : List IOp := [⟨some 48,.mv,[.t 14],none⟩,
  ⟨some 49,.mv,[.t 2],none⟩,
  ⟨some 50,.len,[.t 49],none⟩,
  ⟨some 51,.bin .lss,[.t 48,.t 50],none⟩]
def a25r10 : List IOp := [⟨some 54,.mv,[.t 13],none⟩,
  ⟨some 55,.mv,[.t 14],none⟩,
  ⟨some 56,.mv,[.t 11],none⟩,
  ⟨some 57,.mv,[.t 14],none⟩,
  ⟨some 58,.indexAddr 1,[.t 56,.t 57],none⟩,
  ⟨some 59,.load1,[.t 58],none⟩,
  ⟨some 60,.indexAddr 1,[.t 54,.t 55],none⟩,
  ⟨none,.store 1,[.t 60,.t 59],none⟩]
def a25r11 : List IOp := [⟨some 15,.mv,[.c (.int .i64 0)],none⟩]
def a25r12 : List IOp := [⟨some 61,.mv,[.t 15],none⟩,
  ⟨some 62,.mv,[.t 2],none⟩,
  ⟨some 63,.len,[.t 62],none⟩,
  ⟨some 64,.bin .lss,[.t 61,.t 63],none⟩,
  ⟨some 65,.mv,[.t 64],none⟩,
  ⟨some 66,.mv,[.t 2],some (65,true)⟩,
  ⟨some 67,.mv,[.t 14],some (65,true)⟩,
  ⟨some 68,.indexAddr 7,[.t 66,.t 67],some (65,true)⟩,
  ⟨some 69,.fieldAddr 1,[.t 68],some (65,true)⟩,
  ⟨some 70,.load1,[.t 69],some (65,true)⟩,
  ⟨some 71,.bin .neq,[.t 70,.c (.str ⟨#[]⟩)],some (65,true)⟩,
  ⟨some 72,.pick,[.t 65,.t 71,.c (.bool false)],none⟩]
def a25r13 : List (Nat × DOp) := [(0,⟨⟨some 75,.mv,[.t 11],none⟩,none,[1]⟩),
  (1,⟨⟨some 76,.mv,[.t 15],none⟩,none,[0]⟩),
  (2,⟨⟨some 77,.indexAddr 1,[.t 75,.t 76],none⟩,none,[]⟩),
  (3,⟨⟨some 78,.load1,[.t 77],none⟩,none,[]⟩),
  (4,⟨⟨some 79,.mv,[.t 78],none⟩,none,[]⟩),
  (5,⟨⟨some 80,.mv,[.t 2],some (79,true)⟩,none,[6,10,11,12,13,14]⟩),
  (6,⟨⟨some 81,.mv,[.t 15],some (79,true)⟩,none,[5,10,11,12,13,14]⟩),
  (7,⟨⟨some 82,.indexAddr 7,[.t 80,.t 81],some (79,true)⟩,none,[10,11,12,13,14]⟩),
  (8,⟨⟨some 83,.fieldAddr 1,[.t 82],some (79,true)⟩,none,[10,11,12,13,14]⟩),
  (9,⟨⟨some 84,.load1,[.t 83],some (79,true)⟩,none,[10,11,12,13,14]⟩),
  (10,⟨⟨some 85,.mv,[.t 2],some (79,true)⟩,none,[5,6,7,8,9,11]⟩),
  (11,⟨⟨some 86,.mv,[.t 14],some (79,true)⟩,none,[5,6,7,8,9,10]⟩),
  (12,⟨⟨some 87,.indexAddr 7,[.t 85,.t 86],some (79,true)⟩,none,[5,6,7,8,9]⟩),
  (13,⟨⟨some 88,.fieldAddr 1,[.t 87],some (79,true)⟩,none,[5,6,7,8,9]⟩),
  (14,⟨⟨some 89,.load1,[.t 88],some (79,true)⟩,none,[5,6,7,8,9]⟩),
  (15,⟨⟨some 90,.bin .eql,[.t 84,.t 89],some (79,true)⟩,none,[]⟩),
  (16,⟨⟨some 91,.pick,[.t 79,.t 90,.c (.bool false)],none⟩,none,[]⟩),
  (17,⟨⟨some 92,.mv,[.t 91],none⟩,none,[]⟩),
  (18,⟨⟨some 93,.mv,[.t 2],some (92,true)⟩,none,[19,23,24,25,26,27]⟩),
  (19,⟨⟨some 94,.mv,[.t 15],some (92,true)⟩,none,[18,23,24,25,26,27]⟩),
  (20,⟨⟨some 95,.indexAddr 7,[.t 93,.t 94],some (92,true)⟩,none,[23,24,25,26,27]⟩),
  (21,⟨⟨some 96,.fieldAddr 2,[.t 95],some (92,true)⟩,none,[23,24,25,26,27]⟩),
  (22,⟨⟨some 97,.load1,[.t 96],some (92,true)⟩,none,[23,24,25,26,27]⟩),
  (23,⟨⟨some 98,.mv,[.t 2],some (92,true)⟩,none,[18,19,20,21,22,24]⟩),
  (24,⟨⟨some 99,.mv,[.t 14],some (92,true)⟩,none,[18,19,20,21,22,23]⟩),
  (25,⟨⟨some 100,.indexAddr 7,[.t 98,.t 99],some (92,true)⟩,none,[18,19,20,21,22]⟩),
  (26,⟨⟨some 101,.fieldAddr 2,[.t 100],some (92,true)⟩,none,[18,19,20,21,22]⟩),
  (27,⟨⟨some 102,.load1,[.t 101],some (92,true)⟩,none,[18,19,20,21,22]⟩),
  (28,⟨⟨some 103,.bin .gtr,[.t 97,.t 102],some (92,true)⟩,none,[]⟩),
  (29,⟨⟨some 104,.mv,[.t 103],some (92,true)⟩,none,[]⟩),
  (30,⟨⟨some 105,.mv,[.t 2],some (104,false)⟩,none,[31,35,36,37,38,39]⟩),
  (31,⟨⟨some 106,.mv,[.t 15],some (104,false)⟩,none,[30,35,36,37,38,39]⟩),
  (32,⟨⟨some 107,.indexAddr 7,[.t 105,.t 106],some (104,false)⟩,none,[35,36,37,38,39]⟩),
  (33,⟨⟨some 108,.fieldAddr 2,[.t 107],some (104,false)⟩,none,[35,36,37,38,39]⟩),
  (34,⟨⟨some 109,.load1,[.t 108],some (104,false)⟩,none,[35,36,37,38,39]⟩),
  (35,⟨⟨some 110,.mv,[.t 2],some (104,false)⟩,none,[30,31,32,33,34,36]⟩),
  (36,⟨⟨some 111,.mv,[.t 14],some (104,false)⟩,none,[30,31,32,33,34,35]⟩),
  (37,⟨⟨some 112,.indexAddr 7,[.t 110,.t 111],some (104,false)⟩,none,[30,31,32,33,34]⟩),
  (38,⟨⟨some 113,.fieldAddr 2,[.t 112],some (104,false)⟩,none,[30,31,32,33,34]⟩),
  (39,⟨⟨some 114,.load1,[.t 113],some (104,false)⟩,none,[30,31,32,33,34]⟩),
  (40,⟨⟨some 115,.bin .eql,[.t 109,.t 114],some (104,false)⟩,none,[]⟩),
  (41,⟨⟨some 116,.mv,[.t 115],some (104,false)⟩,none,[]⟩),
  (42,⟨⟨some 117,.mv,[.t 15],some (116,true)⟩,none,[43]⟩),
  (43,⟨⟨some 118,.mv,[.t 14],some (116,true)⟩,none,[42]⟩),
  (44,⟨⟨some 119,.bin .lss,[.t 117,.t 118],some (116,true)⟩,none,[]⟩),
  (45,⟨⟨some 120,.pick,[.t 116,.t 119,.c (.bool false)],some (104,false)⟩,none,[]⟩),
  (46,⟨⟨some 121,.pick,[.t 104,.c (.bool true),.t 120],some (92,true)⟩,none,[]⟩),
  (47,⟨⟨some 122,.pick,[.t 92,.t 121,.c (.bool false)],none⟩,none,[]⟩)]
def a25r14 : List IOp := [⟨some 123,.mv,[.t 13],none⟩,
  ⟨some 124,.mv,[.t 14],none⟩,
  ⟨some 125,.indexAddr 1,[.t 123,.t 124],none⟩,
  ⟨none,.store 1,[.t 125,.c (.bool false)],none⟩]
def a25r15 : List IOp := [⟨some 73,.mv,[.t 15],none⟩,
  ⟨some 74,.bin .add,[.t 73,.c (.int .i64 1)],none⟩,
  ⟨some 15,.mv,[.t 74],none⟩]
def a25r16 : List IOp := [⟨some 52,.mv,[.t 14],none⟩,
  ⟨some 53,.bin .add,[.t 52,.c (.int .i64 1)],none⟩,
  ⟨some 14,.mv,[.t 53],none⟩]
def a25r17 : List IOp := [⟨some 126,.mv,[.t 13],none⟩,
  ⟨some 8,.mv,[.t 126],none⟩]
def a25 : AFunc := ⟨127,[.tmp 8],(.seq (.region a25r0 [1,2,3,4]) (.seq (.region a25r1 [1,2,9,10]) (.seq (.region a25r2 [1,2,9,10,11]) (.seq (.seq (.region a25r3 [1,2,9,10,11,12]) (.block 0 (.loop (.seq (.seq (.region a25r4 [1,2,9,10,11,12,31]) (.cond (.t 31) .skip (.exit 0))) (.seq (.block 1 (.region a25r5 [1,2,9,10,11,12])) (.region a25r6 [1,2,9,10,11,12])))))) (.seq (.region a25r7 [2,11,13]) (.seq (.seq (.region a25r8 [2,11,13,14]) (.block 2 (.loop (.seq (.seq (.region a25r9 [2,11,13,14,51]) (.cond (.t 51) .skip (.exit 2))) (.seq (.block 3 (.seq (.region a25r10 [2,11,13,14]) (.seq (.region a25r11 [2,11,13,14,15]) (.block 4 (.loop (.seq (.seq (.region a25r12 [2,11,13,14,15,72]) (.cond (.t 72) .skip (.exit 4))) (.seq (.block 5 (.seq (.draw a25r13 [] [2,11,13,14,15,122]) (.cond (.t 122) (.region a25r14 [2,11,13,14,15]) .skip))) (.region a25r15 [2,11,13,14,15])))))))) (.region a25r16 [2,11,13,14])))))) (.seq (.region a25r17 [8]) .ret)))))))⟩
theorem a25_ok : compileF Tryz.prog (lk [(0,⟨[1,2,3,4],[],[]⟩),(1,⟨[1,2,9,10],[],[]⟩),(2,⟨[1,2,9,10,11],[],[]⟩),(3,⟨[1,2,9,10,11,12],[],[]⟩),(4,⟨[1,2,9,10,11,12,31],[],[]⟩),(5,⟨[1,2,9,10,11,12],[],[]⟩),(6,⟨[1,2,9,10,11,12],[],[]⟩),(7,⟨[2,11,13],[],[]⟩),(8,⟨[2,11,13,14],[],[]⟩),(9,⟨[2,11,13,14,51],[],[]⟩),(10,⟨[2,11,13,14],[],[]⟩),(11,⟨[2,11,13,14],[],[]⟩),(12,⟨[2,11,13,14,15],[],[]⟩),(13,⟨[2,11,13,14,15,72],[],[]⟩),(14,⟨[2,11,13,14,15],[],[]⟩),(15,⟨[2,11,13,14,15,122],[[],[],[0,1],[2,0,1],[3,2,0,1],[4,3,2,0,1],[4,3,2,0,1],[5,6,4,3,2,0,1],[7,4,5,6,3,2,0,1],[8,4,7,5,6,3,2,0,1],[4,3,2,0,1],[4,3,2,0,1],[10,11,4,3,2,0,1],[12,4,10,11,3,2,0,1],[13,4,12,10,11,3,2,0,1],[9,14,4,8,7,5,6,3,2,0,1,13,12,10,11],[4,15,3,2,0,1,9,14,8,7,5,6,13,12,10,11],[16,4,15,3,2,0,1,9,14,8,7,5,6,13,12,10,11],[17,16,4,15,3,2,0,1,9,14,8,7,5,6,13,12,10,11],[17,16,4,15,3,2,0,1,9,14,8,7,5,6,13,12,10,11],[18,19,17,16,4,15,3,2,0,1,9,14,8,7,5,6,13,12,10,11],[20,17,18,19,16,4,15,3,2,0,1,9,14,8,7,5,6,13,12,10,11],[21,17,20,18,19,16,4,15,3,2,0,1,9,14,8,7,5,6,13,12,10,11],[17,16,4,15,3,2,0,1,9,14,8,7,5,6,13,12,10,11],[17,16,4,15,3,2,0,1,9,14,8,7,5,6,13,12,10,11],[23,24,17,16,4,15,3,2,0,1,9,14,8,7,5,6,13,12,10,11],[25,17,23,24,16,4,15,3,2,0,1,9,14,8,7,5,6,13,12,10,11],[26,17,25,23,24,16,4,15,3,2,0,1,9,14,8,7,5,6,13,12,10,11],[22,27,17,21,20,18,19,16,4,15,3,2,0,1,9,14,8,7,5,6,13,12,10,11,26,25,23,24],[28,17,22,27,21,20,18,19,16,4,15,3,2,0,1,9,14,8,7,5,6,13,12,10,11,26,25,23,24],[29,28,17,22,27,21,20,18,19,16,4,15,3,2,0,1,9,14,8,7,5,6,13,12,10,11,26,25,23,24],[29,28,17,22,27,21,20,18,19,16,4,15,3,2,0,1,9,14,8,7,5,6,13,12,10,11,26,25,23,24],[30,31,29,28,17,22,27,21,20,18,19,16,4,15,3,2,0,1,9,14,8,7,5,6,13,12,10,11,26,25,23,24],[32,29,30,31,28,17,22,27,21,20,18,19,16,4,15,3,2,0,1,9,14,8,7,5,6,13,12,10,11,26,25,23,24],[33,29,32,30,31,28,17,22,27,21,20,18,19,16,4,15,3,2,0,1,9,14,8,7,5,6,13,12,10,11,26,25,23,24],[29,28,17,22,27,21,20,18,19,16,4,15,3,2,0,1,9,14,8,7,5,6,13,12,10,11,26,25,23,24],[29,28,17,22,27,21,20,18,19,16,4,15,3,2,0,1,9,14,8,7,5,6,13,12,10,11,26,25,23,24],[35,36,29,28,17,22,27,21,20,18,19,16,4,15,3,2,0,1,9,14,8,7,5,6,13,12,10,11,26,25,23,24],[37,29,35,36,28,17,22,27,21,20,18,19,16,4,15,3,2,0,1,9,14,8,7,5,6,13,12,10,11,26,25,23,24],[38,29,37,35,36,28,17,22,27,21,20,18,19,16,4,15,3,2,0,1,9,14,8,7,5,6,13,12,10,11,26,25,23,24],[34,39,29,33,32,30,31,28,17,22,27,21,20,18,19,16,4,15,3,2,0,1,9,14,8,7,5,6,13,12,10,11,26,25,23,24,38,37,35,36],[40,29,34,39,33,32,30,31,28,17,22,27,21,20,18,19,16,4,15,3,2,0,1,9,14,8,7,5,6,13,12,10,11,26,25,23,24,38,37,35,36],[41,40,29,34,39,33,32,30,31,28,17,22,27,21,20,18,19,16,4,15,3,2,0,1,9,14,8,7,5,6,13,12,10,11,26,25,23,24,38,37,35,36],[41,40,29,34,39,33,32,30,31,28,17,22,27,21,20,18,19,16,4,15,3,2,0,1,9,14,8,7,5,6,13,12,10,11,26,25,23,24,38,37,35,36],[42,43,41,40,29,34,39,33,32,30,31,28,17,22,27,21,20,18,19,16,4,15,3,2,0,1,9,14,8,7,5,6,13,12,10,11,26,25,23,24,38,37,35,36],[41,44,29,40,34,39,33,32,30,31,28,17,22,27,21,20,18,19,16,4,15,3,2,0,1,9,14,8,7,5,6,13,12,10,11,26,25,23,24,38,37,35,36,42,43],[29,45,17,28,22,27,21,20,18,19,16,4,15,3,2,0,1,9,14,8,7,5,6,13,12,10,11,26,25,23,24,41,44,40,34,39,33,32,30,31,38,37,35,36,42,43],[17,46,16,4,15,3,2,0,1,9,14,8,7,5,6,13,12,10,11,29,45,28,22,27,21,20,18,19,26,25,23,24,41,44,40,34,39,33,32,30,31,38,37,35,36,42,43]],[0,1,2,3,4,5,6,7,8,9,10,11,12,13,14,15,16,17,18,19,20,21,22,23,24,25,26,27,28,29,30,31,32,33,34,35,36,37,38,39,40,41,42,43,44,45,46,47]⟩),(16,⟨[2,11,13,14,15],[],[]⟩),(17,⟨[8],[],[]⟩)]) Tryz.f25 = some a25 := by kernel_rfl

/- payroll/clock.Valid -/
def a26r0 : List IOp := [⟨some 1,.box 27 2,[.t 0],none⟩,
  ⟨some 2,.mv,[.c (.int .i64 0)],none⟩]
def a26r1 : List IOp := [⟨some 5,.fieldAddr 1,[.t 1],none⟩,
  ⟨some 6,.load1,[.t 5],none⟩,
  ⟨some 7,.len,[.t 6],none⟩,
  ⟨some 8,.bin .gtr,[.t 7,.c (.int .i64 64)],none⟩]
def a26r2 : List IOp := [⟨some 2,.mv,[.c (.int .i64 3)],none⟩]
def a26r3 : List IOp := [⟨some 9,.fieldAddr 0,[.t 1],none⟩,
  ⟨some 10,.load1,[.t 9],none⟩,
  ⟨some 11,.call 44,[.t 10],none⟩,
  ⟨some 12,.not,[.t 11],none⟩]
def a26r4 : List IOp := [⟨some 2,.mv,[.c (.int .i64 2)],none⟩]
def a26r5 : List IOp := [⟨some 13,.fieldAddr 1,[.t 1],none⟩,
  ⟨some 14,.load1,[.t 13],none⟩,
  ⟨some 15,.len,[.t 14],none⟩,
  ⟨some 16,.mv,[.c (.int .i64 0)],none⟩]
def a26r6 : List IOp := [⟨some 17,.bin .lss,[.t 16,.t 15],none⟩]
def a26r7 : List IOp := [⟨some 18,.mv,[.t 16],none⟩,
  ⟨some 19,.indexAddr 2,[.t 14,.t 16],none⟩,
  ⟨some 20,.loadA 2,[.t 19],none⟩,
  ⟨some 4,.alloc 50 [.int .i64 0,.int .i64 0],[],none⟩,
  ⟨some 3,.mv,[.t 18],none⟩,
  ⟨none,.store 2,[.t 4,.t 20],none⟩]
def a26r8 : List IOp := [⟨some 21,.fieldAddr 0,[.t 4],none⟩,
  ⟨some 22,.load1,[.t 21],none⟩,
  ⟨some 23,.bin .lss,[.t 22,.c (.int .i64 0)],none⟩,
  ⟨some 24,.mv,[.t 23],none⟩,
  ⟨some 25,.fieldAddr 0,[.t 4],some (24,false)⟩,
  ⟨some 26,.load1,[.t 25],some (24,false)⟩,
  ⟨some 27,.bin .gtr,[.t 26,.c (.int .i64 120968639)],some (24,false)⟩,
  ⟨some 28,.pick,[.t 24,.c (.bool true),.t 27],none⟩,
  ⟨some 29,.mv,[.t 28],none⟩,
  ⟨some 30,.fieldAddr 1,[.t 4],some (29,false)⟩,
  ⟨some 31,.load1,[.t 30],some (29,false)⟩,
  ⟨some 32,.call 44,[.t 31],some (29,false)⟩,
  ⟨some 33,.not,[.t 32],some (29,false)⟩,
  ⟨some 34,.pick,[.t 29,.c (.bool true),.t 33],none⟩]
def a26r9 : List IOp := [⟨some 2,.mv,[.c (.int .i64 2)],none⟩]
def a26r10 : List (Nat × DOp) := [(0,⟨⟨some 35,.mv,[.t 3],none⟩,none,[]⟩),
  (1,⟨⟨some 36,.bin .gtr,[.t 35,.c (.int .i64 0)],none⟩,none,[]⟩),
  (2,⟨⟨some 37,.mv,[.t 36],none⟩,none,[]⟩),
  (3,⟨⟨some 38,.fieldAddr 0,[.t 4],some (37,true)⟩,none,[5,6,7,8,9,10,11]⟩),
  (4,⟨⟨some 39,.load1,[.t 38],some (37,true)⟩,none,[5,6,7,8,9,10,11]⟩),
  (5,⟨⟨some 40,.fieldAddr 1,[.t 1],some (37,true)⟩,none,[3,4,7,8]⟩),
  (6,⟨⟨some 41,.load1,[.t 40],some (37,true)⟩,none,[3,4,7,8]⟩),
  (7,⟨⟨some 42,.mv,[.t 3],some (37,true)⟩,none,[3,4,5,6]⟩),
  (8,⟨⟨some 43,.bin .sub,[.t 42,.c (.int .i64 1)],some (37,true)⟩,none,[3,4,5,6]⟩),
  (9,⟨⟨some 44,.indexAddr 2,[.t 41,.t 43],some (37,true)⟩,none,[3,4]⟩),
  (10,⟨⟨some 45,.fieldAddr 0,[.t 44],some (37,true)⟩,none,[3,4]⟩),
  (11,⟨⟨some 46,.load1,[.t 45],some (37,true)⟩,none,[3,4]⟩),
  (12,⟨⟨some 47,.bin .leq,[.t 39,.t 46],some (37,true)⟩,none,[]⟩),
  (13,⟨⟨some 48,.pick,[.t 37,.t 47,.c (.bool false)],none⟩,none,[]⟩)]
def a26r11 : List IOp := [⟨some 2,.mv,[.c (.int .i64 1)],none⟩]
def a26r12 : List IOp := [⟨some 49,.bin .add,[.t 16,.c (.int .i64 1)],none⟩,
  ⟨some 16,.mv,[.t 49],none⟩]
def a26r13 : List IOp := [⟨some 2,.mv,[.c (.int .i64 0)],none⟩]
def a26 : AFunc := ⟨50,[.tmp 2],(.seq (.region a26r0 [1]) (.seq (.seq (.region a26r1 [1,8]) (.cond (.t 8) (.seq (.region a26r2 [2]) .ret) .skip)) (.seq (.seq (.region a26r3 [1,12]) (.cond (.t 12) (.seq (.region a26r4 [2]) .ret) .skip)) (.seq (.seq (.region a26r5 [1,14,15,16]) (.block 0 (.loop (.seq (.region a26r6 [1,14,15,16,17]) (.seq (.cond (.t 17) .skip (.exit 0)) (.seq (.block 1 (.seq (.region a26r7 [1,3,4,14,15,16]) (.seq (.seq (.region a26r8 [1,3,4,14,15,16,34]) (.cond (.t 34) (.seq (.region a26r9 [2]) .ret) .skip)) (.seq (.draw a26r10 [] [1,14,15,16,48]) (.cond (.t 48) (.seq (.region a26r11 [2]) .ret) .skip))))) (.region a26r12 [1,14,15,16]))))))) (.seq (.region a26r13 [2]) .ret)))))⟩
theorem a26_ok : compileF Tryz.prog (lk [(0,⟨[1],[],[]⟩),(1,⟨[1,8],[],[]⟩),(2,⟨[2],[],[]⟩),(3,⟨[1,12],[],[]⟩),(4,⟨[2],[],[]⟩),(5,⟨[1,14,15,16],[],[]⟩),(6,⟨[1,14,15,16,17],[],[]⟩),(7,⟨[1,3,4,14,15,16],[],[]⟩),(8,⟨[1,3,4,14,15,16,34],[],[]⟩),(9,⟨[2],[],[]⟩),(10,⟨[1,14,15,16,48],[[],[0],[1,0],[2,1,0],[3,2,1,0],[2,1,0],[5,2,1,0],[2,1,0],[7,2,1,0],[6,8,2,5,1,0,7],[9,2,6,8,5,1,0,7],[10,2,9,6,8,5,1,0,7],[4,11,2,3,1,0,10,9,6,8,5,7],[2,12,1,0,4,11,3,10,9,6,8,5,7]],[0,1,2,3,4,5,6,7,8,9,10,11,12,13]⟩),(11,⟨[2],[],[]⟩),(12,⟨[1,14,15,16],[],[]⟩),(13,⟨[2],[],[]⟩)]) Tryz.f26 = some a26 := by kernel_rfl

/- payroll/calendar.Valid -/
def a27r0 : List IOp := [⟨some 2,.mv,[.c (.int .i64 0)],none⟩]
def a27r1 : List IOp := [⟨some 5,.mv,[.t 0],none⟩,
  ⟨some 6,.len,[.t 5],none⟩,
  ⟨some 7,.bin .gtr,[.t 6,.c (.int .i64 1024)],none⟩]
def a27r2 : List IOp := [⟨some 2,.mv,[.c (.int .i64 3)],none⟩]
def a27r3 : List IOp := [⟨some 8,.mv,[.t 0],none⟩,
  ⟨some 9,.len,[.t 8],none⟩,
  ⟨some 10,.mv,[.c (.int .i64 0)],none⟩]
def a27r4 : List IOp := [⟨some 11,.bin .lss,[.t 10,.t 9],none⟩]
def a27r5 : List IOp := [⟨some 12,.indexAddr 6,[.t 8,.t 10],none⟩,
  ⟨some 13,.loadA 6,[.t 12],none⟩,
  ⟨some 4,.alloc 52 [.int .i64 0,.int .i64 0,.int .i64 0,.int .i64 0,.int .i64 0,.bool false],[],none⟩,
  ⟨none,.store 6,[.t 4,.t 13],none⟩]
def a27r6 : List IOp := [⟨some 14,.loadA 6,[.t 4],none⟩,
  ⟨some 15,.call 45,[.t 14],none⟩,
  ⟨some 16,.not,[.t 15],none⟩]
def a27r7 : List IOp := [⟨some 2,.mv,[.c (.int .i64 1)],none⟩]
def a27r8 : List IOp := [⟨some 17,.bin .add,[.t 10,.c (.int .i64 1)],none⟩,
  ⟨some 10,.mv,[.t 17],none⟩]
def a27r9 : List IOp := [⟨some 2,.mv,[.c (.int .i64 0)],none⟩]
def a27 : AFunc := ⟨18,[.tmp 2],(.seq (.region a27r0 [0]) (.seq (.seq (.region a27r1 [0,7]) (.cond (.t 7) (.seq (.region a27r2 [2]) .ret) .skip)) (.seq (.seq (.region a27r3 [8,9,10]) (.block 0 (.loop (.seq (.region a27r4 [8,9,10,11]) (.seq (.cond (.t 11) .skip (.exit 0)) (.seq (.block 1 (.seq (.region a27r5 [4,8,9,10]) (.seq (.region a27r6 [8,9,10,16]) (.cond (.t 16) (.seq (.region a27r7 [2]) .ret) .skip)))) (.region a27r8 [8,9,10]))))))) (.seq (.region a27r9 [2]) .ret))))⟩
theorem a27_ok : compileF Tryz.prog (lk [(0,⟨[0],[],[]⟩),(1,⟨[0,7],[],[]⟩),(2,⟨[2],[],[]⟩),(3,⟨[8,9,10],[],[]⟩),(4,⟨[8,9,10,11],[],[]⟩),(5,⟨[4,8,9,10],[],[]⟩),(6,⟨[8,9,10,16],[],[]⟩),(7,⟨[2],[],[]⟩),(8,⟨[8,9,10],[],[]⟩),(9,⟨[2],[],[]⟩)]) Tryz.f27 = some a27 := by kernel_rfl

/- payroll/premium.validWindow -/
def a28r0 : List IOp := [⟨some 1,.box 55 7,[.t 0],none⟩,
  ⟨some 2,.mv,[.c (.bool false)],none⟩]
def a28r1 : List IOp := [⟨some 3,.fieldAddr 0,[.t 1],none⟩,
  ⟨some 4,.load1,[.t 3],none⟩,
  ⟨some 5,.call 46,[.t 4],none⟩,
  ⟨some 6,.mv,[.t 5],none⟩,
  ⟨some 7,.fieldAddr 1,[.t 1],some (6,true)⟩,
  ⟨some 8,.load1,[.t 7],some (6,true)⟩,
  ⟨some 9,.bin .eql,[.t 8,.c (.str ⟨#[]⟩)],some (6,true)⟩,
  ⟨some 10,.mv,[.t 9],some (6,true)⟩,
  ⟨some 11,.fieldAddr 1,[.t 1],some (10,false)⟩,
  ⟨some 12,.load1,[.t 11],some (10,false)⟩,
  ⟨some 13,.call 46,[.t 12],some (10,false)⟩,
  ⟨some 14,.pick,[.t 10,.c (.bool true),.t 13],some (6,true)⟩,
  ⟨some 15,.pick,[.t 6,.t 14,.c (.bool false)],none⟩,
  ⟨some 16,.mv,[.t 15],none⟩,
  ⟨some 17,.fieldAddr 2,[.t 1],some (16,true)⟩,
  ⟨some 18,.load1,[.t 17],some (16,true)⟩,
  ⟨some 19,.bin .geq,[.t 18,.c (.int .i64 0)],some (16,true)⟩,
  ⟨some 20,.pick,[.t 16,.t 19,.c (.bool false)],none⟩,
  ⟨some 21,.mv,[.t 20],none⟩,
  ⟨some 22,.fieldAddr 2,[.t 1],some (21,true)⟩,
  ⟨some 23,.load1,[.t 22],some (21,true)⟩,
  ⟨some 24,.bin .leq,[.t 23,.c (.int .i64 1000)],some (21,true)⟩,
  ⟨some 25,.pick,[.t 21,.t 24,.c (.bool false)],none⟩,
  ⟨some 26,.mv,[.t 25],none⟩,
  ⟨some 27,.fieldAddr 3,[.t 1],some (26,true)⟩,
  ⟨some 28,.load1,[.t 27],some (26,true)⟩,
  ⟨some 29,.bin .geq,[.t 28,.c (.int .i64 0)],some (26,true)⟩,
  ⟨some 30,.pick,[.t 26,.t 29,.c (.bool false)],none⟩,
  ⟨some 31,.mv,[.t 30],none⟩,
  ⟨some 32,.fieldAddr 3,[.t 1],some (31,true)⟩,
  ⟨some 33,.load1,[.t 32],some (31,true)⟩,
  ⟨some 34,.bin .lss,[.t 33,.c (.int .i64 1440)],some (31,true)⟩,
  ⟨some 35,.pick,[.t 31,.t 34,.c (.bool false)],none⟩,
  ⟨some 36,.mv,[.t 35],none⟩,
  ⟨some 37,.fieldAddr 4,[.t 1],some (36,true)⟩,
  ⟨some 38,.load1,[.t 37],some (36,true)⟩,
  ⟨some 39,.bin .geq,[.t 38,.c (.int .i64 0)],some (36,true)⟩,
  ⟨some 40,.pick,[.t 36,.t 39,.c (.bool false)],none⟩,
  ⟨some 41,.mv,[.t 40],none⟩,
  ⟨some 42,.fieldAddr 4,[.t 1],some (41,true)⟩,
  ⟨some 43,.load1,[.t 42],some (41,true)⟩,
  ⟨some 44,.bin .leq,[.t 43,.c (.int .i64 1440)],some (41,true)⟩,
  ⟨some 45,.pick,[.t 41,.t 44,.c (.bool false)],none⟩,
  ⟨some 46,.mv,[.t 45],none⟩,
  ⟨some 47,.fieldAddr 5,[.t 1],some (46,true)⟩,
  ⟨some 48,.load1,[.t 47],some (46,true)⟩,
  ⟨some 49,.bin .geq,[.t 48,.c (.int .i64 0)],some (46,true)⟩,
  ⟨some 50,.pick,[.t 46,.t 49,.c (.bool false)],none⟩,
  ⟨some 51,.mv,[.t 50],none⟩,
  ⟨some 52,.fieldAddr 5,[.t 1],some (51,true)⟩,
  ⟨some 53,.load1,[.t 52],some (51,true)⟩,
  ⟨some 54,.bin .leq,[.t 53,.c (.int .i64 127)],some (51,true)⟩,
  ⟨some 55,.pick,[.t 51,.t 54,.c (.bool false)],none⟩,
  ⟨some 56,.mv,[.t 55],none⟩,
  ⟨some 57,.fieldAddr 6,[.t 1],some (56,true)⟩,
  ⟨some 58,.load1,[.t 57],some (56,true)⟩,
  ⟨some 59,.bin .geq,[.t 58,.c (.int .i64 0)],some (56,true)⟩,
  ⟨some 60,.pick,[.t 56,.t 59,.c (.bool false)],none⟩,
  ⟨some 61,.mv,[.t 60],none⟩,
  ⟨some 62,.fieldAddr 6,[.t 1],some (61,true)⟩,
  ⟨some 63,.load1,[.t 62],some (61,true)⟩,
  ⟨some 64,.bin .leq,[.t 63,.c (.int .i64 2)],some (61,true)⟩,
  ⟨some 65,.pick,[.t 61,.t 64,.c (.bool false)],none⟩,
  ⟨some 2,.mv,[.t 65],none⟩]
def a28 : AFunc := ⟨66,[.tmp 2],(.seq (.region a28r0 [1]) (.seq (.region a28r1 [2]) .ret))⟩
theorem a28_ok : compileF Tryz.prog (lk [(0,⟨[1],[],[]⟩),(1,⟨[2],[],[]⟩)]) Tryz.f28 = some a28 := by kernel_rfl

/- payroll/payrollref4.Valid -/
def a29r0 : List IOp := [⟨some 1,.box 27 2,[.t 0],none⟩,
  ⟨some 2,.mv,[.c (.int .i64 0)],none⟩]
def a29r1 : List IOp := [⟨some 5,.fieldAddr 1,[.t 1],none⟩,
  ⟨some 6,.load1,[.t 5],none⟩,
  ⟨some 7,.len,[.t 6],none⟩,
  ⟨some 8,.bin .gtr,[.t 7,.c (.int .i64 64)],none⟩]
def a29r2 : List IOp := [⟨some 2,.mv,[.c (.int .i64 3)],none⟩]
def a29r3 : List IOp := [⟨some 9,.fieldAddr 0,[.t 1],none⟩,
  ⟨some 10,.load1,[.t 9],none⟩,
  ⟨some 11,.call 47,[.t 10],none⟩,
  ⟨some 12,.not,[.t 11],none⟩]
def a29r4 : List IOp := [⟨some 2,.mv,[.c (.int .i64 2)],none⟩]
def a29r5 : List IOp := [⟨some 3,.mv,[.c (.int .i64 0)],none⟩]
def a29r6 : List IOp := [⟨some 13,.mv,[.t 3],none⟩,
  ⟨some 14,.fieldAddr 1,[.t 1],none⟩,
  ⟨some 15,.load1,[.t 14],none⟩,
  ⟨some 16,.len,[.t 15],none⟩,
  ⟨some 17,.bin .lss,[.t 13,.t 16],none⟩]
def a29r7 : List IOp := [⟨some 20,.fieldAddr 1,[.t 1],none⟩,
  ⟨some 21,.load1,[.t 20],none⟩,
  ⟨some 22,.mv,[.t 3],none⟩,
  ⟨some 23,.indexAddr 2,[.t 21,.t 22],none⟩,
  ⟨some 24,.loadA 2,[.t 23],none⟩,
  ⟨some 4,.alloc 50 [.int .i64 0,.int .i64 0],[],none⟩,
  ⟨none,.store 2,[.t 4,.t 24],none⟩]
def a29r8 : List IOp := [⟨some 25,.fieldAddr 0,[.t 4],none⟩,
  ⟨some 26,.load1,[.t 25],none⟩,
  ⟨some 27,.call 48,[.t 26],none⟩,
  ⟨some 28,.not,[.t 27],none⟩,
  ⟨some 29,.mv,[.t 28],none⟩,
  ⟨some 30,.fieldAddr 1,[.t 4],some (29,false)⟩,
  ⟨some 31,.load1,[.t 30],some (29,false)⟩,
  ⟨some 32,.call 47,[.t 31],some (29,false)⟩,
  ⟨some 33,.not,[.t 32],some (29,false)⟩,
  ⟨some 34,.pick,[.t 29,.c (.bool true),.t 33],none⟩]
def a29r9 : List IOp := [⟨some 2,.mv,[.c (.int .i64 2)],none⟩]
def a29r10 : List (Nat × DOp) := [(0,⟨⟨some 35,.mv,[.t 3],none⟩,none,[]⟩),
  (1,⟨⟨some 36,.bin .gtr,[.t 35,.c (.int .i64 0)],none⟩,none,[]⟩),
  (2,⟨⟨some 37,.mv,[.t 36],none⟩,none,[]⟩),
  (3,⟨⟨some 38,.fieldAddr 0,[.t 4],some (37,true)⟩,none,[5,6,7,8,9,10,11]⟩),
  (4,⟨⟨some 39,.load1,[.t 38],some (37,true)⟩,none,[5,6,7,8,9,10,11]⟩),
  (5,⟨⟨some 40,.fieldAddr 1,[.t 1],some (37,true)⟩,none,[3,4,7,8]⟩),
  (6,⟨⟨some 41,.load1,[.t 40],some (37,true)⟩,none,[3,4,7,8]⟩),
  (7,⟨⟨some 42,.mv,[.t 3],some (37,true)⟩,none,[3,4,5,6]⟩),
  (8,⟨⟨some 43,.bin .sub,[.t 42,.c (.int .i64 1)],some (37,true)⟩,none,[3,4,5,6]⟩),
  (9,⟨⟨some 44,.indexAddr 2,[.t 41,.t 43],some (37,true)⟩,none,[3,4]⟩),
  (10,⟨⟨some 45,.fieldAddr 0,[.t 44],some (37,true)⟩,none,[3,4]⟩),
  (11,⟨⟨some 46,.load1,[.t 45],some (37,true)⟩,none,[3,4]⟩),
  (12,⟨⟨some 47,.bin .leq,[.t 39,.t 46],some (37,true)⟩,none,[]⟩),
  (13,⟨⟨some 48,.pick,[.t 37,.t 47,.c (.bool false)],none⟩,none,[]⟩)]
def a29r11 : List IOp := [⟨some 2,.mv,[.c (.int .i64 1)],none⟩]
def a29r12 : List IOp := [⟨some 18,.mv,[.t 3],none⟩,
  ⟨some 19,.bin .add,[.t 18,.c (.int .i64 1)],none⟩,
  ⟨some 3,.mv,[.t 19],none⟩]
def a29r13 : List IOp := [⟨some 2,.mv,[.c (.int .i64 0)],none⟩]
def a29 : AFunc := ⟨49,[.tmp 2],(.seq (.region a29r0 [1]) (.seq (.seq (.region a29r1 [1,8]) (.cond (.t 8) (.seq (.region a29r2 [2]) .ret) .skip)) (.seq (.seq (.region a29r3 [1,12]) (.cond (.t 12) (.seq (.region a29r4 [2]) .ret) .skip)) (.seq (.seq (.region a29r5 [1,3]) (.block 0 (.loop (.seq (.seq (.region a29r6 [1,3,17]) (.cond (.t 17) .skip (.exit 0))) (.seq (.block 1 (.seq (.region a29r7 [1,3,4]) (.seq (.seq (.region a29r8 [1,3,4,34]) (.cond (.t 34) (.seq (.region a29r9 [2]) .ret) .skip)) (.seq (.draw a29r10 [] [1,3,48]) (.cond (.t 48) (.seq (.region a29r11 [2]) .ret) .skip))))) (.region a29r12 [1,3])))))) (.seq (.region a29r13 [2]) .ret)))))⟩
theorem a29_ok : compileF Tryz.prog (lk [(0,⟨[1],[],[]⟩),(1,⟨[1,8],[],[]⟩),(2,⟨[2],[],[]⟩),(3,⟨[1,12],[],[]⟩),(4,⟨[2],[],[]⟩),(5,⟨[1,3],[],[]⟩),(6,⟨[1,3,17],[],[]⟩),(7,⟨[1,3],[],[]⟩),(8,⟨[1,3,4],[],[]⟩),(9,⟨[1,3,4,34],[],[]⟩),(10,⟨[2],[],[]⟩),(11,⟨[1,3,48],[[],[0],[1,0],[2,1,0],[3,2,1,0],[2,1,0],[5,2,1,0],[2,1,0],[7,2,1,0],[6,8,2,5,1,0,7],[9,2,6,8,5,1,0,7],[10,2,9,6,8,5,1,0,7],[4,11,2,3,1,0,10,9,6,8,5,7],[2,12,1,0,4,11,3,10,9,6,8,5,7]],[0,1,2,3,4,5,6,7,8,9,10,11,12,13]⟩),(12,⟨[2],[],[]⟩),(13,⟨[2],[],[]⟩)]) Tryz.f29 = some a29 := by kernel_rfl

/- payroll/payrollref3.Valid -/
def a30r0 : List IOp := [⟨some 2,.mv,[.c (.int .i64 0)],none⟩]
def a30r1 : List IOp := [⟨some 4,.mv,[.t 0],none⟩,
  ⟨some 5,.len,[.t 4],none⟩,
  ⟨some 6,.bin .gtr,[.t 5,.c (.int .i64 1024)],none⟩]
def a30r2 : List IOp := [⟨some 2,.mv,[.c (.int .i64 3)],none⟩]
def a30r3 : List IOp := [⟨some 3,.mv,[.c (.int .i64 0)],none⟩]
def a30r4 : List IOp := [⟨some 7,.mv,[.t 3],none⟩,
  ⟨some 8,.mv,[.t 0],none⟩,
  ⟨some 9,.len,[.t 8],none⟩,
  ⟨some 10,.bin .lss,[.t 7,.t 9],none⟩]
def a30r5 : List IOp := [⟨some 13,.mv,[.t 0],none⟩,
  ⟨some 14,.mv,[.t 3],none⟩,
  ⟨some 15,.indexAddr 6,[.t 13,.t 14],none⟩,
  ⟨some 16,.loadA 6,[.t 15],none⟩,
  ⟨some 17,.call 49,[.t 16],none⟩,
  ⟨some 18,.not,[.t 17],none⟩]
def a30r6 : List IOp := [⟨some 2,.mv,[.c (.int .i64 1)],none⟩]
def a30r7 : List IOp := [⟨some 11,.mv,[.t 3],none⟩,
  ⟨some 12,.bin .add,[.t 11,.c (.int .i64 1)],none⟩,
  ⟨some 3,.mv,[.t 12],none⟩]
def a30r8 : List IOp := [⟨some 2,.mv,[.c (.int .i64 0)],none⟩]
def a30 : AFunc := ⟨19,[.tmp 2],(.seq (.region a30r0 [0]) (.seq (.seq (.region a30r1 [0,6]) (.cond (.t 6) (.seq (.region a30r2 [2]) .ret) .skip)) (.seq (.seq (.region a30r3 [0,3]) (.block 0 (.loop (.seq (.seq (.region a30r4 [0,3,10]) (.cond (.t 10) .skip (.exit 0))) (.seq (.block 1 (.seq (.region a30r5 [0,3,18]) (.cond (.t 18) (.seq (.region a30r6 [2]) .ret) .skip))) (.region a30r7 [0,3])))))) (.seq (.region a30r8 [2]) .ret))))⟩
theorem a30_ok : compileF Tryz.prog (lk [(0,⟨[0],[],[]⟩),(1,⟨[0,6],[],[]⟩),(2,⟨[2],[],[]⟩),(3,⟨[0,3],[],[]⟩),(4,⟨[0,3,10],[],[]⟩),(5,⟨[0,3],[],[]⟩),(6,⟨[0,3,18],[],[]⟩),(7,⟨[2],[],[]⟩),(8,⟨[2],[],[]⟩)]) Tryz.f30 = some a30 := by kernel_rfl

/- payroll/payrollref13.window -/
def a31r0 : List IOp := [⟨some 1,.box 55 7,[.t 0],none⟩,
  ⟨some 2,.mv,[.c (.bool false)],none⟩]
def a31r1 : List IOp := [⟨some 3,.fieldAddr 0,[.t 1],none⟩,
  ⟨some 4,.load1,[.t 3],none⟩,
  ⟨some 5,.call 50,[.t 4],none⟩,
  ⟨some 6,.mv,[.t 5],none⟩,
  ⟨some 7,.fieldAddr 1,[.t 1],some (6,true)⟩,
  ⟨some 8,.load1,[.t 7],some (6,true)⟩,
  ⟨some 9,.bin .eql,[.t 8,.c (.str ⟨#[]⟩)],some (6,true)⟩,
  ⟨some 10,.mv,[.t 9],some (6,true)⟩,
  ⟨some 11,.fieldAddr 1,[.t 1],some (10,false)⟩,
  ⟨some 12,.load1,[.t 11],some (10,false)⟩,
  ⟨some 13,.call 50,[.t 12],some (10,false)⟩,
  ⟨some 14,.pick,[.t 10,.c (.bool true),.t 13],some (6,true)⟩,
  ⟨some 15,.pick,[.t 6,.t 14,.c (.bool false)],none⟩,
  ⟨some 16,.mv,[.t 15],none⟩,
  ⟨some 17,.fieldAddr 2,[.t 1],some (16,true)⟩,
  ⟨some 18,.load1,[.t 17],some (16,true)⟩,
  ⟨some 19,.bin .geq,[.t 18,.c (.int .i64 0)],some (16,true)⟩,
  ⟨some 20,.pick,[.t 16,.t 19,.c (.bool false)],none⟩,
  ⟨some 21,.mv,[.t 20],none⟩,
  ⟨some 22,.fieldAddr 2,[.t 1],some (21,true)⟩,
  ⟨some 23,.load1,[.t 22],some (21,true)⟩,
  ⟨some 24,.bin .leq,[.t 23,.c (.int .i64 1000)],some (21,true)⟩,
  ⟨some 25,.pick,[.t 21,.t 24,.c (.bool false)],none⟩,
  ⟨some 26,.mv,[.t 25],none⟩,
  ⟨some 27,.fieldAddr 3,[.t 1],some (26,true)⟩,
  ⟨some 28,.load1,[.t 27],some (26,true)⟩,
  ⟨some 29,.bin .geq,[.t 28,.c (.int .i64 0)],some (26,true)⟩,
  ⟨some 30,.pick,[.t 26,.t 29,.c (.bool false)],none⟩,
  ⟨some 31,.mv,[.t 30],none⟩,
  ⟨some 32,.fieldAddr 3,[.t 1],some (31,true)⟩,
  ⟨some 33,.load1,[.t 32],some (31,true)⟩,
  ⟨some 34,.bin .leq,[.t 33,.c (.int .i64 1439)],some (31,true)⟩,
  ⟨some 35,.pick,[.t 31,.t 34,.c (.bool false)],none⟩,
  ⟨some 36,.mv,[.t 35],none⟩,
  ⟨some 37,.fieldAddr 4,[.t 1],some (36,true)⟩,
  ⟨some 38,.load1,[.t 37],some (36,true)⟩,
  ⟨some 39,.bin .geq,[.t 38,.c (.int .i64 0)],some (36,true)⟩,
  ⟨some 40,.pick,[.t 36,.t 39,.c (.bool false)],none⟩,
  ⟨some 41,.mv,[.t 40],none⟩,
  ⟨some 42,.fieldAddr 4,[.t 1],some (41,true)⟩,
  ⟨some 43,.load1,[.t 42],some (41,true)⟩,
  ⟨some 44,.bin .leq,[.t 43,.c (.int .i64 1440)],some (41,true)⟩,
  ⟨some 45,.pick,[.t 41,.t 44,.c (.bool false)],none⟩,
  ⟨some 46,.mv,[.t 45],none⟩,
  ⟨some 47,.fieldAddr 5,[.t 1],some (46,true)⟩,
  ⟨some 48,.load1,[.t 47],some (46,true)⟩,
  ⟨some 49,.bin .geq,[.t 48,.c (.int .i64 0)],some (46,true)⟩,
  ⟨some 50,.pick,[.t 46,.t 49,.c (.bool false)],none⟩,
  ⟨some 51,.mv,[.t 50],none⟩,
  ⟨some 52,.fieldAddr 5,[.t 1],some (51,true)⟩,
  ⟨some 53,.load1,[.t 52],some (51,true)⟩,
  ⟨some 54,.bin .leq,[.t 53,.c (.int .i64 127)],some (51,true)⟩,
  ⟨some 55,.pick,[.t 51,.t 54,.c (.bool false)],none⟩,
  ⟨some 56,.mv,[.t 55],none⟩,
  ⟨some 57,.fieldAddr 6,[.t 1],some (56,true)⟩,
  ⟨some 58,.load1,[.t 57],some (56,true)⟩,
  ⟨some 59,.bin .geq,[.t 58,.c (.int .i64 0)],some (56,true)⟩,
  ⟨some 60,.pick,[.t 56,.t 59,.c (.bool false)],none⟩,
  ⟨some 61,.mv,[.t 60],none⟩,
  ⟨some 62,.fieldAddr 6,[.t 1],some (61,true)⟩,
  ⟨some 63,.load1,[.t 62],some (61,true)⟩,
  ⟨some 64,.bin .leq,[.t 63,.c (.int .i64 2)],some (61,true)⟩,
  ⟨some 65,.pick,[.t 61,.t 64,.c (.bool false)],none⟩,
  ⟨some 2,.mv,[.t 65],none⟩]
def a31 : AFunc := ⟨66,[.tmp 2],(.seq (.region a31r0 [1]) (.seq (.region a31r1 [2]) .ret))⟩
theorem a31_ok : compileF Tryz.prog (lk [(0,⟨[1],[],[]⟩),(1,⟨[2],[],[]⟩)]) Tryz.f31 = some a31 := by kernel_rfl

/- payroll/payrolllaw13.night -/
def a32r0 : List IOp := [⟨some 2,.alloc 55 [.str ⟨#[]⟩,.str ⟨#[]⟩,.int .i64 0,.int .i64 0,.int .i64 0,.int .i64 0,.int .i64 0],[],none⟩]
def a32r1 : List IOp := [⟨some 3,.mv,[.t 0],none⟩,
  ⟨some 4,.build [.str ⟨#[]⟩,.str ⟨#[]⟩,.int .i64 0,.int .i64 0,.int .i64 0,.int .i64 0,.int .i64 0] [(0,1),(1,1),(2,1),(3,1),(4,1),(5,1)],[.c (.str ⟨#[110,105,103,104,116]⟩),.c (.str ⟨#[110,105,103,104,116]⟩),.t 3,.c (.int .i64 1320),.c (.int .i64 360),.c (.int .i64 127)],none⟩,
  ⟨none,.store 7,[.t 2,.t 4],none⟩]
def a32 : AFunc := ⟨5,[.cellA 2 7],(.seq (.region a32r0 [0,2]) (.seq (.region a32r1 [2]) .ret))⟩
theorem a32_ok : compileF Tryz.prog (lk [(0,⟨[0,2],[],[]⟩),(1,⟨[2],[],[]⟩)]) Tryz.f32 = some a32 := by kernel_rfl

/- payroll/premium.Covers -/
def a33r0 : List IOp := [⟨some 4,.box 27 2,[.t 0],none⟩,
  ⟨some 6,.box 55 7,[.t 2],none⟩,
  ⟨some 8,.mv,[.c (.bool false)],none⟩]
def a33r1 : List IOp := [⟨some 9,.loadA 2,[.t 4],none⟩,
  ⟨some 10,.mv,[.t 1],none⟩,
  ⟨some 11,.loadA 7,[.t 6],none⟩,
  ⟨some 12,.bslice 55 7 [.str ⟨#[]⟩,.str ⟨#[]⟩,.int .i64 0,.int .i64 0,.int .i64 0,.int .i64 0,.int .i64 0] 1 [0],[.t 11],none⟩,
  ⟨some 13,.call 15,[.t 9,.t 10,.t 12],none⟩,
  ⟨some 14,.bin .neq,[.t 13,.c (.int .i64 0)],none⟩,
  ⟨some 15,.mv,[.t 14],none⟩,
  ⟨some 16,.mv,[.t 3],some (15,false)⟩,
  ⟨some 17,.bin .lss,[.t 16,.c (.int .i64 0)],some (15,false)⟩,
  ⟨some 18,.pick,[.t 15,.c (.bool true),.t 17],none⟩,
  ⟨some 19,.mv,[.t 18],none⟩,
  ⟨some 20,.mv,[.t 3],some (19,false)⟩,
  ⟨some 21,.bin .gtr,[.t 20,.c (.int .i64 120968639)],some (19,false)⟩,
  ⟨some 22,.pick,[.t 19,.c (.bool true),.t 21],none⟩]
def a33r2 : List IOp := [⟨some 8,.mv,[.c (.bool false)],none⟩]
def a33r3 : List (Nat × DOp) := [(0,⟨⟨some 23,.loadA 7,[.t 6],none⟩,none,[1,2,3,4,5]⟩),
  (1,⟨⟨some 24,.loadA 2,[.t 4],none⟩,none,[0,2,3,4]⟩),
  (2,⟨⟨some 25,.mv,[.t 1],none⟩,none,[0,1,4]⟩),
  (4,⟨⟨some 27,.mv,[.t 3],none⟩,none,[0,1,2,3]⟩),
  (3,⟨⟨some 26,.call 34,[.t 25],none⟩,none,[0,1,4]⟩),
  (5,⟨⟨some 28,.call 35,[.t 24,.t 26,.t 27],none⟩,none,[0]⟩),
  (6,⟨⟨some 29,.call 36,[.t 23,.t 28],none⟩,none,[]⟩),
  (7,⟨⟨some 8,.mv,[.t 29],none⟩,none,[]⟩)]
def a33 : AFunc := ⟨30,[.tmp 8],(.seq (.region a33r0 [1,3,4,6]) (.seq (.seq (.region a33r1 [1,3,4,6,22]) (.cond (.t 22) (.seq (.region a33r2 [8]) .ret) .skip)) (.seq (.draw a33r3 [] [8]) .ret)))⟩
theorem a33_ok : compileF Tryz.prog (lk [(0,⟨[1,3,4,6],[],[]⟩),(1,⟨[1,3,4,6,22],[],[]⟩),(2,⟨[8],[],[]⟩),(3,⟨[8],[[],[],[],[2],[],[1,3,4,2],[0,5,1,3,4,2],[6,0,1,2,3,4,5]],[0,1,2,4,3,5,6,7]⟩)]) Tryz.f33 = some a33 := by kernel_rfl

/- payroll/premium.newAlmanac -/
def a34r0 : List IOp := [⟨some 2,.mv,[.c (.nilp)],none⟩]
def a34r1 : List IOp := [⟨some 3,.mv,[.t 0],none⟩,
  ⟨some 4,.mkmap false [.int .i64],[],none⟩,
  ⟨some 5,.mkmap false [.int .i64],[],none⟩,
  ⟨some 6,.build [.nils,.nilm,.nilm] [(0,1),(1,1),(2,1)],[.t 3,.t 4,.t 5],none⟩,
  ⟨some 7,.box 99 3,[.t 6],none⟩,
  ⟨some 2,.mv,[.t 7],none⟩]
def a34 : AFunc := ⟨8,[.tmp 2],(.seq (.region a34r0 [0]) (.seq (.region a34r1 [2]) .ret))⟩
theorem a34_ok : compileF Tryz.prog (lk [(0,⟨[0],[],[]⟩),(1,⟨[2],[],[]⟩)]) Tryz.f34 = some a34 := by kernel_rfl

/- payroll/premium.show -/
def a35r0 : List IOp := [⟨some 3,.box 27 2,[.t 0],none⟩,
  ⟨some 6,.alloc 84 [.int .i64 0,.int .i64 0,.bool false],[],none⟩]
def a35r1 : List IOp := [⟨some 11,.loadA 2,[.t 3],none⟩,
  ⟨some 12,.mv,[.t 2],none⟩,
  ⟨some 13,.call 51,[.t 11,.t 12],none⟩,
  ⟨some 10,.mv,[.t 13],none⟩,
  ⟨some 14,.extract 0,[.t 10],none⟩,
  ⟨some 15,.extract 1,[.t 10],none⟩,
  ⟨some 7,.mv,[.t 14],none⟩,
  ⟨some 8,.mv,[.t 15],none⟩]
def a35r2 : List IOp := [⟨some 16,.mv,[.t 7],none⟩,
  ⟨some 17,.bin .quo,[.t 16,.c (.int .i64 1440)],none⟩,
  ⟨some 9,.mv,[.t 17],none⟩]
def a35r3 : List IOp := [⟨some 18,.mv,[.t 7],none⟩,
  ⟨some 19,.bin .rem,[.t 18,.c (.int .i64 1440)],none⟩,
  ⟨some 20,.bin .lss,[.t 19,.c (.int .i64 0)],none⟩]
def a35r4 : List IOp := [⟨some 21,.mv,[.t 9],none⟩,
  ⟨some 22,.bin .sub,[.t 21,.c (.int .i64 1)],none⟩,
  ⟨some 9,.mv,[.t 22],none⟩]
def a35r5 : List IOp := [⟨some 23,.mv,[.t 7],none⟩,
  ⟨some 24,.mv,[.t 9],none⟩,
  ⟨some 25,.bin .mul,[.t 24,.c (.int .i64 1440)],none⟩,
  ⟨some 26,.bin .sub,[.t 23,.t 25],none⟩,
  ⟨some 27,.mv,[.t 9],none⟩,
  ⟨some 28,.bin .rem,[.t 27,.c (.int .i64 7)],none⟩,
  ⟨some 29,.bin .add,[.t 28,.c (.int .i64 10)],none⟩,
  ⟨some 30,.bin .rem,[.t 29,.c (.int .i64 7)],none⟩,
  ⟨some 31,.mv,[.t 1],none⟩,
  ⟨some 32,.mv,[.t 9],none⟩,
  ⟨some 33,.call 52,[.t 31,.t 32],none⟩,
  ⟨some 34,.build [.int .i64 0,.int .i64 0,.bool false] [(0,1),(1,1),(2,1)],[.t 26,.t 30,.t 33],none⟩,
  ⟨none,.store 3,[.t 6,.t 34],none⟩]
def a35 : AFunc := ⟨35,[.cellA 6 3],(.seq (.region a35r0 [1,2,3,6]) (.seq (.region a35r1 [1,6,7]) (.seq (.region a35r2 [1,6,7,9]) (.seq (.seq (.region a35r3 [1,6,7,9,20]) (.cond (.t 20) (.region a35r4 [1,6,7,9]) .skip)) (.seq (.region a35r5 [6]) .ret)))))⟩
theorem a35_ok : compileF Tryz.prog (lk [(0,⟨[1,2,3,6],[],[]⟩),(1,⟨[1,6,7],[],[]⟩),(2,⟨[1,6,7,9],[],[]⟩),(3,⟨[1,6,7,9,20],[],[]⟩),(4,⟨[1,6,7,9],[],[]⟩),(5,⟨[6],[],[]⟩)]) Tryz.f35 = some a35 := by kernel_rfl

/- payroll/premium.covers -/
def a36r0 : List IOp := [⟨some 2,.box 55 7,[.t 0],none⟩,
  ⟨some 3,.box 84 3,[.t 1],none⟩,
  ⟨some 4,.mv,[.c (.bool false)],none⟩]
def a36r1 : List IOp := [⟨some 6,.fieldAddr 0,[.t 3],none⟩,
  ⟨some 7,.load1,[.t 6],none⟩,
  ⟨some 8,.fieldAddr 3,[.t 2],none⟩,
  ⟨some 9,.load1,[.t 8],none⟩,
  ⟨some 10,.bin .geq,[.t 7,.t 9],none⟩,
  ⟨some 11,.mv,[.t 10],none⟩,
  ⟨some 12,.fieldAddr 0,[.t 3],some (11,true)⟩,
  ⟨some 13,.load1,[.t 12],some (11,true)⟩,
  ⟨some 14,.fieldAddr 4,[.t 2],some (11,true)⟩,
  ⟨some 15,.load1,[.t 14],some (11,true)⟩,
  ⟨some 16,.bin .lss,[.t 13,.t 15],some (11,true)⟩,
  ⟨some 17,.pick,[.t 11,.t 16,.c (.bool false)],none⟩,
  ⟨some 5,.mv,[.t 17],none⟩]
def a36r2 : List IOp := [⟨some 18,.fieldAddr 4,[.t 2],none⟩,
  ⟨some 19,.load1,[.t 18],none⟩,
  ⟨some 20,.fieldAddr 3,[.t 2],none⟩,
  ⟨some 21,.load1,[.t 20],none⟩,
  ⟨some 22,.bin .leq,[.t 19,.t 21],none⟩]
def a36r3 : List IOp := [⟨some 23,.fieldAddr 0,[.t 3],none⟩,
  ⟨some 24,.load1,[.t 23],none⟩,
  ⟨some 25,.fieldAddr 3,[.t 2],none⟩,
  ⟨some 26,.load1,[.t 25],none⟩,
  ⟨some 27,.bin .geq,[.t 24,.t 26],none⟩,
  ⟨some 28,.mv,[.t 27],none⟩,
  ⟨some 29,.fieldAddr 0,[.t 3],some (28,false)⟩,
  ⟨some 30,.load1,[.t 29],some (28,false)⟩,
  ⟨some 31,.fieldAddr 4,[.t 2],some (28,false)⟩,
  ⟨some 32,.load1,[.t 31],some (28,false)⟩,
  ⟨some 33,.bin .lss,[.t 30,.t 32],some (28,false)⟩,
  ⟨some 34,.pick,[.t 28,.c (.bool true),.t 33],none⟩,
  ⟨some 5,.mv,[.t 34],none⟩]
def a36r4 : List IOp := [⟨some 35,.mv,[.t 5],none⟩,
  ⟨some 36,.not,[.t 35],none⟩,
  ⟨some 37,.mv,[.t 36],none⟩,
  ⟨some 38,.fieldAddr 5,[.t 2],some (37,false)⟩,
  ⟨some 39,.load1,[.t 38],some (37,false)⟩,
  ⟨some 40,.fieldAddr 1,[.t 3],some (37,false)⟩,
  ⟨some 41,.load1,[.t 40],some (37,false)⟩,
  ⟨some 42,.bin .shr,[.t 39,.t 41],some (37,false)⟩,
  ⟨some 43,.bin .and,[.t 42,.c (.int .i64 1)],some (37,false)⟩,
  ⟨some 44,.bin .eql,[.t 43,.c (.int .i64 0)],some (37,false)⟩,
  ⟨some 45,.pick,[.t 37,.c (.bool true),.t 44],none⟩]
def a36r5 : List IOp := [⟨some 4,.mv,[.c (.bool false)],none⟩]
def a36r6 : List IOp := [⟨some 46,.fieldAddr 6,[.t 2],none⟩,
  ⟨some 47,.load1,[.t 46],none⟩]
def a36r7 : List IOp := [⟨some 49,.bin .eql,[.t 47,.c (.int .i64 1)],none⟩,
  ⟨some 48,.mv,[.t 49],none⟩]
def a36r8 : List IOp := [⟨some 50,.fieldAddr 2,[.t 3],none⟩,
  ⟨some 51,.load1,[.t 50],none⟩,
  ⟨some 4,.mv,[.t 51],none⟩]
def a36r9 : List IOp := [⟨some 53,.bin .eql,[.t 47,.c (.int .i64 2)],none⟩,
  ⟨some 52,.mv,[.t 53],none⟩]
def a36r10 : List IOp := [⟨some 54,.fieldAddr 2,[.t 3],none⟩,
  ⟨some 55,.load1,[.t 54],none⟩,
  ⟨some 56,.not,[.t 55],none⟩,
  ⟨some 4,.mv,[.t 56],none⟩]
def a36r11 : List IOp := [⟨some 4,.mv,[.c (.bool true)],none⟩]
def a36 : AFunc := ⟨57,[.tmp 4],(.seq (.region a36r0 [2,3]) (.seq (.region a36r1 [2,3,5]) (.seq (.seq (.region a36r2 [2,3,5,22]) (.cond (.t 22) (.region a36r3 [2,3,5]) .skip)) (.seq (.seq (.region a36r4 [2,3,45]) (.cond (.t 45) (.seq (.region a36r5 [4]) .ret) .skip)) (.seq (.seq (.region a36r6 [3,47]) (.block 0 (.seq (.region a36r7 [3,47,48]) (.cond (.t 48) (.seq (.region a36r8 [4]) .ret) (.seq (.region a36r9 [3,52]) (.cond (.t 52) (.seq (.region a36r10 [4]) .ret) .skip)))))) (.seq (.region a36r11 [4]) .ret))))))⟩
theorem a36_ok : compileF Tryz.prog (lk [(0,⟨[2,3],[],[]⟩),(1,⟨[2,3,5],[],[]⟩),(2,⟨[2,3,5,22],[],[]⟩),(3,⟨[2,3,5],[],[]⟩),(4,⟨[2,3,45],[],[]⟩),(5,⟨[4],[],[]⟩),(6,⟨[3,47],[],[]⟩),(7,⟨[3,47,48],[],[]⟩),(8,⟨[4],[],[]⟩),(9,⟨[3,52],[],[]⟩),(10,⟨[4],[],[]⟩),(11,⟨[4],[],[]⟩)]) Tryz.f36 = some a36 := by kernel_rfl

/- payroll/premium.choose -/
def a37r0 : List IOp := [⟨some 4,.mv,[.c (.int .i64 0)],none⟩]
def a37r1 : List IOp := [⟨some 5,.mv,[.c (.int .i64 0)],none⟩]
def a37r2 : List IOp := [⟨some 13,.mkmap false [.str],[],none⟩,
  ⟨some 6,.mv,[.t 13],none⟩]
def a37r3 : List IOp := [⟨some 14,.mv,[.t 0],none⟩,
  ⟨some 15,.len,[.t 14],none⟩,
  ⟨some 16,.mv,[.c (.int .i64 0)],none⟩]
def a37r4 : List IOp := [⟨some 17,.bin .lss,[.t 16,.t 15],none⟩]
def a37r5 : List IOp := [⟨some 18,.mv,[.t 16],none⟩,
  ⟨some 19,.indexAddr 7,[.t 14,.t 16],none⟩,
  ⟨some 20,.loadA 7,[.t 19],none⟩,
  ⟨some 8,.alloc 55 [.str ⟨#[]⟩,.str ⟨#[]⟩,.int .i64 0,.int .i64 0,.int .i64 0,.int .i64 0,.int .i64 0],[],none⟩,
  ⟨some 7,.mv,[.t 18],none⟩,
  ⟨none,.store 7,[.t 8,.t 20],none⟩]
def a37r6 : List IOp := [⟨some 21,.mv,[.t 1],none⟩,
  ⟨some 22,.mv,[.t 7],none⟩,
  ⟨some 23,.bin .shr,[.t 21,.t 22],none⟩,
  ⟨some 24,.bin .and,[.t 23,.c (.int .i64 1)],none⟩,
  ⟨some 25,.bin .eql,[.t 24,.c (.int .i64 0)],none⟩]
def a37r7 : List IOp := [⟨some 26,.fieldAddr 1,[.t 8],none⟩,
  ⟨some 27,.load1,[.t 26],none⟩,
  ⟨some 28,.bin .eql,[.t 27,.c (.str ⟨#[]⟩)],none⟩]
def a37r8 : List IOp := [⟨some 29,.mv,[.t 5],none⟩,
  ⟨some 30,.mv,[.t 7],none⟩,
  ⟨some 31,.bin .shl,[.c (.int .i64 1),.t 30],none⟩,
  ⟨some 32,.bin .or,[.t 29,.t 31],none⟩,
  ⟨some 5,.mv,[.t 32],none⟩]
def a37r9 : List IOp := [⟨some 34,.mv,[.t 6],none⟩,
  ⟨some 35,.fieldAddr 1,[.t 8],none⟩,
  ⟨some 36,.load1,[.t 35],none⟩,
  ⟨some 37,.look true false [.str] (.int .i64 0),[.t 34,.t 36],none⟩,
  ⟨some 33,.mv,[.t 37],none⟩,
  ⟨some 38,.extract 0,[.t 33],none⟩,
  ⟨some 39,.extract 1,[.t 33],none⟩,
  ⟨some 9,.mv,[.t 38],none⟩,
  ⟨some 10,.mv,[.t 39],none⟩]
def a37r10 : List (Nat × DOp) := [(0,⟨⟨some 40,.mv,[.t 10],none⟩,none,[]⟩),
  (1,⟨⟨some 41,.not,[.t 40],none⟩,none,[]⟩),
  (2,⟨⟨some 42,.mv,[.t 41],none⟩,none,[]⟩),
  (3,⟨⟨some 43,.fieldAddr 2,[.t 8],some (42,false)⟩,none,[5,6,7,8,9]⟩),
  (4,⟨⟨some 44,.load1,[.t 43],some (42,false)⟩,none,[5,6,7,8,9]⟩),
  (5,⟨⟨some 45,.mv,[.t 0],some (42,false)⟩,none,[3,4,6]⟩),
  (6,⟨⟨some 46,.mv,[.t 9],some (42,false)⟩,none,[3,4,5]⟩),
  (7,⟨⟨some 47,.indexAddr 7,[.t 45,.t 46],some (42,false)⟩,none,[3,4]⟩),
  (8,⟨⟨some 48,.fieldAddr 2,[.t 47],some (42,false)⟩,none,[3,4]⟩),
  (9,⟨⟨some 49,.load1,[.t 48],some (42,false)⟩,none,[3,4]⟩),
  (10,⟨⟨some 50,.bin .gtr,[.t 44,.t 49],some (42,false)⟩,none,[]⟩),
  (11,⟨⟨some 51,.pick,[.t 42,.c (.bool true),.t 50],none⟩,none,[]⟩)]
def a37r11 : List IOp := [⟨some 52,.mv,[.t 6],none⟩,
  ⟨some 53,.fieldAddr 1,[.t 8],none⟩,
  ⟨some 54,.load1,[.t 53],none⟩,
  ⟨some 55,.mv,[.t 7],none⟩,
  ⟨none,.mset false [.str],[.t 52,.t 54,.t 55],none⟩]
def a37r12 : List IOp := [⟨some 56,.bin .add,[.t 16,.c (.int .i64 1)],none⟩,
  ⟨some 16,.mv,[.t 56],none⟩]
def a37r13 : List IOp := [⟨some 57,.mv,[.t 6],none⟩,
  ⟨some 58,.iter,[.t 57],none⟩]
def a37r14 : List IOp := [⟨some 59,.next,[.t 58],none⟩,
  ⟨some 60,.extract 0,[.t 59],none⟩]
def a37r15 : List IOp := [⟨some 61,.entry,[.t 58],none⟩,
  ⟨some 62,.extract 1,[.t 61],none⟩,
  ⟨some 12,.mv,[.t 62],none⟩]
def a37r16 : List IOp := [⟨some 63,.mv,[.t 5],none⟩,
  ⟨some 64,.mv,[.t 12],none⟩,
  ⟨some 65,.bin .shl,[.c (.int .i64 1),.t 64],none⟩,
  ⟨some 66,.bin .or,[.t 63,.t 65],none⟩,
  ⟨some 5,.mv,[.t 66],none⟩]
def a37r17 : List IOp := [⟨some 67,.mv,[.t 5],none⟩,
  ⟨some 4,.mv,[.t 67],none⟩]
def a37 : AFunc := ⟨68,[.tmp 4],(.seq (.region a37r0 [0,1]) (.seq (.region a37r1 [0,1,5]) (.seq (.region a37r2 [0,1,5,6]) (.seq (.seq (.region a37r3 [0,1,5,6,14,15,16]) (.block 0 (.loop (.seq (.region a37r4 [0,1,5,6,14,15,16,17]) (.seq (.cond (.t 17) .skip (.exit 0)) (.seq (.block 1 (.seq (.region a37r5 [0,1,5,6,7,8,14,15,16]) (.seq (.seq (.region a37r6 [0,1,5,6,7,8,14,15,16,25]) (.cond (.t 25) (.exit 1) .skip)) (.seq (.seq (.region a37r7 [0,1,5,6,7,8,14,15,16,28]) (.cond (.t 28) (.seq (.region a37r8 [0,1,5,6,14,15,16]) (.exit 1)) .skip)) (.seq (.region a37r9 [0,1,5,6,7,8,9,10,14,15,16]) (.seq (.draw a37r10 [] [0,1,5,6,7,8,14,15,16,51]) (.cond (.t 51) (.region a37r11 [0,1,5,6,14,15,16]) .skip))))))) (.region a37r12 [0,1,5,6,14,15,16]))))))) (.seq (.seq (.region a37r13 [5,58]) (.block 2 (.loop (.seq (.region a37r14 [5,58,60]) (.seq (.cond (.t 60) .skip (.exit 2)) (.block 3 (.seq (.region a37r15 [5,12,58]) (.region a37r16 [5,58])))))))) (.seq (.region a37r17 [4]) .ret))))))⟩
theorem a37_ok : compileF Tryz.prog (lk [(0,⟨[0,1],[],[]⟩),(1,⟨[0,1,5],[],[]⟩),(2,⟨[0,1,5,6],[],[]⟩),(3,⟨[0,1,5,6,14,15,16],[],[]⟩),(4,⟨[0,1,5,6,14,15,16,17],[],[]⟩),(5,⟨[0,1,5,6,7,8,14,15,16],[],[]⟩),(6,⟨[0,1,5,6,7,8,14,15,16,25],[],[]⟩),(7,⟨[0,1,5,6,7,8,14,15,16,28],[],[]⟩),(8,⟨[0,1,5,6,14,15,16],[],[]⟩),(9,⟨[0,1,5,6,7,8,9,10,14,15,16],[],[]⟩),(10,⟨[0,1,5,6,7,8,14,15,16,51],[[],[0],[1,0],[2,1,0],[3,2,1,0],[2,1,0],[2,1,0],[5,6,2,1,0],[7,2,5,6,1,0],[8,2,7,5,6,1,0],[4,9,2,3,1,0,8,7,5,6],[2,10,1,0,4,9,3,8,7,5,6]],[0,1,2,3,4,5,6,7,8,9,10,11]⟩),(11,⟨[0,1,5,6,14,15,16],[],[]⟩),(12,⟨[0,1,5,6,14,15,16],[],[]⟩),(13,⟨[5,58],[],[]⟩),(14,⟨[5,58,60],[],[]⟩),(15,⟨[5,12,58],[],[]⟩),(16,⟨[5,58],[],[]⟩),(17,⟨[4],[],[]⟩)]) Tryz.f37 = some a37 := by kernel_rfl

/- slices.Collect[int] -/
/- maps.Keys[map[int][16]int,int,[16]int]$1 -/
/- payroll/payrollref13.shown -/
def a41r0 : List IOp := [⟨some 2,.mv,[.c (.int .i64 0)],none⟩,
  ⟨some 3,.mv,[.c (.int .i64 0)],none⟩]
def a41r1 : List IOp := [⟨some 5,.mv,[.t 0],none⟩,
  ⟨some 6,.bin .add,[.t 5,.c (.int .i64 1440)],none⟩,
  ⟨some 7,.bin .quo,[.t 6,.c (.int .i64 1440)],none⟩,
  ⟨some 8,.bin .sub,[.t 7,.c (.int .i64 1)],none⟩,
  ⟨some 4,.mv,[.t 8],none⟩]
def a41r2 : List IOp := [⟨some 9,.mv,[.t 4],none⟩,
  ⟨some 10,.mv,[.t 0],none⟩,
  ⟨some 11,.mv,[.t 4],none⟩,
  ⟨some 12,.bin .mul,[.c (.int .i64 1440),.t 11],none⟩,
  ⟨some 13,.bin .sub,[.t 10,.t 12],none⟩,
  ⟨some 2,.mv,[.t 9],none⟩,
  ⟨some 3,.mv,[.t 13],none⟩]
def a41 : AFunc := ⟨14,[.tmp 2,.tmp 3],(.seq (.region a41r0 [0]) (.seq (.region a41r1 [0,4]) (.seq (.region a41r2 [2,3]) .ret)))⟩
theorem a41_ok : compileF Tryz.prog (lk [(0,⟨[0],[],[]⟩),(1,⟨[0,4],[],[]⟩),(2,⟨[2,3],[],[]⟩)]) Tryz.f41 = some a41 := by kernel_rfl

/- payroll/payrollref4.Shift -/
def a42r0 : List IOp := [⟨some 2,.box 27 2,[.t 0],none⟩,
  ⟨some 4,.mv,[.c (.int .i64 0)],none⟩]
def a42r1 : List IOp := [⟨some 6,.fieldAddr 1,[.t 2],none⟩,
  ⟨some 7,.load1,[.t 6],none⟩,
  ⟨some 8,.len,[.t 7],none⟩,
  ⟨some 9,.bin .sub,[.t 8,.c (.int .i64 1)],none⟩,
  ⟨some 5,.mv,[.t 9],none⟩]
def a42r2 : List IOp := [⟨some 10,.mv,[.t 5],none⟩,
  ⟨some 11,.bin .geq,[.t 10,.c (.int .i64 0)],none⟩]
def a42r3 : List IOp := [⟨some 14,.fieldAddr 1,[.t 2],none⟩,
  ⟨some 15,.load1,[.t 14],none⟩,
  ⟨some 16,.mv,[.t 5],none⟩,
  ⟨some 17,.indexAddr 2,[.t 15,.t 16],none⟩,
  ⟨some 18,.fieldAddr 0,[.t 17],none⟩,
  ⟨some 19,.load1,[.t 18],none⟩,
  ⟨some 20,.mv,[.t 1],none⟩,
  ⟨some 21,.bin .leq,[.t 19,.t 20],none⟩]
def a42r4 : List IOp := [⟨some 22,.fieldAddr 1,[.t 2],none⟩,
  ⟨some 23,.load1,[.t 22],none⟩,
  ⟨some 24,.mv,[.t 5],none⟩,
  ⟨some 25,.indexAddr 2,[.t 23,.t 24],none⟩,
  ⟨some 26,.fieldAddr 1,[.t 25],none⟩,
  ⟨some 27,.load1,[.t 26],none⟩,
  ⟨some 4,.mv,[.t 27],none⟩]
def a42r5 : List IOp := [⟨some 12,.mv,[.t 5],none⟩,
  ⟨some 13,.bin .sub,[.t 12,.c (.int .i64 1)],none⟩,
  ⟨some 5,.mv,[.t 13],none⟩]
def a42r6 : List IOp := [⟨some 28,.fieldAddr 0,[.t 2],none⟩,
  ⟨some 29,.load1,[.t 28],none⟩,
  ⟨some 4,.mv,[.t 29],none⟩]
def a42 : AFunc := ⟨30,[.tmp 4],(.seq (.region a42r0 [1,2]) (.seq (.seq (.region a42r1 [1,2,5]) (.block 0 (.loop (.seq (.seq (.region a42r2 [1,2,5,11]) (.cond (.t 11) .skip (.exit 0))) (.seq (.block 1 (.seq (.region a42r3 [1,2,5,21]) (.cond (.t 21) (.seq (.region a42r4 [4]) .ret) .skip))) (.region a42r5 [1,2,5])))))) (.seq (.region a42r6 [4]) .ret)))⟩
theorem a42_ok : compileF Tryz.prog (lk [(0,⟨[1,2],[],[]⟩),(1,⟨[1,2,5],[],[]⟩),(2,⟨[1,2,5,11],[],[]⟩),(3,⟨[1,2,5],[],[]⟩),(4,⟨[1,2,5,21],[],[]⟩),(5,⟨[4],[],[]⟩),(6,⟨[4],[],[]⟩)]) Tryz.f42 = some a42 := by kernel_rfl

/- payroll/payrollref13.covers -/
def a43r0 : List IOp := [⟨some 5,.box 55 7,[.t 1],none⟩,
  ⟨some 8,.mv,[.c (.bool false)],none⟩]
def a43r1 : List IOp := [⟨some 10,.mv,[.t 3],none⟩,
  ⟨some 11,.fieldAddr 3,[.t 5],none⟩,
  ⟨some 12,.load1,[.t 11],none⟩,
  ⟨some 13,.bin .geq,[.t 10,.t 12],none⟩,
  ⟨some 14,.mv,[.t 13],none⟩,
  ⟨some 15,.mv,[.t 3],some (14,true)⟩,
  ⟨some 16,.fieldAddr 4,[.t 5],some (14,true)⟩,
  ⟨some 17,.load1,[.t 16],some (14,true)⟩,
  ⟨some 18,.bin .lss,[.t 15,.t 17],some (14,true)⟩,
  ⟨some 19,.pick,[.t 14,.t 18,.c (.bool false)],none⟩,
  ⟨some 9,.mv,[.t 19],none⟩]
def a43r2 : List IOp := [⟨some 20,.fieldAddr 4,[.t 5],none⟩,
  ⟨some 21,.load1,[.t 20],none⟩,
  ⟨some 22,.fieldAddr 3,[.t 5],none⟩,
  ⟨some 23,.load1,[.t 22],none⟩,
  ⟨some 24,.bin .leq,[.t 21,.t 23],none⟩]
def a43r3 : List IOp := [⟨some 25,.mv,[.t 3],none⟩,
  ⟨some 26,.fieldAddr 3,[.t 5],none⟩,
  ⟨some 27,.load1,[.t 26],none⟩,
  ⟨some 28,.bin .geq,[.t 25,.t 27],none⟩,
  ⟨some 29,.mv,[.t 28],none⟩,
  ⟨some 30,.mv,[.t 3],some (29,false)⟩,
  ⟨some 31,.fieldAddr 4,[.t 5],some (29,false)⟩,
  ⟨some 32,.load1,[.t 31],some (29,false)⟩,
  ⟨some 33,.bin .lss,[.t 30,.t 32],some (29,false)⟩,
  ⟨some 34,.pick,[.t 29,.c (.bool true),.t 33],none⟩,
  ⟨some 9,.mv,[.t 34],none⟩]
def a43r4 : List (Nat × DOp) := [(0,⟨⟨some 35,.mv,[.t 9],none⟩,none,[]⟩),
  (1,⟨⟨some 36,.not,[.t 35],none⟩,none,[]⟩),
  (2,⟨⟨some 37,.mv,[.t 36],none⟩,none,[]⟩),
  (3,⟨⟨some 38,.fieldAddr 5,[.t 5],some (37,false)⟩,none,[5,6,7]⟩),
  (4,⟨⟨some 39,.load1,[.t 38],some (37,false)⟩,none,[5,6,7]⟩),
  (5,⟨⟨some 40,.mv,[.t 2],some (37,false)⟩,none,[3,4]⟩),
  (6,⟨⟨some 41,.call 56,[.t 40],some (37,false)⟩,none,[3,4]⟩),
  (7,⟨⟨some 42,.conv .u64,[.t 41],some (37,false)⟩,none,[3,4]⟩),
  (8,⟨⟨some 43,.bin .shr,[.t 39,.t 42],some (37,false)⟩,none,[]⟩),
  (9,⟨⟨some 44,.bin .and,[.t 43,.c (.int .i64 1)],some (37,false)⟩,none,[]⟩),
  (10,⟨⟨some 45,.bin .eql,[.t 44,.c (.int .i64 0)],some (37,false)⟩,none,[]⟩),
  (11,⟨⟨some 46,.pick,[.t 37,.c (.bool true),.t 45],none⟩,none,[]⟩)]
def a43r5 : List IOp := [⟨some 8,.mv,[.c (.bool false)],none⟩]
def a43r6 : List (Nat × DOp) := [(0,⟨⟨some 47,.fieldAddr 6,[.t 5],none⟩,none,[]⟩),
  (1,⟨⟨some 48,.load1,[.t 47],none⟩,none,[]⟩),
  (2,⟨⟨some 49,.bin .eql,[.t 48,.c (.int .i64 0)],none⟩,none,[]⟩),
  (3,⟨⟨some 50,.mv,[.t 49],none⟩,none,[]⟩),
  (4,⟨⟨some 51,.fieldAddr 6,[.t 5],some (50,false)⟩,none,[7,8,9]⟩),
  (5,⟨⟨some 52,.load1,[.t 51],some (50,false)⟩,none,[7,8,9]⟩),
  (6,⟨⟨some 53,.bin .eql,[.t 52,.c (.int .i64 1)],some (50,false)⟩,none,[7,8,9]⟩),
  (7,⟨⟨some 54,.mv,[.t 0],some (50,false)⟩,none,[4,5,6,8]⟩),
  (8,⟨⟨some 55,.mv,[.t 2],some (50,false)⟩,none,[4,5,6,7]⟩),
  (9,⟨⟨some 56,.call 57,[.t 54,.t 55],some (50,false)⟩,none,[4,5,6]⟩),
  (10,⟨⟨some 57,.eqB false,[.t 53,.t 56],some (50,false)⟩,none,[]⟩),
  (11,⟨⟨some 58,.pick,[.t 50,.c (.bool true),.t 57],none⟩,none,[]⟩),
  (12,⟨⟨some 8,.mv,[.t 58],none⟩,none,[]⟩)]
def a43 : AFunc := ⟨59,[.tmp 8],(.seq (.region a43r0 [0,2,3,5]) (.seq (.region a43r1 [0,2,3,5,9]) (.seq (.seq (.region a43r2 [0,2,3,5,9,24]) (.cond (.t 24) (.region a43r3 [0,2,5,9]) .skip)) (.seq (.seq (.draw a43r4 [] [0,2,5,46]) (.cond (.t 46) (.seq (.region a43r5 [8]) .ret) .skip)) (.seq (.draw a43r6 [] [8]) .ret)))))⟩
theorem a43_ok : compileF Tryz.prog (lk [(0,⟨[0,2,3,5],[],[]⟩),(1,⟨[0,2,3,5,9],[],[]⟩),(2,⟨[0,2,3,5,9,24],[],[]⟩),(3,⟨[0,2,5,9],[],[]⟩),(4,⟨[0,2,5,46],[[],[0],[1,0],[2,1,0],[3,2,1,0],[2,1,0],[5,2,1,0],[6,2,5,1,0],[4,7,2,3,1,0,6,5],[8,2,4,7,3,1,0,6,5],[9,2,8,4,7,3,1,0,6,5],[2,10,1,0,9,8,4,7,3,6,5]],[0,1,2,3,4,5,6,7,8,9,10,11]⟩),(5,⟨[8],[],[]⟩),(6,⟨[8],[[],[0],[1,0],[2,1,0],[3,2,1,0],[4,3,2,1,0],[5,3,4,2,1,0],[3,2,1,0],[3,2,1,0],[7,8,3,2,1,0],[6,9,3,5,4,2,1,0,7,8],[3,10,2,1,0,6,9,5,4,7,8],[11,9,0,1,2,3,4,5,6,7,8,10]],[0,1,2,3,4,5,6,7,8,9,10,11,12]⟩)]) Tryz.f43 = some a43 := by kernel_rfl

/- payroll/clock.validOffset -/
def a44r0 : List IOp := [⟨some 2,.mv,[.c (.bool false)],none⟩]
def a44r1 : List IOp := [⟨some 3,.mv,[.t 0],none⟩,
  ⟨some 4,.bin .geq,[.t 3,.c (.int .i64 (-840))],none⟩,
  ⟨some 5,.mv,[.t 4],none⟩,
  ⟨some 6,.mv,[.t 0],some (5,true)⟩,
  ⟨some 7,.bin .leq,[.t 6,.c (.int .i64 840)],some (5,true)⟩,
  ⟨some 8,.pick,[.t 5,.t 7,.c (.bool false)],none⟩,
  ⟨some 2,.mv,[.t 8],none⟩]
def a44 : AFunc := ⟨9,[.tmp 2],(.seq (.region a44r0 [0]) (.seq (.region a44r1 [2]) .ret))⟩
theorem a44_ok : compileF Tryz.prog (lk [(0,⟨[0],[],[]⟩),(1,⟨[2],[],[]⟩)]) Tryz.f44 = some a44 := by kernel_rfl

/- payroll/calendar.validRule -/
def a45r0 : List IOp := [⟨some 1,.box 52 6,[.t 0],none⟩,
  ⟨some 2,.mv,[.c (.bool false)],none⟩]
def a45r1 : List IOp := [⟨some 4,.fieldAddr 0,[.t 1],none⟩,
  ⟨some 5,.load1,[.t 4],none⟩]
def a45r2 : List IOp := [⟨some 7,.bin .eql,[.t 5,.c (.int .i64 0)],none⟩,
  ⟨some 6,.mv,[.t 7],none⟩]
def a45r3 : List IOp := [⟨some 8,.fieldAddr 1,[.t 1],none⟩,
  ⟨some 9,.load1,[.t 8],none⟩,
  ⟨some 10,.bin .lss,[.t 9,.c (.int .i64 1)],none⟩,
  ⟨some 11,.mv,[.t 10],none⟩,
  ⟨some 12,.fieldAddr 1,[.t 1],some (11,false)⟩,
  ⟨some 13,.load1,[.t 12],some (11,false)⟩,
  ⟨some 14,.bin .gtr,[.t 13,.c (.int .i64 12)],some (11,false)⟩,
  ⟨some 15,.pick,[.t 11,.c (.bool true),.t 14],none⟩,
  ⟨some 16,.mv,[.t 15],none⟩,
  ⟨some 17,.fieldAddr 3,[.t 1],some (16,false)⟩,
  ⟨some 18,.load1,[.t 17],some (16,false)⟩,
  ⟨some 19,.bin .neq,[.t 18,.c (.int .i64 0)],some (16,false)⟩,
  ⟨some 20,.pick,[.t 16,.c (.bool true),.t 19],none⟩,
  ⟨some 21,.mv,[.t 20],none⟩,
  ⟨some 22,.fieldAddr 4,[.t 1],some (21,false)⟩,
  ⟨some 23,.load1,[.t 22],some (21,false)⟩,
  ⟨some 24,.bin .neq,[.t 23,.c (.int .i64 0)],some (21,false)⟩,
  ⟨some 25,.pick,[.t 21,.c (.bool true),.t 24],none⟩]
def a45r4 : List IOp := [⟨some 2,.mv,[.c (.bool false)],none⟩]
def a45r5 : List IOp := [⟨some 26,.fieldAddr 1,[.t 1],none⟩,
  ⟨some 27,.load1,[.t 26],none⟩,
  ⟨some 28,.bin .sub,[.t 27,.c (.int .i64 1)],none⟩,
  ⟨some 29,.mv,[],none⟩,
  ⟨some 30,.load1,[.t 29],none⟩,
  ⟨some 3,.mv,[.t 30],none⟩]
def a45r6 : List IOp := [⟨some 31,.fieldAddr 1,[.t 1],none⟩,
  ⟨some 32,.load1,[.t 31],none⟩,
  ⟨some 33,.bin .eql,[.t 32,.c (.int .i64 2)],none⟩]
def a45r7 : List IOp := [⟨some 3,.mv,[.c (.int .i64 29)],none⟩]
def a45r8 : List IOp := [⟨some 34,.fieldAddr 2,[.t 1],none⟩,
  ⟨some 35,.load1,[.t 34],none⟩,
  ⟨some 36,.bin .geq,[.t 35,.c (.int .i64 1)],none⟩,
  ⟨some 37,.mv,[.t 36],none⟩,
  ⟨some 38,.fieldAddr 2,[.t 1],some (37,true)⟩,
  ⟨some 39,.load1,[.t 38],some (37,true)⟩,
  ⟨some 40,.mv,[.t 3],some (37,true)⟩,
  ⟨some 41,.bin .leq,[.t 39,.t 40],some (37,true)⟩,
  ⟨some 42,.pick,[.t 37,.t 41,.c (.bool false)],none⟩,
  ⟨some 2,.mv,[.t 42],none⟩]
def a45r9 : List IOp := [⟨some 44,.bin .eql,[.t 5,.c (.int .i64 1)],none⟩,
  ⟨some 43,.mv,[.t 44],none⟩]
def a45r10 : List IOp := [⟨some 45,.fieldAddr 4,[.t 1],none⟩,
  ⟨some 46,.load1,[.t 45],none⟩,
  ⟨some 47,.bin .geq,[.t 46,.c (.int .i64 (-100))],none⟩,
  ⟨some 48,.mv,[.t 47],none⟩,
  ⟨some 49,.fieldAddr 4,[.t 1],some (48,true)⟩,
  ⟨some 50,.load1,[.t 49],some (48,true)⟩,
  ⟨some 51,.bin .leq,[.t 50,.c (.int .i64 100)],some (48,true)⟩,
  ⟨some 52,.pick,[.t 48,.t 51,.c (.bool false)],none⟩,
  ⟨some 53,.mv,[.t 52],none⟩,
  ⟨some 54,.fieldAddr 1,[.t 1],some (53,true)⟩,
  ⟨some 55,.load1,[.t 54],some (53,true)⟩,
  ⟨some 56,.bin .eql,[.t 55,.c (.int .i64 0)],some (53,true)⟩,
  ⟨some 57,.pick,[.t 53,.t 56,.c (.bool false)],none⟩,
  ⟨some 58,.mv,[.t 57],none⟩,
  ⟨some 59,.fieldAddr 2,[.t 1],some (58,true)⟩,
  ⟨some 60,.load1,[.t 59],some (58,true)⟩,
  ⟨some 61,.bin .eql,[.t 60,.c (.int .i64 0)],some (58,true)⟩,
  ⟨some 62,.pick,[.t 58,.t 61,.c (.bool false)],none⟩,
  ⟨some 63,.mv,[.t 62],none⟩,
  ⟨some 64,.fieldAddr 3,[.t 1],some (63,true)⟩,
  ⟨some 65,.load1,[.t 64],some (63,true)⟩,
  ⟨some 66,.bin .eql,[.t 65,.c (.int .i64 0)],some (63,true)⟩,
  ⟨some 67,.pick,[.t 63,.t 66,.c (.bool false)],none⟩,
  ⟨some 2,.mv,[.t 67],none⟩]
def a45r11 : List IOp := [⟨some 69,.bin .eql,[.t 5,.c (.int .i64 2)],none⟩,
  ⟨some 68,.mv,[.t 69],none⟩]
def a45r12 : List IOp := [⟨some 70,.fieldAddr 1,[.t 1],none⟩,
  ⟨some 71,.load1,[.t 70],none⟩,
  ⟨some 72,.bin .geq,[.t 71,.c (.int .i64 1)],none⟩,
  ⟨some 73,.mv,[.t 72],none⟩,
  ⟨some 74,.fieldAddr 1,[.t 1],some (73,true)⟩,
  ⟨some 75,.load1,[.t 74],some (73,true)⟩,
  ⟨some 76,.bin .leq,[.t 75,.c (.int .i64 12)],some (73,true)⟩,
  ⟨some 77,.pick,[.t 73,.t 76,.c (.bool false)],none⟩,
  ⟨some 78,.mv,[.t 77],none⟩,
  ⟨some 79,.fieldAddr 2,[.t 1],some (78,true)⟩,
  ⟨some 80,.load1,[.t 79],some (78,true)⟩,
  ⟨some 81,.bin .eql,[.t 80,.c (.int .i64 (-1))],some (78,true)⟩,
  ⟨some 82,.mv,[.t 81],some (78,true)⟩,
  ⟨some 83,.fieldAddr 2,[.t 1],some (82,false)⟩,
  ⟨some 84,.load1,[.t 83],some (82,false)⟩,
  ⟨some 85,.bin .geq,[.t 84,.c (.int .i64 1)],some (82,false)⟩,
  ⟨some 86,.mv,[.t 85],some (82,false)⟩,
  ⟨some 87,.fieldAddr 2,[.t 1],some (86,true)⟩,
  ⟨some 88,.load1,[.t 87],some (86,true)⟩,
  ⟨some 89,.bin .leq,[.t 88,.c (.int .i64 5)],some (86,true)⟩,
  ⟨some 90,.pick,[.t 86,.t 89,.c (.bool false)],some (82,false)⟩,
  ⟨some 91,.pick,[.t 82,.c (.bool true),.t 90],some (78,true)⟩,
  ⟨some 92,.pick,[.t 78,.t 91,.c (.bool false)],none⟩,
  ⟨some 93,.mv,[.t 92],none⟩,
  ⟨some 94,.fieldAddr 3,[.t 1],some (93,true)⟩,
  ⟨some 95,.load1,[.t 94],some (93,true)⟩,
  ⟨some 96,.bin .geq,[.t 95,.c (.int .i64 0)],some (93,true)⟩,
  ⟨some 97,.pick,[.t 93,.t 96,.c (.bool false)],none⟩,
  ⟨some 98,.mv,[.t 97],none⟩,
  ⟨some 99,.fieldAddr 3,[.t 1],some (98,true)⟩,
  ⟨some 100,.load1,[.t 99],some (98,true)⟩,
  ⟨some 101,.bin .leq,[.t 100,.c (.int .i64 6)],some (98,true)⟩,
  ⟨some 102,.pick,[.t 98,.t 101,.c (.bool false)],none⟩,
  ⟨some 103,.mv,[.t 102],none⟩,
  ⟨some 104,.fieldAddr 4,[.t 1],some (103,true)⟩,
  ⟨some 105,.load1,[.t 104],some (103,true)⟩,
  ⟨some 106,.bin .geq,[.t 105,.c (.int .i64 (-7))],some (103,true)⟩,
  ⟨some 107,.pick,[.t 103,.t 106,.c (.bool false)],none⟩,
  ⟨some 108,.mv,[.t 107],none⟩,
  ⟨some 109,.fieldAddr 4,[.t 1],some (108,true)⟩,
  ⟨some 110,.load1,[.t 109],some (108,true)⟩,
  ⟨some 111,.bin .leq,[.t 110,.c (.int .i64 7)],some (108,true)⟩,
  ⟨some 112,.pick,[.t 108,.t 111,.c (.bool false)],none⟩,
  ⟨some 2,.mv,[.t 112],none⟩]
def a45r13 : List IOp := [⟨some 2,.mv,[.c (.bool false)],none⟩]
def a45 : AFunc := ⟨113,[.tmp 2],(.seq (.region a45r0 [1]) (.seq (.seq (.region a45r1 [1,5]) (.block 0 (.seq (.region a45r2 [1,5,6]) (.cond (.t 6) (.seq (.seq (.region a45r3 [1,25]) (.cond (.t 25) (.seq (.region a45r4 [2]) .ret) .skip)) (.seq (.region a45r5 [1,3]) (.seq (.seq (.region a45r6 [1,3,33]) (.cond (.t 33) (.region a45r7 [1,3]) .skip)) (.seq (.region a45r8 [2]) .ret)))) (.seq (.region a45r9 [1,5,43]) (.cond (.t 43) (.seq (.region a45r10 [2]) .ret) (.seq (.region a45r11 [1,68]) (.cond (.t 68) (.seq (.region a45r12 [2]) .ret) .skip)))))))) (.seq (.region a45r13 [2]) .ret)))⟩
theorem a45_ok : compileF Tryz.prog (lk [(0,⟨[1],[],[]⟩),(1,⟨[1,5],[],[]⟩),(2,⟨[1,5,6],[],[]⟩),(3,⟨[1,25],[],[]⟩),(4,⟨[2],[],[]⟩),(5,⟨[1,3],[],[]⟩),(6,⟨[1,3,33],[],[]⟩),(7,⟨[1,3],[],[]⟩),(8,⟨[2],[],[]⟩),(9,⟨[1,5,43],[],[]⟩),(10,⟨[2],[],[]⟩),(11,⟨[1,68],[],[]⟩),(12,⟨[2],[],[]⟩),(13,⟨[2],[],[]⟩)]) Tryz.f45 = some a45 := by kernel_rfl

/- payroll/premium.isName -/
def a46r0 : List IOp := [⟨some 2,.mv,[.c (.bool false)],none⟩]
def a46r1 : List IOp := [⟨some 5,.mv,[.t 0],none⟩,
  ⟨some 6,.lenS,[.t 5],none⟩,
  ⟨some 7,.bin .lss,[.t 6,.c (.int .i64 1)],none⟩,
  ⟨some 8,.mv,[.t 7],none⟩,
  ⟨some 9,.mv,[.t 0],some (8,false)⟩,
  ⟨some 10,.lenS,[.t 9],some (8,false)⟩,
  ⟨some 11,.bin .gtr,[.t 10,.c (.int .i64 24)],some (8,false)⟩,
  ⟨some 12,.pick,[.t 8,.c (.bool true),.t 11],none⟩,
  ⟨some 13,.mv,[.t 12],none⟩,
  ⟨some 14,.mv,[.t 0],some (13,false)⟩,
  ⟨some 15,.index,[.t 14,.c (.int .i64 0)],some (13,false)⟩,
  ⟨some 16,.bin .lss,[.t 15,.c (.int .u8 97)],some (13,false)⟩,
  ⟨some 17,.pick,[.t 13,.c (.bool true),.t 16],none⟩,
  ⟨some 18,.mv,[.t 17],none⟩,
  ⟨some 19,.mv,[.t 0],some (18,false)⟩,
  ⟨some 20,.index,[.t 19,.c (.int .i64 0)],some (18,false)⟩,
  ⟨some 21,.bin .gtr,[.t 20,.c (.int .u8 122)],some (18,false)⟩,
  ⟨some 22,.pick,[.t 18,.c (.bool true),.t 21],none⟩]
def a46r2 : List IOp := [⟨some 2,.mv,[.c (.bool false)],none⟩]
def a46r3 : List IOp := [⟨some 23,.mv,[.t 0],none⟩,
  ⟨some 24,.lenS,[.t 23],none⟩,
  ⟨some 25,.mv,[.c (.int .i64 0)],none⟩]
def a46r4 : List IOp := [⟨some 26,.bin .lss,[.t 25,.t 24],none⟩]
def a46r5 : List IOp := [⟨some 27,.mv,[.t 25],none⟩,
  ⟨some 3,.mv,[.t 27],none⟩]
def a46r6 : List IOp := [⟨some 28,.mv,[.t 0],none⟩,
  ⟨some 29,.mv,[.t 3],none⟩,
  ⟨some 30,.index,[.t 28,.t 29],none⟩,
  ⟨some 4,.mv,[.t 30],none⟩]
def a46r7 : List IOp := [⟨some 31,.mv,[.t 4],none⟩,
  ⟨some 32,.bin .lss,[.t 31,.c (.int .u8 97)],none⟩,
  ⟨some 33,.mv,[.t 32],none⟩,
  ⟨some 34,.mv,[.t 4],some (33,false)⟩,
  ⟨some 35,.bin .gtr,[.t 34,.c (.int .u8 122)],some (33,false)⟩,
  ⟨some 36,.pick,[.t 33,.c (.bool true),.t 35],none⟩,
  ⟨some 37,.mv,[.t 36],none⟩,
  ⟨some 38,.mv,[.t 4],some (37,true)⟩,
  ⟨some 39,.bin .lss,[.t 38,.c (.int .u8 48)],some (37,true)⟩,
  ⟨some 40,.mv,[.t 39],some (37,true)⟩,
  ⟨some 41,.mv,[.t 4],some (40,false)⟩,
  ⟨some 42,.bin .gtr,[.t 41,.c (.int .u8 57)],some (40,false)⟩,
  ⟨some 43,.pick,[.t 40,.c (.bool true),.t 42],some (37,true)⟩,
  ⟨some 44,.pick,[.t 37,.t 43,.c (.bool false)],none⟩,
  ⟨some 45,.mv,[.t 44],none⟩,
  ⟨some 46,.mv,[.t 4],some (45,true)⟩,
  ⟨some 47,.bin .neq,[.t 46,.c (.int .u8 95)],some (45,true)⟩,
  ⟨some 48,.pick,[.t 45,.t 47,.c (.bool false)],none⟩]
def a46r8 : List IOp := [⟨some 2,.mv,[.c (.bool false)],none⟩]
def a46r9 : List IOp := [⟨some 49,.bin .add,[.t 25,.c (.int .i64 1)],none⟩,
  ⟨some 25,.mv,[.t 49],none⟩]
def a46r10 : List IOp := [⟨some 2,.mv,[.c (.bool true)],none⟩]
def a46 : AFunc := ⟨50,[.tmp 2],(.seq (.region a46r0 [0]) (.seq (.seq (.region a46r1 [0,22]) (.cond (.t 22) (.seq (.region a46r2 [2]) .ret) .skip)) (.seq (.seq (.region a46r3 [0,24,25]) (.block 0 (.loop (.seq (.region a46r4 [0,24,25,26]) (.seq (.cond (.t 26) .skip (.exit 0)) (.seq (.block 1 (.seq (.region a46r5 [0,3,24,25]) (.seq (.region a46r6 [0,4,24,25]) (.seq (.region a46r7 [0,24,25,48]) (.cond (.t 48) (.seq (.region a46r8 [2]) .ret) .skip))))) (.region a46r9 [0,24,25]))))))) (.seq (.region a46r10 [2]) .ret))))⟩
theorem a46_ok : compileF Tryz.prog (lk [(0,⟨[0],[],[]⟩),(1,⟨[0,22],[],[]⟩),(2,⟨[2],[],[]⟩),(3,⟨[0,24,25],[],[]⟩),(4,⟨[0,24,25,26],[],[]⟩),(5,⟨[0,3,24,25],[],[]⟩),(6,⟨[0,4,24,25],[],[]⟩),(7,⟨[0,24,25,48],[],[]⟩),(8,⟨[2],[],[]⟩),(9,⟨[0,24,25],[],[]⟩),(10,⟨[2],[],[]⟩)]) Tryz.f46 = some a46 := by kernel_rfl

/- payroll/payrollref4.IsOffset -/
def a47r0 : List IOp := [⟨some 2,.mv,[.c (.bool false)],none⟩]
def a47r1 : List IOp := [⟨some 3,.mv,[.t 0],none⟩,
  ⟨some 4,.bin .geq,[.t 3,.c (.int .i64 (-840))],none⟩,
  ⟨some 5,.mv,[.t 4],none⟩,
  ⟨some 6,.mv,[.t 0],some (5,true)⟩,
  ⟨some 7,.bin .leq,[.t 6,.c (.int .i64 840)],some (5,true)⟩,
  ⟨some 8,.pick,[.t 5,.t 7,.c (.bool false)],none⟩,
  ⟨some 2,.mv,[.t 8],none⟩]
def a47 : AFunc := ⟨9,[.tmp 2],(.seq (.region a47r0 [0]) (.seq (.region a47r1 [2]) .ret))⟩
theorem a47_ok : compileF Tryz.prog (lk [(0,⟨[0],[],[]⟩),(1,⟨[2],[],[]⟩)]) Tryz.f47 = some a47 := by kernel_rfl

/- payroll/payrollref4.IsInstant -/
def a48r0 : List IOp := [⟨some 2,.mv,[.c (.bool false)],none⟩]
def a48r1 : List IOp := [⟨some 3,.mv,[.t 0],none⟩,
  ⟨some 4,.bin .geq,[.t 3,.c (.int .i64 0)],none⟩,
  ⟨some 5,.mv,[.t 4],none⟩,
  ⟨some 6,.mv,[.t 0],some (5,true)⟩,
  ⟨some 7,.bin .leq,[.t 6,.c (.int .i64 120968639)],some (5,true)⟩,
  ⟨some 8,.pick,[.t 5,.t 7,.c (.bool false)],none⟩,
  ⟨some 2,.mv,[.t 8],none⟩]
def a48 : AFunc := ⟨9,[.tmp 2],(.seq (.region a48r0 [0]) (.seq (.region a48r1 [2]) .ret))⟩
theorem a48_ok : compileF Tryz.prog (lk [(0,⟨[0],[],[]⟩),(1,⟨[2],[],[]⟩)]) Tryz.f48 = some a48 := by kernel_rfl

/- payroll/payrollref3.ValidRule -/
def a49r0 : List IOp := [⟨some 1,.box 52 6,[.t 0],none⟩,
  ⟨some 2,.mv,[.c (.bool false)],none⟩]
def a49r1 : List IOp := [⟨some 3,.fieldAddr 0,[.t 1],none⟩,
  ⟨some 4,.load1,[.t 3],none⟩]
def a49r2 : List IOp := [⟨some 6,.bin .eql,[.t 4,.c (.int .i64 0)],none⟩,
  ⟨some 5,.mv,[.t 6],none⟩]
def a49r3 : List (Nat × DOp) := [(0,⟨⟨some 7,.fieldAddr 1,[.t 1],none⟩,none,[]⟩),
  (1,⟨⟨some 8,.load1,[.t 7],none⟩,none,[]⟩),
  (2,⟨⟨some 9,.bin .geq,[.t 8,.c (.int .i64 1)],none⟩,none,[]⟩),
  (3,⟨⟨some 10,.mv,[.t 9],none⟩,none,[]⟩),
  (4,⟨⟨some 11,.fieldAddr 1,[.t 1],some (10,true)⟩,none,[]⟩),
  (5,⟨⟨some 12,.load1,[.t 11],some (10,true)⟩,none,[]⟩),
  (6,⟨⟨some 13,.bin .leq,[.t 12,.c (.int .i64 12)],some (10,true)⟩,none,[]⟩),
  (7,⟨⟨some 14,.pick,[.t 10,.t 13,.c (.bool false)],none⟩,none,[]⟩),
  (8,⟨⟨some 15,.mv,[.t 14],none⟩,none,[]⟩),
  (9,⟨⟨some 16,.fieldAddr 2,[.t 1],some (15,true)⟩,none,[]⟩),
  (10,⟨⟨some 17,.load1,[.t 16],some (15,true)⟩,none,[]⟩),
  (11,⟨⟨some 18,.bin .geq,[.t 17,.c (.int .i64 1)],some (15,true)⟩,none,[]⟩),
  (12,⟨⟨some 19,.pick,[.t 15,.t 18,.c (.bool false)],none⟩,none,[]⟩),
  (13,⟨⟨some 20,.mv,[.t 19],none⟩,none,[]⟩),
  (14,⟨⟨some 21,.fieldAddr 2,[.t 1],some (20,true)⟩,none,[16,17,18]⟩),
  (15,⟨⟨some 22,.load1,[.t 21],some (20,true)⟩,none,[16,17,18]⟩),
  (16,⟨⟨some 23,.fieldAddr 1,[.t 1],some (20,true)⟩,none,[14,15]⟩),
  (17,⟨⟨some 24,.load1,[.t 23],some (20,true)⟩,none,[14,15]⟩),
  (18,⟨⟨some 25,.call 58,[.c (.int .i64 2000),.t 24],some (20,true)⟩,none,[14,15]⟩),
  (19,⟨⟨some 26,.bin .leq,[.t 22,.t 25],some (20,true)⟩,none,[]⟩),
  (20,⟨⟨some 27,.pick,[.t 20,.t 26,.c (.bool false)],none⟩,none,[]⟩),
  (21,⟨⟨some 28,.mv,[.t 27],none⟩,none,[]⟩),
  (22,⟨⟨some 29,.fieldAddr 3,[.t 1],some (28,true)⟩,none,[]⟩),
  (23,⟨⟨some 30,.load1,[.t 29],some (28,true)⟩,none,[]⟩),
  (24,⟨⟨some 31,.bin .eql,[.t 30,.c (.int .i64 0)],some (28,true)⟩,none,[]⟩),
  (25,⟨⟨some 32,.pick,[.t 28,.t 31,.c (.bool false)],none⟩,none,[]⟩),
  (26,⟨⟨some 33,.mv,[.t 32],none⟩,none,[]⟩),
  (27,⟨⟨some 34,.fieldAddr 4,[.t 1],some (33,true)⟩,none,[]⟩),
  (28,⟨⟨some 35,.load1,[.t 34],some (33,true)⟩,none,[]⟩),
  (29,⟨⟨some 36,.bin .eql,[.t 35,.c (.int .i64 0)],some (33,true)⟩,none,[]⟩),
  (30,⟨⟨some 37,.pick,[.t 33,.t 36,.c (.bool false)],none⟩,none,[]⟩),
  (31,⟨⟨some 2,.mv,[.t 37],none⟩,none,[]⟩)]
def a49r4 : List IOp := [⟨some 39,.bin .eql,[.t 4,.c (.int .i64 1)],none⟩,
  ⟨some 38,.mv,[.t 39],none⟩]
def a49r5 : List IOp := [⟨some 40,.fieldAddr 4,[.t 1],none⟩,
  ⟨some 41,.load1,[.t 40],none⟩,
  ⟨some 42,.bin .geq,[.t 41,.c (.int .i64 (-100))],none⟩,
  ⟨some 43,.mv,[.t 42],none⟩,
  ⟨some 44,.fieldAddr 4,[.t 1],some (43,true)⟩,
  ⟨some 45,.load1,[.t 44],some (43,true)⟩,
  ⟨some 46,.bin .leq,[.t 45,.c (.int .i64 100)],some (43,true)⟩,
  ⟨some 47,.pick,[.t 43,.t 46,.c (.bool false)],none⟩,
  ⟨some 48,.mv,[.t 47],none⟩,
  ⟨some 49,.fieldAddr 1,[.t 1],some (48,true)⟩,
  ⟨some 50,.load1,[.t 49],some (48,true)⟩,
  ⟨some 51,.bin .eql,[.t 50,.c (.int .i64 0)],some (48,true)⟩,
  ⟨some 52,.pick,[.t 48,.t 51,.c (.bool false)],none⟩,
  ⟨some 53,.mv,[.t 52],none⟩,
  ⟨some 54,.fieldAddr 2,[.t 1],some (53,true)⟩,
  ⟨some 55,.load1,[.t 54],some (53,true)⟩,
  ⟨some 56,.bin .eql,[.t 55,.c (.int .i64 0)],some (53,true)⟩,
  ⟨some 57,.pick,[.t 53,.t 56,.c (.bool false)],none⟩,
  ⟨some 58,.mv,[.t 57],none⟩,
  ⟨some 59,.fieldAddr 3,[.t 1],some (58,true)⟩,
  ⟨some 60,.load1,[.t 59],some (58,true)⟩,
  ⟨some 61,.bin .eql,[.t 60,.c (.int .i64 0)],some (58,true)⟩,
  ⟨some 62,.pick,[.t 58,.t 61,.c (.bool false)],none⟩,
  ⟨some 2,.mv,[.t 62],none⟩]
def a49r6 : List IOp := [⟨some 64,.bin .eql,[.t 4,.c (.int .i64 2)],none⟩,
  ⟨some 63,.mv,[.t 64],none⟩]
def a49r7 : List IOp := [⟨some 65,.fieldAddr 1,[.t 1],none⟩,
  ⟨some 66,.load1,[.t 65],none⟩,
  ⟨some 67,.bin .geq,[.t 66,.c (.int .i64 1)],none⟩,
  ⟨some 68,.mv,[.t 67],none⟩,
  ⟨some 69,.fieldAddr 1,[.t 1],some (68,true)⟩,
  ⟨some 70,.load1,[.t 69],some (68,true)⟩,
  ⟨some 71,.bin .leq,[.t 70,.c (.int .i64 12)],some (68,true)⟩,
  ⟨some 72,.pick,[.t 68,.t 71,.c (.bool false)],none⟩,
  ⟨some 73,.mv,[.t 72],none⟩,
  ⟨some 74,.fieldAddr 2,[.t 1],some (73,true)⟩,
  ⟨some 75,.load1,[.t 74],some (73,true)⟩,
  ⟨some 76,.bin .eql,[.t 75,.c (.int .i64 (-1))],some (73,true)⟩,
  ⟨some 77,.mv,[.t 76],some (73,true)⟩,
  ⟨some 78,.fieldAddr 2,[.t 1],some (77,false)⟩,
  ⟨some 79,.load1,[.t 78],some (77,false)⟩,
  ⟨some 80,.bin .geq,[.t 79,.c (.int .i64 1)],some (77,false)⟩,
  ⟨some 81,.mv,[.t 80],some (77,false)⟩,
  ⟨some 82,.fieldAddr 2,[.t 1],some (81,true)⟩,
  ⟨some 83,.load1,[.t 82],some (81,true)⟩,
  ⟨some 84,.bin .leq,[.t 83,.c (.int .i64 5)],some (81,true)⟩,
  ⟨some 85,.pick,[.t 81,.t 84,.c (.bool false)],some (77,false)⟩,
  ⟨some 86,.pick,[.t 77,.c (.bool true),.t 85],some (73,true)⟩,
  ⟨some 87,.pick,[.t 73,.t 86,.c (.bool false)],none⟩,
  ⟨some 88,.mv,[.t 87],none⟩,
  ⟨some 89,.fieldAddr 3,[.t 1],some (88,true)⟩,
  ⟨some 90,.load1,[.t 89],some (88,true)⟩,
  ⟨some 91,.bin .geq,[.t 90,.c (.int .i64 0)],some (88,true)⟩,
  ⟨some 92,.pick,[.t 88,.t 91,.c (.bool false)],none⟩,
  ⟨some 93,.mv,[.t 92],none⟩,
  ⟨some 94,.fieldAddr 3,[.t 1],some (93,true)⟩,
  ⟨some 95,.load1,[.t 94],some (93,true)⟩,
  ⟨some 96,.bin .leq,[.t 95,.c (.int .i64 6)],some (93,true)⟩,
  ⟨some 97,.pick,[.t 93,.t 96,.c (.bool false)],none⟩,
  ⟨some 98,.mv,[.t 97],none⟩,
  ⟨some 99,.fieldAddr 4,[.t 1],some (98,true)⟩,
  ⟨some 100,.load1,[.t 99],some (98,true)⟩,
  ⟨some 101,.bin .geq,[.t 100,.c (.int .i64 (-7))],some (98,true)⟩,
  ⟨some 102,.pick,[.t 98,.t 101,.c (.bool false)],none⟩,
  ⟨some 103,.mv,[.t 102],none⟩,
  ⟨some 104,.fieldAddr 4,[.t 1],some (103,true)⟩,
  ⟨some 105,.load1,[.t 104],some (103,true)⟩,
  ⟨some 106,.bin .leq,[.t 105,.c (.int .i64 7)],some (103,true)⟩,
  ⟨some 107,.pick,[.t 103,.t 106,.c (.bool false)],none⟩,
  ⟨some 2,.mv,[.t 107],none⟩]
def a49r8 : List IOp := [⟨some 2,.mv,[.c (.bool false)],none⟩]
def a49 : AFunc := ⟨108,[.tmp 2],(.seq (.region a49r0 [1]) (.seq (.seq (.region a49r1 [1,4]) (.block 0 (.seq (.region a49r2 [1,4,5]) (.cond (.t 5) (.seq (.draw a49r3 [] [2]) .ret) (.seq (.region a49r4 [1,4,38]) (.cond (.t 38) (.seq (.region a49r5 [2]) .ret) (.seq (.region a49r6 [1,63]) (.cond (.t 63) (.seq (.region a49r7 [2]) .ret) .skip)))))))) (.seq (.region a49r8 [2]) .ret)))⟩
theorem a49_ok : compileF Tryz.prog (lk [(0,⟨[1],[],[]⟩),(1,⟨[1,4],[],[]⟩),(2,⟨[1,4,5],[],[]⟩),(3,⟨[2],[[],[0],[1,0],[2,1,0],[3,2,1,0],[4,3,2,1,0],[5,3,4,2,1,0],[3,6,2,1,0,5,4],[7,3,6,2,1,0,5,4],[8,7,3,6,2,1,0,5,4],[9,8,7,3,6,2,1,0,5,4],[10,8,9,7,3,6,2,1,0,5,4],[8,11,7,3,6,2,1,0,5,4,10,9],[12,8,11,7,3,6,2,1,0,5,4,10,9],[13,12,8,11,7,3,6,2,1,0,5,4,10,9],[14,13,12,8,11,7,3,6,2,1,0,5,4,10,9],[13,12,8,11,7,3,6,2,1,0,5,4,10,9],[16,13,12,8,11,7,3,6,2,1,0,5,4,10,9],[17,13,16,12,8,11,7,3,6,2,1,0,5,4,10,9],[15,18,13,14,12,8,11,7,3,6,2,1,0,5,4,10,9,17,16],[13,19,12,8,11,7,3,6,2,1,0,5,4,10,9,15,18,14,17,16],[20,18,13,19,12,8,11,7,3,6,2,1,0,5,4,10,9,15,14,17,16],[21,20,18,13,19,12,8,11,7,3,6,2,1,0,5,4,10,9,15,14,17,16],[22,21,20,18,13,19,12,8,11,7,3,6,2,1,0,5,4,10,9,15,14,17,16],[23,21,22,20,18,13,19,12,8,11,7,3,6,2,1,0,5,4,10,9,15,14,17,16],[21,24,20,18,13,19,12,8,11,7,3,6,2,1,0,5,4,10,9,15,14,17,16,23,22],[25,21,24,20,18,13,19,12,8,11,7,3,6,2,1,0,5,4,10,9,15,14,17,16,23,22],[26,25,21,24,20,18,13,19,12,8,11,7,3,6,2,1,0,5,4,10,9,15,14,17,16,23,22],[27,26,25,21,24,20,18,13,19,12,8,11,7,3,6,2,1,0,5,4,10,9,15,14,17,16,23,22],[28,26,27,25,21,24,20,18,13,19,12,8,11,7,3,6,2,1,0,5,4,10,9,15,14,17,16,23,22],[26,29,25,21,24,20,18,13,19,12,8,11,7,3,6,2,1,0,5,4,10,9,15,14,17,16,23,22,28,27],[30,26,0,1,2,3,4,5,6,7,8,9,10,11,12,13,14,15,16,17,18,19,20,21,22,23,24,25,27,28,29]],[0,1,2,3,4,5,6,7,8,9,10,11,12,13,14,15,16,17,18,19,20,21,22,23,24,25,26,27,28,29,30,31]⟩),(4,⟨[1,4,38],[],[]⟩),(5,⟨[2],[],[]⟩),(6,⟨[1,63],[],[]⟩),(7,⟨[2],[],[]⟩),(8,⟨[2],[],[]⟩)]) Tryz.f49 = some a49 := by kernel_rfl

/- payroll/payrollref12.IsName -/
def a50r0 : List IOp := [⟨some 2,.mv,[.c (.bool false)],none⟩]
def a50r1 : List IOp := [⟨some 4,.mv,[.t 0],none⟩,
  ⟨some 5,.lenS,[.t 4],none⟩,
  ⟨some 6,.bin .eql,[.t 5,.c (.int .i64 0)],none⟩,
  ⟨some 7,.mv,[.t 6],none⟩,
  ⟨some 8,.mv,[.t 0],some (7,false)⟩,
  ⟨some 9,.lenS,[.t 8],some (7,false)⟩,
  ⟨some 10,.bin .gtr,[.t 9,.c (.int .i64 24)],some (7,false)⟩,
  ⟨some 11,.pick,[.t 7,.c (.bool true),.t 10],none⟩,
  ⟨some 12,.mv,[.t 11],none⟩,
  ⟨some 13,.mv,[.t 0],some (12,false)⟩,
  ⟨some 14,.index,[.t 13,.c (.int .i64 0)],some (12,false)⟩,
  ⟨some 15,.bin .lss,[.t 14,.c (.int .u8 97)],some (12,false)⟩,
  ⟨some 16,.pick,[.t 12,.c (.bool true),.t 15],none⟩,
  ⟨some 17,.mv,[.t 16],none⟩,
  ⟨some 18,.mv,[.t 0],some (17,false)⟩,
  ⟨some 19,.index,[.t 18,.c (.int .i64 0)],some (17,false)⟩,
  ⟨some 20,.bin .gtr,[.t 19,.c (.int .u8 122)],some (17,false)⟩,
  ⟨some 21,.pick,[.t 17,.c (.bool true),.t 20],none⟩]
def a50r2 : List IOp := [⟨some 2,.mv,[.c (.bool false)],none⟩]
def a50r3 : List IOp := [⟨some 3,.mv,[.c (.int .i64 0)],none⟩]
def a50r4 : List IOp := [⟨some 22,.mv,[.t 3],none⟩,
  ⟨some 23,.mv,[.t 0],none⟩,
  ⟨some 24,.lenS,[.t 23],none⟩,
  ⟨some 25,.bin .lss,[.t 22,.t 24],none⟩]
def a50r5 : List IOp := [⟨some 28,.mv,[.t 0],none⟩,
  ⟨some 29,.mv,[.t 3],none⟩,
  ⟨some 30,.index,[.t 28,.t 29],none⟩,
  ⟨some 31,.bin .lss,[.t 30,.c (.int .u8 97)],none⟩,
  ⟨some 32,.mv,[.t 31],none⟩,
  ⟨some 33,.mv,[.t 0],some (32,false)⟩,
  ⟨some 34,.mv,[.t 3],some (32,false)⟩,
  ⟨some 35,.index,[.t 33,.t 34],some (32,false)⟩,
  ⟨some 36,.bin .gtr,[.t 35,.c (.int .u8 122)],some (32,false)⟩,
  ⟨some 37,.pick,[.t 32,.c (.bool true),.t 36],none⟩,
  ⟨some 38,.mv,[.t 37],none⟩,
  ⟨some 39,.mv,[.t 0],some (38,true)⟩,
  ⟨some 40,.mv,[.t 3],some (38,true)⟩,
  ⟨some 41,.index,[.t 39,.t 40],some (38,true)⟩,
  ⟨some 42,.bin .lss,[.t 41,.c (.int .u8 48)],some (38,true)⟩,
  ⟨some 43,.mv,[.t 42],some (38,true)⟩,
  ⟨some 44,.mv,[.t 0],some (43,false)⟩,
  ⟨some 45,.mv,[.t 3],some (43,false)⟩,
  ⟨some 46,.index,[.t 44,.t 45],some (43,false)⟩,
  ⟨some 47,.bin .gtr,[.t 46,.c (.int .u8 57)],some (43,false)⟩,
  ⟨some 48,.pick,[.t 43,.c (.bool true),.t 47],some (38,true)⟩,
  ⟨some 49,.pick,[.t 38,.t 48,.c (.bool false)],none⟩,
  ⟨some 50,.mv,[.t 49],none⟩,
  ⟨some 51,.mv,[.t 0],some (50,true)⟩,
  ⟨some 52,.mv,[.t 3],some (50,true)⟩,
  ⟨some 53,.index,[.t 51,.t 52],some (50,true)⟩,
  ⟨some 54,.bin .neq,[.t 53,.c (.int .u8 95)],some (50,true)⟩,
  ⟨some 55,.pick,[.t 50,.t 54,.c (.bool false)],none⟩]
def a50r6 : List IOp := [⟨some 2,.mv,[.c (.bool false)],none⟩]
def a50r7 : List IOp := [⟨some 26,.mv,[.t 3],none⟩,
  ⟨some 27,.bin .add,[.t 26,.c (.int .i64 1)],none⟩,
  ⟨some 3,.mv,[.t 27],none⟩]
def a50r8 : List IOp := [⟨some 2,.mv,[.c (.bool true)],none⟩]
def a50 : AFunc := ⟨56,[.tmp 2],(.seq (.region a50r0 [0]) (.seq (.seq (.region a50r1 [0,21]) (.cond (.t 21) (.seq (.region a50r2 [2]) .ret) .skip)) (.seq (.seq (.region a50r3 [0,3]) (.block 0 (.loop (.seq (.seq (.region a50r4 [0,3,25]) (.cond (.t 25) .skip (.exit 0))) (.seq (.block 1 (.seq (.region a50r5 [0,3,55]) (.cond (.t 55) (.seq (.region a50r6 [2]) .ret) .skip))) (.region a50r7 [0,3])))))) (.seq (.region a50r8 [2]) .ret))))⟩
theorem a50_ok : compileF Tryz.prog (lk [(0,⟨[0],[],[]⟩),(1,⟨[0,21],[],[]⟩),(2,⟨[2],[],[]⟩),(3,⟨[0,3],[],[]⟩),(4,⟨[0,3,25],[],[]⟩),(5,⟨[0,3],[],[]⟩),(6,⟨[0,3,55],[],[]⟩),(7,⟨[2],[],[]⟩),(8,⟨[2],[],[]⟩)]) Tryz.f50 = some a50 := by kernel_rfl

/- payroll/clock.Local -/
def a51r0 : List IOp := [⟨some 2,.box 27 2,[.t 0],none⟩,
  ⟨some 4,.mv,[.c (.int .i64 0)],none⟩,
  ⟨some 5,.mv,[.c (.int .i64 0)],none⟩]
def a51r1 : List IOp := [⟨some 9,.loadA 2,[.t 2],none⟩,
  ⟨some 10,.mv,[.t 1],none⟩,
  ⟨some 11,.call 59,[.t 9,.t 10],none⟩,
  ⟨some 8,.mv,[.t 11],none⟩,
  ⟨some 12,.extract 0,[.t 8],none⟩,
  ⟨some 13,.extract 1,[.t 8],none⟩,
  ⟨some 6,.mv,[.t 12],none⟩,
  ⟨some 7,.mv,[.t 13],none⟩]
def a51r2 : List IOp := [⟨some 14,.mv,[.t 7],none⟩,
  ⟨some 15,.bin .neq,[.t 14,.c (.int .i64 0)],none⟩]
def a51r3 : List IOp := [⟨some 16,.mv,[.t 7],none⟩,
  ⟨some 4,.mv,[.c (.int .i64 0)],none⟩,
  ⟨some 5,.mv,[.t 16],none⟩]
def a51r4 : List IOp := [⟨some 17,.mv,[.t 1],none⟩,
  ⟨some 18,.mv,[.t 6],none⟩,
  ⟨some 19,.bin .add,[.t 17,.t 18],none⟩,
  ⟨some 4,.mv,[.t 19],none⟩,
  ⟨some 5,.mv,[.c (.int .i64 0)],none⟩]
def a51 : AFunc := ⟨20,[.tmp 4,.tmp 5],(.seq (.region a51r0 [1,2]) (.seq (.region a51r1 [1,6,7]) (.seq (.seq (.region a51r2 [1,6,7,15]) (.cond (.t 15) (.seq (.region a51r3 [4,5]) .ret) .skip)) (.seq (.region a51r4 [4,5]) .ret))))⟩
theorem a51_ok : compileF Tryz.prog (lk [(0,⟨[1,2],[],[]⟩),(1,⟨[1,6,7],[],[]⟩),(2,⟨[1,6,7,15],[],[]⟩),(3,⟨[4,5],[],[]⟩),(4,⟨[4,5],[],[]⟩)]) Tryz.f51 = some a51 := by kernel_rfl

/- (*payroll/premium.almanac).holiday -/
def a52r0 : List IOp := [⟨some 4,.mv,[.c (.bool false)],none⟩]
def a52r1 : List IOp := [⟨some 14,.mv,[.t 0],none⟩,
  ⟨some 15,.nilchk,[.t 14],none⟩,
  ⟨some 16,.fieldAddr 2,[.t 15],none⟩,
  ⟨some 17,.load1,[.t 16],none⟩,
  ⟨some 18,.mv,[.t 1],none⟩,
  ⟨some 19,.look true false [.int .i64] (.bool false),[.t 17,.t 18],none⟩,
  ⟨some 13,.mv,[.t 19],none⟩,
  ⟨some 20,.extract 0,[.t 13],none⟩,
  ⟨some 21,.extract 1,[.t 13],none⟩,
  ⟨some 5,.mv,[.t 20],none⟩,
  ⟨some 6,.mv,[.t 21],none⟩]
def a52r2 : List IOp := [⟨some 22,.mv,[.t 6],none⟩]
def a52r3 : List IOp := [⟨some 23,.mv,[.t 5],none⟩,
  ⟨some 4,.mv,[.t 23],none⟩]
def a52r4 : List IOp := [⟨some 7,.mv,[.c (.bool false)],none⟩]
def a52r5 : List IOp := [⟨some 25,.mv,[.t 1],none⟩,
  ⟨some 26,.call 60,[.t 25],none⟩,
  ⟨some 24,.mv,[.t 26],none⟩,
  ⟨some 27,.extract 0,[.t 24],none⟩,
  ⟨some 28,.extract 1,[.t 24],none⟩,
  ⟨some 29,.extract 2,[.t 24],none⟩,
  ⟨some 30,.extract 3,[.t 24],none⟩,
  ⟨some 8,.mv,[.t 27],none⟩,
  ⟨some 9,.mv,[.t 28],none⟩,
  ⟨some 10,.mv,[.t 29],none⟩,
  ⟨some 11,.mv,[.t 30],none⟩]
def a52r6 : List IOp := [⟨some 31,.mv,[.t 11],none⟩]
def a52r7 : List IOp := [⟨some 32,.mv,[.t 8],none⟩,
  ⟨some 33,.bin .sub,[.t 32,.c (.int .i64 1)],none⟩,
  ⟨some 12,.mv,[.t 33],none⟩]
def a52r8 : List IOp := [⟨some 34,.mv,[.t 12],none⟩,
  ⟨some 35,.mv,[.t 8],none⟩,
  ⟨some 36,.bin .add,[.t 35,.c (.int .i64 1)],none⟩,
  ⟨some 37,.bin .leq,[.t 34,.t 36],none⟩,
  ⟨some 38,.mv,[.t 37],none⟩,
  ⟨some 39,.mv,[.t 7],some (38,true)⟩,
  ⟨some 40,.not,[.t 39],some (38,true)⟩,
  ⟨some 41,.pick,[.t 38,.t 40,.c (.bool false)],none⟩]
def a52r9 : List IOp := [⟨some 44,.mv,[.t 0],none⟩,
  ⟨some 45,.mv,[.t 12],none⟩,
  ⟨some 46,.call 62,[.t 44,.t 45],none⟩,
  ⟨some 47,.mv,[.t 1],none⟩,
  ⟨some 48,.call 61,[.t 46,.t 47],none⟩,
  ⟨some 7,.mv,[.t 48],none⟩]
def a52r10 : List IOp := [⟨some 42,.mv,[.t 12],none⟩,
  ⟨some 43,.bin .add,[.t 42,.c (.int .i64 1)],none⟩,
  ⟨some 12,.mv,[.t 43],none⟩]
def a52r11 : List IOp := [⟨some 49,.mv,[.t 0],none⟩,
  ⟨some 50,.nilchk,[.t 49],none⟩,
  ⟨some 51,.fieldAddr 2,[.t 50],none⟩,
  ⟨some 52,.load1,[.t 51],none⟩,
  ⟨some 53,.mv,[.t 1],none⟩,
  ⟨some 54,.mv,[.t 7],none⟩,
  ⟨none,.mset false [.int .i64],[.t 52,.t 53,.t 54],none⟩]
def a52r12 : List IOp := [⟨some 55,.mv,[.t 7],none⟩,
  ⟨some 4,.mv,[.t 55],none⟩]
def a52 : AFunc := ⟨56,[.tmp 4],(.seq (.region a52r0 [0,1]) (.seq (.seq (.region a52r1 [0,1,5,6]) (.seq (.region a52r2 [0,1,5,22]) (.cond (.t 22) (.seq (.region a52r3 [4]) .ret) .skip))) (.seq (.region a52r4 [0,1,7]) (.seq (.seq (.region a52r5 [0,1,7,8,11]) (.seq (.region a52r6 [0,1,7,8,31]) (.cond (.t 31) (.seq (.region a52r7 [0,1,7,8,12]) (.block 0 (.loop (.seq (.seq (.region a52r8 [0,1,7,8,12,41]) (.cond (.t 41) .skip (.exit 0))) (.seq (.block 1 (.region a52r9 [0,1,7,8,12])) (.region a52r10 [0,1,7,8,12])))))) .skip))) (.seq (.region a52r11 [7]) (.seq (.region a52r12 [4]) .ret))))))⟩
theorem a52_ok : compileF Tryz.prog (lk [(0,⟨[0,1],[],[]⟩),(1,⟨[0,1,5,6],[],[]⟩),(2,⟨[0,1,5,22],[],[]⟩),(3,⟨[4],[],[]⟩),(4,⟨[0,1,7],[],[]⟩),(5,⟨[0,1,7,8,11],[],[]⟩),(6,⟨[0,1,7,8,31],[],[]⟩),(7,⟨[0,1,7,8,12],[],[]⟩),(8,⟨[0,1,7,8,12,41],[],[]⟩),(9,⟨[0,1,7,8,12],[],[]⟩),(10,⟨[0,1,7,8,12],[],[]⟩),(11,⟨[7],[],[]⟩),(12,⟨[4],[],[]⟩)]) Tryz.f52 = some a52 := by kernel_rfl

/- payroll/payrollref3.Shown -/
def a56r0 : List IOp := [⟨some 2,.mv,[.c (.int .i64 0)],none⟩]
def a56r1 : List IOp := [⟨some 3,.mv,[.t 0],none⟩,
  ⟨some 4,.bin .add,[.t 3,.c (.int .i64 3)],none⟩,
  ⟨some 5,.bin .rem,[.t 4,.c (.int .i64 7)],none⟩,
  ⟨some 6,.bin .add,[.t 5,.c (.int .i64 7)],none⟩,
  ⟨some 7,.bin .rem,[.t 6,.c (.int .i64 7)],none⟩,
  ⟨some 2,.mv,[.t 7],none⟩]
def a56 : AFunc := ⟨8,[.tmp 2],(.seq (.region a56r0 [0]) (.seq (.region a56r1 [2]) .ret))⟩
theorem a56_ok : compileF Tryz.prog (lk [(0,⟨[0],[],[]⟩),(1,⟨[2],[],[]⟩)]) Tryz.f56 = some a56 := by kernel_rfl

/- payroll/payrollref3.IsHoliday -/
def a57r0 : List IOp := [⟨some 4,.mv,[.c (.bool false)],none⟩]
def a57r1 : List IOp := [⟨some 14,.mv,[.t 1],none⟩,
  ⟨some 15,.call 74,[.t 14],none⟩,
  ⟨some 13,.mv,[.t 15],none⟩,
  ⟨some 16,.extract 0,[.t 13],none⟩,
  ⟨some 17,.extract 1,[.t 13],none⟩,
  ⟨some 18,.extract 2,[.t 13],none⟩,
  ⟨some 19,.extract 3,[.t 13],none⟩,
  ⟨some 5,.mv,[.t 16],none⟩,
  ⟨some 6,.mv,[.t 17],none⟩,
  ⟨some 7,.mv,[.t 18],none⟩,
  ⟨some 8,.mv,[.t 19],none⟩]
def a57r2 : List IOp := [⟨some 9,.mv,[.c (.int .i64 0)],none⟩]
def a57r3 : List IOp := [⟨some 20,.mv,[.t 8],none⟩,
  ⟨some 21,.mv,[.t 20],none⟩,
  ⟨some 22,.mv,[.t 9],some (21,true)⟩,
  ⟨some 23,.mv,[.t 0],some (21,true)⟩,
  ⟨some 24,.len,[.t 23],some (21,true)⟩,
  ⟨some 25,.bin .lss,[.t 22,.t 24],some (21,true)⟩,
  ⟨some 26,.pick,[.t 21,.t 25,.c (.bool false)],none⟩]
def a57r4 : List IOp := [⟨some 29,.mv,[.t 5],none⟩,
  ⟨some 30,.bin .sub,[.t 29,.c (.int .i64 1)],none⟩,
  ⟨some 31,.minmax true,[.t 30,.c (.int .i64 1970)],none⟩,
  ⟨some 10,.mv,[.t 31],none⟩]
def a57r5 : List IOp := [⟨some 32,.mv,[.t 10],none⟩,
  ⟨some 33,.mv,[.t 5],none⟩,
  ⟨some 34,.bin .add,[.t 33,.c (.int .i64 1)],none⟩,
  ⟨some 35,.minmax false,[.t 34,.c (.int .i64 2199)],none⟩,
  ⟨some 36,.bin .leq,[.t 32,.t 35],none⟩]
def a57r6 : List IOp := [⟨some 40,.mv,[.t 0],none⟩,
  ⟨some 41,.mv,[.t 9],none⟩,
  ⟨some 42,.indexAddr 6,[.t 40,.t 41],none⟩,
  ⟨some 43,.loadA 6,[.t 42],none⟩,
  ⟨some 44,.mv,[.t 10],none⟩,
  ⟨some 45,.call 75,[.t 43,.t 44],none⟩,
  ⟨some 39,.mv,[.t 45],none⟩,
  ⟨some 46,.extract 0,[.t 39],none⟩,
  ⟨some 47,.extract 1,[.t 39],none⟩,
  ⟨some 11,.mv,[.t 46],none⟩,
  ⟨some 12,.mv,[.t 47],none⟩]
def a57r7 : List IOp := [⟨some 48,.mv,[.t 12],none⟩,
  ⟨some 49,.mv,[.t 48],none⟩,
  ⟨some 50,.mv,[.t 11],some (49,true)⟩,
  ⟨some 51,.mv,[.t 1],some (49,true)⟩,
  ⟨some 52,.bin .eql,[.t 50,.t 51],some (49,true)⟩,
  ⟨some 53,.pick,[.t 49,.t 52,.c (.bool false)],none⟩]
def a57r8 : List IOp := [⟨some 4,.mv,[.c (.bool true)],none⟩]
def a57r9 : List IOp := [⟨some 37,.mv,[.t 10],none⟩,
  ⟨some 38,.bin .add,[.t 37,.c (.int .i64 1)],none⟩,
  ⟨some 10,.mv,[.t 38],none⟩]
def a57r10 : List IOp := [⟨some 27,.mv,[.t 9],none⟩,
  ⟨some 28,.bin .add,[.t 27,.c (.int .i64 1)],none⟩,
  ⟨some 9,.mv,[.t 28],none⟩]
def a57r11 : List IOp := [⟨some 4,.mv,[.c (.bool false)],none⟩]
def a57 : AFunc := ⟨54,[.tmp 4],(.seq (.region a57r0 [0,1]) (.seq (.region a57r1 [0,1,5,8]) (.seq (.seq (.region a57r2 [0,1,5,8,9]) (.block 0 (.loop (.seq (.seq (.region a57r3 [0,1,5,8,9,26]) (.cond (.t 26) .skip (.exit 0))) (.seq (.block 1 (.seq (.region a57r4 [0,1,5,8,9,10]) (.block 2 (.loop (.seq (.seq (.region a57r5 [0,1,5,8,9,10,36]) (.cond (.t 36) .skip (.exit 2))) (.seq (.block 3 (.seq (.region a57r6 [0,1,5,8,9,10,11,12]) (.seq (.region a57r7 [0,1,5,8,9,10,53]) (.cond (.t 53) (.seq (.region a57r8 [4]) .ret) .skip)))) (.region a57r9 [0,1,5,8,9,10]))))))) (.region a57r10 [0,1,5,8,9])))))) (.seq (.region a57r11 [4]) .ret))))⟩
theorem a57_ok : compileF Tryz.prog (lk [(0,⟨[0,1],[],[]⟩),(1,⟨[0,1,5,8],[],[]⟩),(2,⟨[0,1,5,8,9],[],[]⟩),(3,⟨[0,1,5,8,9,26],[],[]⟩),(4,⟨[0,1,5,8,9],[],[]⟩),(5,⟨[0,1,5,8,9,10],[],[]⟩),(6,⟨[0,1,5,8,9,10,36],[],[]⟩),(7,⟨[0,1,5,8,9,10],[],[]⟩),(8,⟨[0,1,5,8,9,10,11,12],[],[]⟩),(9,⟨[0,1,5,8,9,10,53],[],[]⟩),(10,⟨[4],[],[]⟩),(11,⟨[4],[],[]⟩)]) Tryz.f57 = some a57 := by kernel_rfl

/- payroll/payrollref3.lengths -/
def a58r0 : List IOp := [⟨some 4,.mv,[.c (.int .i64 0)],none⟩]
def a58r1 : List IOp := [⟨some 5,.mv,[.t 1],none⟩]
def a58r2 : List IOp := [⟨some 7,.bin .eql,[.t 5,.c (.int .i64 4)],none⟩,
  ⟨some 6,.mv,[.t 7],none⟩]
def a58r3 : List IOp := [⟨some 8,.bin .eql,[.t 5,.c (.int .i64 6)],none⟩,
  ⟨some 6,.mv,[.t 8],none⟩]
def a58r4 : List IOp := [⟨some 9,.bin .eql,[.t 5,.c (.int .i64 9)],none⟩,
  ⟨some 6,.mv,[.t 9],none⟩]
def a58r5 : List IOp := [⟨some 10,.bin .eql,[.t 5,.c (.int .i64 11)],none⟩,
  ⟨some 6,.mv,[.t 10],none⟩]
def a58r6 : List IOp := [⟨some 4,.mv,[.c (.int .i64 30)],none⟩]
def a58r7 : List IOp := [⟨some 12,.bin .eql,[.t 5,.c (.int .i64 2)],none⟩,
  ⟨some 11,.mv,[.t 12],none⟩]
def a58r8 : List IOp := [⟨some 13,.mv,[.t 0],none⟩,
  ⟨some 14,.bin .rem,[.t 13,.c (.int .i64 4)],none⟩,
  ⟨some 15,.bin .eql,[.t 14,.c (.int .i64 0)],none⟩,
  ⟨some 16,.mv,[.t 15],none⟩,
  ⟨some 17,.mv,[.t 0],some (16,true)⟩,
  ⟨some 18,.bin .rem,[.t 17,.c (.int .i64 100)],some (16,true)⟩,
  ⟨some 19,.bin .neq,[.t 18,.c (.int .i64 0)],some (16,true)⟩,
  ⟨some 20,.mv,[.t 19],some (16,true)⟩,
  ⟨some 21,.mv,[.t 0],some (20,false)⟩,
  ⟨some 22,.bin .rem,[.t 21,.c (.int .i64 400)],some (20,false)⟩,
  ⟨some 23,.bin .eql,[.t 22,.c (.int .i64 0)],some (20,false)⟩,
  ⟨some 24,.pick,[.t 20,.c (.bool true),.t 23],some (16,true)⟩,
  ⟨some 25,.pick,[.t 16,.t 24,.c (.bool false)],none⟩]
def a58r9 : List IOp := [⟨some 4,.mv,[.c (.int .i64 29)],none⟩]
def a58r10 : List IOp := [⟨some 4,.mv,[.c (.int .i64 28)],none⟩]
def a58r11 : List IOp := [⟨some 4,.mv,[.c (.int .i64 31)],none⟩]
def a58 : AFunc := ⟨26,[.tmp 4],(.seq (.region a58r0 [0,1]) (.seq (.seq (.region a58r1 [0,5]) (.block 0 (.seq (.seq (.region a58r2 [0,5,6]) (.cond (.t 6) .skip (.seq (.region a58r3 [0,5,6]) (.cond (.t 6) .skip (.seq (.region a58r4 [0,5,6]) (.cond (.t 6) .skip (.region a58r5 [0,5,6]))))))) (.cond (.t 6) (.seq (.region a58r6 [4]) .ret) (.seq (.region a58r7 [0,11]) (.cond (.t 11) (.seq (.seq (.region a58r8 [25]) (.cond (.t 25) (.seq (.region a58r9 [4]) .ret) .skip)) (.seq (.region a58r10 [4]) .ret)) .skip)))))) (.seq (.region a58r11 [4]) .ret)))⟩
theorem a58_ok : compileF Tryz.prog (lk [(0,⟨[0,1],[],[]⟩),(1,⟨[0,5],[],[]⟩),(2,⟨[0,5,6],[],[]⟩),(3,⟨[0,5,6],[],[]⟩),(4,⟨[0,5,6],[],[]⟩),(5,⟨[0,5,6],[],[]⟩),(6,⟨[4],[],[]⟩),(7,⟨[0,11],[],[]⟩),(8,⟨[25],[],[]⟩),(9,⟨[4],[],[]⟩),(10,⟨[4],[],[]⟩),(11,⟨[4],[],[]⟩)]) Tryz.f58 = some a58 := by kernel_rfl

/- payroll/clock.Offset -/
def a59r0 : List IOp := [⟨some 2,.box 27 2,[.t 0],none⟩,
  ⟨some 4,.mv,[.c (.int .i64 0)],none⟩,
  ⟨some 5,.mv,[.c (.int .i64 0)],none⟩]
def a59r1 : List IOp := [⟨some 8,.loadA 2,[.t 2],none⟩,
  ⟨some 9,.call 26,[.t 8],none⟩,
  ⟨some 6,.mv,[.t 9],none⟩]
def a59r2 : List IOp := [⟨some 10,.mv,[.t 6],none⟩,
  ⟨some 11,.bin .neq,[.t 10,.c (.int .i64 0)],none⟩]
def a59r3 : List IOp := [⟨some 12,.mv,[.t 6],none⟩,
  ⟨some 4,.mv,[.c (.int .i64 0)],none⟩,
  ⟨some 5,.mv,[.t 12],none⟩]
def a59r4 : List IOp := [⟨some 13,.mv,[.t 1],none⟩,
  ⟨some 14,.bin .lss,[.t 13,.c (.int .i64 0)],none⟩,
  ⟨some 15,.mv,[.t 14],none⟩,
  ⟨some 16,.mv,[.t 1],some (15,false)⟩,
  ⟨some 17,.bin .gtr,[.t 16,.c (.int .i64 120968639)],some (15,false)⟩,
  ⟨some 18,.pick,[.t 15,.c (.bool true),.t 17],none⟩]
def a59r5 : List IOp := [⟨some 4,.mv,[.c (.int .i64 0)],none⟩,
  ⟨some 5,.mv,[.c (.int .i64 2)],none⟩]
def a59r6 : List IOp := [⟨some 19,.fieldAddr 1,[.t 2],none⟩,
  ⟨some 20,.load1,[.t 19],none⟩,
  ⟨some 21,.len,[.t 20],none⟩,
  ⟨some 22,.bin .sub,[.t 21,.c (.int .i64 1)],none⟩,
  ⟨some 7,.mv,[.t 22],none⟩]
def a59r7 : List IOp := [⟨some 23,.mv,[.t 7],none⟩,
  ⟨some 24,.bin .geq,[.t 23,.c (.int .i64 0)],none⟩]
def a59r8 : List IOp := [⟨some 27,.fieldAddr 1,[.t 2],none⟩,
  ⟨some 28,.load1,[.t 27],none⟩,
  ⟨some 29,.mv,[.t 7],none⟩,
  ⟨some 30,.indexAddr 2,[.t 28,.t 29],none⟩,
  ⟨some 31,.fieldAddr 0,[.t 30],none⟩,
  ⟨some 32,.load1,[.t 31],none⟩,
  ⟨some 33,.mv,[.t 1],none⟩,
  ⟨some 34,.bin .leq,[.t 32,.t 33],none⟩]
def a59r9 : List IOp := [⟨some 35,.fieldAddr 1,[.t 2],none⟩,
  ⟨some 36,.load1,[.t 35],none⟩,
  ⟨some 37,.mv,[.t 7],none⟩,
  ⟨some 38,.indexAddr 2,[.t 36,.t 37],none⟩,
  ⟨some 39,.fieldAddr 1,[.t 38],none⟩,
  ⟨some 40,.load1,[.t 39],none⟩,
  ⟨some 4,.mv,[.t 40],none⟩,
  ⟨some 5,.mv,[.c (.int .i64 0)],none⟩]
def a59r10 : List IOp := [⟨some 25,.mv,[.t 7],none⟩,
  ⟨some 26,.bin .sub,[.t 25,.c (.int .i64 1)],none⟩,
  ⟨some 7,.mv,[.t 26],none⟩]
def a59r11 : List IOp := [⟨some 41,.fieldAddr 0,[.t 2],none⟩,
  ⟨some 42,.load1,[.t 41],none⟩,
  ⟨some 4,.mv,[.t 42],none⟩,
  ⟨some 5,.mv,[.c (.int .i64 0)],none⟩]
def a59 : AFunc := ⟨43,[.tmp 4,.tmp 5],(.seq (.region a59r0 [1,2]) (.seq (.seq (.region a59r1 [1,2,6]) (.seq (.region a59r2 [1,2,6,11]) (.cond (.t 11) (.seq (.region a59r3 [4,5]) .ret) .skip))) (.seq (.seq (.region a59r4 [1,2,18]) (.cond (.t 18) (.seq (.region a59r5 [4,5]) .ret) .skip)) (.seq (.seq (.region a59r6 [1,2,7]) (.block 0 (.loop (.seq (.seq (.region a59r7 [1,2,7,24]) (.cond (.t 24) .skip (.exit 0))) (.seq (.block 1 (.seq (.region a59r8 [1,2,7,34]) (.cond (.t 34) (.seq (.region a59r9 [4,5]) .ret) .skip))) (.region a59r10 [1,2,7])))))) (.seq (.region a59r11 [4,5]) .ret)))))⟩
theorem a59_ok : compileF Tryz.prog (lk [(0,⟨[1,2],[],[]⟩),(1,⟨[1,2,6],[],[]⟩),(2,⟨[1,2,6,11],[],[]⟩),(3,⟨[4,5],[],[]⟩),(4,⟨[1,2,18],[],[]⟩),(5,⟨[4,5],[],[]⟩),(6,⟨[1,2,7],[],[]⟩),(7,⟨[1,2,7,24],[],[]⟩),(8,⟨[1,2,7],[],[]⟩),(9,⟨[1,2,7,34],[],[]⟩),(10,⟨[4,5],[],[]⟩),(11,⟨[4,5],[],[]⟩)]) Tryz.f59 = some a59 := by kernel_rfl

/- payroll/calendar.Date -/
def a60r0 : List IOp := [⟨some 2,.mv,[.c (.int .i64 0)],none⟩,
  ⟨some 3,.mv,[.c (.int .i64 0)],none⟩,
  ⟨some 4,.mv,[.c (.int .i64 0)],none⟩,
  ⟨some 5,.mv,[.c (.bool false)],none⟩]
def a60r1 : List IOp := [⟨some 9,.mv,[.t 0],none⟩,
  ⟨some 10,.call 76,[.t 9],none⟩,
  ⟨some 11,.not,[.t 10],none⟩]
def a60r2 : List IOp := [⟨some 2,.mv,[.c (.int .i64 0)],none⟩,
  ⟨some 3,.mv,[.c (.int .i64 0)],none⟩,
  ⟨some 4,.mv,[.c (.int .i64 0)],none⟩,
  ⟨some 5,.mv,[.c (.bool false)],none⟩]
def a60r3 : List IOp := [⟨some 12,.mv,[.t 0],none⟩,
  ⟨some 13,.call 77,[.t 12],none⟩,
  ⟨some 6,.mv,[.t 13],none⟩]
def a60r4 : List IOp := [⟨some 14,.mv,[.t 0],none⟩,
  ⟨some 15,.mv,[.t 6],none⟩,
  ⟨some 16,.call 78,[.t 15],none⟩,
  ⟨some 17,.bin .sub,[.t 14,.t 16],none⟩,
  ⟨some 7,.mv,[.t 17],none⟩]
def a60r5 : List IOp := [⟨some 8,.mv,[.c (.int .i64 1)],none⟩]
def a60r6 : List IOp := [⟨some 18,.mv,[.t 7],none⟩,
  ⟨some 19,.mv,[.t 6],none⟩,
  ⟨some 20,.mv,[.t 8],none⟩,
  ⟨some 21,.call 79,[.t 19,.t 20],none⟩,
  ⟨some 22,.bin .geq,[.t 18,.t 21],none⟩]
def a60r7 : List IOp := [⟨some 23,.mv,[.t 7],none⟩,
  ⟨some 24,.mv,[.t 6],none⟩,
  ⟨some 25,.mv,[.t 8],none⟩,
  ⟨some 26,.call 79,[.t 24,.t 25],none⟩,
  ⟨some 27,.bin .sub,[.t 23,.t 26],none⟩,
  ⟨some 7,.mv,[.t 27],none⟩]
def a60r8 : List IOp := [⟨some 28,.mv,[.t 8],none⟩,
  ⟨some 29,.bin .add,[.t 28,.c (.int .i64 1)],none⟩,
  ⟨some 8,.mv,[.t 29],none⟩]
def a60r9 : List IOp := [⟨some 30,.mv,[.t 6],none⟩,
  ⟨some 31,.mv,[.t 8],none⟩,
  ⟨some 32,.mv,[.t 7],none⟩,
  ⟨some 33,.bin .add,[.t 32,.c (.int .i64 1)],none⟩,
  ⟨some 2,.mv,[.t 30],none⟩,
  ⟨some 3,.mv,[.t 31],none⟩,
  ⟨some 4,.mv,[.t 33],none⟩,
  ⟨some 5,.mv,[.c (.bool true)],none⟩]
def a60 : AFunc := ⟨34,[.tmp 2,.tmp 3,.tmp 4,.tmp 5],(.seq (.region a60r0 [0]) (.seq (.seq (.region a60r1 [0,11]) (.cond (.t 11) (.seq (.region a60r2 [2,3,4,5]) .ret) .skip)) (.seq (.region a60r3 [0,6]) (.seq (.region a60r4 [6,7]) (.seq (.region a60r5 [6,7,8]) (.seq (.block 0 (.loop (.seq (.seq (.region a60r6 [6,7,8,22]) (.cond (.t 22) .skip (.exit 0))) (.block 1 (.seq (.region a60r7 [6,7,8]) (.region a60r8 [6,7,8])))))) (.seq (.region a60r9 [2,3,4,5]) .ret)))))))⟩
theorem a60_ok : compileF Tryz.prog (lk [(0,⟨[0],[],[]⟩),(1,⟨[0,11],[],[]⟩),(2,⟨[2,3,4,5],[],[]⟩),(3,⟨[0,6],[],[]⟩),(4,⟨[6,7],[],[]⟩),(5,⟨[6,7,8],[],[]⟩),(6,⟨[6,7,8,22],[],[]⟩),(7,⟨[6,7,8],[],[]⟩),(8,⟨[6,7,8],[],[]⟩),(9,⟨[2,3,4,5],[],[]⟩)]) Tryz.f60 = some a60 := by kernel_rfl

/- slices.Contains[[]int,int] -/
def a61r0 : List IOp := [⟨some 4,.mv,[.c (.bool false)],none⟩]
def a61r1 : List IOp := [⟨some 5,.mv,[.t 0],none⟩,
  ⟨some 6,.mv,[.t 1],none⟩,
  ⟨some 7,.call 80,[.t 5,.t 6],none⟩,
  ⟨some 8,.bin .geq,[.t 7,.c (.int .i64 0)],none⟩,
  ⟨some 4,.mv,[.t 8],none⟩]
def a61 : AFunc := ⟨9,[.tmp 4],(.seq (.region a61r0 [0,1]) (.seq (.region a61r1 [4]) .ret))⟩
theorem a61_ok : compileF Tryz.prog (lk [(0,⟨[0,1],[],[]⟩),(1,⟨[4],[],[]⟩)]) Tryz.f61 = some a61 := by kernel_rfl

/- (*payroll/premium.almanac).year -/
def a62r0 : List IOp := [⟨some 4,.mv,[.c (.nils)],none⟩]
def a62r1 : List IOp := [⟨some 8,.mv,[.t 0],none⟩,
  ⟨some 9,.nilchk,[.t 8],none⟩,
  ⟨some 10,.fieldAddr 1,[.t 9],none⟩,
  ⟨some 11,.load1,[.t 10],none⟩,
  ⟨some 12,.mv,[.t 1],none⟩,
  ⟨some 13,.look true false [.int .i64] (.nils),[.t 11,.t 12],none⟩,
  ⟨some 7,.mv,[.t 13],none⟩,
  ⟨some 14,.extract 0,[.t 7],none⟩,
  ⟨some 15,.extract 1,[.t 7],none⟩,
  ⟨some 5,.mv,[.t 14],none⟩,
  ⟨some 6,.mv,[.t 15],none⟩]
def a62r2 : List IOp := [⟨some 16,.mv,[.t 6],none⟩,
  ⟨some 17,.not,[.t 16],none⟩]
def a62r3 : List IOp := [⟨some 19,.mv,[.t 0],none⟩,
  ⟨some 20,.nilchk,[.t 19],none⟩,
  ⟨some 21,.fieldAddr 0,[.t 20],none⟩,
  ⟨some 22,.load1,[.t 21],none⟩,
  ⟨some 23,.mv,[.t 1],none⟩,
  ⟨some 24,.call 81,[.t 22,.t 23],none⟩,
  ⟨some 18,.mv,[.t 24],none⟩,
  ⟨some 25,.extract 0,[.t 18],none⟩,
  ⟨some 26,.extract 1,[.t 18],none⟩,
  ⟨some 5,.mv,[.t 25],none⟩]
def a62r4 : List IOp := [⟨some 27,.mv,[.t 0],none⟩,
  ⟨some 28,.nilchk,[.t 27],none⟩,
  ⟨some 29,.fieldAddr 1,[.t 28],none⟩,
  ⟨some 30,.load1,[.t 29],none⟩,
  ⟨some 31,.mv,[.t 1],none⟩,
  ⟨some 32,.mv,[.t 5],none⟩,
  ⟨none,.mset false [.int .i64],[.t 30,.t 31,.t 32],none⟩]
def a62r5 : List IOp := [⟨some 33,.mv,[.t 5],none⟩,
  ⟨some 4,.mv,[.t 33],none⟩]
def a62 : AFunc := ⟨34,[.tmp 4],(.seq (.region a62r0 [0,1]) (.seq (.region a62r1 [0,1,5,6]) (.seq (.seq (.region a62r2 [0,1,5,17]) (.cond (.t 17) (.seq (.region a62r3 [0,1,5]) (.region a62r4 [5])) .skip)) (.seq (.region a62r5 [4]) .ret))))⟩
theorem a62_ok : compileF Tryz.prog (lk [(0,⟨[0,1],[],[]⟩),(1,⟨[0,1,5,6],[],[]⟩),(2,⟨[0,1,5,17],[],[]⟩),(3,⟨[0,1,5],[],[]⟩),(4,⟨[5],[],[]⟩),(5,⟨[4],[],[]⟩)]) Tryz.f62 = some a62 := by kernel_rfl

/- payroll/payrollref3.Date -/
def a74r0 : List IOp := [⟨some 2,.mv,[.c (.int .i64 0)],none⟩,
  ⟨some 3,.mv,[.c (.int .i64 0)],none⟩,
  ⟨some 4,.mv,[.c (.int .i64 0)],none⟩,
  ⟨some 5,.mv,[.c (.bool false)],none⟩]
def a74r1 : List IOp := [⟨some 9,.mv,[.t 0],none⟩,
  ⟨some 10,.call 88,[.t 9],none⟩,
  ⟨some 11,.not,[.t 10],none⟩]
def a74r2 : List IOp := [⟨some 2,.mv,[.c (.int .i64 0)],none⟩,
  ⟨some 3,.mv,[.c (.int .i64 0)],none⟩,
  ⟨some 4,.mv,[.c (.int .i64 0)],none⟩,
  ⟨some 5,.mv,[.c (.bool false)],none⟩]
def a74r3 : List IOp := [⟨some 12,.mv,[.t 0],none⟩,
  ⟨some 13,.bin .quo,[.t 12,.c (.int .i64 366)],none⟩,
  ⟨some 14,.bin .add,[.c (.int .i64 1970),.t 13],none⟩,
  ⟨some 6,.mv,[.t 14],none⟩]
def a74r4 : List IOp := [⟨some 15,.mv,[.t 6],none⟩,
  ⟨some 16,.bin .add,[.t 15,.c (.int .i64 1)],none⟩,
  ⟨some 17,.call 89,[.t 16],none⟩,
  ⟨some 18,.mv,[.t 0],none⟩,
  ⟨some 19,.bin .leq,[.t 17,.t 18],none⟩]
def a74r5 : List IOp := [⟨some 20,.mv,[.t 6],none⟩,
  ⟨some 21,.bin .add,[.t 20,.c (.int .i64 1)],none⟩,
  ⟨some 6,.mv,[.t 21],none⟩]
def a74r6 : List IOp := [⟨some 22,.mv,[.t 0],none⟩,
  ⟨some 23,.mv,[.t 6],none⟩,
  ⟨some 24,.call 89,[.t 23],none⟩,
  ⟨some 25,.bin .sub,[.t 22,.t 24],none⟩,
  ⟨some 7,.mv,[.t 25],none⟩]
def a74r7 : List IOp := [⟨some 8,.mv,[.c (.int .i64 1)],none⟩]
def a74r8 : List IOp := [⟨some 26,.mv,[.t 7],none⟩,
  ⟨some 27,.mv,[.t 6],none⟩,
  ⟨some 28,.mv,[.t 8],none⟩,
  ⟨some 29,.call 58,[.t 27,.t 28],none⟩,
  ⟨some 30,.bin .geq,[.t 26,.t 29],none⟩]
def a74r9 : List IOp := [⟨some 31,.mv,[.t 7],none⟩,
  ⟨some 32,.mv,[.t 6],none⟩,
  ⟨some 33,.mv,[.t 8],none⟩,
  ⟨some 34,.call 58,[.t 32,.t 33],none⟩,
  ⟨some 35,.bin .sub,[.t 31,.t 34],none⟩,
  ⟨some 7,.mv,[.t 35],none⟩]
def a74r10 : List IOp := [⟨some 36,.mv,[.t 8],none⟩,
  ⟨some 37,.bin .add,[.t 36,.c (.int .i64 1)],none⟩,
  ⟨some 8,.mv,[.t 37],none⟩]
def a74r11 : List IOp := [⟨some 38,.mv,[.t 6],none⟩,
  ⟨some 39,.mv,[.t 8],none⟩,
  ⟨some 40,.mv,[.t 7],none⟩,
  ⟨some 41,.bin .add,[.t 40,.c (.int .i64 1)],none⟩,
  ⟨some 2,.mv,[.t 38],none⟩,
  ⟨some 3,.mv,[.t 39],none⟩,
  ⟨some 4,.mv,[.t 41],none⟩,
  ⟨some 5,.mv,[.c (.bool true)],none⟩]
def a74 : AFunc := ⟨42,[.tmp 2,.tmp 3,.tmp 4,.tmp 5],(.seq (.region a74r0 [0]) (.seq (.seq (.region a74r1 [0,11]) (.cond (.t 11) (.seq (.region a74r2 [2,3,4,5]) .ret) .skip)) (.seq (.region a74r3 [0,6]) (.seq (.block 0 (.loop (.seq (.seq (.region a74r4 [0,6,19]) (.cond (.t 19) .skip (.exit 0))) (.block 1 (.region a74r5 [0,6]))))) (.seq (.region a74r6 [6,7]) (.seq (.region a74r7 [6,7,8]) (.seq (.block 2 (.loop (.seq (.seq (.region a74r8 [6,7,8,30]) (.cond (.t 30) .skip (.exit 2))) (.block 3 (.seq (.region a74r9 [6,7,8]) (.region a74r10 [6,7,8])))))) (.seq (.region a74r11 [2,3,4,5]) .ret))))))))⟩
theorem a74_ok : compileF Tryz.prog (lk [(0,⟨[0],[],[]⟩),(1,⟨[0,11],[],[]⟩),(2,⟨[2,3,4,5],[],[]⟩),(3,⟨[0,6],[],[]⟩),(4,⟨[0,6,19],[],[]⟩),(5,⟨[0,6],[],[]⟩),(6,⟨[6,7],[],[]⟩),(7,⟨[6,7,8],[],[]⟩),(8,⟨[6,7,8,30],[],[]⟩),(9,⟨[6,7,8],[],[]⟩),(10,⟨[6,7,8],[],[]⟩),(11,⟨[2,3,4,5],[],[]⟩)]) Tryz.f74 = some a74 := by kernel_rfl

/- payroll/payrollref3.named -/
def a75r0 : List IOp := [⟨some 2,.box 52 6,[.t 0],none⟩,
  ⟨some 4,.mv,[.c (.int .i64 0)],none⟩,
  ⟨some 5,.mv,[.c (.bool false)],none⟩]
def a75r1 : List IOp := [⟨some 6,.mv,[.c (.int .i64 0)],none⟩]
def a75r2 : List IOp := [⟨some 10,.fieldAddr 0,[.t 2],none⟩,
  ⟨some 11,.load1,[.t 10],none⟩]
def a75r3 : List IOp := [⟨some 54,.bin .eql,[.t 11,.c (.int .i64 0)],none⟩,
  ⟨some 53,.mv,[.t 54],none⟩]
def a75r4 : List (Nat × DOp) := [(0,⟨⟨some 55,.fieldAddr 2,[.t 2],none⟩,none,[2,3,4,5]⟩),
  (1,⟨⟨some 56,.load1,[.t 55],none⟩,none,[2,3,4,5]⟩),
  (2,⟨⟨some 57,.mv,[.t 1],none⟩,none,[0,1,3,4]⟩),
  (3,⟨⟨some 58,.fieldAddr 1,[.t 2],none⟩,none,[0,1,2]⟩),
  (4,⟨⟨some 59,.load1,[.t 58],none⟩,none,[0,1,2]⟩),
  (5,⟨⟨some 60,.call 58,[.t 57,.t 59],none⟩,none,[0,1]⟩),
  (6,⟨⟨some 61,.bin .gtr,[.t 56,.t 60],none⟩,none,[]⟩)]
def a75r5 : List IOp := [⟨some 4,.mv,[.c (.int .i64 0)],none⟩,
  ⟨some 5,.mv,[.c (.bool false)],none⟩]
def a75r6 : List IOp := [⟨some 62,.mv,[.t 1],none⟩,
  ⟨some 63,.fieldAddr 1,[.t 2],none⟩,
  ⟨some 64,.load1,[.t 63],none⟩,
  ⟨some 65,.fieldAddr 2,[.t 2],none⟩,
  ⟨some 66,.load1,[.t 65],none⟩,
  ⟨some 67,.call 90,[.t 62,.t 64,.t 66],none⟩,
  ⟨some 6,.mv,[.t 67],none⟩]
def a75r7 : List IOp := [⟨some 69,.bin .eql,[.t 11,.c (.int .i64 1)],none⟩,
  ⟨some 68,.mv,[.t 69],none⟩]
def a75r8 : List (Nat × DOp) := [(0,⟨⟨some 70,.mv,[.t 1],none⟩,none,[2,3]⟩),
  (2,⟨⟨some 72,.fieldAddr 4,[.t 2],none⟩,none,[0,1]⟩),
  (3,⟨⟨some 73,.load1,[.t 72],none⟩,none,[0,1]⟩),
  (1,⟨⟨some 71,.call 91,[.t 70],none⟩,none,[2,3]⟩),
  (4,⟨⟨some 74,.bin .add,[.t 71,.t 73],none⟩,none,[]⟩),
  (5,⟨⟨some 6,.mv,[.t 74],none⟩,none,[]⟩)]
def a75r9 : List IOp := [⟨some 12,.mv,[.t 1],none⟩,
  ⟨some 13,.fieldAddr 1,[.t 2],none⟩,
  ⟨some 14,.load1,[.t 13],none⟩,
  ⟨some 15,.call 90,[.t 12,.t 14,.c (.int .i64 1)],none⟩,
  ⟨some 7,.mv,[.t 15],none⟩]
def a75r10 : List IOp := [⟨some 16,.mv,[.t 1],none⟩,
  ⟨some 17,.fieldAddr 1,[.t 2],none⟩,
  ⟨some 18,.load1,[.t 17],none⟩,
  ⟨some 19,.call 58,[.t 16,.t 18],none⟩,
  ⟨some 8,.mv,[.t 19],none⟩]
def a75r11 : List (Nat × DOp) := [(0,⟨⟨some 20,.mv,[.t 7],none⟩,none,[1,2,3,4,5,6,7]⟩),
  (1,⟨⟨some 21,.fieldAddr 3,[.t 2],none⟩,none,[0,3,4]⟩),
  (2,⟨⟨some 22,.load1,[.t 21],none⟩,none,[0,3,4]⟩),
  (3,⟨⟨some 23,.mv,[.t 7],none⟩,none,[0,1,2]⟩),
  (4,⟨⟨some 24,.call 56,[.t 23],none⟩,none,[0,1,2]⟩),
  (5,⟨⟨some 25,.bin .sub,[.t 22,.t 24],none⟩,none,[0]⟩),
  (6,⟨⟨some 26,.bin .add,[.t 25,.c (.int .i64 7)],none⟩,none,[0]⟩),
  (7,⟨⟨some 27,.bin .rem,[.t 26,.c (.int .i64 7)],none⟩,none,[0]⟩),
  (8,⟨⟨some 28,.bin .add,[.t 20,.t 27],none⟩,none,[]⟩),
  (9,⟨⟨some 6,.mv,[.t 28],none⟩,none,[]⟩)]
def a75r12 : List IOp := [⟨some 29,.fieldAddr 2,[.t 2],none⟩,
  ⟨some 30,.load1,[.t 29],none⟩,
  ⟨some 9,.mv,[.t 30],none⟩]
def a75r13 : List IOp := [⟨some 31,.mv,[.t 9],none⟩,
  ⟨some 32,.bin .eql,[.t 31,.c (.int .i64 (-1))],none⟩]
def a75r14 : List IOp := [⟨some 9,.mv,[.c (.int .i64 5)],none⟩]
def a75r15 : List IOp := [⟨some 33,.mv,[.t 6],none⟩,
  ⟨some 34,.bin .add,[.t 33,.c (.int .i64 28)],none⟩,
  ⟨some 35,.mv,[.t 7],none⟩,
  ⟨some 36,.mv,[.t 8],none⟩,
  ⟨some 37,.bin .add,[.t 35,.t 36],none⟩,
  ⟨some 38,.bin .geq,[.t 34,.t 37],none⟩]
def a75r16 : List IOp := [⟨some 9,.mv,[.c (.int .i64 4)],none⟩]
def a75r17 : List IOp := [⟨some 39,.mv,[.t 6],none⟩,
  ⟨some 40,.mv,[.t 9],none⟩,
  ⟨some 41,.bin .sub,[.t 40,.c (.int .i64 1)],none⟩,
  ⟨some 42,.bin .mul,[.c (.int .i64 7),.t 41],none⟩,
  ⟨some 43,.bin .add,[.t 39,.t 42],none⟩,
  ⟨some 6,.mv,[.t 43],none⟩]
def a75r18 : List IOp := [⟨some 44,.mv,[.t 6],none⟩,
  ⟨some 45,.mv,[.t 7],none⟩,
  ⟨some 46,.mv,[.t 8],none⟩,
  ⟨some 47,.bin .add,[.t 45,.t 46],none⟩,
  ⟨some 48,.bin .geq,[.t 44,.t 47],none⟩]
def a75r19 : List IOp := [⟨some 4,.mv,[.c (.int .i64 0)],none⟩,
  ⟨some 5,.mv,[.c (.bool false)],none⟩]
def a75r20 : List IOp := [⟨some 49,.mv,[.t 6],none⟩,
  ⟨some 50,.fieldAddr 4,[.t 2],none⟩,
  ⟨some 51,.load1,[.t 50],none⟩,
  ⟨some 52,.bin .add,[.t 49,.t 51],none⟩,
  ⟨some 6,.mv,[.t 52],none⟩]
def a75r21 : List IOp := [⟨some 75,.fieldAddr 5,[.t 2],none⟩,
  ⟨some 76,.load1,[.t 75],none⟩,
  ⟨some 77,.mv,[.t 76],none⟩,
  ⟨some 78,.mv,[.t 6],some (77,true)⟩,
  ⟨some 79,.call 56,[.t 78],some (77,true)⟩,
  ⟨some 80,.bin .geq,[.t 79,.c (.int .i64 5)],some (77,true)⟩,
  ⟨some 81,.pick,[.t 77,.t 80,.c (.bool false)],none⟩]
def a75r22 : List IOp := [⟨some 82,.mv,[.t 6],none⟩,
  ⟨some 83,.mv,[.t 6],none⟩,
  ⟨some 84,.call 56,[.t 83],none⟩,
  ⟨some 85,.bin .sub,[.c (.int .i64 7),.t 84],none⟩,
  ⟨some 86,.bin .add,[.t 82,.t 85],none⟩,
  ⟨some 6,.mv,[.t 86],none⟩]
def a75r23 : List IOp := [⟨some 87,.mv,[.t 6],none⟩,
  ⟨some 88,.mv,[.t 6],none⟩,
  ⟨some 89,.call 88,[.t 88],none⟩,
  ⟨some 4,.mv,[.t 87],none⟩,
  ⟨some 5,.mv,[.t 89],none⟩]
def a75 : AFunc := ⟨90,[.tmp 4,.tmp 5],(.seq (.region a75r0 [1,2]) (.seq (.region a75r1 [1,2]) (.seq (.seq (.region a75r2 [1,2,11]) (.block 0 (.seq (.region a75r3 [1,2,11,53]) (.cond (.t 53) (.seq (.seq (.draw a75r4 [] [1,2,61]) (.cond (.t 61) (.seq (.region a75r5 [4,5]) .ret) .skip)) (.region a75r6 [2,6])) (.seq (.region a75r7 [1,2,68]) (.cond (.t 68) (.draw a75r8 [] [2,6]) (.seq (.region a75r9 [1,2,7]) (.seq (.region a75r10 [2,7,8]) (.seq (.draw a75r11 [] [2,6,7,8]) (.seq (.region a75r12 [2,6,7,8,9]) (.seq (.seq (.region a75r13 [2,6,7,8,9,32]) (.cond (.t 32) (.seq (.region a75r14 [2,6,7,8,9]) (.seq (.region a75r15 [2,6,7,8,9,38]) (.cond (.t 38) (.region a75r16 [2,6,7,8,9]) .skip))) .skip)) (.seq (.region a75r17 [2,6,7,8]) (.seq (.seq (.region a75r18 [2,6,48]) (.cond (.t 48) (.seq (.region a75r19 [4,5]) .ret) .skip)) (.region a75r20 [2,6])))))))))))))) (.seq (.seq (.region a75r21 [6,81]) (.cond (.t 81) (.region a75r22 [6]) .skip)) (.seq (.region a75r23 [4,5]) .ret)))))⟩
theorem a75_ok : compileF Tryz.prog (lk [(0,⟨[1,2],[],[]⟩),(1,⟨[1,2],[],[]⟩),(2,⟨[1,2,11],[],[]⟩),(3,⟨[1,2,7],[],[]⟩),(4,⟨[2,7,8],[],[]⟩),(5,⟨[2,6,7,8],[[],[],[1],[],[3],[2,4,1,3],[5,2,4,1,3],[6,5,2,4,1,3],[0,7,6,5,2,4,1,3],[8,4,0,1,2,3,5,6,7]],[0,1,2,3,4,5,6,7,8,9]⟩),(6,⟨[2,6,7,8,9],[],[]⟩),(7,⟨[2,6,7,8,9,32],[],[]⟩),(8,⟨[2,6,7,8,9],[],[]⟩),(9,⟨[2,6,7,8,9,38],[],[]⟩),(10,⟨[2,6,7,8,9],[],[]⟩),(11,⟨[2,6,7,8],[],[]⟩),(12,⟨[2,6,48],[],[]⟩),(13,⟨[4,5],[],[]⟩),(14,⟨[2,6],[],[]⟩),(15,⟨[1,2,11,53],[],[]⟩),(16,⟨[1,2,61],[[],[0],[],[],[3],[2,4,3],[1,5,0,2,4,3]],[0,1,2,3,4,5,6]⟩),(17,⟨[4,5],[],[]⟩),(18,⟨[2,6],[],[]⟩),(19,⟨[1,2,68],[],[]⟩),(20,⟨[2,6],[[],[0],[],[2],[1,3,0,2],[4,1,0,2,3]],[0,2,3,1,4,5]⟩),(21,⟨[6,81],[],[]⟩),(22,⟨[6],[],[]⟩),(23,⟨[4,5],[],[]⟩)]) Tryz.f75 = some a75 := by kernel_rfl

/- payroll/calendar.valid -/
def a76r0 : List IOp := [⟨some 2,.mv,[.c (.bool false)],none⟩]
def a76r1 : List IOp := [⟨some 3,.mv,[.t 0],none⟩,
  ⟨some 4,.bin .geq,[.t 3,.c (.int .i64 0)],none⟩,
  ⟨some 5,.mv,[.t 4],none⟩,
  ⟨some 6,.mv,[.t 0],some (5,true)⟩,
  ⟨some 7,.bin .leq,[.t 6,.c (.int .i64 84005)],some (5,true)⟩,
  ⟨some 8,.pick,[.t 5,.t 7,.c (.bool false)],none⟩,
  ⟨some 2,.mv,[.t 8],none⟩]
def a76 : AFunc := ⟨9,[.tmp 2],(.seq (.region a76r0 [0]) (.seq (.region a76r1 [2]) .ret))⟩
theorem a76_ok : compileF Tryz.prog (lk [(0,⟨[0],[],[]⟩),(1,⟨[2],[],[]⟩)]) Tryz.f76 = some a76 := by kernel_rfl

/- payroll/calendar.yearOf -/
def a77r0 : List IOp := [⟨some 2,.mv,[.c (.int .i64 0)],none⟩]
def a77r1 : List IOp := [⟨some 4,.mv,[.t 0],none⟩,
  ⟨some 5,.bin .quo,[.t 4,.c (.int .i64 366)],none⟩,
  ⟨some 6,.bin .add,[.c (.int .i64 1970),.t 5],none⟩,
  ⟨some 3,.mv,[.t 6],none⟩]
def a77r2 : List IOp := [⟨some 7,.mv,[.t 3],none⟩,
  ⟨some 8,.bin .add,[.t 7,.c (.int .i64 1)],none⟩,
  ⟨some 9,.call 78,[.t 8],none⟩,
  ⟨some 10,.mv,[.t 0],none⟩,
  ⟨some 11,.bin .leq,[.t 9,.t 10],none⟩]
def a77r3 : List IOp := [⟨some 12,.mv,[.t 3],none⟩,
  ⟨some 13,.bin .add,[.t 12,.c (.int .i64 1)],none⟩,
  ⟨some 3,.mv,[.t 13],none⟩]
def a77r4 : List IOp := [⟨some 14,.mv,[.t 3],none⟩,
  ⟨some 2,.mv,[.t 14],none⟩]
def a77 : AFunc := ⟨15,[.tmp 2],(.seq (.region a77r0 [0]) (.seq (.region a77r1 [0,3]) (.seq (.block 0 (.loop (.seq (.seq (.region a77r2 [0,3,11]) (.cond (.t 11) .skip (.exit 0))) (.block 1 (.region a77r3 [0,3]))))) (.seq (.region a77r4 [2]) .ret))))⟩
theorem a77_ok : compileF Tryz.prog (lk [(0,⟨[0],[],[]⟩),(1,⟨[0,3],[],[]⟩),(2,⟨[0,3,11],[],[]⟩),(3,⟨[0,3],[],[]⟩),(4,⟨[2],[],[]⟩)]) Tryz.f77 = some a77 := by kernel_rfl

/- payroll/calendar.begin -/
def a78r0 : List IOp := [⟨some 2,.mv,[.c (.int .i64 0)],none⟩]
def a78r1 : List IOp := [⟨some 3,.mv,[.t 0],none⟩,
  ⟨some 4,.bin .sub,[.t 3,.c (.int .i64 1970)],none⟩,
  ⟨some 5,.bin .mul,[.c (.int .i64 365),.t 4],none⟩,
  ⟨some 6,.mv,[.t 0],none⟩,
  ⟨some 7,.bin .sub,[.t 6,.c (.int .i64 1)],none⟩,
  ⟨some 8,.call 92,[.t 7],none⟩,
  ⟨some 9,.bin .add,[.t 5,.t 8],none⟩,
  ⟨some 10,.call 92,[.c (.int .i64 1969)],none⟩,
  ⟨some 11,.bin .sub,[.t 9,.t 10],none⟩,
  ⟨some 2,.mv,[.t 11],none⟩]
def a78 : AFunc := ⟨12,[.tmp 2],(.seq (.region a78r0 [0]) (.seq (.region a78r1 [2]) .ret))⟩
theorem a78_ok : compileF Tryz.prog (lk [(0,⟨[0],[],[]⟩),(1,⟨[2],[],[]⟩)]) Tryz.f78 = some a78 := by kernel_rfl

/- slices.Index[[]int,int] -/
def a80r0 : List IOp := [⟨some 4,.mv,[.c (.int .i64 0)],none⟩]
def a80r1 : List IOp := [⟨some 6,.mv,[.t 0],none⟩,
  ⟨some 7,.len,[.t 6],none⟩,
  ⟨some 8,.mv,[.c (.int .i64 0)],none⟩]
def a80r2 : List IOp := [⟨some 9,.bin .lss,[.t 8,.t 7],none⟩]
def a80r3 : List IOp := [⟨some 10,.mv,[.t 8],none⟩,
  ⟨some 5,.mv,[.t 10],none⟩]
def a80r4 : List IOp := [⟨some 11,.mv,[.t 1],none⟩,
  ⟨some 12,.mv,[.t 0],none⟩,
  ⟨some 13,.mv,[.t 5],none⟩,
  ⟨some 14,.indexAddr 1,[.t 12,.t 13],none⟩,
  ⟨some 15,.load1,[.t 14],none⟩,
  ⟨some 16,.bin .eql,[.t 11,.t 15],none⟩]
def a80r5 : List IOp := [⟨some 17,.mv,[.t 5],none⟩,
  ⟨some 4,.mv,[.t 17],none⟩]
def a80r6 : List IOp := [⟨some 18,.bin .add,[.t 8,.c (.int .i64 1)],none⟩,
  ⟨some 8,.mv,[.t 18],none⟩]
def a80r7 : List IOp := [⟨some 4,.mv,[.c (.int .i64 (-1))],none⟩]
def a80 : AFunc := ⟨19,[.tmp 4],(.seq (.region a80r0 [0,1]) (.seq (.seq (.region a80r1 [0,1,7,8]) (.block 0 (.loop (.seq (.region a80r2 [0,1,7,8,9]) (.seq (.cond (.t 9) .skip (.exit 0)) (.seq (.block 1 (.seq (.region a80r3 [0,1,5,7,8]) (.seq (.region a80r4 [0,1,5,7,8,16]) (.cond (.t 16) (.seq (.region a80r5 [4]) .ret) .skip)))) (.region a80r6 [0,1,7,8]))))))) (.seq (.region a80r7 [4]) .ret)))⟩
theorem a80_ok : compileF Tryz.prog (lk [(0,⟨[0,1],[],[]⟩),(1,⟨[0,1,7,8],[],[]⟩),(2,⟨[0,1,7,8,9],[],[]⟩),(3,⟨[0,1,5,7,8],[],[]⟩),(4,⟨[0,1,5,7,8,16],[],[]⟩),(5,⟨[4],[],[]⟩),(6,⟨[0,1,7,8],[],[]⟩),(7,⟨[4],[],[]⟩)]) Tryz.f80 = some a80 := by kernel_rfl

/- payroll/calendar.Holidays -/
def a81r0 : List IOp := [⟨some 4,.mv,[.c (.nils)],none⟩,
  ⟨some 5,.mv,[.c (.int .i64 0)],none⟩]
def a81r1 : List IOp := [⟨some 7,.mv,[.t 0],none⟩,
  ⟨some 8,.call 27,[.t 7],none⟩,
  ⟨some 6,.mv,[.t 8],none⟩]
def a81r2 : List IOp := [⟨some 9,.mv,[.t 6],none⟩,
  ⟨some 10,.bin .neq,[.t 9,.c (.int .i64 0)],none⟩]
def a81r3 : List IOp := [⟨some 11,.mv,[.t 6],none⟩,
  ⟨some 4,.mv,[.c (.nils)],none⟩,
  ⟨some 5,.mv,[.t 11],none⟩]
def a81r4 : List IOp := [⟨some 12,.mv,[.t 1],none⟩,
  ⟨some 13,.bin .lss,[.t 12,.c (.int .i64 1970)],none⟩,
  ⟨some 14,.mv,[.t 13],none⟩,
  ⟨some 15,.mv,[.t 1],some (14,false)⟩,
  ⟨some 16,.bin .gtr,[.t 15,.c (.int .i64 2199)],some (14,false)⟩,
  ⟨some 17,.pick,[.t 14,.c (.bool true),.t 16],none⟩]
def a81r5 : List IOp := [⟨some 4,.mv,[.c (.nils)],none⟩,
  ⟨some 5,.mv,[.c (.int .i64 2)],none⟩]
def a81r6 : List IOp := [⟨some 18,.mv,[.t 0],none⟩,
  ⟨some 19,.mv,[.t 1],none⟩,
  ⟨some 20,.mv,[.t 1],none⟩,
  ⟨some 21,.call 94,[.t 18,.t 19,.t 20],none⟩,
  ⟨some 4,.mv,[.t 21],none⟩,
  ⟨some 5,.mv,[.c (.int .i64 0)],none⟩]
def a81 : AFunc := ⟨22,[.tmp 4,.tmp 5],(.seq (.region a81r0 [0,1]) (.seq (.seq (.region a81r1 [0,1,6]) (.seq (.region a81r2 [0,1,6,10]) (.cond (.t 10) (.seq (.region a81r3 [4,5]) .ret) .skip))) (.seq (.seq (.region a81r4 [0,1,17]) (.cond (.t 17) (.seq (.region a81r5 [4,5]) .ret) .skip)) (.seq (.region a81r6 [4,5]) .ret))))⟩
theorem a81_ok : compileF Tryz.prog (lk [(0,⟨[0,1],[],[]⟩),(1,⟨[0,1,6],[],[]⟩),(2,⟨[0,1,6,10],[],[]⟩),(3,⟨[4,5],[],[]⟩),(4,⟨[0,1,17],[],[]⟩),(5,⟨[4,5],[],[]⟩),(6,⟨[4,5],[],[]⟩)]) Tryz.f81 = some a81 := by kernel_rfl

/- cmp.isNaN[int] -/
/- payroll/payrollref3.InDays -/
def a88r0 : List IOp := [⟨some 2,.mv,[.c (.bool false)],none⟩]
def a88r1 : List IOp := [⟨some 3,.mv,[.t 0],none⟩,
  ⟨some 4,.bin .geq,[.t 3,.c (.int .i64 0)],none⟩,
  ⟨some 5,.mv,[.t 4],none⟩,
  ⟨some 6,.mv,[.t 0],some (5,true)⟩,
  ⟨some 7,.bin .leq,[.t 6,.c (.int .i64 84005)],some (5,true)⟩,
  ⟨some 8,.pick,[.t 5,.t 7,.c (.bool false)],none⟩,
  ⟨some 2,.mv,[.t 8],none⟩]
def a88 : AFunc := ⟨9,[.tmp 2],(.seq (.region a88r0 [0]) (.seq (.region a88r1 [2]) .ret))⟩
theorem a88_ok : compileF Tryz.prog (lk [(0,⟨[0],[],[]⟩),(1,⟨[2],[],[]⟩)]) Tryz.f88 = some a88 := by kernel_rfl

/- payroll/payrollref3.before -/
def a89r0 : List IOp := [⟨some 2,.mv,[.c (.int .i64 0)],none⟩]
def a89r1 : List IOp := [⟨some 5,.mv,[.t 0],none⟩,
  ⟨some 6,.bin .sub,[.t 5,.c (.int .i64 1970)],none⟩,
  ⟨some 7,.bin .mul,[.t 6,.c (.int .i64 365)],none⟩,
  ⟨some 3,.mv,[.t 7],none⟩]
def a89r2 : List IOp := [⟨some 4,.mv,[.c (.int .i64 1972)],none⟩]
def a89r3 : List IOp := [⟨some 8,.mv,[.t 4],none⟩,
  ⟨some 9,.mv,[.t 0],none⟩,
  ⟨some 10,.bin .lss,[.t 8,.t 9],none⟩]
def a89r4 : List IOp := [⟨some 13,.mv,[.t 4],none⟩,
  ⟨some 14,.call 58,[.t 13,.c (.int .i64 2)],none⟩,
  ⟨some 15,.bin .eql,[.t 14,.c (.int .i64 29)],none⟩]
def a89r5 : List IOp := [⟨some 16,.mv,[.t 3],none⟩,
  ⟨some 17,.bin .add,[.t 16,.c (.int .i64 1)],none⟩,
  ⟨some 3,.mv,[.t 17],none⟩]
def a89r6 : List IOp := [⟨some 11,.mv,[.t 4],none⟩,
  ⟨some 12,.bin .add,[.t 11,.c (.int .i64 4)],none⟩,
  ⟨some 4,.mv,[.t 12],none⟩]
def a89r7 : List IOp := [⟨some 18,.mv,[.t 3],none⟩,
  ⟨some 2,.mv,[.t 18],none⟩]
def a89 : AFunc := ⟨19,[.tmp 2],(.seq (.region a89r0 [0]) (.seq (.region a89r1 [0,3]) (.seq (.seq (.region a89r2 [0,3,4]) (.block 0 (.loop (.seq (.seq (.region a89r3 [0,3,4,10]) (.cond (.t 10) .skip (.exit 0))) (.seq (.block 1 (.seq (.region a89r4 [0,3,4,15]) (.cond (.t 15) (.region a89r5 [0,3,4]) .skip))) (.region a89r6 [0,3,4])))))) (.seq (.region a89r7 [2]) .ret))))⟩
theorem a89_ok : compileF Tryz.prog (lk [(0,⟨[0],[],[]⟩),(1,⟨[0,3],[],[]⟩),(2,⟨[0,3,4],[],[]⟩),(3,⟨[0,3,4,10],[],[]⟩),(4,⟨[0,3,4],[],[]⟩),(5,⟨[0,3,4,15],[],[]⟩),(6,⟨[0,3,4],[],[]⟩),(7,⟨[2],[],[]⟩)]) Tryz.f89 = some a89 := by kernel_rfl

/- payroll/payrollref3.raw -/
def a90r0 : List IOp := [⟨some 6,.mv,[.c (.int .i64 0)],none⟩]
def a90r1 : List IOp := [⟨some 9,.mv,[.t 0],none⟩,
  ⟨some 10,.call 89,[.t 9],none⟩,
  ⟨some 11,.mv,[.t 2],none⟩,
  ⟨some 12,.bin .add,[.t 10,.t 11],none⟩,
  ⟨some 13,.bin .sub,[.t 12,.c (.int .i64 1)],none⟩,
  ⟨some 7,.mv,[.t 13],none⟩]
def a90r2 : List IOp := [⟨some 8,.mv,[.c (.int .i64 1)],none⟩]
def a90r3 : List IOp := [⟨some 14,.mv,[.t 8],none⟩,
  ⟨some 15,.mv,[.t 1],none⟩,
  ⟨some 16,.bin .lss,[.t 14,.t 15],none⟩]
def a90r4 : List IOp := [⟨some 19,.mv,[.t 7],none⟩,
  ⟨some 20,.mv,[.t 0],none⟩,
  ⟨some 21,.mv,[.t 8],none⟩,
  ⟨some 22,.call 58,[.t 20,.t 21],none⟩,
  ⟨some 23,.bin .add,[.t 19,.t 22],none⟩,
  ⟨some 7,.mv,[.t 23],none⟩]
def a90r5 : List IOp := [⟨some 17,.mv,[.t 8],none⟩,
  ⟨some 18,.bin .add,[.t 17,.c (.int .i64 1)],none⟩,
  ⟨some 8,.mv,[.t 18],none⟩]
def a90r6 : List IOp := [⟨some 24,.mv,[.t 7],none⟩,
  ⟨some 6,.mv,[.t 24],none⟩]
def a90 : AFunc := ⟨25,[.tmp 6],(.seq (.region a90r0 [0,1,2]) (.seq (.region a90r1 [0,1,7]) (.seq (.seq (.region a90r2 [0,1,7,8]) (.block 0 (.loop (.seq (.seq (.region a90r3 [0,1,7,8,16]) (.cond (.t 16) .skip (.exit 0))) (.seq (.block 1 (.region a90r4 [0,1,7,8])) (.region a90r5 [0,1,7,8])))))) (.seq (.region a90r6 [6]) .ret))))⟩
theorem a90_ok : compileF Tryz.prog (lk [(0,⟨[0,1,2],[],[]⟩),(1,⟨[0,1,7],[],[]⟩),(2,⟨[0,1,7,8],[],[]⟩),(3,⟨[0,1,7,8,16],[],[]⟩),(4,⟨[0,1,7,8],[],[]⟩),(5,⟨[0,1,7,8],[],[]⟩),(6,⟨[6],[],[]⟩)]) Tryz.f90 = some a90 := by kernel_rfl

/- payroll/payrollref3.easter -/
def a91r0 : List IOp := [⟨some 2,.mv,[.c (.int .i64 0)],none⟩]
def a91r1 : List IOp := [⟨some 9,.mv,[.t 0],none⟩,
  ⟨some 10,.bin .rem,[.t 9,.c (.int .i64 19)],none⟩,
  ⟨some 11,.mv,[.t 0],none⟩,
  ⟨some 12,.bin .quo,[.t 11,.c (.int .i64 100)],none⟩,
  ⟨some 13,.mv,[.t 0],none⟩,
  ⟨some 14,.bin .rem,[.t 13,.c (.int .i64 100)],none⟩,
  ⟨some 3,.mv,[.t 10],none⟩,
  ⟨some 4,.mv,[.t 12],none⟩,
  ⟨some 5,.mv,[.t 14],none⟩]
def a91r2 : List IOp := [⟨some 15,.mv,[.t 3],none⟩,
  ⟨some 16,.bin .mul,[.c (.int .i64 19),.t 15],none⟩,
  ⟨some 17,.mv,[.t 4],none⟩,
  ⟨some 18,.bin .add,[.t 16,.t 17],none⟩,
  ⟨some 19,.mv,[.t 4],none⟩,
  ⟨some 20,.bin .quo,[.t 19,.c (.int .i64 4)],none⟩,
  ⟨some 21,.bin .sub,[.t 18,.t 20],none⟩,
  ⟨some 22,.mv,[.t 4],none⟩,
  ⟨some 23,.mv,[.t 4],none⟩,
  ⟨some 24,.bin .add,[.t 23,.c (.int .i64 8)],none⟩,
  ⟨some 25,.bin .quo,[.t 24,.c (.int .i64 25)],none⟩,
  ⟨some 26,.bin .sub,[.t 22,.t 25],none⟩,
  ⟨some 27,.bin .add,[.t 26,.c (.int .i64 1)],none⟩,
  ⟨some 28,.bin .quo,[.t 27,.c (.int .i64 3)],none⟩,
  ⟨some 29,.bin .sub,[.t 21,.t 28],none⟩,
  ⟨some 30,.bin .add,[.t 29,.c (.int .i64 15)],none⟩,
  ⟨some 31,.bin .rem,[.t 30,.c (.int .i64 30)],none⟩,
  ⟨some 6,.mv,[.t 31],none⟩]
def a91r3 : List IOp := [⟨some 32,.mv,[.t 4],none⟩,
  ⟨some 33,.bin .rem,[.t 32,.c (.int .i64 4)],none⟩,
  ⟨some 34,.bin .mul,[.c (.int .i64 2),.t 33],none⟩,
  ⟨some 35,.bin .add,[.c (.int .i64 32),.t 34],none⟩,
  ⟨some 36,.mv,[.t 5],none⟩,
  ⟨some 37,.bin .quo,[.t 36,.c (.int .i64 4)],none⟩,
  ⟨some 38,.bin .mul,[.c (.int .i64 2),.t 37],none⟩,
  ⟨some 39,.bin .add,[.t 35,.t 38],none⟩,
  ⟨some 40,.mv,[.t 6],none⟩,
  ⟨some 41,.bin .sub,[.t 39,.t 40],none⟩,
  ⟨some 42,.mv,[.t 5],none⟩,
  ⟨some 43,.bin .rem,[.t 42,.c (.int .i64 4)],none⟩,
  ⟨some 44,.bin .sub,[.t 41,.t 43],none⟩,
  ⟨some 45,.bin .rem,[.t 44,.c (.int .i64 7)],none⟩,
  ⟨some 7,.mv,[.t 45],none⟩]
def a91r4 : List IOp := [⟨some 46,.mv,[.t 6],none⟩,
  ⟨some 47,.mv,[.t 7],none⟩,
  ⟨some 48,.bin .add,[.t 46,.t 47],none⟩,
  ⟨some 49,.mv,[.t 3],none⟩,
  ⟨some 50,.mv,[.t 6],none⟩,
  ⟨some 51,.bin .mul,[.c (.int .i64 11),.t 50],none⟩,
  ⟨some 52,.bin .add,[.t 49,.t 51],none⟩,
  ⟨some 53,.mv,[.t 7],none⟩,
  ⟨some 54,.bin .mul,[.c (.int .i64 22),.t 53],none⟩,
  ⟨some 55,.bin .add,[.t 52,.t 54],none⟩,
  ⟨some 56,.bin .quo,[.t 55,.c (.int .i64 451)],none⟩,
  ⟨some 57,.bin .mul,[.c (.int .i64 7),.t 56],none⟩,
  ⟨some 58,.bin .sub,[.t 48,.t 57],none⟩,
  ⟨some 59,.bin .add,[.t 58,.c (.int .i64 114)],none⟩,
  ⟨some 8,.mv,[.t 59],none⟩]
def a91r5 : List IOp := [⟨some 60,.mv,[.t 0],none⟩,
  ⟨some 61,.mv,[.t 8],none⟩,
  ⟨some 62,.bin .quo,[.t 61,.c (.int .i64 31)],none⟩,
  ⟨some 63,.mv,[.t 8],none⟩,
  ⟨some 64,.bin .rem,[.t 63,.c (.int .i64 31)],none⟩,
  ⟨some 65,.bin .add,[.t 64,.c (.int .i64 1)],none⟩,
  ⟨some 66,.call 90,[.t 60,.t 62,.t 65],none⟩,
  ⟨some 2,.mv,[.t 66],none⟩]
def a91 : AFunc := ⟨67,[.tmp 2],(.seq (.region a91r0 [0]) (.seq (.region a91r1 [0,3,4,5]) (.seq (.region a91r2 [0,3,4,5,6]) (.seq (.region a91r3 [0,3,6,7]) (.seq (.region a91r4 [0,8]) (.seq (.region a91r5 [2]) .ret))))))⟩
theorem a91_ok : compileF Tryz.prog (lk [(0,⟨[0],[],[]⟩),(1,⟨[0,3,4,5],[],[]⟩),(2,⟨[0,3,4,5,6],[],[]⟩),(3,⟨[0,3,6,7],[],[]⟩),(4,⟨[0,8],[],[]⟩),(5,⟨[2],[],[]⟩)]) Tryz.f91 = some a91 := by kernel_rfl

/- payroll/calendar.leaps -/
def a92r0 : List IOp := [⟨some 2,.mv,[.c (.int .i64 0)],none⟩]
def a92r1 : List IOp := [⟨some 3,.mv,[.t 0],none⟩,
  ⟨some 4,.bin .quo,[.t 3,.c (.int .i64 4)],none⟩,
  ⟨some 5,.mv,[.t 0],none⟩,
  ⟨some 6,.bin .quo,[.t 5,.c (.int .i64 100)],none⟩,
  ⟨some 7,.bin .sub,[.t 4,.t 6],none⟩,
  ⟨some 8,.mv,[.t 0],none⟩,
  ⟨some 9,.bin .quo,[.t 8,.c (.int .i64 400)],none⟩,
  ⟨some 10,.bin .add,[.t 7,.t 9],none⟩,
  ⟨some 2,.mv,[.t 10],none⟩]
def a92 : AFunc := ⟨11,[.tmp 2],(.seq (.region a92r0 [0]) (.seq (.region a92r1 [2]) .ret))⟩
theorem a92_ok : compileF Tryz.prog (lk [(0,⟨[0],[],[]⟩),(1,⟨[2],[],[]⟩)]) Tryz.f92 = some a92 := by kernel_rfl

/- payroll/calendar.leap -/
/- payroll/calendar.collect -/
def a94r0 : List IOp := [⟨some 6,.mv,[.c (.nils)],none⟩]
def a94r1 : List IOp := [⟨some 7,.mv,[.c (.nils)],none⟩]
def a94r2 : List IOp := [⟨some 13,.mv,[.t 1],none⟩,
  ⟨some 8,.mv,[.t 13],none⟩]
def a94r3 : List IOp := [⟨some 14,.mv,[.t 8],none⟩,
  ⟨some 15,.mv,[.t 2],none⟩,
  ⟨some 16,.bin .leq,[.t 14,.t 15],none⟩]
def a94r4 : List IOp := [⟨some 19,.mv,[.t 0],none⟩,
  ⟨some 20,.len,[.t 19],none⟩,
  ⟨some 21,.mv,[.c (.int .i64 0)],none⟩]
def a94r5 : List IOp := [⟨some 22,.bin .lss,[.t 21,.t 20],none⟩]
def a94r6 : List IOp := [⟨some 23,.indexAddr 6,[.t 19,.t 21],none⟩,
  ⟨some 24,.loadA 6,[.t 23],none⟩,
  ⟨some 10,.alloc 52 [.int .i64 0,.int .i64 0,.int .i64 0,.int .i64 0,.int .i64 0,.bool false],[],none⟩,
  ⟨none,.store 6,[.t 10,.t 24],none⟩]
def a94r7 : List IOp := [⟨some 26,.loadA 6,[.t 10],none⟩,
  ⟨some 27,.mv,[.t 8],none⟩,
  ⟨some 28,.call 96,[.t 26,.t 27],none⟩,
  ⟨some 25,.mv,[.t 28],none⟩,
  ⟨some 29,.extract 0,[.t 25],none⟩,
  ⟨some 30,.extract 1,[.t 25],none⟩,
  ⟨some 11,.mv,[.t 29],none⟩,
  ⟨some 12,.mv,[.t 30],none⟩]
def a94r8 : List IOp := [⟨some 31,.mv,[.t 12],none⟩]
def a94r9 : List IOp := [⟨some 32,.mv,[.t 7],none⟩,
  ⟨some 33,.mv,[.t 11],none⟩,
  ⟨some 34,.bslice 3 1 [.int .i64 0] 1 [0],[.t 33],none⟩,
  ⟨some 35,.append 3 1 8,[.t 32,.t 34],none⟩,
  ⟨some 7,.mv,[.t 35],none⟩]
def a94r10 : List IOp := [⟨some 36,.bin .add,[.t 21,.c (.int .i64 1)],none⟩,
  ⟨some 21,.mv,[.t 36],none⟩]
def a94r11 : List IOp := [⟨some 17,.mv,[.t 8],none⟩,
  ⟨some 18,.bin .add,[.t 17,.c (.int .i64 1)],none⟩,
  ⟨some 8,.mv,[.t 18],none⟩]
def a94r12 : List IOp := [⟨some 37,.mv,[.t 7],none⟩,
  ⟨some 38,.call 39,[.t 37],none⟩]
def a94r13 : List IOp := [⟨some 39,.mv,[.t 7],none⟩,
  ⟨some 40,.call 97,[.t 39],none⟩,
  ⟨some 6,.mv,[.t 40],none⟩]
def a94 : AFunc := ⟨41,[.tmp 6],(.seq (.region a94r0 [0,1,2]) (.seq (.region a94r1 [0,1,2,7]) (.seq (.seq (.region a94r2 [0,2,7,8]) (.block 0 (.loop (.seq (.seq (.region a94r3 [0,2,7,8,16]) (.cond (.t 16) .skip (.exit 0))) (.seq (.block 1 (.seq (.region a94r4 [0,2,7,8,19,20,21]) (.block 2 (.loop (.seq (.region a94r5 [0,2,7,8,19,20,21,22]) (.seq (.cond (.t 22) .skip (.exit 2)) (.seq (.block 3 (.seq (.region a94r6 [0,2,7,8,10,19,20,21]) (.seq (.region a94r7 [0,2,7,8,11,12,19,20,21]) (.seq (.region a94r8 [0,2,7,8,11,19,20,21,31]) (.cond (.t 31) (.region a94r9 [0,2,7,8,19,20,21]) .skip))))) (.region a94r10 [0,2,7,8,19,20,21])))))))) (.region a94r11 [0,2,7,8])))))) (.seq (.region a94r12 [7]) (.seq (.region a94r13 [6]) .ret)))))⟩
theorem a94_ok : compileF Tryz.prog (lk [(0,⟨[0,1,2],[],[]⟩),(1,⟨[0,1,2,7],[],[]⟩),(2,⟨[0,2,7,8],[],[]⟩),(3,⟨[0,2,7,8,16],[],[]⟩),(4,⟨[0,2,7,8],[],[]⟩),(5,⟨[0,2,7,8,19,20,21],[],[]⟩),(6,⟨[0,2,7,8,19,20,21,22],[],[]⟩),(7,⟨[0,2,7,8,10,19,20,21],[],[]⟩),(8,⟨[0,2,7,8,11,12,19,20,21],[],[]⟩),(9,⟨[0,2,7,8,11,19,20,21,31],[],[]⟩),(10,⟨[0,2,7,8,19,20,21],[],[]⟩),(11,⟨[0,2,7,8,19,20,21],[],[]⟩),(12,⟨[7],[],[]⟩),(13,⟨[6],[],[]⟩)]) Tryz.f94 = some a94 := by kernel_rfl

/- payroll/calendar.named -/
def a96r0 : List IOp := [⟨some 2,.box 52 6,[.t 0],none⟩,
  ⟨some 4,.mv,[.c (.int .i64 0)],none⟩,
  ⟨some 5,.mv,[.c (.bool false)],none⟩]
def a96r1 : List IOp := [⟨some 6,.mv,[.c (.int .i64 0)],none⟩]
def a96r2 : List IOp := [⟨some 7,.mv,[.c (.bool false)],none⟩]
def a96r3 : List IOp := [⟨some 9,.fieldAddr 0,[.t 2],none⟩,
  ⟨some 10,.load1,[.t 9],none⟩]
def a96r4 : List IOp := [⟨some 12,.bin .eql,[.t 10,.c (.int .i64 0)],none⟩,
  ⟨some 11,.mv,[.t 12],none⟩]
def a96r5 : List IOp := [⟨some 14,.mv,[.t 1],none⟩,
  ⟨some 15,.fieldAddr 1,[.t 2],none⟩,
  ⟨some 16,.load1,[.t 15],none⟩,
  ⟨some 17,.fieldAddr 2,[.t 2],none⟩,
  ⟨some 18,.load1,[.t 17],none⟩,
  ⟨some 19,.call 98,[.t 14,.t 16,.t 18],none⟩,
  ⟨some 13,.mv,[.t 19],none⟩,
  ⟨some 20,.extract 0,[.t 13],none⟩,
  ⟨some 21,.extract 1,[.t 13],none⟩,
  ⟨some 6,.mv,[.t 20],none⟩,
  ⟨some 7,.mv,[.t 21],none⟩]
def a96r6 : List IOp := [⟨some 23,.bin .eql,[.t 10,.c (.int .i64 1)],none⟩,
  ⟨some 22,.mv,[.t 23],none⟩]
def a96r7 : List IOp := [⟨some 25,.mv,[.t 1],none⟩,
  ⟨some 26,.call 99,[.t 25],none⟩,
  ⟨some 24,.mv,[.t 26],none⟩,
  ⟨some 27,.extract 0,[.t 24],none⟩,
  ⟨some 28,.extract 1,[.t 24],none⟩,
  ⟨some 6,.mv,[.t 27],none⟩,
  ⟨some 7,.mv,[.t 28],none⟩]
def a96r8 : List IOp := [⟨some 30,.bin .eql,[.t 10,.c (.int .i64 2)],none⟩,
  ⟨some 29,.mv,[.t 30],none⟩]
def a96r9 : List IOp := [⟨some 32,.mv,[.t 1],none⟩,
  ⟨some 33,.fieldAddr 1,[.t 2],none⟩,
  ⟨some 34,.load1,[.t 33],none⟩,
  ⟨some 35,.fieldAddr 3,[.t 2],none⟩,
  ⟨some 36,.load1,[.t 35],none⟩,
  ⟨some 37,.fieldAddr 2,[.t 2],none⟩,
  ⟨some 38,.load1,[.t 37],none⟩,
  ⟨some 39,.call 100,[.t 32,.t 34,.t 36,.t 38],none⟩,
  ⟨some 31,.mv,[.t 39],none⟩,
  ⟨some 40,.extract 0,[.t 31],none⟩,
  ⟨some 41,.extract 1,[.t 31],none⟩,
  ⟨some 6,.mv,[.t 40],none⟩,
  ⟨some 7,.mv,[.t 41],none⟩]
def a96r10 : List IOp := [⟨some 42,.mv,[.t 7],none⟩,
  ⟨some 43,.not,[.t 42],none⟩]
def a96r11 : List IOp := [⟨some 4,.mv,[.c (.int .i64 0)],none⟩,
  ⟨some 5,.mv,[.c (.bool false)],none⟩]
def a96r12 : List IOp := [⟨some 44,.mv,[.t 6],none⟩,
  ⟨some 45,.fieldAddr 4,[.t 2],none⟩,
  ⟨some 46,.load1,[.t 45],none⟩,
  ⟨some 47,.bin .add,[.t 44,.t 46],none⟩,
  ⟨some 6,.mv,[.t 47],none⟩]
def a96r13 : List IOp := [⟨some 48,.mv,[.t 6],none⟩,
  ⟨some 49,.call 101,[.t 48],none⟩,
  ⟨some 8,.mv,[.t 49],none⟩]
def a96r14 : List IOp := [⟨some 50,.fieldAddr 5,[.t 2],none⟩,
  ⟨some 51,.load1,[.t 50],none⟩,
  ⟨some 52,.mv,[.t 51],none⟩,
  ⟨some 53,.mv,[.t 8],some (52,true)⟩,
  ⟨some 54,.bin .geq,[.t 53,.c (.int .i64 5)],some (52,true)⟩,
  ⟨some 55,.pick,[.t 52,.t 54,.c (.bool false)],none⟩]
def a96r15 : List IOp := [⟨some 56,.mv,[.t 6],none⟩,
  ⟨some 57,.mv,[.t 8],none⟩,
  ⟨some 58,.bin .sub,[.c (.int .i64 7),.t 57],none⟩,
  ⟨some 59,.bin .add,[.t 56,.t 58],none⟩,
  ⟨some 6,.mv,[.t 59],none⟩]
def a96r16 : List IOp := [⟨some 60,.mv,[.t 6],none⟩,
  ⟨some 61,.call 76,[.t 60],none⟩,
  ⟨some 62,.not,[.t 61],none⟩]
def a96r17 : List IOp := [⟨some 4,.mv,[.c (.int .i64 0)],none⟩,
  ⟨some 5,.mv,[.c (.bool false)],none⟩]
def a96r18 : List IOp := [⟨some 63,.mv,[.t 6],none⟩,
  ⟨some 4,.mv,[.t 63],none⟩,
  ⟨some 5,.mv,[.c (.bool true)],none⟩]
def a96 : AFunc := ⟨64,[.tmp 4,.tmp 5],(.seq (.region a96r0 [1,2]) (.seq (.region a96r1 [1,2,6]) (.seq (.region a96r2 [1,2,6,7]) (.seq (.seq (.region a96r3 [1,2,6,7,10]) (.block 0 (.seq (.region a96r4 [1,2,6,7,10,11]) (.cond (.t 11) (.region a96r5 [2,6,7]) (.seq (.region a96r6 [1,2,6,7,10,22]) (.cond (.t 22) (.region a96r7 [2,6,7]) (.seq (.region a96r8 [1,2,6,7,29]) (.cond (.t 29) (.region a96r9 [2,6,7]) .skip)))))))) (.seq (.seq (.region a96r10 [2,6,43]) (.cond (.t 43) (.seq (.region a96r11 [4,5]) .ret) .skip)) (.seq (.region a96r12 [2,6]) (.seq (.seq (.region a96r13 [2,6,8]) (.seq (.region a96r14 [6,8,55]) (.cond (.t 55) (.region a96r15 [6]) .skip))) (.seq (.seq (.region a96r16 [6,62]) (.cond (.t 62) (.seq (.region a96r17 [4,5]) .ret) .skip)) (.seq (.region a96r18 [4,5]) .ret)))))))))⟩
theorem a96_ok : compileF Tryz.prog (lk [(0,⟨[1,2],[],[]⟩),(1,⟨[1,2,6],[],[]⟩),(2,⟨[1,2,6,7],[],[]⟩),(3,⟨[1,2,6,7,10],[],[]⟩),(4,⟨[1,2,6,7,10,11],[],[]⟩),(5,⟨[2,6,7],[],[]⟩),(6,⟨[1,2,6,7,10,22],[],[]⟩),(7,⟨[2,6,7],[],[]⟩),(8,⟨[1,2,6,7,29],[],[]⟩),(9,⟨[2,6,7],[],[]⟩),(10,⟨[2,6,43],[],[]⟩),(11,⟨[4,5],[],[]⟩),(12,⟨[2,6],[],[]⟩),(13,⟨[2,6,8],[],[]⟩),(14,⟨[6,8,55],[],[]⟩),(15,⟨[6],[],[]⟩),(16,⟨[6,62],[],[]⟩),(17,⟨[4,5],[],[]⟩),(18,⟨[4,5],[],[]⟩)]) Tryz.f96 = some a96 := by kernel_rfl

/- payroll/calendar.Day -/
def a98r0 : List IOp := [⟨some 6,.mv,[.c (.int .i64 0)],none⟩,
  ⟨some 7,.mv,[.c (.bool false)],none⟩]
def a98r1 : List IOp := [⟨some 8,.mv,[.t 0],none⟩,
  ⟨some 9,.bin .lss,[.t 8,.c (.int .i64 1970)],none⟩,
  ⟨some 10,.mv,[.t 9],none⟩,
  ⟨some 11,.mv,[.t 0],some (10,false)⟩,
  ⟨some 12,.bin .gtr,[.t 11,.c (.int .i64 2199)],some (10,false)⟩,
  ⟨some 13,.pick,[.t 10,.c (.bool true),.t 12],none⟩,
  ⟨some 14,.mv,[.t 13],none⟩,
  ⟨some 15,.mv,[.t 1],some (14,false)⟩,
  ⟨some 16,.bin .lss,[.t 15,.c (.int .i64 1)],some (14,false)⟩,
  ⟨some 17,.pick,[.t 14,.c (.bool true),.t 16],none⟩,
  ⟨some 18,.mv,[.t 17],none⟩,
  ⟨some 19,.mv,[.t 1],some (18,false)⟩,
  ⟨some 20,.bin .gtr,[.t 19,.c (.int .i64 12)],some (18,false)⟩,
  ⟨some 21,.pick,[.t 18,.c (.bool true),.t 20],none⟩]
def a98r2 : List IOp := [⟨some 6,.mv,[.c (.int .i64 0)],none⟩,
  ⟨some 7,.mv,[.c (.bool false)],none⟩]
def a98r3 : List IOp := [⟨some 22,.mv,[.t 2],none⟩,
  ⟨some 23,.bin .lss,[.t 22,.c (.int .i64 1)],none⟩,
  ⟨some 24,.mv,[.t 23],none⟩,
  ⟨some 25,.mv,[.t 2],some (24,false)⟩,
  ⟨some 26,.mv,[.t 0],some (24,false)⟩,
  ⟨some 27,.mv,[.t 1],some (24,false)⟩,
  ⟨some 28,.call 79,[.t 26,.t 27],some (24,false)⟩,
  ⟨some 29,.bin .gtr,[.t 25,.t 28],some (24,false)⟩,
  ⟨some 30,.pick,[.t 24,.c (.bool true),.t 29],none⟩]
def a98r4 : List IOp := [⟨some 6,.mv,[.c (.int .i64 0)],none⟩,
  ⟨some 7,.mv,[.c (.bool false)],none⟩]
def a98r5 : List IOp := [⟨some 31,.mv,[.t 0],none⟩,
  ⟨some 32,.mv,[.t 1],none⟩,
  ⟨some 33,.mv,[.t 2],none⟩,
  ⟨some 34,.call 102,[.t 31,.t 32,.t 33],none⟩,
  ⟨some 6,.mv,[.t 34],none⟩,
  ⟨some 7,.mv,[.c (.bool true)],none⟩]
def a98 : AFunc := ⟨35,[.tmp 6,.tmp 7],(.seq (.region a98r0 [0,1,2]) (.seq (.seq (.region a98r1 [0,1,2,21]) (.cond (.t 21) (.seq (.region a98r2 [6,7]) .ret) .skip)) (.seq (.seq (.region a98r3 [0,1,2,30]) (.cond (.t 30) (.seq (.region a98r4 [6,7]) .ret) .skip)) (.seq (.region a98r5 [6,7]) .ret))))⟩
theorem a98_ok : compileF Tryz.prog (lk [(0,⟨[0,1,2],[],[]⟩),(1,⟨[0,1,2,21],[],[]⟩),(2,⟨[6,7],[],[]⟩),(3,⟨[0,1,2,30],[],[]⟩),(4,⟨[6,7],[],[]⟩),(5,⟨[6,7],[],[]⟩)]) Tryz.f98 = some a98 := by kernel_rfl

/- payroll/calendar.Easter -/
def a99r0 : List IOp := [⟨some 2,.mv,[.c (.int .i64 0)],none⟩,
  ⟨some 3,.mv,[.c (.bool false)],none⟩]
def a99r1 : List IOp := [⟨some 12,.mv,[.t 0],none⟩,
  ⟨some 13,.bin .lss,[.t 12,.c (.int .i64 1970)],none⟩,
  ⟨some 14,.mv,[.t 13],none⟩,
  ⟨some 15,.mv,[.t 0],some (14,false)⟩,
  ⟨some 16,.bin .gtr,[.t 15,.c (.int .i64 2199)],some (14,false)⟩,
  ⟨some 17,.pick,[.t 14,.c (.bool true),.t 16],none⟩]
def a99r2 : List IOp := [⟨some 2,.mv,[.c (.int .i64 0)],none⟩,
  ⟨some 3,.mv,[.c (.bool false)],none⟩]
def a99r3 : List IOp := [⟨some 18,.mv,[.t 0],none⟩,
  ⟨some 19,.bin .rem,[.t 18,.c (.int .i64 19)],none⟩,
  ⟨some 20,.mv,[.t 0],none⟩,
  ⟨some 21,.bin .quo,[.t 20,.c (.int .i64 100)],none⟩,
  ⟨some 22,.mv,[.t 0],none⟩,
  ⟨some 23,.bin .rem,[.t 22,.c (.int .i64 100)],none⟩,
  ⟨some 4,.mv,[.t 19],none⟩,
  ⟨some 5,.mv,[.t 21],none⟩,
  ⟨some 6,.mv,[.t 23],none⟩]
def a99r4 : List IOp := [⟨some 24,.mv,[.t 5],none⟩,
  ⟨some 25,.mv,[.t 5],none⟩,
  ⟨some 26,.bin .add,[.t 25,.c (.int .i64 8)],none⟩,
  ⟨some 27,.bin .quo,[.t 26,.c (.int .i64 25)],none⟩,
  ⟨some 28,.bin .sub,[.t 24,.t 27],none⟩,
  ⟨some 29,.bin .add,[.t 28,.c (.int .i64 1)],none⟩,
  ⟨some 30,.bin .quo,[.t 29,.c (.int .i64 3)],none⟩,
  ⟨some 7,.mv,[.t 30],none⟩]
def a99r5 : List IOp := [⟨some 31,.mv,[.t 4],none⟩,
  ⟨some 32,.bin .mul,[.c (.int .i64 19),.t 31],none⟩,
  ⟨some 33,.mv,[.t 5],none⟩,
  ⟨some 34,.bin .add,[.t 32,.t 33],none⟩,
  ⟨some 35,.mv,[.t 5],none⟩,
  ⟨some 36,.bin .quo,[.t 35,.c (.int .i64 4)],none⟩,
  ⟨some 37,.bin .sub,[.t 34,.t 36],none⟩,
  ⟨some 38,.mv,[.t 7],none⟩,
  ⟨some 39,.bin .sub,[.t 37,.t 38],none⟩,
  ⟨some 40,.bin .add,[.t 39,.c (.int .i64 15)],none⟩,
  ⟨some 41,.bin .rem,[.t 40,.c (.int .i64 30)],none⟩,
  ⟨some 8,.mv,[.t 41],none⟩]
def a99r6 : List IOp := [⟨some 42,.mv,[.t 5],none⟩,
  ⟨some 43,.bin .rem,[.t 42,.c (.int .i64 4)],none⟩,
  ⟨some 44,.bin .mul,[.c (.int .i64 2),.t 43],none⟩,
  ⟨some 45,.bin .add,[.c (.int .i64 32),.t 44],none⟩,
  ⟨some 46,.mv,[.t 6],none⟩,
  ⟨some 47,.bin .quo,[.t 46,.c (.int .i64 4)],none⟩,
  ⟨some 48,.bin .mul,[.c (.int .i64 2),.t 47],none⟩,
  ⟨some 49,.bin .add,[.t 45,.t 48],none⟩,
  ⟨some 50,.mv,[.t 8],none⟩,
  ⟨some 51,.bin .sub,[.t 49,.t 50],none⟩,
  ⟨some 52,.mv,[.t 6],none⟩,
  ⟨some 53,.bin .rem,[.t 52,.c (.int .i64 4)],none⟩,
  ⟨some 54,.bin .sub,[.t 51,.t 53],none⟩,
  ⟨some 55,.bin .rem,[.t 54,.c (.int .i64 7)],none⟩,
  ⟨some 9,.mv,[.t 55],none⟩]
def a99r7 : List IOp := [⟨some 56,.mv,[.t 4],none⟩,
  ⟨some 57,.mv,[.t 8],none⟩,
  ⟨some 58,.bin .mul,[.c (.int .i64 11),.t 57],none⟩,
  ⟨some 59,.bin .add,[.t 56,.t 58],none⟩,
  ⟨some 60,.mv,[.t 9],none⟩,
  ⟨some 61,.bin .mul,[.c (.int .i64 22),.t 60],none⟩,
  ⟨some 62,.bin .add,[.t 59,.t 61],none⟩,
  ⟨some 63,.bin .quo,[.t 62,.c (.int .i64 451)],none⟩,
  ⟨some 10,.mv,[.t 63],none⟩]
def a99r8 : List IOp := [⟨some 64,.mv,[.t 8],none⟩,
  ⟨some 65,.mv,[.t 9],none⟩,
  ⟨some 66,.bin .add,[.t 64,.t 65],none⟩,
  ⟨some 67,.mv,[.t 10],none⟩,
  ⟨some 68,.bin .mul,[.c (.int .i64 7),.t 67],none⟩,
  ⟨some 69,.bin .sub,[.t 66,.t 68],none⟩,
  ⟨some 70,.bin .add,[.t 69,.c (.int .i64 114)],none⟩,
  ⟨some 11,.mv,[.t 70],none⟩]
def a99r9 : List IOp := [⟨some 71,.mv,[.t 0],none⟩,
  ⟨some 72,.mv,[.t 11],none⟩,
  ⟨some 73,.bin .quo,[.t 72,.c (.int .i64 31)],none⟩,
  ⟨some 74,.mv,[.t 11],none⟩,
  ⟨some 75,.bin .rem,[.t 74,.c (.int .i64 31)],none⟩,
  ⟨some 76,.bin .add,[.t 75,.c (.int .i64 1)],none⟩,
  ⟨some 77,.call 98,[.t 71,.t 73,.t 76],none⟩,
  ⟨some 78,.extract 0,[.t 77],none⟩,
  ⟨some 79,.extract 1,[.t 77],none⟩,
  ⟨some 2,.mv,[.t 78],none⟩,
  ⟨some 3,.mv,[.t 79],none⟩]
def a99 : AFunc := ⟨80,[.tmp 2,.tmp 3],(.seq (.region a99r0 [0]) (.seq (.seq (.region a99r1 [0,17]) (.cond (.t 17) (.seq (.region a99r2 [2,3]) .ret) .skip)) (.seq (.region a99r3 [0,4,5,6]) (.seq (.region a99r4 [0,4,5,6,7]) (.seq (.region a99r5 [0,4,5,6,8]) (.seq (.region a99r6 [0,4,8,9]) (.seq (.region a99r7 [0,8,9,10]) (.seq (.region a99r8 [0,11]) (.seq (.region a99r9 [2,3]) .ret)))))))))⟩
theorem a99_ok : compileF Tryz.prog (lk [(0,⟨[0],[],[]⟩),(1,⟨[0,17],[],[]⟩),(2,⟨[2,3],[],[]⟩),(3,⟨[0,4,5,6],[],[]⟩),(4,⟨[0,4,5,6,7],[],[]⟩),(5,⟨[0,4,5,6,8],[],[]⟩),(6,⟨[0,4,8,9],[],[]⟩),(7,⟨[0,8,9,10],[],[]⟩),(8,⟨[0,11],[],[]⟩),(9,⟨[2,3],[],[]⟩)]) Tryz.f99 = some a99 := by kernel_rfl

/- payroll/calendar.nth -/
def a100r0 : List IOp := [⟨some 8,.mv,[.c (.int .i64 0)],none⟩,
  ⟨some 9,.mv,[.c (.bool false)],none⟩]
def a100r1 : List IOp := [⟨some 13,.mv,[.t 0],none⟩,
  ⟨some 14,.mv,[.t 1],none⟩,
  ⟨some 15,.call 102,[.t 13,.t 14,.c (.int .i64 1)],none⟩,
  ⟨some 10,.mv,[.t 15],none⟩]
def a100r2 : List IOp := [⟨some 16,.mv,[.t 0],none⟩,
  ⟨some 17,.mv,[.t 1],none⟩,
  ⟨some 18,.call 79,[.t 16,.t 17],none⟩,
  ⟨some 11,.mv,[.t 18],none⟩]
def a100r3 : List IOp := [⟨some 19,.mv,[.t 2],none⟩,
  ⟨some 20,.mv,[.t 10],none⟩,
  ⟨some 21,.call 101,[.t 20],none⟩,
  ⟨some 22,.bin .sub,[.t 19,.t 21],none⟩,
  ⟨some 23,.bin .add,[.t 22,.c (.int .i64 7)],none⟩,
  ⟨some 24,.bin .rem,[.t 23,.c (.int .i64 7)],none⟩,
  ⟨some 12,.mv,[.t 24],none⟩]
def a100r4 : List IOp := [⟨some 25,.mv,[.t 3],none⟩,
  ⟨some 26,.bin .eql,[.t 25,.c (.int .i64 (-1))],none⟩]
def a100r5 : List IOp := [⟨some 27,.mv,[.t 12],none⟩,
  ⟨some 28,.mv,[.t 11],none⟩,
  ⟨some 29,.bin .sub,[.t 28,.c (.int .i64 1)],none⟩,
  ⟨some 30,.mv,[.t 12],none⟩,
  ⟨some 31,.bin .sub,[.t 29,.t 30],none⟩,
  ⟨some 32,.bin .quo,[.t 31,.c (.int .i64 7)],none⟩,
  ⟨some 33,.bin .mul,[.t 32,.c (.int .i64 7)],none⟩,
  ⟨some 34,.bin .add,[.t 27,.t 33],none⟩,
  ⟨some 12,.mv,[.t 34],none⟩]
def a100r6 : List IOp := [⟨some 35,.mv,[.t 12],none⟩,
  ⟨some 36,.mv,[.t 3],none⟩,
  ⟨some 37,.bin .sub,[.t 36,.c (.int .i64 1)],none⟩,
  ⟨some 38,.bin .mul,[.c (.int .i64 7),.t 37],none⟩,
  ⟨some 39,.bin .add,[.t 35,.t 38],none⟩,
  ⟨some 12,.mv,[.t 39],none⟩]
def a100r7 : List IOp := [⟨some 40,.mv,[.t 12],none⟩,
  ⟨some 41,.mv,[.t 11],none⟩,
  ⟨some 42,.bin .geq,[.t 40,.t 41],none⟩]
def a100r8 : List IOp := [⟨some 8,.mv,[.c (.int .i64 0)],none⟩,
  ⟨some 9,.mv,[.c (.bool false)],none⟩]
def a100r9 : List IOp := [⟨some 43,.mv,[.t 10],none⟩,
  ⟨some 44,.mv,[.t 12],none⟩,
  ⟨some 45,.bin .add,[.t 43,.t 44],none⟩,
  ⟨some 8,.mv,[.t 45],none⟩,
  ⟨some 9,.mv,[.c (.bool true)],none⟩]
def a100 : AFunc := ⟨46,[.tmp 8,.tmp 9],(.seq (.region a100r0 [0,1,2,3]) (.seq (.region a100r1 [0,1,2,3,10]) (.seq (.region a100r2 [2,3,10,11]) (.seq (.region a100r3 [3,10,11,12]) (.seq (.seq (.region a100r4 [3,10,11,12,26]) (.cond (.t 26) (.region a100r5 [10,11,12]) (.region a100r6 [10,11,12]))) (.seq (.seq (.region a100r7 [10,12,42]) (.cond (.t 42) (.seq (.region a100r8 [8,9]) .ret) .skip)) (.seq (.region a100r9 [8,9]) .ret)))))))⟩
theorem a100_ok : compileF Tryz.prog (lk [(0,⟨[0,1,2,3],[],[]⟩),(1,⟨[0,1,2,3,10],[],[]⟩),(2,⟨[2,3,10,11],[],[]⟩),(3,⟨[3,10,11,12],[],[]⟩),(4,⟨[3,10,11,12,26],[],[]⟩),(5,⟨[10,11,12],[],[]⟩),(6,⟨[10,11,12],[],[]⟩),(7,⟨[10,12,42],[],[]⟩),(8,⟨[8,9],[],[]⟩),(9,⟨[8,9],[],[]⟩)]) Tryz.f100 = some a100 := by kernel_rfl

/- payroll/calendar.weekday -/
def a101r0 : List IOp := [⟨some 2,.mv,[.c (.int .i64 0)],none⟩]
def a101r1 : List IOp := [⟨some 3,.mv,[.t 0],none⟩,
  ⟨some 4,.bin .add,[.t 3,.c (.int .i64 3)],none⟩,
  ⟨some 5,.bin .rem,[.t 4,.c (.int .i64 7)],none⟩,
  ⟨some 6,.bin .add,[.t 5,.c (.int .i64 7)],none⟩,
  ⟨some 7,.bin .rem,[.t 6,.c (.int .i64 7)],none⟩,
  ⟨some 2,.mv,[.t 7],none⟩]
def a101 : AFunc := ⟨8,[.tmp 2],(.seq (.region a101r0 [0]) (.seq (.region a101r1 [2]) .ret))⟩
theorem a101_ok : compileF Tryz.prog (lk [(0,⟨[0],[],[]⟩),(1,⟨[2],[],[]⟩)]) Tryz.f101 = some a101 := by kernel_rfl

/- payroll/calendar.number -/
def a102r0 : List IOp := [⟨some 6,.mv,[.c (.int .i64 0)],none⟩]
def a102r1 : List IOp := [⟨some 9,.mv,[.t 0],none⟩,
  ⟨some 10,.call 78,[.t 9],none⟩,
  ⟨some 7,.mv,[.t 10],none⟩]
def a102r2 : List IOp := [⟨some 8,.mv,[.c (.int .i64 1)],none⟩]
def a102r3 : List IOp := [⟨some 11,.mv,[.t 8],none⟩,
  ⟨some 12,.mv,[.t 1],none⟩,
  ⟨some 13,.bin .lss,[.t 11,.t 12],none⟩]
def a102r4 : List IOp := [⟨some 16,.mv,[.t 7],none⟩,
  ⟨some 17,.mv,[.t 0],none⟩,
  ⟨some 18,.mv,[.t 8],none⟩,
  ⟨some 19,.call 79,[.t 17,.t 18],none⟩,
  ⟨some 20,.bin .add,[.t 16,.t 19],none⟩,
  ⟨some 7,.mv,[.t 20],none⟩]
def a102r5 : List IOp := [⟨some 14,.mv,[.t 8],none⟩,
  ⟨some 15,.bin .add,[.t 14,.c (.int .i64 1)],none⟩,
  ⟨some 8,.mv,[.t 15],none⟩]
def a102r6 : List IOp := [⟨some 21,.mv,[.t 7],none⟩,
  ⟨some 22,.mv,[.t 2],none⟩,
  ⟨some 23,.bin .add,[.t 21,.t 22],none⟩,
  ⟨some 24,.bin .sub,[.t 23,.c (.int .i64 1)],none⟩,
  ⟨some 6,.mv,[.t 24],none⟩]
def a102 : AFunc := ⟨25,[.tmp 6],(.seq (.region a102r0 [0,1,2]) (.seq (.region a102r1 [0,1,2,7]) (.seq (.seq (.region a102r2 [0,1,2,7,8]) (.block 0 (.loop (.seq (.seq (.region a102r3 [0,1,2,7,8,13]) (.cond (.t 13) .skip (.exit 0))) (.seq (.block 1 (.region a102r4 [0,1,2,7,8])) (.region a102r5 [0,1,2,7,8])))))) (.seq (.region a102r6 [6]) .ret))))⟩
theorem a102_ok : compileF Tryz.prog (lk [(0,⟨[0,1,2],[],[]⟩),(1,⟨[0,1,2,7],[],[]⟩),(2,⟨[0,1,2,7,8],[],[]⟩),(3,⟨[0,1,2,7,8,13],[],[]⟩),(4,⟨[0,1,2,7,8],[],[]⟩),(5,⟨[0,1,2,7,8],[],[]⟩),(6,⟨[6],[],[]⟩)]) Tryz.f102 = some a102 := by kernel_rfl

end Go.Proofs.YtefemdpicjgkeaaGreatDoor
