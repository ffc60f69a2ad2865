/- The abstract forms of the functions,printed by a program,and that the given program has these forms. -/
import Derived.Test.YtefemdpicjgkeaaDoorAbsMd
import Derived.Test.YtefemdpicjgkeaaDoorProg
import Derived.KernelRfl
set_option linter.unusedSimpArgs false
set_option linter.unusedVariables false
set_option linter.unusedSectionVars false
namespace Go.Proofs.YtefemdpicjgkeaaDoor
open Go Go.Abs
/- payroll/payrolllaw13.PremiumLimits -/
def a3r0 : List IOp := [⟨some 4,.mv,[.c (.bool false)],none⟩]
def a3r1 : List IOp := [⟨some 5,.mv,[.c (.nils)],none⟩]
def a3r2 : List IOp := [⟨some 14,.mv,[.t 0],none⟩,
  ⟨some 15,.call 7,[.t 14,.c (.int .i64 3)],none⟩,
  ⟨some 16,.bin .add,[.c (.int .i64 15),.t 15],none⟩,
  ⟨some 6,.mv,[.t 16],none⟩]
def a3r3 : List IOp := [⟨some 17,.mv,[.t 6],none⟩,
  ⟨some 18,.bin .gtr,[.t 17,.c (.int .i64 0)],none⟩]
def a3r4 : List IOp := [⟨some 21,.mv,[.t 5],none⟩,
  ⟨some 22,.mv,[.t 6],none⟩,
  ⟨some 23,.call 8,[.t 22],none⟩,
  ⟨some 24,.bslice 25 7 [.str ⟨#[]⟩,.str ⟨#[]⟩,.int .i64 0,.int .i64 0,.int .i64 0,.int .i64 0,.int .i64 0] 1 [0],[.t 23],none⟩,
  ⟨some 25,.append 25 7 72,[.t 21,.t 24],none⟩,
  ⟨some 5,.mv,[.t 25],none⟩]
def a3r5 : List IOp := [⟨some 19,.mv,[.t 6],none⟩,
  ⟨some 20,.bin .sub,[.t 19,.c (.int .i64 1)],none⟩,
  ⟨some 6,.mv,[.t 20],none⟩]
def a3r6 : List IOp := [⟨some 7,.mv,[.c (.nils)],none⟩]
def a3r7 : List IOp := [⟨some 26,.mv,[.t 1],none⟩,
  ⟨some 27,.call 7,[.t 26,.c (.int .i64 3)],none⟩,
  ⟨some 28,.bin .add,[.c (.int .i64 4095),.t 27],none⟩,
  ⟨some 8,.mv,[.t 28],none⟩]
def a3r8 : List IOp := [⟨some 29,.mv,[.t 8],none⟩,
  ⟨some 30,.bin .gtr,[.t 29,.c (.int .i64 0)],none⟩]
def a3r9 : List IOp := [⟨some 33,.mv,[.t 7],none⟩,
  ⟨some 34,.mv,[.t 8],none⟩,
  ⟨some 35,.bin .add,[.c (.int .i64 29453760),.t 34],none⟩,
  ⟨some 36,.mv,[.t 8],none⟩,
  ⟨some 37,.bin .add,[.c (.int .i64 29453760),.t 36],none⟩,
  ⟨some 38,.bin .add,[.t 37,.c (.int .i64 1)],none⟩,
  ⟨some 39,.build [.int .i64 0,.int .i64 0] [(0,1),(1,1)],[.t 35,.t 38],none⟩,
  ⟨some 40,.build [.int .i64 0,.int .i64 0,.int .i64 0,.str ⟨#[]⟩] [(0,1),(1,2)],[.c (.int .i64 20454),.t 39],none⟩,
  ⟨some 41,.bslice 31 4 [.int .i64 0,.int .i64 0,.int .i64 0,.str ⟨#[]⟩] 1 [0],[.t 40],none⟩,
  ⟨some 42,.append 31 4 40,[.t 33,.t 41],none⟩,
  ⟨some 7,.mv,[.t 42],none⟩]
def a3r10 : List IOp := [⟨some 31,.mv,[.t 8],none⟩,
  ⟨some 32,.bin .sub,[.t 31,.c (.int .i64 1)],none⟩,
  ⟨some 8,.mv,[.t 32],none⟩]
def a3r11 : List IOp := [⟨some 43,.mv,[.t 1],none⟩,
  ⟨some 44,.call 7,[.t 43,.c (.int .i64 3)],none⟩,
  ⟨some 45,.bin .add,[.c (.int .i64 29553759),.t 44],none⟩,
  ⟨some 46,.build [.int .i64 0,.int .i64 0] [(0,1),(1,1)],[.c (.int .i64 29453760),.t 45],none⟩,
  ⟨some 47,.build [.int .i64 0,.int .i64 0,.int .i64 0,.str ⟨#[]⟩] [(0,1),(1,2)],[.c (.int .i64 20454),.t 46],none⟩,
  ⟨some 48,.bslice 31 4 [.int .i64 0,.int .i64 0,.int .i64 0,.str ⟨#[]⟩] 1 [0],[.t 47],none⟩,
  ⟨some 9,.mv,[.t 48],none⟩]
def a3r12 : List IOp := [⟨some 50,.build [.int .i64 0,.nils] [],[],none⟩,
  ⟨some 51,.mv,[.t 7],none⟩,
  ⟨some 52,.call 9,[.t 50,.c (.nils),.c (.nils),.t 51],none⟩,
  ⟨some 49,.mv,[.t 52],none⟩,
  ⟨some 53,.extract 0,[.t 49],none⟩,
  ⟨some 54,.extract 1,[.t 49],none⟩,
  ⟨some 10,.mv,[.t 53],none⟩,
  ⟨some 11,.mv,[.t 54],none⟩]
def a3r13 : List IOp := [⟨some 56,.build [.int .i64 0,.nils] [],[],none⟩,
  ⟨some 57,.mv,[.t 9],none⟩,
  ⟨some 58,.call 9,[.t 56,.c (.nils),.c (.nils),.t 57],none⟩,
  ⟨some 55,.mv,[.t 58],none⟩,
  ⟨some 59,.extract 0,[.t 55],none⟩,
  ⟨some 60,.extract 1,[.t 55],none⟩,
  ⟨some 12,.mv,[.t 59],none⟩,
  ⟨some 13,.mv,[.t 60],none⟩]
def a3r14 : List (Nat × DOp) := [(0,⟨⟨some 61,.build [.int .i64 0,.nils] [],[],none⟩,none,[1,4,5,6]⟩),
  (1,⟨⟨some 62,.mv,[.t 5],none⟩,none,[0,4,5,6]⟩),
  (4,⟨⟨some 65,.mv,[.t 5],none⟩,none,[0,1,2,3]⟩),
  (5,⟨⟨some 66,.len,[.t 65],none⟩,none,[0,1,2,3]⟩),
  (6,⟨⟨some 67,.bin .leq,[.t 66,.c (.int .i64 16)],none⟩,none,[0,1,2,3]⟩),
  (2,⟨⟨some 63,.call 10,[.t 61,.c (.nils),.t 62],none⟩,none,[4,5,6]⟩),
  (3,⟨⟨some 64,.bin .eql,[.t 63,.c (.int .i64 0)],none⟩,none,[4,5,6]⟩),
  (7,⟨⟨some 68,.eqB false,[.t 64,.t 67],none⟩,none,[]⟩),
  (8,⟨⟨some 69,.mv,[.t 68],none⟩,none,[]⟩),
  (9,⟨⟨some 70,.mv,[.t 11],some (69,true)⟩,none,[11,12,13]⟩),
  (10,⟨⟨some 71,.bin .eql,[.t 70,.c (.int .i64 0)],some (69,true)⟩,none,[11,12,13]⟩),
  (11,⟨⟨some 72,.mv,[.t 7],some (69,true)⟩,none,[9,10]⟩),
  (12,⟨⟨some 73,.len,[.t 72],some (69,true)⟩,none,[9,10]⟩),
  (13,⟨⟨some 74,.bin .leq,[.t 73,.c (.int .i64 4096)],some (69,true)⟩,none,[9,10]⟩),
  (14,⟨⟨some 75,.eqB false,[.t 71,.t 74],some (69,true)⟩,none,[]⟩),
  (15,⟨⟨some 76,.pick,[.t 69,.t 75,.c (.bool false)],none⟩,none,[]⟩),
  (16,⟨⟨some 77,.mv,[.t 76],none⟩,none,[]⟩),
  (17,⟨⟨some 78,.mv,[.t 13],some (77,true)⟩,none,[19,20,21,22,23,24,25,26,27,28,29,30]⟩),
  (18,⟨⟨some 79,.bin .eql,[.t 78,.c (.int .i64 0)],some (77,true)⟩,none,[19,20,21,22,23,24,25,26,27,28,29,30]⟩),
  (19,⟨⟨some 80,.mv,[.t 9],some (77,true)⟩,none,[17,18,24,25,26,27,28]⟩),
  (20,⟨⟨some 81,.indexAddr 4,[.t 80,.c (.int .i64 0)],some (77,true)⟩,none,[17,18,24,25,26,27,28]⟩),
  (21,⟨⟨some 82,.fieldAddr 1,[.t 81],some (77,true)⟩,none,[17,18,24,25,26,27,28]⟩),
  (22,⟨⟨some 83,.fieldAddr 1,[.t 82],some (77,true)⟩,none,[17,18,24,25,26,27,28]⟩),
  (23,⟨⟨some 84,.load1,[.t 83],some (77,true)⟩,none,[17,18,24,25,26,27,28]⟩),
  (24,⟨⟨some 85,.mv,[.t 9],some (77,true)⟩,none,[17,18,19,20,21,22,23]⟩),
  (25,⟨⟨some 86,.indexAddr 4,[.t 85,.c (.int .i64 0)],some (77,true)⟩,none,[17,18,19,20,21,22,23]⟩),
  (26,⟨⟨some 87,.fieldAddr 1,[.t 86],some (77,true)⟩,none,[17,18,19,20,21,22,23]⟩),
  (27,⟨⟨some 88,.fieldAddr 0,[.t 87],some (77,true)⟩,none,[17,18,19,20,21,22,23]⟩),
  (28,⟨⟨some 89,.load1,[.t 88],some (77,true)⟩,none,[17,18,19,20,21,22,23]⟩),
  (29,⟨⟨some 90,.bin .sub,[.t 84,.t 89],some (77,true)⟩,none,[17,18]⟩),
  (30,⟨⟨some 91,.bin .leq,[.t 90,.c (.int .i64 100000)],some (77,true)⟩,none,[17,18]⟩),
  (31,⟨⟨some 92,.eqB false,[.t 79,.t 91],some (77,true)⟩,none,[]⟩),
  (32,⟨⟨some 93,.pick,[.t 77,.t 92,.c (.bool false)],none⟩,none,[]⟩),
  (33,⟨⟨some 94,.mv,[.t 93],none⟩,none,[]⟩),
  (34,⟨⟨some 95,.call 11,[],some (94,true)⟩,none,[]⟩),
  (35,⟨⟨some 96,.pick,[.t 94,.t 95,.c (.bool false)],none⟩,none,[]⟩),
  (36,⟨⟨some 4,.mv,[.t 96],none⟩,none,[]⟩)]
def a3 : AFunc := ⟨97,[.tmp 4],(.seq (.region a3r0 [0,1]) (.seq (.region a3r1 [0,1,5]) (.seq (.seq (.region a3r2 [1,5,6]) (.block 0 (.loop (.seq (.seq (.region a3r3 [1,5,6,18]) (.cond (.t 18) .skip (.exit 0))) (.seq (.block 1 (.region a3r4 [1,5,6])) (.region a3r5 [1,5,6])))))) (.seq (.region a3r6 [1,5,7]) (.seq (.seq (.region a3r7 [1,5,7,8]) (.block 2 (.loop (.seq (.seq (.region a3r8 [1,5,7,8,30]) (.cond (.t 30) .skip (.exit 2))) (.seq (.block 3 (.region a3r9 [1,5,7,8])) (.region a3r10 [1,5,7,8])))))) (.seq (.region a3r11 [5,7,9]) (.seq (.region a3r12 [5,7,9,11]) (.seq (.region a3r13 [5,7,9,11,13]) (.seq (.draw a3r14 [] [4]) .ret)))))))))⟩
/- payroll/payrolllaw13.PremiumCounts -/
def a4r0 : List IOp := [⟨some 2,.mv,[.c (.bool false)],none⟩]
def a4r1 : List IOp := [⟨some 16,.mv,[.t 0],none⟩,
  ⟨some 17,.call 12,[.t 16],none⟩,
  ⟨some 3,.mv,[.t 17],none⟩]
def a4r2 : List IOp := [⟨some 18,.mv,[.t 3],none⟩,
  ⟨some 19,.call 13,[.t 18],none⟩,
  ⟨some 20,.mv,[.t 3],none⟩,
  ⟨some 21,.call 14,[.t 20,.c (.bool false)],none⟩,
  ⟨some 22,.mv,[.t 3],none⟩,
  ⟨some 23,.call 15,[.t 22,.c (.bool false)],none⟩,
  ⟨some 24,.mv,[.t 3],none⟩,
  ⟨some 25,.call 16,[.t 24,.c (.int .i64 3)],none⟩,
  ⟨some 4,.alloc 38 [.int .i64 0,.nils],[],none⟩,
  ⟨none,.store 2,[.t 4,.t 19],none⟩,
  ⟨some 5,.mv,[.t 21],none⟩,
  ⟨some 6,.mv,[.t 23],none⟩,
  ⟨some 7,.mv,[.t 25],none⟩]
def a4r3 : List IOp := [⟨some 8,.mv,[.c (.int .i64 0)],none⟩]
def a4r4 : List IOp := [⟨some 26,.mv,[.t 8],none⟩,
  ⟨some 27,.mv,[.t 6],none⟩,
  ⟨some 28,.len,[.t 27],none⟩,
  ⟨some 29,.bin .lss,[.t 26,.t 28],none⟩]
def a4r5 : List IOp := [⟨some 32,.mv,[.t 6],none⟩,
  ⟨some 33,.mv,[.t 8],none⟩,
  ⟨some 34,.indexAddr 7,[.t 32,.t 33],none⟩,
  ⟨some 35,.fieldAddr 1,[.t 34],none⟩,
  ⟨none,.store 1,[.t 35,.c (.str ⟨#[]⟩)],none⟩]
def a4r6 : List IOp := [⟨some 30,.mv,[.t 8],none⟩,
  ⟨some 31,.bin .add,[.t 30,.c (.int .i64 1)],none⟩,
  ⟨some 8,.mv,[.t 31],none⟩]
def a4r7 : List IOp := [⟨some 37,.loadA 2,[.t 4],none⟩,
  ⟨some 38,.mv,[.t 5],none⟩,
  ⟨some 39,.mv,[.t 6],none⟩,
  ⟨some 40,.mv,[.t 7],none⟩,
  ⟨some 41,.call 9,[.t 37,.t 38,.t 39,.t 40],none⟩,
  ⟨some 36,.mv,[.t 41],none⟩,
  ⟨some 42,.extract 0,[.t 36],none⟩,
  ⟨some 43,.extract 1,[.t 36],none⟩,
  ⟨some 9,.mv,[.t 42],none⟩,
  ⟨some 10,.mv,[.t 43],none⟩]
def a4r8 : List IOp := [⟨some 44,.mv,[.t 10],none⟩,
  ⟨some 45,.bin .neq,[.t 44,.c (.int .i64 0)],none⟩]
def a4r9 : List IOp := [⟨some 2,.mv,[.c (.bool false)],none⟩]
def a4r10 : List IOp := [⟨some 11,.mv,[.c (.int .i64 0)],none⟩]
def a4r11 : List IOp := [⟨some 12,.mv,[.c (.int .i64 0)],none⟩]
def a4r12 : List IOp := [⟨some 46,.mv,[.t 12],none⟩,
  ⟨some 47,.mv,[.t 7],none⟩,
  ⟨some 48,.len,[.t 47],none⟩,
  ⟨some 49,.bin .lss,[.t 46,.t 48],none⟩]
def a4r13 : List IOp := [⟨some 52,.mv,[.t 7],none⟩,
  ⟨some 53,.mv,[.t 12],none⟩,
  ⟨some 54,.indexAddr 4,[.t 52,.t 53],none⟩,
  ⟨some 55,.fieldAddr 1,[.t 54],none⟩,
  ⟨some 56,.fieldAddr 0,[.t 55],none⟩,
  ⟨some 57,.load1,[.t 56],none⟩,
  ⟨some 13,.mv,[.t 57],none⟩]
def a4r14 : List IOp := [⟨some 58,.mv,[.t 13],none⟩,
  ⟨some 59,.mv,[.t 7],none⟩,
  ⟨some 60,.mv,[.t 12],none⟩,
  ⟨some 61,.indexAddr 4,[.t 59,.t 60],none⟩,
  ⟨some 62,.fieldAddr 1,[.t 61],none⟩,
  ⟨some 63,.fieldAddr 1,[.t 62],none⟩,
  ⟨some 64,.load1,[.t 63],none⟩,
  ⟨some 65,.bin .lss,[.t 58,.t 64],none⟩]
def a4r15 : List IOp := [⟨some 14,.mv,[.c (.int .i64 0)],none⟩]
def a4r16 : List IOp := [⟨some 68,.mv,[.t 14],none⟩,
  ⟨some 69,.mv,[.t 6],none⟩,
  ⟨some 70,.len,[.t 69],none⟩,
  ⟨some 71,.bin .lss,[.t 68,.t 70],none⟩]
def a4r17 : List (Nat × DOp) := [(0,⟨⟨some 74,.loadA 2,[.t 4],none⟩,none,[1,2,3,4,5,6]⟩),
  (1,⟨⟨some 75,.mv,[.t 5],none⟩,none,[0,2,3,4,5,6]⟩),
  (2,⟨⟨some 76,.mv,[.t 6],none⟩,none,[0,1,3,6]⟩),
  (3,⟨⟨some 77,.mv,[.t 14],none⟩,none,[0,1,2,6]⟩),
  (4,⟨⟨some 78,.indexAddr 7,[.t 76,.t 77],none⟩,none,[0,1,6]⟩),
  (5,⟨⟨some 79,.loadA 7,[.t 78],none⟩,none,[0,1,6]⟩),
  (6,⟨⟨some 80,.mv,[.t 13],none⟩,none,[0,1,2,3,4,5]⟩),
  (7,⟨⟨some 81,.call 17,[.t 74,.t 75,.t 79,.t 80],none⟩,none,[]⟩)]
def a4r18 : List IOp := [⟨some 82,.mv,[.t 11],none⟩,
  ⟨some 83,.bin .add,[.t 82,.c (.int .i64 1)],none⟩,
  ⟨some 11,.mv,[.t 83],none⟩]
def a4r19 : List IOp := [⟨some 72,.mv,[.t 14],none⟩,
  ⟨some 73,.bin .add,[.t 72,.c (.int .i64 1)],none⟩,
  ⟨some 14,.mv,[.t 73],none⟩]
def a4r20 : List IOp := [⟨some 66,.mv,[.t 13],none⟩,
  ⟨some 67,.bin .add,[.t 66,.c (.int .i64 1)],none⟩,
  ⟨some 13,.mv,[.t 67],none⟩]
def a4r21 : List IOp := [⟨some 50,.mv,[.t 12],none⟩,
  ⟨some 51,.bin .add,[.t 50,.c (.int .i64 1)],none⟩,
  ⟨some 12,.mv,[.t 51],none⟩]
def a4r22 : List IOp := [⟨some 15,.mv,[.c (.int .i64 0)],none⟩]
def a4r23 : List IOp := [⟨some 84,.mv,[.t 15],none⟩,
  ⟨some 85,.mv,[.t 9],none⟩,
  ⟨some 86,.len,[.t 85],none⟩,
  ⟨some 87,.bin .lss,[.t 84,.t 86],none⟩]
def a4r24 : List IOp := [⟨some 90,.mv,[.t 9],none⟩,
  ⟨some 91,.mv,[.t 15],none⟩,
  ⟨some 92,.indexAddr 3,[.t 90,.t 91],none⟩,
  ⟨some 93,.fieldAddr 2,[.t 92],none⟩,
  ⟨some 94,.load1,[.t 93],none⟩,
  ⟨some 95,.bin .lss,[.t 94,.c (.int .i64 1)],none⟩]
def a4r25 : List IOp := [⟨some 2,.mv,[.c (.bool false)],none⟩]
def a4r26 : List IOp := [⟨some 96,.mv,[.t 11],none⟩,
  ⟨some 97,.mv,[.t 9],none⟩,
  ⟨some 98,.mv,[.t 15],none⟩,
  ⟨some 99,.indexAddr 3,[.t 97,.t 98],none⟩,
  ⟨some 100,.fieldAddr 2,[.t 99],none⟩,
  ⟨some 101,.load1,[.t 100],none⟩,
  ⟨some 102,.bin .sub,[.t 96,.t 101],none⟩,
  ⟨some 11,.mv,[.t 102],none⟩]
def a4r27 : List IOp := [⟨some 88,.mv,[.t 15],none⟩,
  ⟨some 89,.bin .add,[.t 88,.c (.int .i64 1)],none⟩,
  ⟨some 15,.mv,[.t 89],none⟩]
def a4r28 : List IOp := [⟨some 103,.mv,[.t 11],none⟩,
  ⟨some 104,.bin .eql,[.t 103,.c (.int .i64 0)],none⟩,
  ⟨some 105,.mv,[.t 104],none⟩,
  ⟨some 106,.call 11,[],some (105,true)⟩,
  ⟨some 107,.pick,[.t 105,.t 106,.c (.bool false)],none⟩,
  ⟨some 2,.mv,[.t 107],none⟩]
def a4 : AFunc := ⟨108,[.tmp 2],(.seq (.region a4r0 [0]) (.seq (.region a4r1 [3]) (.seq (.region a4r2 [4,5,6,7]) (.seq (.seq (.region a4r3 [4,5,6,7,8]) (.block 0 (.loop (.seq (.seq (.region a4r4 [4,5,6,7,8,29]) (.cond (.t 29) .skip (.exit 0))) (.seq (.block 1 (.region a4r5 [4,5,6,7,8])) (.region a4r6 [4,5,6,7,8])))))) (.seq (.region a4r7 [4,5,6,7,9,10]) (.seq (.seq (.region a4r8 [4,5,6,7,9,45]) (.cond (.t 45) (.seq (.region a4r9 [2]) .ret) .skip)) (.seq (.region a4r10 [4,5,6,7,9,11]) (.seq (.seq (.region a4r11 [4,5,6,7,9,11,12]) (.block 2 (.loop (.seq (.seq (.region a4r12 [4,5,6,7,9,11,12,49]) (.cond (.t 49) .skip (.exit 2))) (.seq (.block 3 (.seq (.region a4r13 [4,5,6,7,9,11,12,13]) (.block 4 (.loop (.seq (.seq (.region a4r14 [4,5,6,7,9,11,12,13,65]) (.cond (.t 65) .skip (.exit 4))) (.seq (.block 5 (.seq (.region a4r15 [4,5,6,7,9,11,12,13,14]) (.block 6 (.loop (.seq (.seq (.region a4r16 [4,5,6,7,9,11,12,13,14,71]) (.cond (.t 71) .skip (.exit 6))) (.seq (.block 7 (.seq (.draw a4r17 [] [4,5,6,7,9,11,12,13,14,81]) (.cond (.t 81) (.region a4r18 [4,5,6,7,9,11,12,13,14]) .skip))) (.region a4r19 [4,5,6,7,9,11,12,13,14]))))))) (.region a4r20 [4,5,6,7,9,11,12,13]))))))) (.region a4r21 [4,5,6,7,9,11,12])))))) (.seq (.seq (.region a4r22 [9,11,15]) (.block 8 (.loop (.seq (.seq (.region a4r23 [9,11,15,87]) (.cond (.t 87) .skip (.exit 8))) (.seq (.block 9 (.seq (.seq (.region a4r24 [9,11,15,95]) (.cond (.t 95) (.seq (.region a4r25 [2]) .ret) .skip)) (.region a4r26 [9,11,15]))) (.region a4r27 [9,11,15])))))) (.seq (.region a4r28 [2]) .ret))))))))))⟩
/- payroll/payrolllaw13.PremiumGroups -/
def a5r0 : List IOp := [⟨some 2,.mv,[.c (.bool false)],none⟩]
def a5r1 : List IOp := [⟨some 17,.mv,[.t 0],none⟩,
  ⟨some 18,.call 12,[.t 17],none⟩,
  ⟨some 3,.mv,[.t 18],none⟩]
def a5r2 : List IOp := [⟨some 19,.mv,[.t 3],none⟩,
  ⟨some 20,.call 13,[.t 19],none⟩,
  ⟨some 21,.mv,[.t 3],none⟩,
  ⟨some 22,.call 14,[.t 21,.c (.bool false)],none⟩,
  ⟨some 23,.mv,[.t 3],none⟩,
  ⟨some 24,.call 15,[.t 23,.c (.bool false)],none⟩,
  ⟨some 25,.mv,[.t 3],none⟩,
  ⟨some 26,.call 16,[.t 25,.c (.int .i64 3)],none⟩,
  ⟨some 4,.alloc 38 [.int .i64 0,.nils],[],none⟩,
  ⟨none,.store 2,[.t 4,.t 20],none⟩,
  ⟨some 5,.mv,[.t 22],none⟩,
  ⟨some 6,.mv,[.t 24],none⟩,
  ⟨some 7,.mv,[.t 26],none⟩]
def a5r3 : List IOp := [⟨some 8,.mv,[.c (.int .i64 0)],none⟩]
def a5r4 : List IOp := [⟨some 27,.mv,[.t 8],none⟩,
  ⟨some 28,.mv,[.t 6],none⟩,
  ⟨some 29,.len,[.t 28],none⟩,
  ⟨some 30,.bin .lss,[.t 27,.t 29],none⟩]
def a5r5 : List IOp := [⟨some 33,.mv,[.t 6],none⟩,
  ⟨some 34,.mv,[.t 8],none⟩,
  ⟨some 35,.indexAddr 7,[.t 33,.t 34],none⟩,
  ⟨some 36,.fieldAddr 1,[.t 35],none⟩,
  ⟨none,.store 1,[.t 36,.c (.str ⟨#[97]⟩)],none⟩]
def a5r6 : List IOp := [⟨some 31,.mv,[.t 8],none⟩,
  ⟨some 32,.bin .add,[.t 31,.c (.int .i64 1)],none⟩,
  ⟨some 8,.mv,[.t 32],none⟩]
def a5r7 : List IOp := [⟨some 38,.loadA 2,[.t 4],none⟩,
  ⟨some 39,.mv,[.t 5],none⟩,
  ⟨some 40,.mv,[.t 6],none⟩,
  ⟨some 41,.mv,[.t 7],none⟩,
  ⟨some 42,.call 9,[.t 38,.t 39,.t 40,.t 41],none⟩,
  ⟨some 37,.mv,[.t 42],none⟩,
  ⟨some 43,.extract 0,[.t 37],none⟩,
  ⟨some 44,.extract 1,[.t 37],none⟩,
  ⟨some 9,.mv,[.t 43],none⟩,
  ⟨some 10,.mv,[.t 44],none⟩]
def a5r8 : List IOp := [⟨some 45,.mv,[.t 10],none⟩,
  ⟨some 46,.bin .neq,[.t 45,.c (.int .i64 0)],none⟩]
def a5r9 : List IOp := [⟨some 2,.mv,[.c (.bool false)],none⟩]
def a5r10 : List IOp := [⟨some 11,.mv,[.c (.int .i64 0)],none⟩]
def a5r11 : List IOp := [⟨some 12,.mv,[.c (.int .i64 0)],none⟩]
def a5r12 : List IOp := [⟨some 47,.mv,[.t 12],none⟩,
  ⟨some 48,.mv,[.t 7],none⟩,
  ⟨some 49,.len,[.t 48],none⟩,
  ⟨some 50,.bin .lss,[.t 47,.t 49],none⟩]
def a5r13 : List IOp := [⟨some 53,.mv,[.t 7],none⟩,
  ⟨some 54,.mv,[.t 12],none⟩,
  ⟨some 55,.indexAddr 4,[.t 53,.t 54],none⟩,
  ⟨some 56,.fieldAddr 1,[.t 55],none⟩,
  ⟨some 57,.fieldAddr 0,[.t 56],none⟩,
  ⟨some 58,.load1,[.t 57],none⟩,
  ⟨some 13,.mv,[.t 58],none⟩]
def a5r14 : List IOp := [⟨some 59,.mv,[.t 13],none⟩,
  ⟨some 60,.mv,[.t 7],none⟩,
  ⟨some 61,.mv,[.t 12],none⟩,
  ⟨some 62,.indexAddr 4,[.t 60,.t 61],none⟩,
  ⟨some 63,.fieldAddr 1,[.t 62],none⟩,
  ⟨some 64,.fieldAddr 1,[.t 63],none⟩,
  ⟨some 65,.load1,[.t 64],none⟩,
  ⟨some 66,.bin .lss,[.t 59,.t 65],none⟩]
def a5r15 : List IOp := [⟨some 14,.mv,[.c (.bool false)],none⟩]
def a5r16 : List IOp := [⟨some 15,.mv,[.c (.int .i64 0)],none⟩]
def a5r17 : List IOp := [⟨some 69,.mv,[.t 15],none⟩,
  ⟨some 70,.mv,[.t 6],none⟩,
  ⟨some 71,.len,[.t 70],none⟩,
  ⟨some 72,.bin .lss,[.t 69,.t 71],none⟩]
def a5r18 : List (Nat × DOp) := [(0,⟨⟨some 75,.mv,[.t 14],none⟩,none,[]⟩),
  (1,⟨⟨some 76,.mv,[.t 75],none⟩,none,[]⟩),
  (2,⟨⟨some 77,.loadA 2,[.t 4],some (76,false)⟩,none,[3,4,5,6,7,8]⟩),
  (3,⟨⟨some 78,.mv,[.t 5],some (76,false)⟩,none,[2,4,5,6,7,8]⟩),
  (4,⟨⟨some 79,.mv,[.t 6],some (76,false)⟩,none,[2,3,5,8]⟩),
  (5,⟨⟨some 80,.mv,[.t 15],some (76,false)⟩,none,[2,3,4,8]⟩),
  (6,⟨⟨some 81,.indexAddr 7,[.t 79,.t 80],some (76,false)⟩,none,[2,3,8]⟩),
  (7,⟨⟨some 82,.loadA 7,[.t 81],some (76,false)⟩,none,[2,3,8]⟩),
  (8,⟨⟨some 83,.mv,[.t 13],some (76,false)⟩,none,[2,3,4,5,6,7]⟩),
  (9,⟨⟨some 84,.call 18,[.t 77,.t 78,.t 82,.t 83],some (76,false)⟩,none,[]⟩),
  (10,⟨⟨some 85,.pick,[.t 76,.c (.bool true),.t 84],none⟩,none,[]⟩),
  (11,⟨⟨some 14,.mv,[.t 85],none⟩,none,[]⟩)]
def a5r19 : List IOp := [⟨some 73,.mv,[.t 15],none⟩,
  ⟨some 74,.bin .add,[.t 73,.c (.int .i64 1)],none⟩,
  ⟨some 15,.mv,[.t 74],none⟩]
def a5r20 : List IOp := [⟨some 86,.mv,[.t 14],none⟩]
def a5r21 : List IOp := [⟨some 87,.mv,[.t 11],none⟩,
  ⟨some 88,.bin .add,[.t 87,.c (.int .i64 1)],none⟩,
  ⟨some 11,.mv,[.t 88],none⟩]
def a5r22 : List IOp := [⟨some 67,.mv,[.t 13],none⟩,
  ⟨some 68,.bin .add,[.t 67,.c (.int .i64 1)],none⟩,
  ⟨some 13,.mv,[.t 68],none⟩]
def a5r23 : List IOp := [⟨some 51,.mv,[.t 12],none⟩,
  ⟨some 52,.bin .add,[.t 51,.c (.int .i64 1)],none⟩,
  ⟨some 12,.mv,[.t 52],none⟩]
def a5r24 : List IOp := [⟨some 16,.mv,[.c (.int .i64 0)],none⟩]
def a5r25 : List IOp := [⟨some 89,.mv,[.t 16],none⟩,
  ⟨some 90,.mv,[.t 9],none⟩,
  ⟨some 91,.len,[.t 90],none⟩,
  ⟨some 92,.bin .lss,[.t 89,.t 91],none⟩]
def a5r26 : List IOp := [⟨some 95,.mv,[.t 11],none⟩,
  ⟨some 96,.mv,[.t 9],none⟩,
  ⟨some 97,.mv,[.t 16],none⟩,
  ⟨some 98,.indexAddr 3,[.t 96,.t 97],none⟩,
  ⟨some 99,.fieldAddr 2,[.t 98],none⟩,
  ⟨some 100,.load1,[.t 99],none⟩,
  ⟨some 101,.bin .sub,[.t 95,.t 100],none⟩,
  ⟨some 11,.mv,[.t 101],none⟩]
def a5r27 : List IOp := [⟨some 93,.mv,[.t 16],none⟩,
  ⟨some 94,.bin .add,[.t 93,.c (.int .i64 1)],none⟩,
  ⟨some 16,.mv,[.t 94],none⟩]
def a5r28 : List IOp := [⟨some 102,.mv,[.t 11],none⟩,
  ⟨some 103,.bin .eql,[.t 102,.c (.int .i64 0)],none⟩,
  ⟨some 104,.mv,[.t 103],none⟩,
  ⟨some 105,.call 11,[],some (104,true)⟩,
  ⟨some 106,.pick,[.t 104,.t 105,.c (.bool false)],none⟩,
  ⟨some 2,.mv,[.t 106],none⟩]
def a5 : AFunc := ⟨107,[.tmp 2],(.seq (.region a5r0 [0]) (.seq (.region a5r1 [3]) (.seq (.region a5r2 [4,5,6,7]) (.seq (.seq (.region a5r3 [4,5,6,7,8]) (.block 0 (.loop (.seq (.seq (.region a5r4 [4,5,6,7,8,30]) (.cond (.t 30) .skip (.exit 0))) (.seq (.block 1 (.region a5r5 [4,5,6,7,8])) (.region a5r6 [4,5,6,7,8])))))) (.seq (.region a5r7 [4,5,6,7,9,10]) (.seq (.seq (.region a5r8 [4,5,6,7,9,46]) (.cond (.t 46) (.seq (.region a5r9 [2]) .ret) .skip)) (.seq (.region a5r10 [4,5,6,7,9,11]) (.seq (.seq (.region a5r11 [4,5,6,7,9,11,12]) (.block 2 (.loop (.seq (.seq (.region a5r12 [4,5,6,7,9,11,12,50]) (.cond (.t 50) .skip (.exit 2))) (.seq (.block 3 (.seq (.region a5r13 [4,5,6,7,9,11,12,13]) (.block 4 (.loop (.seq (.seq (.region a5r14 [4,5,6,7,9,11,12,13,66]) (.cond (.t 66) .skip (.exit 4))) (.seq (.block 5 (.seq (.region a5r15 [4,5,6,7,9,11,12,13,14]) (.seq (.seq (.region a5r16 [4,5,6,7,9,11,12,13,14,15]) (.block 6 (.loop (.seq (.seq (.region a5r17 [4,5,6,7,9,11,12,13,14,15,72]) (.cond (.t 72) .skip (.exit 6))) (.seq (.block 7 (.draw a5r18 [] [4,5,6,7,9,11,12,13,14,15])) (.region a5r19 [4,5,6,7,9,11,12,13,14,15])))))) (.seq (.region a5r20 [4,5,6,7,9,11,12,13,86]) (.cond (.t 86) (.region a5r21 [4,5,6,7,9,11,12,13]) .skip))))) (.region a5r22 [4,5,6,7,9,11,12,13]))))))) (.region a5r23 [4,5,6,7,9,11,12])))))) (.seq (.seq (.region a5r24 [9,11,16]) (.block 8 (.loop (.seq (.seq (.region a5r25 [9,11,16,92]) (.cond (.t 92) .skip (.exit 8))) (.seq (.block 9 (.region a5r26 [9,11,16])) (.region a5r27 [9,11,16])))))) (.seq (.region a5r28 [2]) .ret))))))))))⟩
/- payroll/payrolllaw13.PremiumAdds -/
def a6r0 : List IOp := [⟨some 4,.mv,[.c (.bool false)],none⟩]
def a6r1 : List IOp := [⟨some 20,.mv,[.t 0],none⟩,
  ⟨some 21,.call 12,[.t 20],none⟩,
  ⟨some 5,.mv,[.t 21],none⟩]
def a6r2 : List IOp := [⟨some 22,.mv,[.t 5],none⟩,
  ⟨some 23,.call 13,[.t 22],none⟩,
  ⟨some 24,.mv,[.t 5],none⟩,
  ⟨some 25,.call 14,[.t 24,.c (.bool false)],none⟩,
  ⟨some 26,.mv,[.t 5],none⟩,
  ⟨some 27,.call 15,[.t 26,.c (.bool false)],none⟩,
  ⟨some 6,.alloc 38 [.int .i64 0,.nils],[],none⟩,
  ⟨none,.store 2,[.t 6,.t 23],none⟩,
  ⟨some 7,.mv,[.t 25],none⟩,
  ⟨some 8,.mv,[.t 27],none⟩]
def a6r3 : List IOp := [⟨some 28,.mv,[.t 5],none⟩,
  ⟨some 29,.call 19,[.t 28],none⟩,
  ⟨some 9,.mv,[.t 29],none⟩]
def a6r4 : List IOp := [⟨some 30,.mv,[.t 9],none⟩,
  ⟨some 31,.mv,[.t 9],none⟩,
  ⟨some 32,.bin .add,[.t 31,.c (.int .i64 300)],none⟩,
  ⟨some 33,.build [.int .i64 0,.int .i64 0] [(0,1),(1,1)],[.t 30,.t 32],none⟩,
  ⟨some 34,.build [.int .i64 0,.int .i64 0,.int .i64 0,.str ⟨#[]⟩] [(0,1),(1,2),(3,1)],[.c (.int .i64 20454),.t 33,.c (.str ⟨#[120]⟩)],none⟩,
  ⟨some 10,.alloc 31 [.int .i64 0,.int .i64 0,.int .i64 0,.str ⟨#[]⟩],[],none⟩,
  ⟨none,.store 4,[.t 10,.t 34],none⟩]
def a6r5 : List IOp := [⟨some 35,.mv,[.t 9],none⟩,
  ⟨some 36,.bin .add,[.t 35,.c (.int .i64 1)],none⟩,
  ⟨some 37,.mv,[.t 1],none⟩,
  ⟨some 38,.call 7,[.t 37,.c (.int .i64 299)],none⟩,
  ⟨some 39,.bin .add,[.t 36,.t 38],none⟩,
  ⟨some 11,.mv,[.t 39],none⟩]
def a6r6 : List (Nat × DOp) := [(0,⟨⟨some 40,.loadA 4,[.t 10],none⟩,none,[1,2,3]⟩),
  (1,⟨⟨some 41,.loadA 4,[.t 10],none⟩,none,[0,2,3,4]⟩),
  (2,⟨⟨some 12,.alloc 31 [.int .i64 0,.int .i64 0,.int .i64 0,.str ⟨#[]⟩],[],none⟩,some 0,[0,1,3]⟩),
  (3,⟨⟨some 13,.alloc 31 [.int .i64 0,.int .i64 0,.int .i64 0,.str ⟨#[]⟩],[],none⟩,some 1,[0,1,2]⟩),
  (4,⟨⟨none,.store 4,[.t 12,.t 40],none⟩,none,[1]⟩),
  (5,⟨⟨none,.store 4,[.t 13,.t 41],none⟩,none,[]⟩)]
def a6r7 : List IOp := [⟨some 42,.mv,[.t 11],none⟩,
  ⟨some 43,.mv,[.t 11],none⟩,
  ⟨some 44,.fieldAddr 1,[.t 12],none⟩,
  ⟨some 45,.fieldAddr 1,[.t 44],none⟩,
  ⟨none,.store 1,[.t 45,.t 42],none⟩,
  ⟨some 46,.fieldAddr 1,[.t 13],none⟩,
  ⟨some 47,.fieldAddr 0,[.t 46],none⟩,
  ⟨none,.store 1,[.t 47,.t 43],none⟩]
def a6r8 : List IOp := [⟨some 49,.loadA 2,[.t 6],none⟩,
  ⟨some 50,.mv,[.t 7],none⟩,
  ⟨some 51,.mv,[.t 8],none⟩,
  ⟨some 52,.loadA 4,[.t 10],none⟩,
  ⟨some 53,.bslice 31 4 [.int .i64 0,.int .i64 0,.int .i64 0,.str ⟨#[]⟩] 1 [0],[.t 52],none⟩,
  ⟨some 54,.call 9,[.t 49,.t 50,.t 51,.t 53],none⟩,
  ⟨some 48,.mv,[.t 54],none⟩,
  ⟨some 55,.extract 0,[.t 48],none⟩,
  ⟨some 56,.extract 1,[.t 48],none⟩,
  ⟨some 14,.mv,[.t 55],none⟩,
  ⟨some 15,.mv,[.t 56],none⟩]
def a6r9 : List IOp := [⟨some 58,.loadA 2,[.t 6],none⟩,
  ⟨some 59,.mv,[.t 7],none⟩,
  ⟨some 60,.mv,[.t 8],none⟩,
  ⟨some 61,.loadA 4,[.t 12],none⟩,
  ⟨some 62,.loadA 4,[.t 13],none⟩,
  ⟨some 63,.bslice 31 4 [.int .i64 0,.int .i64 0,.int .i64 0,.str ⟨#[]⟩] 2 [0,1],[.t 61,.t 62],none⟩,
  ⟨some 64,.call 9,[.t 58,.t 59,.t 60,.t 63],none⟩,
  ⟨some 57,.mv,[.t 64],none⟩,
  ⟨some 65,.extract 0,[.t 57],none⟩,
  ⟨some 66,.extract 1,[.t 57],none⟩,
  ⟨some 16,.mv,[.t 65],none⟩,
  ⟨some 17,.mv,[.t 66],none⟩]
def a6r10 : List (Nat × DOp) := [(0,⟨⟨some 68,.loadA 2,[.t 6],none⟩,none,[1,2,3,4,5,6,7,8,9]⟩),
  (1,⟨⟨some 69,.mv,[.t 7],none⟩,none,[0,2,3,4,5,6,7,8,9]⟩),
  (2,⟨⟨some 70,.nilsl,[],none⟩,none,[0,1,3,5,6,8,9]⟩),
  (3,⟨⟨some 71,.mv,[.t 8],none⟩,none,[0,1,2,5,6,8,9]⟩),
  (5,⟨⟨some 73,.build [.str ⟨#[]⟩,.str ⟨#[]⟩,.int .i64 0,.int .i64 0,.int .i64 0,.int .i64 0,.int .i64 0] [(0,1),(1,1),(2,1),(4,1)],[.c (.str ⟨#[110,101,118,101,114]⟩),.c (.str ⟨#[97]⟩),.c (.int .i64 1000),.c (.int .i64 1440)],none⟩,none,[0,1,2,3,4,8,9]⟩),
  (6,⟨⟨some 74,.bslice 25 7 [.str ⟨#[]⟩,.str ⟨#[]⟩,.int .i64 0,.int .i64 0,.int .i64 0,.int .i64 0,.int .i64 0] 1 [0],[.t 73],none⟩,some 0,[0,1,2,3,4,8,9]⟩),
  (8,⟨⟨some 76,.loadA 4,[.t 10],none⟩,none,[0,1,2,3,4,5,6,7]⟩),
  (9,⟨⟨some 77,.bslice 31 4 [.int .i64 0,.int .i64 0,.int .i64 0,.str ⟨#[]⟩] 1 [0],[.t 76],none⟩,some 1,[0,1,2,3,4,5,6,7]⟩),
  (4,⟨⟨some 72,.append 25 7 72,[.t 70,.t 71],none⟩,none,[0,1,5,6,8,9]⟩),
  (7,⟨⟨some 75,.append 25 7 72,[.t 72,.t 74],none⟩,none,[0,1,8,9]⟩),
  (10,⟨⟨some 78,.call 9,[.t 68,.t 69,.t 75,.t 77],none⟩,none,[]⟩),
  (11,⟨⟨some 67,.mv,[.t 78],none⟩,none,[]⟩),
  (12,⟨⟨some 79,.extract 0,[.t 67],none⟩,none,[13]⟩),
  (13,⟨⟨some 80,.extract 1,[.t 67],none⟩,none,[12,14]⟩),
  (14,⟨⟨some 18,.mv,[.t 79],none⟩,none,[13]⟩),
  (15,⟨⟨some 19,.mv,[.t 80],none⟩,none,[]⟩)]
def a6r11 : List IOp := [⟨some 81,.mv,[.t 15],none⟩,
  ⟨some 82,.bin .eql,[.t 81,.c (.int .i64 0)],none⟩,
  ⟨some 83,.mv,[.t 82],none⟩,
  ⟨some 84,.mv,[.t 17],some (83,true)⟩,
  ⟨some 85,.bin .eql,[.t 84,.c (.int .i64 0)],some (83,true)⟩,
  ⟨some 86,.pick,[.t 83,.t 85,.c (.bool false)],none⟩,
  ⟨some 87,.mv,[.t 86],none⟩,
  ⟨some 88,.mv,[.t 19],some (87,true)⟩,
  ⟨some 89,.bin .eql,[.t 88,.c (.int .i64 0)],some (87,true)⟩,
  ⟨some 90,.pick,[.t 87,.t 89,.c (.bool false)],none⟩,
  ⟨some 91,.mv,[.t 90],none⟩,
  ⟨some 92,.mv,[.t 14],some (91,true)⟩,
  ⟨some 93,.mv,[.t 16],some (91,true)⟩,
  ⟨some 94,.call 20,[.t 92,.t 93],some (91,true)⟩,
  ⟨some 95,.pick,[.t 91,.t 94,.c (.bool false)],none⟩,
  ⟨some 96,.mv,[.t 95],none⟩,
  ⟨some 97,.mv,[.t 14],some (96,true)⟩,
  ⟨some 98,.mv,[.t 18],some (96,true)⟩,
  ⟨some 99,.call 20,[.t 97,.t 98],some (96,true)⟩,
  ⟨some 100,.pick,[.t 96,.t 99,.c (.bool false)],none⟩,
  ⟨some 101,.mv,[.t 100],none⟩,
  ⟨some 102,.call 11,[],some (101,true)⟩,
  ⟨some 103,.pick,[.t 101,.t 102,.c (.bool false)],none⟩,
  ⟨some 4,.mv,[.t 103],none⟩]
def a6 : AFunc := ⟨104,[.tmp 4],(.seq (.region a6r0 [0,1]) (.seq (.region a6r1 [1,5]) (.seq (.region a6r2 [1,5,6,7,8]) (.seq (.region a6r3 [1,6,7,8,9]) (.seq (.region a6r4 [1,6,7,8,9,10]) (.seq (.region a6r5 [6,7,8,10,11]) (.seq (.draw a6r6 [(31,4),(31,4)] [6,7,8,10,11,12,13]) (.seq (.region a6r7 [6,7,8,10,12,13]) (.seq (.region a6r8 [6,7,8,10,12,13,14,15]) (.seq (.region a6r9 [6,7,8,10,14,15,16,17]) (.seq (.draw a6r10 [(25,7),(31,4)] [14,15,16,17,18,19]) (.seq (.region a6r11 [4]) .ret))))))))))))⟩
theorem a6_ok : compileF Tryd.prog (lk [(0,⟨[0,1],[],[]⟩),(1,⟨[1,5],[],[]⟩),(2,⟨[1,5,6,7,8],[],[]⟩),(3,⟨[1,6,7,8,9],[],[]⟩),(4,⟨[1,6,7,8,9,10],[],[]⟩),(5,⟨[6,7,8,10,11],[],[]⟩),(6,⟨[6,7,8,10,11,12,13],[[],[],[],[],[2,0,3],[3,1,4,0,2]],[0,1,2,3,4,5]⟩),(7,⟨[6,7,8,10,12,13],[],[]⟩),(8,⟨[6,7,8,10,12,13,14,15],[],[]⟩),(9,⟨[6,7,8,10,14,15,16,17],[],[]⟩),(10,⟨[14,15,16,17,18,19],[[],[],[],[],[2,3],[],[5],[4,6,2,3,5],[],[8],[0,1,7,9,4,6,2,3,5,8],[10,0,1,7,9,4,6,2,3,5,8],[11,10,0,1,7,9,4,6,2,3,5,8],[11,10,0,1,7,9,4,6,2,3,5,8],[12,10,0,1,2,3,4,5,6,7,8,9,11],[13,14,0,1,2,3,4,5,6,7,8,9,10,11,12]],[0,1,2,3,5,6,8,9,4,7,10,11,12,13,14,15]⟩),(11,⟨[4],[],[]⟩)]) Tryd.f6 = some a6 := by kernel_rfl

/- payroll/payrollgen.Mod -/
def a7r0 : List IOp := [⟨some 4,.mv,[.c (.int .i64 0)],none⟩]
def a7r1 : List IOp := [⟨some 6,.mv,[.t 0],none⟩,
  ⟨some 7,.mv,[.t 1],none⟩,
  ⟨some 8,.bin .rem,[.t 6,.t 7],none⟩,
  ⟨some 5,.mv,[.t 8],none⟩]
def a7r2 : List IOp := [⟨some 9,.mv,[.t 5],none⟩,
  ⟨some 10,.bin .lss,[.t 9,.c (.int .i64 0)],none⟩]
def a7r3 : List IOp := [⟨some 11,.mv,[.t 5],none⟩,
  ⟨some 12,.mv,[.t 1],none⟩,
  ⟨some 13,.bin .add,[.t 11,.t 12],none⟩,
  ⟨some 5,.mv,[.t 13],none⟩]
def a7r4 : List IOp := [⟨some 14,.mv,[.t 5],none⟩,
  ⟨some 4,.mv,[.t 14],none⟩]
def a7 : AFunc := ⟨15,[.tmp 4],(.seq (.region a7r0 [0,1]) (.seq (.region a7r1 [1,5]) (.seq (.seq (.region a7r2 [1,5,10]) (.cond (.t 10) (.region a7r3 [5]) .skip)) (.seq (.region a7r4 [4]) .ret))))⟩
theorem a7_ok : compileF Tryd.prog (lk [(0,⟨[0,1],[],[]⟩),(1,⟨[1,5],[],[]⟩),(2,⟨[1,5,10],[],[]⟩),(3,⟨[5],[],[]⟩),(4,⟨[4],[],[]⟩)]) Tryd.f7 = some a7 := by kernel_rfl

/- payroll/payrolllaw13.night -/
def a8r0 : List IOp := [⟨some 2,.alloc 25 [.str ⟨#[]⟩,.str ⟨#[]⟩,.int .i64 0,.int .i64 0,.int .i64 0,.int .i64 0,.int .i64 0],[],none⟩]
def a8r1 : List IOp := [⟨some 3,.mv,[.t 0],none⟩,
  ⟨some 4,.build [.str ⟨#[]⟩,.str ⟨#[]⟩,.int .i64 0,.int .i64 0,.int .i64 0,.int .i64 0,.int .i64 0] [(0,1),(1,1),(2,1),(3,1),(4,1),(5,1)],[.c (.str ⟨#[110,105,103,104,116]⟩),.c (.str ⟨#[110,105,103,104,116]⟩),.t 3,.c (.int .i64 1320),.c (.int .i64 360),.c (.int .i64 127)],none⟩,
  ⟨none,.store 7,[.t 2,.t 4],none⟩]
def a8 : AFunc := ⟨5,[.cellA 2 7],(.seq (.region a8r0 [0,2]) (.seq (.region a8r1 [2]) .ret))⟩
theorem a8_ok : compileF Tryd.prog (lk [(0,⟨[0,2],[],[]⟩),(1,⟨[2],[],[]⟩)]) Tryd.f8 = some a8 := by kernel_rfl

/- payroll/premium.Mark -/
def a9r0 : List IOp := [⟨some 4,.box 38 2,[.t 0],none⟩,
  ⟨some 8,.mv,[.c (.nils)],none⟩,
  ⟨some 9,.mv,[.c (.int .i64 0)],none⟩]
def a9r1 : List IOp := [⟨some 19,.loadA 2,[.t 4],none⟩,
  ⟨some 20,.mv,[.t 1],none⟩,
  ⟨some 21,.mv,[.t 2],none⟩,
  ⟨some 22,.call 10,[.t 19,.t 20,.t 21],none⟩,
  ⟨some 10,.mv,[.t 22],none⟩]
def a9r2 : List IOp := [⟨some 23,.mv,[.t 10],none⟩,
  ⟨some 24,.bin .neq,[.t 23,.c (.int .i64 0)],none⟩]
def a9r3 : List IOp := [⟨some 25,.mv,[.t 10],none⟩,
  ⟨some 8,.mv,[.c (.nils)],none⟩,
  ⟨some 9,.mv,[.t 25],none⟩]
def a9r4 : List IOp := [⟨some 26,.mv,[.t 3],none⟩,
  ⟨some 27,.call 21,[.t 26],none⟩,
  ⟨some 11,.mv,[.t 27],none⟩]
def a9r5 : List IOp := [⟨some 28,.mv,[.t 11],none⟩,
  ⟨some 29,.bin .neq,[.t 28,.c (.int .i64 0)],none⟩]
def a9r6 : List IOp := [⟨some 30,.mv,[.t 11],none⟩,
  ⟨some 8,.mv,[.c (.nils)],none⟩,
  ⟨some 9,.mv,[.t 30],none⟩]
def a9r7 : List IOp := [⟨some 31,.loadA 2,[.t 4],none⟩,
  ⟨some 32,.mv,[.t 1],none⟩,
  ⟨some 33,.mv,[.t 2],none⟩,
  ⟨some 34,.mv,[.t 3],none⟩,
  ⟨some 35,.call 22,[.t 31,.t 32,.t 33,.t 34],none⟩,
  ⟨some 12,.mv,[.t 35],none⟩]
def a9r8 : List IOp := [⟨some 13,.mv,[.c (.nils)],none⟩]
def a9r9 : List IOp := [⟨some 36,.mv,[.t 12],none⟩,
  ⟨some 37,.call 24,[.t 36],none⟩,
  ⟨some 38,.call 23,[.t 37],none⟩,
  ⟨some 39,.len,[.t 38],none⟩,
  ⟨some 40,.mv,[.c (.int .i64 0)],none⟩]
def a9r10 : List IOp := [⟨some 41,.bin .lss,[.t 40,.t 39],none⟩]
def a9r11 : List IOp := [⟨some 42,.indexAddr 1,[.t 38,.t 40],none⟩,
  ⟨some 43,.load1,[.t 42],none⟩,
  ⟨some 15,.mv,[.t 43],none⟩]
def a9r12 : List IOp := [⟨some 44,.mv,[.t 12],none⟩,
  ⟨some 45,.mv,[.t 15],none⟩,
  ⟨some 46,.look false false [.int .i64] (.agg [.int .i64 0,.int .i64 0,.int .i64 0,.int .i64 0,.int .i64 0,.int .i64 0,.int .i64 0,.int .i64 0,.int .i64 0,.int .i64 0,.int .i64 0,.int .i64 0,.int .i64 0,.int .i64 0,.int .i64 0,.int .i64 0]),[.t 44,.t 45],none⟩,
  ⟨some 16,.alloc 64 [.int .i64 0,.int .i64 0,.int .i64 0,.int .i64 0,.int .i64 0,.int .i64 0,.int .i64 0,.int .i64 0,.int .i64 0,.int .i64 0,.int .i64 0,.int .i64 0,.int .i64 0,.int .i64 0,.int .i64 0,.int .i64 0],[],none⟩,
  ⟨none,.store 16,[.t 16,.t 46],none⟩]
def a9r13 : List IOp := [⟨some 47,.mv,[.t 2],none⟩,
  ⟨some 48,.len,[.t 47],none⟩,
  ⟨some 49,.mv,[.c (.int .i64 0)],none⟩]
def a9r14 : List IOp := [⟨some 50,.bin .lss,[.t 49,.t 48],none⟩]
def a9r15 : List IOp := [⟨some 51,.mv,[.t 49],none⟩,
  ⟨some 52,.indexAddr 7,[.t 47,.t 49],none⟩,
  ⟨some 53,.loadA 7,[.t 52],none⟩,
  ⟨some 18,.alloc 25 [.str ⟨#[]⟩,.str ⟨#[]⟩,.int .i64 0,.int .i64 0,.int .i64 0,.int .i64 0,.int .i64 0],[],none⟩,
  ⟨some 17,.mv,[.t 51],none⟩,
  ⟨none,.store 7,[.t 18,.t 53],none⟩]
def a9r16 : List IOp := [⟨some 54,.mv,[.t 17],none⟩,
  ⟨some 55,.indexArr 16 1,[.t 16,.t 54],none⟩,
  ⟨some 56,.load1,[.t 55],none⟩,
  ⟨some 57,.bin .gtr,[.t 56,.c (.int .i64 0)],none⟩]
def a9r17 : List (Nat × DOp) := [(0,⟨⟨some 58,.mv,[.t 13],none⟩,none,[1,2,3,4,5,6,7,8]⟩),
  (1,⟨⟨some 59,.mv,[.t 15],none⟩,none,[0,2,3,4,5,6]⟩),
  (2,⟨⟨some 60,.fieldAddr 0,[.t 18],none⟩,none,[0,1,4,5,6]⟩),
  (3,⟨⟨some 61,.load1,[.t 60],none⟩,none,[0,1,4,5,6]⟩),
  (4,⟨⟨some 62,.mv,[.t 17],none⟩,none,[0,1,2,3]⟩),
  (5,⟨⟨some 63,.indexArr 16 1,[.t 16,.t 62],none⟩,none,[0,1,2,3]⟩),
  (6,⟨⟨some 64,.load1,[.t 63],none⟩,none,[0,1,2,3]⟩),
  (7,⟨⟨some 65,.build [.int .i64 0,.str ⟨#[]⟩,.int .i64 0] [(0,1),(1,1),(2,1)],[.t 59,.t 61,.t 64],none⟩,none,[0]⟩),
  (8,⟨⟨some 66,.bslice 52 3 [.int .i64 0,.str ⟨#[]⟩,.int .i64 0] 1 [0],[.t 65],none⟩,some 0,[0]⟩),
  (9,⟨⟨some 67,.append 52 3 32,[.t 58,.t 66],none⟩,none,[]⟩),
  (10,⟨⟨some 13,.mv,[.t 67],none⟩,none,[]⟩)]
def a9r18 : List IOp := [⟨some 68,.bin .add,[.t 49,.c (.int .i64 1)],none⟩,
  ⟨some 49,.mv,[.t 68],none⟩]
def a9r19 : List IOp := [⟨some 69,.bin .add,[.t 40,.c (.int .i64 1)],none⟩,
  ⟨some 40,.mv,[.t 69],none⟩]
def a9r20 : List IOp := [⟨some 70,.mv,[.t 13],none⟩,
  ⟨some 8,.mv,[.t 70],none⟩,
  ⟨some 9,.mv,[.c (.int .i64 0)],none⟩]
def a9 : AFunc := ⟨71,[.tmp 8,.tmp 9],(.seq (.region a9r0 [1,2,3,4]) (.seq (.seq (.region a9r1 [1,2,3,4,10]) (.seq (.region a9r2 [1,2,3,4,10,24]) (.cond (.t 24) (.seq (.region a9r3 [8,9]) .ret) .skip))) (.seq (.seq (.region a9r4 [1,2,3,4,11]) (.seq (.region a9r5 [1,2,3,4,11,29]) (.cond (.t 29) (.seq (.region a9r6 [8,9]) .ret) .skip))) (.seq (.region a9r7 [2,12]) (.seq (.region a9r8 [2,12,13]) (.seq (.seq (.region a9r9 [2,12,13,38,39,40]) (.block 0 (.loop (.seq (.region a9r10 [2,12,13,38,39,40,41]) (.seq (.cond (.t 41) .skip (.exit 0)) (.seq (.block 1 (.seq (.region a9r11 [2,12,13,15,38,39,40]) (.seq (.region a9r12 [2,12,13,15,16,38,39,40]) (.seq (.region a9r13 [2,12,13,15,16,38,39,40,47,48,49]) (.block 2 (.loop (.seq (.region a9r14 [2,12,13,15,16,38,39,40,47,48,49,50]) (.seq (.cond (.t 50) .skip (.exit 2)) (.seq (.block 3 (.seq (.region a9r15 [2,12,13,15,16,17,18,38,39,40,47,48,49]) (.seq (.region a9r16 [2,12,13,15,16,17,18,38,39,40,47,48,49,57]) (.cond (.t 57) (.draw a9r17 [(52,3)] [2,12,13,15,16,38,39,40,47,48,49]) .skip)))) (.region a9r18 [2,12,13,15,16,38,39,40,47,48,49])))))))))) (.region a9r19 [2,12,13,38,39,40]))))))) (.seq (.region a9r20 [8,9]) .ret)))))))⟩
theorem a9_ok : compileF Tryd.prog (lk [(0,⟨[1,2,3,4],[],[]⟩),(1,⟨[1,2,3,4,10],[],[]⟩),(2,⟨[1,2,3,4,10,24],[],[]⟩),(3,⟨[8,9],[],[]⟩),(4,⟨[1,2,3,4,11],[],[]⟩),(5,⟨[1,2,3,4,11,29],[],[]⟩),(6,⟨[8,9],[],[]⟩),(7,⟨[2,12],[],[]⟩),(8,⟨[2,12,13],[],[]⟩),(9,⟨[2,12,13,38,39,40],[],[]⟩),(10,⟨[2,12,13,38,39,40,41],[],[]⟩),(11,⟨[2,12,13,15,38,39,40],[],[]⟩),(12,⟨[2,12,13,15,16,38,39,40],[],[]⟩),(13,⟨[2,12,13,15,16,38,39,40,47,48,49],[],[]⟩),(14,⟨[2,12,13,15,16,38,39,40,47,48,49,50],[],[]⟩),(15,⟨[2,12,13,15,16,17,18,38,39,40,47,48,49],[],[]⟩),(16,⟨[2,12,13,15,16,17,18,38,39,40,47,48,49,57],[],[]⟩),(17,⟨[2,12,13,15,16,38,39,40,47,48,49],[[],[],[],[2],[],[4],[5,4],[1,3,6,2,5,4],[7,1,3,6,2,5,4],[0,8,7,1,3,6,2,5,4],[9,0,1,2,3,4,5,6,7,8]],[0,1,2,3,4,5,6,7,8,9,10]⟩),(18,⟨[2,12,13,15,16,38,39,40,47,48,49],[],[]⟩),(19,⟨[2,12,13,38,39,40],[],[]⟩),(20,⟨[8,9],[],[]⟩)]) Tryd.f9 = some a9 := by kernel_rfl

/- payroll/premium.Valid -/
def a10r0 : List IOp := [⟨some 3,.box 38 2,[.t 0],none⟩,
  ⟨some 6,.mv,[.c (.int .i64 0)],none⟩]
def a10r1 : List IOp := [⟨some 11,.loadA 2,[.t 3],none⟩,
  ⟨some 12,.call 25,[.t 11],none⟩,
  ⟨some 7,.mv,[.t 12],none⟩]
def a10r2 : List IOp := [⟨some 13,.mv,[.t 7],none⟩,
  ⟨some 14,.bin .neq,[.t 13,.c (.int .i64 0)],none⟩]
def a10r3 : List IOp := [⟨some 15,.mv,[.t 7],none⟩,
  ⟨some 6,.mv,[.t 15],none⟩]
def a10r4 : List IOp := [⟨some 16,.mv,[.t 1],none⟩,
  ⟨some 17,.call 26,[.t 16],none⟩,
  ⟨some 8,.mv,[.t 17],none⟩]
def a10r5 : List IOp := [⟨some 18,.mv,[.t 8],none⟩,
  ⟨some 19,.bin .neq,[.t 18,.c (.int .i64 0)],none⟩]
def a10r6 : List IOp := [⟨some 20,.mv,[.t 8],none⟩,
  ⟨some 6,.mv,[.t 20],none⟩]
def a10r7 : List IOp := [⟨some 21,.mv,[.t 2],none⟩,
  ⟨some 22,.len,[.t 21],none⟩,
  ⟨some 23,.bin .gtr,[.t 22,.c (.int .i64 16)],none⟩]
def a10r8 : List IOp := [⟨some 6,.mv,[.c (.int .i64 3)],none⟩]
def a10r9 : List IOp := [⟨some 24,.mv,[.t 2],none⟩,
  ⟨some 25,.len,[.t 24],none⟩,
  ⟨some 26,.mv,[.c (.int .i64 0)],none⟩]
def a10r10 : List IOp := [⟨some 27,.bin .lss,[.t 26,.t 25],none⟩]
def a10r11 : List IOp := [⟨some 28,.indexAddr 7,[.t 24,.t 26],none⟩,
  ⟨some 29,.loadA 7,[.t 28],none⟩,
  ⟨some 10,.alloc 25 [.str ⟨#[]⟩,.str ⟨#[]⟩,.int .i64 0,.int .i64 0,.int .i64 0,.int .i64 0,.int .i64 0],[],none⟩,
  ⟨none,.store 7,[.t 10,.t 29],none⟩]
def a10r12 : List IOp := [⟨some 30,.loadA 7,[.t 10],none⟩,
  ⟨some 31,.call 27,[.t 30],none⟩,
  ⟨some 32,.not,[.t 31],none⟩]
def a10r13 : List IOp := [⟨some 6,.mv,[.c (.int .i64 1)],none⟩]
def a10r14 : List IOp := [⟨some 33,.bin .add,[.t 26,.c (.int .i64 1)],none⟩,
  ⟨some 26,.mv,[.t 33],none⟩]
def a10r15 : List IOp := [⟨some 6,.mv,[.c (.int .i64 0)],none⟩]
def a10 : AFunc := ⟨34,[.tmp 6],(.seq (.region a10r0 [1,2,3]) (.seq (.seq (.region a10r1 [1,2,7]) (.seq (.region a10r2 [1,2,7,14]) (.cond (.t 14) (.seq (.region a10r3 [6]) .ret) .skip))) (.seq (.seq (.region a10r4 [2,8]) (.seq (.region a10r5 [2,8,19]) (.cond (.t 19) (.seq (.region a10r6 [6]) .ret) .skip))) (.seq (.seq (.region a10r7 [2,23]) (.cond (.t 23) (.seq (.region a10r8 [6]) .ret) .skip)) (.seq (.seq (.region a10r9 [24,25,26]) (.block 0 (.loop (.seq (.region a10r10 [24,25,26,27]) (.seq (.cond (.t 27) .skip (.exit 0)) (.seq (.block 1 (.seq (.region a10r11 [10,24,25,26]) (.seq (.region a10r12 [24,25,26,32]) (.cond (.t 32) (.seq (.region a10r13 [6]) .ret) .skip)))) (.region a10r14 [24,25,26]))))))) (.seq (.region a10r15 [6]) .ret))))))⟩
theorem a10_ok : compileF Tryd.prog (lk [(0,⟨[1,2,3],[],[]⟩),(1,⟨[1,2,7],[],[]⟩),(2,⟨[1,2,7,14],[],[]⟩),(3,⟨[6],[],[]⟩),(4,⟨[2,8],[],[]⟩),(5,⟨[2,8,19],[],[]⟩),(6,⟨[6],[],[]⟩),(7,⟨[2,23],[],[]⟩),(8,⟨[6],[],[]⟩),(9,⟨[24,25,26],[],[]⟩),(10,⟨[24,25,26,27],[],[]⟩),(11,⟨[10,24,25,26],[],[]⟩),(12,⟨[24,25,26,32],[],[]⟩),(13,⟨[6],[],[]⟩),(14,⟨[24,25,26],[],[]⟩),(15,⟨[6],[],[]⟩)]) Tryd.f10 = some a10 := by kernel_rfl

/- payroll/payrolllaw13.sane -/
def a11r0 : List IOp := [⟨some 0,.mv,[.c (.bool false)],none⟩]
def a11r1 : List IOp := [⟨some 4,.call 8,[.c (.int .i64 2)],none⟩,
  ⟨some 1,.alloc 25 [.str ⟨#[]⟩,.str ⟨#[]⟩,.int .i64 0,.int .i64 0,.int .i64 0,.int .i64 0,.int .i64 0],[],none⟩,
  ⟨none,.store 7,[.t 1,.t 4],none⟩]
def a11r2 : List IOp := [⟨some 5,.fieldAddr 0,[.t 1],none⟩,
  ⟨none,.store 1,[.t 5,.c (.str ⟨#[108,97,116,101]⟩)],none⟩]
def a11r3 : List (Nat × DOp) := [(0,⟨⟨some 7,.build [.int .i64 0,.nils] [],[],none⟩,none,[1,2,3,4,5,6]⟩),
  (2,⟨⟨some 9,.loadA 7,[.t 1],none⟩,none,[0,1,4,5,6]⟩),
  (4,⟨⟨some 11,.build [.int .i64 0,.int .i64 0] [(0,1),(1,1)],[.c (.int .i64 5640),.c (.int .i64 5800)],none⟩,none,[0,1,2,3]⟩),
  (5,⟨⟨some 12,.build [.int .i64 0,.int .i64 0,.int .i64 0,.str ⟨#[]⟩] [(0,1),(1,2),(3,1)],[.c (.int .i64 3),.t 11,.c (.str ⟨#[120]⟩)],none⟩,none,[0,1,2,3]⟩),
  (6,⟨⟨some 13,.bslice 31 4 [.int .i64 0,.int .i64 0,.int .i64 0,.str ⟨#[]⟩] 1 [0],[.t 12],none⟩,some 1,[0,1,2,3]⟩),
  (1,⟨⟨some 8,.call 8,[.c (.int .i64 1)],none⟩,none,[0,2,4,5,6]⟩),
  (3,⟨⟨some 10,.bslice 25 7 [.str ⟨#[]⟩,.str ⟨#[]⟩,.int .i64 0,.int .i64 0,.int .i64 0,.int .i64 0,.int .i64 0] 2 [0,1],[.t 8,.t 9],none⟩,some 0,[0,4,5,6]⟩),
  (7,⟨⟨some 14,.call 9,[.t 7,.c (.nils),.t 10,.t 13],none⟩,none,[]⟩),
  (8,⟨⟨some 6,.mv,[.t 14],none⟩,none,[]⟩),
  (9,⟨⟨some 15,.extract 0,[.t 6],none⟩,none,[10]⟩),
  (10,⟨⟨some 16,.extract 1,[.t 6],none⟩,none,[9,11]⟩),
  (11,⟨⟨some 2,.mv,[.t 15],none⟩,none,[10]⟩),
  (12,⟨⟨some 3,.mv,[.t 16],none⟩,none,[]⟩)]
def a11r4 : List IOp := [⟨some 17,.build [.int .i64 0,.nils] [],[],none⟩,
  ⟨some 18,.call 8,[.c (.int .i64 1)],none⟩,
  ⟨some 19,.call 17,[.t 17,.c (.nils),.t 18,.c (.int .i64 5640)],none⟩,
  ⟨some 20,.mv,[.t 19],none⟩,
  ⟨some 21,.build [.int .i64 0,.nils] [],[],some (20,true)⟩,
  ⟨some 22,.call 8,[.c (.int .i64 1)],some (20,true)⟩,
  ⟨some 23,.call 17,[.t 21,.c (.nils),.t 22,.c (.int .i64 5639)],some (20,true)⟩,
  ⟨some 24,.not,[.t 23],some (20,true)⟩,
  ⟨some 25,.pick,[.t 20,.t 24,.c (.bool false)],none⟩,
  ⟨some 26,.mv,[.t 25],none⟩,
  ⟨some 27,.build [.int .i64 0,.nils] [],[],some (26,true)⟩,
  ⟨some 28,.call 8,[.c (.int .i64 1)],some (26,true)⟩,
  ⟨some 29,.call 17,[.t 27,.c (.nils),.t 28,.c (.int .i64 359)],some (26,true)⟩,
  ⟨some 30,.pick,[.t 26,.t 29,.c (.bool false)],none⟩,
  ⟨some 31,.mv,[.t 30],none⟩,
  ⟨some 32,.mv,[.t 3],some (31,true)⟩,
  ⟨some 33,.bin .eql,[.t 32,.c (.int .i64 0)],some (31,true)⟩,
  ⟨some 34,.pick,[.t 31,.t 33,.c (.bool false)],none⟩,
  ⟨some 35,.mv,[.t 34],none⟩,
  ⟨some 36,.mv,[.t 2],some (35,true)⟩,
  ⟨some 37,.len,[.t 36],some (35,true)⟩,
  ⟨some 38,.bin .eql,[.t 37,.c (.int .i64 1)],some (35,true)⟩,
  ⟨some 39,.pick,[.t 35,.t 38,.c (.bool false)],none⟩,
  ⟨some 40,.mv,[.t 39],none⟩,
  ⟨some 41,.mv,[.t 2],some (40,true)⟩,
  ⟨some 42,.indexAddr 3,[.t 41,.c (.int .i64 0)],some (40,true)⟩,
  ⟨some 43,.loadA 3,[.t 42],some (40,true)⟩,
  ⟨some 44,.build [.int .i64 0,.str ⟨#[]⟩,.int .i64 0] [(0,1),(1,1),(2,1)],[.c (.int .i64 3),.c (.str ⟨#[108,97,116,101]⟩),.c (.int .i64 160)],some (40,true)⟩,
  ⟨some 45,.eqA false [.int .i64,.str,.int .i64],[.t 43,.t 44],some (40,true)⟩,
  ⟨some 46,.pick,[.t 40,.t 45,.c (.bool false)],none⟩,
  ⟨some 47,.mv,[.t 46],none⟩,
  ⟨some 48,.build [.int .i64 0,.nils] [],[],some (47,true)⟩,
  ⟨some 49,.loadA 7,[.t 1],some (47,true)⟩,
  ⟨some 50,.bslice 25 7 [.str ⟨#[]⟩,.str ⟨#[]⟩,.int .i64 0,.int .i64 0,.int .i64 0,.int .i64 0,.int .i64 0] 1 [0],[.t 49],some (47,true)⟩,
  ⟨some 51,.call 10,[.t 48,.c (.nils),.t 50],some (47,true)⟩,
  ⟨some 52,.bin .eql,[.t 51,.c (.int .i64 0)],some (47,true)⟩,
  ⟨some 53,.pick,[.t 47,.t 52,.c (.bool false)],none⟩,
  ⟨some 0,.mv,[.t 53],none⟩]
def a11 : AFunc := ⟨54,[.tmp 0],(.seq (.region a11r0 []) (.seq (.region a11r1 [1]) (.seq (.region a11r2 [1]) (.seq (.draw a11r3 [(25,7),(31,4)] [1,2,3]) (.seq (.region a11r4 [0]) .ret)))))⟩
theorem a11_ok : compileF Tryd.prog (lk [(0,⟨[],[],[]⟩),(1,⟨[1],[],[]⟩),(2,⟨[1],[],[]⟩),(3,⟨[1,2,3],[[],[],[],[1,2],[],[4],[5,4],[0,3,6,1,2,5,4],[7,0,3,6,1,2,5,4],[8,7,0,3,6,1,2,5,4],[8,7,0,3,6,1,2,5,4],[9,7,0,1,2,3,4,5,6,8],[10,11,0,1,2,3,4,5,6,7,8,9]],[0,2,4,5,6,1,3,7,8,9,10,11,12]⟩),(4,⟨[0],[],[]⟩)]) Tryd.f11 = some a11 := by kernel_rfl

/- payroll/payrollgen.New -/
def a12r0 : List IOp := [⟨some 2,.mv,[.c (.nilp)],none⟩]
def a12r1 : List IOp := [⟨some 3,.mv,[.t 0],none⟩,
  ⟨some 4,.build [.nils,.int .i64 0] [(0,1)],[.t 3],none⟩,
  ⟨some 5,.box 69 2,[.t 4],none⟩,
  ⟨some 2,.mv,[.t 5],none⟩]
def a12 : AFunc := ⟨6,[.tmp 2],(.seq (.region a12r0 [0]) (.seq (.region a12r1 [2]) .ret))⟩
theorem a12_ok : compileF Tryd.prog (lk [(0,⟨[0],[],[]⟩),(1,⟨[2],[],[]⟩)]) Tryd.f12 = some a12 := by kernel_rfl

/- (*payroll/payrollgen.Tape).Zone -/
def a13r0 : List IOp := [⟨some 2,.alloc 38 [.int .i64 0,.nils],[],none⟩]
def a13r1 : List IOp := [⟨some 6,.mv,[.t 0],none⟩,
  ⟨some 7,.bslice 3 1 [.int .i64 0] 6 [0,1,2,3,4,5],[.c (.int .i64 0),.c (.int .i64 60),.c (.int .i64 (-300)),.c (.int .i64 840),.c (.int .i64 (-840)),.c (.int .i64 570)],none⟩,
  ⟨some 8,.call 28,[.t 6,.t 7],none⟩,
  ⟨some 9,.build [.int .i64 0,.nils] [(0,1)],[.t 8],none⟩,
  ⟨some 3,.alloc 38 [.int .i64 0,.nils],[],none⟩,
  ⟨none,.store 2,[.t 3,.t 9],none⟩]
def a13r2 : List IOp := [⟨some 10,.mv,[.t 0],none⟩,
  ⟨some 11,.bslice 3 1 [.int .i64 0] 5 [0,1,2,3,4],[.c (.int .i64 0),.c (.int .i64 29453760),.c (.int .i64 29455200),.c (.int .i64 29456700),.c (.int .i64 29453060)],none⟩,
  ⟨some 12,.call 28,[.t 10,.t 11],none⟩,
  ⟨some 4,.mv,[.t 12],none⟩]
def a13r3 : List IOp := [⟨some 13,.mv,[.t 0],none⟩,
  ⟨some 14,.call 29,[.t 13,.c (.int .i64 4)],none⟩,
  ⟨some 5,.mv,[.t 14],none⟩]
def a13r4 : List IOp := [⟨some 15,.mv,[.t 5],none⟩,
  ⟨some 16,.bin .gtr,[.t 15,.c (.int .i64 0)],none⟩]
def a13r5 : List (Nat × DOp) := [(0,⟨⟨some 19,.fieldAddr 1,[.t 3],none⟩,none,[2,3,4,5,6,7]⟩),
  (1,⟨⟨some 20,.load1,[.t 19],none⟩,none,[2,3,4,5,6,7]⟩),
  (2,⟨⟨some 21,.mv,[.t 4],none⟩,none,[0,1,3,4,5]⟩),
  (3,⟨⟨some 22,.mv,[.t 0],none⟩,none,[0,1,2,4]⟩),
  (4,⟨⟨some 23,.bslice 3 1 [.int .i64 0] 6 [0,1,2,3,4,5],[.c (.int .i64 60),.c (.int .i64 120),.c (.int .i64 0),.c (.int .i64 (-300)),.c (.int .i64 840),.c (.int .i64 (-840))],none⟩,some 0,[0,1,2,3]⟩),
  (5,⟨⟨some 24,.call 28,[.t 22,.t 23],none⟩,none,[0,1,2]⟩),
  (6,⟨⟨some 25,.build [.int .i64 0,.int .i64 0] [(0,1),(1,1)],[.t 21,.t 24],none⟩,none,[0,1]⟩),
  (7,⟨⟨some 26,.bslice 73 2 [.int .i64 0,.int .i64 0] 1 [0],[.t 25],none⟩,some 1,[0,1]⟩),
  (8,⟨⟨some 27,.append 73 2 16,[.t 20,.t 26],none⟩,none,[]⟩),
  (9,⟨⟨some 28,.fieldAddr 1,[.t 3],none⟩,none,[]⟩),
  (10,⟨⟨none,.store 1,[.t 28,.t 27],none⟩,none,[]⟩)]
def a13r6 : List IOp := [⟨some 29,.mv,[.t 4],none⟩,
  ⟨some 30,.mv,[.t 0],none⟩,
  ⟨some 31,.bslice 3 1 [.int .i64 0] 5 [0,1,2,3,4],[.c (.int .i64 60),.c (.int .i64 1440),.c (.int .i64 30),.c (.int .i64 4320),.c (.int .i64 1)],none⟩,
  ⟨some 32,.call 28,[.t 30,.t 31],none⟩,
  ⟨some 33,.bin .add,[.t 29,.t 32],none⟩,
  ⟨some 4,.mv,[.t 33],none⟩]
def a13r7 : List IOp := [⟨some 17,.mv,[.t 5],none⟩,
  ⟨some 18,.bin .sub,[.t 17,.c (.int .i64 1)],none⟩,
  ⟨some 5,.mv,[.t 18],none⟩]
def a13r8 : List IOp := [⟨some 34,.loadA 2,[.t 3],none⟩,
  ⟨none,.store 2,[.t 2,.t 34],none⟩]
def a13 : AFunc := ⟨35,[.cellA 2 2],(.seq (.region a13r0 [0,2]) (.seq (.region a13r1 [0,2,3]) (.seq (.region a13r2 [0,2,3,4]) (.seq (.seq (.region a13r3 [0,2,3,4,5]) (.block 0 (.loop (.seq (.seq (.region a13r4 [0,2,3,4,5,16]) (.cond (.t 16) .skip (.exit 0))) (.seq (.block 1 (.seq (.draw a13r5 [(3,1),(73,2)] [0,2,3,4,5]) (.region a13r6 [0,2,3,4,5]))) (.region a13r7 [0,2,3,4,5])))))) (.seq (.region a13r8 [2]) .ret)))))⟩
theorem a13_ok : compileF Tryd.prog (lk [(0,⟨[0,2],[],[]⟩),(1,⟨[0,2,3],[],[]⟩),(2,⟨[0,2,3,4],[],[]⟩),(3,⟨[0,2,3,4,5],[],[]⟩),(4,⟨[0,2,3,4,5,16],[],[]⟩),(5,⟨[0,2,3,4,5],[],[]⟩),(6,⟨[0,2,3,4,5],[[],[0],[],[],[],[3,4],[2,5,3,4],[6,2,5,3,4],[1,7,5,0,6,2,3,4],[0,1,2,3,4,5,6,7,8],[9,8,0,1,2,3,4,5,6,7]],[0,1,2,3,4,5,6,7,8,9,10]⟩),(7,⟨[0,2,3,4,5],[],[]⟩),(8,⟨[2],[],[]⟩)]) Tryd.f13 = some a13 := by kernel_rfl

/- (*payroll/payrollgen.Tape).Holidays -/
def a14r0 : List IOp := [⟨some 4,.mv,[.c (.nils)],none⟩]
def a14r1 : List IOp := [⟨some 8,.build [.int .i64 0,.int .i64 0,.int .i64 0,.int .i64 0,.int .i64 0,.bool false] [(0,1),(1,1),(2,1)],[.c (.int .i64 0),.c (.int .i64 1),.c (.int .i64 1)],none⟩,
  ⟨some 9,.build [.int .i64 0,.int .i64 0,.int .i64 0,.int .i64 0,.int .i64 0,.bool false] [(0,1),(1,1),(2,1),(5,1)],[.c (.int .i64 0),.c (.int .i64 12),.c (.int .i64 25),.c (.bool true)],none⟩,
  ⟨some 10,.build [.int .i64 0,.int .i64 0,.int .i64 0,.int .i64 0,.int .i64 0,.bool false] [(0,1),(1,1),(2,1)],[.c (.int .i64 0),.c (.int .i64 2),.c (.int .i64 29)],none⟩,
  ⟨some 11,.build [.int .i64 0,.int .i64 0,.int .i64 0,.int .i64 0,.int .i64 0,.bool false] [(0,1),(4,1)],[.c (.int .i64 1),.c (.int .i64 1)],none⟩,
  ⟨some 12,.build [.int .i64 0,.int .i64 0,.int .i64 0,.int .i64 0,.int .i64 0,.bool false] [(0,1),(4,1)],[.c (.int .i64 1),.c (.int .i64 (-2))],none⟩,
  ⟨some 13,.build [.int .i64 0,.int .i64 0,.int .i64 0,.int .i64 0,.int .i64 0,.bool false] [(0,1),(4,1)],[.c (.int .i64 1),.c (.int .i64 (-100))],none⟩,
  ⟨some 14,.build [.int .i64 0,.int .i64 0,.int .i64 0,.int .i64 0,.int .i64 0,.bool false] [(0,1),(1,1),(3,1),(2,1)],[.c (.int .i64 2),.c (.int .i64 11),.c (.int .i64 3),.c (.int .i64 4)],none⟩,
  ⟨some 15,.build [.int .i64 0,.int .i64 0,.int .i64 0,.int .i64 0,.int .i64 0,.bool false] [(0,1),(1,1),(3,1),(2,1)],[.c (.int .i64 2),.c (.int .i64 1),.c (.int .i64 0),.c (.int .i64 (-1))],none⟩,
  ⟨some 16,.build [.int .i64 0,.int .i64 0,.int .i64 0,.int .i64 0,.int .i64 0,.bool false] [(0,1),(1,1),(3,1),(2,1),(5,1)],[.c (.int .i64 2),.c (.int .i64 1),.c (.int .i64 5),.c (.int .i64 1),.c (.bool true)],none⟩,
  ⟨some 17,.build [.int .i64 0,.int .i64 0,.int .i64 0,.int .i64 0,.int .i64 0,.bool false] [(0,1),(1,1),(3,1),(2,1),(4,1)],[.c (.int .i64 2),.c (.int .i64 12),.c (.int .i64 3),.c (.int .i64 5),.c (.int .i64 7)],none⟩,
  ⟨some 18,.build [.int .i64 0,.int .i64 0,.int .i64 0,.int .i64 0,.int .i64 0,.bool false] [(0,1),(1,1),(3,1),(2,1),(4,1)],[.c (.int .i64 2),.c (.int .i64 1),.c (.int .i64 4),.c (.int .i64 1),.c (.int .i64 (-7))],none⟩,
  ⟨some 19,.bslice 75 6 [.int .i64 0,.int .i64 0,.int .i64 0,.int .i64 0,.int .i64 0,.bool false] 11 [0,1,2,3,4,5,6,7,8,9,10],[.t 8,.t 9,.t 10,.t 11,.t 12,.t 13,.t 14,.t 15,.t 16,.t 17,.t 18],none⟩,
  ⟨some 5,.mv,[.t 19],none⟩]
def a14r2 : List IOp := [⟨some 6,.mv,[.c (.nils)],none⟩]
def a14r3 : List IOp := [⟨some 20,.mv,[.t 0],none⟩,
  ⟨some 21,.call 29,[.t 20,.c (.int .i64 4)],none⟩,
  ⟨some 7,.mv,[.t 21],none⟩]
def a14r4 : List IOp := [⟨some 22,.mv,[.t 7],none⟩,
  ⟨some 23,.bin .gtr,[.t 22,.c (.int .i64 0)],none⟩]
def a14r5 : List IOp := [⟨some 26,.mv,[.t 6],none⟩,
  ⟨some 27,.mv,[.t 5],none⟩,
  ⟨some 28,.mv,[.t 0],none⟩,
  ⟨some 29,.mv,[.t 5],none⟩,
  ⟨some 30,.len,[.t 29],none⟩,
  ⟨some 31,.call 29,[.t 28,.t 30],none⟩,
  ⟨some 32,.indexAddr 6,[.t 27,.t 31],none⟩,
  ⟨some 33,.loadA 6,[.t 32],none⟩,
  ⟨some 34,.bslice 75 6 [.int .i64 0,.int .i64 0,.int .i64 0,.int .i64 0,.int .i64 0,.bool false] 1 [0],[.t 33],none⟩,
  ⟨some 35,.append 75 6 48,[.t 26,.t 34],none⟩,
  ⟨some 6,.mv,[.t 35],none⟩]
def a14r6 : List IOp := [⟨some 24,.mv,[.t 7],none⟩,
  ⟨some 25,.bin .sub,[.t 24,.c (.int .i64 1)],none⟩,
  ⟨some 7,.mv,[.t 25],none⟩]
def a14r7 : List IOp := [⟨some 36,.mv,[.t 1],none⟩,
  ⟨some 37,.mv,[.t 36],none⟩,
  ⟨some 38,.mv,[.t 0],some (37,true)⟩,
  ⟨some 39,.call 29,[.t 38,.c (.int .i64 6)],some (37,true)⟩,
  ⟨some 40,.bin .eql,[.t 39,.c (.int .i64 5)],some (37,true)⟩,
  ⟨some 41,.pick,[.t 37,.t 40,.c (.bool false)],none⟩]
def a14r8 : List IOp := [⟨some 42,.mv,[.t 6],none⟩,
  ⟨some 43,.mv,[.t 0],none⟩,
  ⟨some 44,.call 29,[.t 43,.c (.int .i64 4)],none⟩,
  ⟨some 45,.mv,[.t 0],none⟩,
  ⟨some 46,.call 29,[.t 45,.c (.int .i64 14)],none⟩,
  ⟨some 47,.mv,[.t 0],none⟩,
  ⟨some 48,.bslice 3 1 [.int .i64 0] 4 [0,1,2,3],[.c (.int .i64 0),.c (.int .i64 6),.c (.int .i64 31),.c (.int .i64 (-1))],none⟩,
  ⟨some 49,.call 28,[.t 47,.t 48],none⟩,
  ⟨some 50,.mv,[.t 0],none⟩,
  ⟨some 51,.call 29,[.t 50,.c (.int .i64 8)],none⟩,
  ⟨some 52,.mv,[.t 0],none⟩,
  ⟨some 53,.bslice 3 1 [.int .i64 0] 3 [0,1,2],[.c (.int .i64 0),.c (.int .i64 8),.c (.int .i64 101)],none⟩,
  ⟨some 54,.call 28,[.t 52,.t 53],none⟩,
  ⟨some 55,.build [.int .i64 0,.int .i64 0,.int .i64 0,.int .i64 0,.int .i64 0,.bool false] [(0,1),(1,1),(2,1),(3,1),(4,1)],[.t 44,.t 46,.t 49,.t 51,.t 54],none⟩,
  ⟨some 56,.bslice 75 6 [.int .i64 0,.int .i64 0,.int .i64 0,.int .i64 0,.int .i64 0,.bool false] 1 [0],[.t 55],none⟩,
  ⟨some 57,.append 75 6 48,[.t 42,.t 56],none⟩,
  ⟨some 6,.mv,[.t 57],none⟩]
def a14r9 : List IOp := [⟨some 58,.mv,[.t 6],none⟩,
  ⟨some 4,.mv,[.t 58],none⟩]
def a14 : AFunc := ⟨59,[.tmp 4],(.seq (.region a14r0 [0,1]) (.seq (.region a14r1 [0,1,5]) (.seq (.region a14r2 [0,1,5,6]) (.seq (.seq (.region a14r3 [0,1,5,6,7]) (.block 0 (.loop (.seq (.seq (.region a14r4 [0,1,5,6,7,23]) (.cond (.t 23) .skip (.exit 0))) (.seq (.block 1 (.region a14r5 [0,1,5,6,7])) (.region a14r6 [0,1,5,6,7])))))) (.seq (.seq (.region a14r7 [0,6,41]) (.cond (.t 41) (.region a14r8 [6]) .skip)) (.seq (.region a14r9 [4]) .ret))))))⟩
theorem a14_ok : compileF Tryd.prog (lk [(0,⟨[0,1],[],[]⟩),(1,⟨[0,1,5],[],[]⟩),(2,⟨[0,1,5,6],[],[]⟩),(3,⟨[0,1,5,6,7],[],[]⟩),(4,⟨[0,1,5,6,7,23],[],[]⟩),(5,⟨[0,1,5,6,7],[],[]⟩),(6,⟨[0,1,5,6,7],[],[]⟩),(7,⟨[0,6,41],[],[]⟩),(8,⟨[6],[],[]⟩),(9,⟨[4],[],[]⟩)]) Tryd.f14 = some a14 := by kernel_rfl

/- (*payroll/payrollgen.Tape).Windows -/
def a15r0 : List IOp := [⟨some 4,.mv,[.c (.nils)],none⟩]
def a15r1 : List IOp := [⟨some 5,.mv,[.c (.nils)],none⟩]
def a15r2 : List IOp := [⟨some 8,.mv,[.t 0],none⟩,
  ⟨some 9,.call 29,[.t 8,.c (.int .i64 4)],none⟩,
  ⟨some 6,.mv,[.t 9],none⟩]
def a15r3 : List IOp := [⟨some 10,.mv,[.t 6],none⟩,
  ⟨some 11,.bin .gtr,[.t 10,.c (.int .i64 0)],none⟩]
def a15r4 : List (Nat × DOp) := [(0,⟨⟨some 14,.bslice 9 1 [.str ⟨#[]⟩] 4 [0,1,2,3],[.c (.str ⟨#[110,105,103,104,116]⟩),.c (.str ⟨#[108,97,116,101]⟩),.c (.str ⟨#[115,117,110,100,97,121]⟩),.c (.str ⟨#[104,111,108,105,100,97,121]⟩)],none⟩,some 0,[1,2,5,6,7,8,9,10,11,12,13,14,15,16,17,18,19,20,21,22,24]⟩),
  (1,⟨⟨some 15,.mv,[.t 0],none⟩,none,[0,5,6,10,12,13,15,16,18,19,21,24]⟩),
  (5,⟨⟨some 19,.bslice 9 1 [.str ⟨#[]⟩] 4 [0,1,2,3],[.c (.str ⟨#[]⟩),.c (.str ⟨#[97]⟩),.c (.str ⟨#[97]⟩),.c (.str ⟨#[98]⟩)],none⟩,some 1,[0,1,2,3,4,6,7,10,11,12,13,14,15,16,17,18,19,20,21,22,24]⟩),
  (6,⟨⟨some 20,.mv,[.t 0],none⟩,none,[0,1,2,3,4,5,10,12,13,15,16,18,19,21,24]⟩),
  (10,⟨⟨some 24,.mv,[.t 0],none⟩,none,[0,1,2,3,4,5,6,7,8,9,12,13,15,16,18,19,21,24]⟩),
  (12,⟨⟨some 26,.mv,[.t 0],none⟩,none,[0,1,2,3,4,5,6,7,8,9,10,11,13,15,16,18,19,21,24]⟩),
  (13,⟨⟨some 27,.bslice 3 1 [.int .i64 0] 4 [0,1,2,3],[.c (.int .i64 1320),.c (.int .i64 0),.c (.int .i64 1080),.c (.int .i64 360)],none⟩,some 2,[0,1,2,3,4,5,6,7,8,9,10,11,12,15,16,18,19,21,24]⟩),
  (15,⟨⟨some 29,.mv,[.t 0],none⟩,none,[0,1,2,3,4,5,6,7,8,9,10,11,12,13,14,16,18,19,21,24]⟩),
  (16,⟨⟨some 30,.bslice 3 1 [.int .i64 0] 5 [0,1,2,3,4],[.c (.int .i64 360),.c (.int .i64 1440),.c (.int .i64 0),.c (.int .i64 1380),.c (.int .i64 1080)],none⟩,some 3,[0,1,2,3,4,5,6,7,8,9,10,11,12,13,14,15,18,19,21,24]⟩),
  (18,⟨⟨some 32,.mv,[.t 0],none⟩,none,[0,1,2,3,4,5,6,7,8,9,10,11,12,13,14,15,16,17,19,21,24]⟩),
  (19,⟨⟨some 33,.bslice 3 1 [.int .i64 0] 5 [0,1,2,3,4],[.c (.int .i64 127),.c (.int .i64 64),.c (.int .i64 31),.c (.int .i64 8),.c (.int .i64 0)],none⟩,some 4,[0,1,2,3,4,5,6,7,8,9,10,11,12,13,14,15,16,17,18,21,24]⟩),
  (21,⟨⟨some 35,.mv,[.t 0],none⟩,none,[0,1,2,3,4,5,6,7,8,9,10,11,12,13,14,15,16,17,18,19,20,24]⟩),
  (24,⟨⟨some 7,.alloc 25 [.str ⟨#[]⟩,.str ⟨#[]⟩,.int .i64 0,.int .i64 0,.int .i64 0,.int .i64 0,.int .i64 0],[],none⟩,some 5,[0,1,2,3,4,5,6,7,8,9,10,11,12,13,14,15,16,17,18,19,20,21,22,23]⟩),
  (2,⟨⟨some 16,.call 29,[.t 15,.c (.int .i64 4)],none⟩,none,[0,5,6,10,12,13,15,16,18,19,21,24]⟩),
  (3,⟨⟨some 17,.indexAddr 1,[.t 14,.t 16],none⟩,none,[5,6,7,8,9,10,11,12,13,14,15,16,17,18,19,20,21,22,24]⟩),
  (4,⟨⟨some 18,.load1,[.t 17],none⟩,none,[5,6,7,8,9,10,11,12,13,14,15,16,17,18,19,20,21,22,24]⟩),
  (7,⟨⟨some 21,.call 29,[.t 20,.c (.int .i64 4)],none⟩,none,[0,3,4,5,10,12,13,15,16,18,19,21,24]⟩),
  (8,⟨⟨some 22,.indexAddr 1,[.t 19,.t 21],none⟩,none,[0,3,4,10,11,12,13,14,15,16,17,18,19,20,21,22,24]⟩),
  (9,⟨⟨some 23,.load1,[.t 22],none⟩,none,[0,3,4,10,11,12,13,14,15,16,17,18,19,20,21,22,24]⟩),
  (11,⟨⟨some 25,.call 29,[.t 24,.c (.int .i64 3)],none⟩,none,[0,3,4,5,8,9,12,13,15,16,18,19,21,24]⟩),
  (14,⟨⟨some 28,.call 28,[.t 26,.t 27],none⟩,none,[0,3,4,5,8,9,15,16,18,19,21,24]⟩),
  (17,⟨⟨some 31,.call 28,[.t 29,.t 30],none⟩,none,[0,3,4,5,8,9,18,19,21,24]⟩),
  (20,⟨⟨some 34,.call 28,[.t 32,.t 33],none⟩,none,[0,3,4,5,8,9,21,24]⟩),
  (22,⟨⟨some 36,.call 29,[.t 35,.c (.int .i64 3)],none⟩,none,[0,3,4,5,8,9,24]⟩),
  (23,⟨⟨some 37,.build [.str ⟨#[]⟩,.str ⟨#[]⟩,.int .i64 0,.int .i64 0,.int .i64 0,.int .i64 0,.int .i64 0] [(0,1),(1,1),(2,1),(3,1),(4,1),(5,1),(6,1)],[.t 18,.t 23,.t 25,.t 28,.t 31,.t 34,.t 36],none⟩,none,[24]⟩),
  (25,⟨⟨none,.store 7,[.t 7,.t 37],none⟩,none,[]⟩)]
def a15r5 : List IOp := [⟨some 38,.mv,[.t 1],none⟩,
  ⟨some 39,.mv,[.t 38],none⟩,
  ⟨some 40,.mv,[.t 0],some (39,true)⟩,
  ⟨some 41,.call 29,[.t 40,.c (.int .i64 12)],some (39,true)⟩,
  ⟨some 42,.bin .eql,[.t 41,.c (.int .i64 11)],some (39,true)⟩,
  ⟨some 43,.pick,[.t 39,.t 42,.c (.bool false)],none⟩]
def a15r6 : List IOp := [⟨some 44,.mv,[.t 0],none⟩,
  ⟨some 45,.bslice 3 1 [.int .i64 0] 3 [0,1,2],[.c (.int .i64 1440),.c (.int .i64 (-1)),.c (.int .i64 5)],none⟩,
  ⟨some 46,.call 28,[.t 44,.t 45],none⟩,
  ⟨some 47,.mv,[.t 0],none⟩,
  ⟨some 48,.bslice 3 1 [.int .i64 0] 2 [0,1],[.c (.int .i64 128),.c (.int .i64 127)],none⟩,
  ⟨some 49,.call 28,[.t 47,.t 48],none⟩,
  ⟨some 50,.fieldAddr 3,[.t 7],none⟩,
  ⟨none,.store 1,[.t 50,.t 46],none⟩,
  ⟨some 51,.fieldAddr 5,[.t 7],none⟩,
  ⟨none,.store 1,[.t 51,.t 49],none⟩]
def a15r7 : List IOp := [⟨some 52,.mv,[.t 5],none⟩,
  ⟨some 53,.loadA 7,[.t 7],none⟩,
  ⟨some 54,.bslice 25 7 [.str ⟨#[]⟩,.str ⟨#[]⟩,.int .i64 0,.int .i64 0,.int .i64 0,.int .i64 0,.int .i64 0] 1 [0],[.t 53],none⟩,
  ⟨some 55,.append 25 7 72,[.t 52,.t 54],none⟩,
  ⟨some 5,.mv,[.t 55],none⟩]
def a15r8 : List IOp := [⟨some 12,.mv,[.t 6],none⟩,
  ⟨some 13,.bin .sub,[.t 12,.c (.int .i64 1)],none⟩,
  ⟨some 6,.mv,[.t 13],none⟩]
def a15r9 : List IOp := [⟨some 56,.mv,[.t 5],none⟩,
  ⟨some 4,.mv,[.t 56],none⟩]
def a15 : AFunc := ⟨57,[.tmp 4],(.seq (.region a15r0 [0,1]) (.seq (.region a15r1 [0,1,5]) (.seq (.seq (.region a15r2 [0,1,5,6]) (.block 0 (.loop (.seq (.seq (.region a15r3 [0,1,5,6,11]) (.cond (.t 11) .skip (.exit 0))) (.seq (.block 1 (.seq (.draw a15r4 [(9,1),(9,1),(3,1),(3,1),(3,1),(25,7)] [0,1,5,6,7]) (.seq (.seq (.region a15r5 [0,1,5,6,7,43]) (.cond (.t 43) (.region a15r6 [0,1,5,6,7]) .skip)) (.region a15r7 [0,1,5,6])))) (.region a15r8 [0,1,5,6])))))) (.seq (.region a15r9 [4]) .ret))))⟩
theorem a15_ok : compileF Tryd.prog (lk [(0,⟨[0,1],[],[]⟩),(1,⟨[0,1,5],[],[]⟩),(2,⟨[0,1,5,6],[],[]⟩),(3,⟨[0,1,5,6,11],[],[]⟩),(4,⟨[0,1,5,6],[],[]⟩),(5,⟨[0,1,5,6,7],[[],[],[1],[0,2,1],[3,0,2,1],[],[],[6,2,1],[5,7,6,2,1],[8,5,7,6,2,1],[],[10,7,6,2,1],[],[],[12,13,11,10,7,6,2,1],[],[],[15,16,14,12,13,11,10,7,6,2,1],[],[],[18,19,17,15,16,14,12,13,11,10,7,6,2,1],[],[21,20,18,19,17,15,16,14,12,13,11,10,7,6,2,1],[4,9,11,14,17,20,22,3,0,2,1,8,5,7,6,10,12,13,15,16,18,19,21],[],[24,23,22,0,1,2,3,4,5,6,7,8,9,10,11,12,13,14,15,16,17,18,19,20,21]],[0,1,5,6,10,12,13,15,16,18,19,21,24,2,3,4,7,8,9,11,14,17,20,22,23,25]⟩),(6,⟨[0,1,5,6,7,43],[],[]⟩),(7,⟨[0,1,5,6,7],[],[]⟩),(8,⟨[0,1,5,6],[],[]⟩),(9,⟨[4],[],[]⟩)]) Tryd.f15 = some a15 := by kernel_rfl

/- (*payroll/payrollgen.Tape).Pieces -/
/- payroll/premium.Covers -/
def a17r0 : List IOp := [⟨some 4,.box 38 2,[.t 0],none⟩,
  ⟨some 6,.box 25 7,[.t 2],none⟩,
  ⟨some 8,.mv,[.c (.bool false)],none⟩]
def a17r1 : List IOp := [⟨some 9,.loadA 2,[.t 4],none⟩,
  ⟨some 10,.mv,[.t 1],none⟩,
  ⟨some 11,.loadA 7,[.t 6],none⟩,
  ⟨some 12,.bslice 25 7 [.str ⟨#[]⟩,.str ⟨#[]⟩,.int .i64 0,.int .i64 0,.int .i64 0,.int .i64 0,.int .i64 0] 1 [0],[.t 11],none⟩,
  ⟨some 13,.call 10,[.t 9,.t 10,.t 12],none⟩,
  ⟨some 14,.bin .neq,[.t 13,.c (.int .i64 0)],none⟩,
  ⟨some 15,.mv,[.t 14],none⟩,
  ⟨some 16,.mv,[.t 3],some (15,false)⟩,
  ⟨some 17,.bin .lss,[.t 16,.c (.int .i64 0)],some (15,false)⟩,
  ⟨some 18,.pick,[.t 15,.c (.bool true),.t 17],none⟩,
  ⟨some 19,.mv,[.t 18],none⟩,
  ⟨some 20,.mv,[.t 3],some (19,false)⟩,
  ⟨some 21,.bin .gtr,[.t 20,.c (.int .i64 120968639)],some (19,false)⟩,
  ⟨some 22,.pick,[.t 19,.c (.bool true),.t 21],none⟩]
def a17r2 : List IOp := [⟨some 8,.mv,[.c (.bool false)],none⟩]
def a17r3 : List (Nat × DOp) := [(0,⟨⟨some 23,.loadA 7,[.t 6],none⟩,none,[1,2,3,4,5]⟩),
  (1,⟨⟨some 24,.loadA 2,[.t 4],none⟩,none,[0,2,3,4]⟩),
  (2,⟨⟨some 25,.mv,[.t 1],none⟩,none,[0,1,4]⟩),
  (4,⟨⟨some 27,.mv,[.t 3],none⟩,none,[0,1,2,3]⟩),
  (3,⟨⟨some 26,.call 32,[.t 25],none⟩,none,[0,1,4]⟩),
  (5,⟨⟨some 28,.call 31,[.t 24,.t 26,.t 27],none⟩,none,[0]⟩),
  (6,⟨⟨some 29,.call 30,[.t 23,.t 28],none⟩,none,[]⟩),
  (7,⟨⟨some 8,.mv,[.t 29],none⟩,none,[]⟩)]
def a17 : AFunc := ⟨30,[.tmp 8],(.seq (.region a17r0 [1,3,4,6]) (.seq (.seq (.region a17r1 [1,3,4,6,22]) (.cond (.t 22) (.seq (.region a17r2 [8]) .ret) .skip)) (.seq (.draw a17r3 [] [8]) .ret)))⟩
theorem a17_ok : compileF Tryd.prog (lk [(0,⟨[1,3,4,6],[],[]⟩),(1,⟨[1,3,4,6,22],[],[]⟩),(2,⟨[8],[],[]⟩),(3,⟨[8],[[],[],[],[2],[],[1,3,4,2],[0,5,1,3,4,2],[6,0,1,2,3,4,5]],[0,1,2,4,3,5,6,7]⟩)]) Tryd.f17 = some a17 := by kernel_rfl

/- payroll/payrollref13.Covers -/
/- (*payroll/payrollgen.Tape).Near -/
def a19r0 : List IOp := [⟨some 2,.mv,[.c (.int .i64 0)],none⟩]
def a19r1 : List IOp := [⟨some 3,.mv,[.t 0],none⟩,
  ⟨some 4,.call 29,[.t 3,.c (.int .i64 10)],none⟩,
  ⟨some 5,.bin .mul,[.t 4,.c (.int .i64 1440)],none⟩,
  ⟨some 6,.bin .add,[.c (.int .i64 29453760),.t 5],none⟩,
  ⟨some 7,.mv,[.t 0],none⟩,
  ⟨some 8,.call 29,[.t 7,.c (.int .i64 97)],none⟩,
  ⟨some 9,.bin .mul,[.t 8,.c (.int .i64 15)],none⟩,
  ⟨some 10,.bin .add,[.t 6,.t 9],none⟩,
  ⟨some 11,.mv,[.t 0],none⟩,
  ⟨some 12,.call 29,[.t 11,.c (.int .i64 8)],none⟩,
  ⟨some 13,.bin .quo,[.t 12,.c (.int .i64 6)],none⟩,
  ⟨some 14,.bin .add,[.t 10,.t 13],none⟩,
  ⟨some 2,.mv,[.t 14],none⟩]
def a19 : AFunc := ⟨15,[.tmp 2],(.seq (.region a19r0 [0]) (.seq (.region a19r1 [2]) .ret))⟩
theorem a19_ok : compileF Tryd.prog (lk [(0,⟨[0],[],[]⟩),(1,⟨[2],[],[]⟩)]) Tryd.f19 = some a19 := by kernel_rfl

/- payroll/payrolllaw13.same -/
def a20r0 : List IOp := [⟨some 4,.mv,[.c (.bool false)],none⟩]
def a20r1 : List IOp := [⟨some 6,.mv,[.t 0],none⟩,
  ⟨some 7,.len,[.t 6],none⟩,
  ⟨some 8,.mv,[.t 1],none⟩,
  ⟨some 9,.len,[.t 8],none⟩,
  ⟨some 10,.bin .neq,[.t 7,.t 9],none⟩]
def a20r2 : List IOp := [⟨some 4,.mv,[.c (.bool false)],none⟩]
def a20r3 : List IOp := [⟨some 5,.mv,[.c (.int .i64 0)],none⟩]
def a20r4 : List IOp := [⟨some 11,.mv,[.t 5],none⟩,
  ⟨some 12,.mv,[.t 0],none⟩,
  ⟨some 13,.len,[.t 12],none⟩,
  ⟨some 14,.bin .lss,[.t 11,.t 13],none⟩]
def a20r5 : List (Nat × DOp) := [(0,⟨⟨some 17,.mv,[.t 0],none⟩,none,[1,4,5,6,7]⟩),
  (1,⟨⟨some 18,.mv,[.t 5],none⟩,none,[0,4,5,6,7]⟩),
  (2,⟨⟨some 19,.indexAddr 3,[.t 17,.t 18],none⟩,none,[4,5,6,7]⟩),
  (3,⟨⟨some 20,.loadA 3,[.t 19],none⟩,none,[4,5,6,7]⟩),
  (4,⟨⟨some 21,.mv,[.t 1],none⟩,none,[0,1,2,3,5]⟩),
  (5,⟨⟨some 22,.mv,[.t 5],none⟩,none,[0,1,2,3,4]⟩),
  (6,⟨⟨some 23,.indexAddr 3,[.t 21,.t 22],none⟩,none,[0,1,2,3]⟩),
  (7,⟨⟨some 24,.loadA 3,[.t 23],none⟩,none,[0,1,2,3]⟩),
  (8,⟨⟨some 25,.eqA true [.int .i64,.str,.int .i64],[.t 20,.t 24],none⟩,none,[]⟩)]
def a20r6 : List IOp := [⟨some 4,.mv,[.c (.bool false)],none⟩]
def a20r7 : List IOp := [⟨some 15,.mv,[.t 5],none⟩,
  ⟨some 16,.bin .add,[.t 15,.c (.int .i64 1)],none⟩,
  ⟨some 5,.mv,[.t 16],none⟩]
def a20r8 : List IOp := [⟨some 4,.mv,[.c (.bool true)],none⟩]
def a20 : AFunc := ⟨26,[.tmp 4],(.seq (.region a20r0 [0,1]) (.seq (.seq (.region a20r1 [0,1,10]) (.cond (.t 10) (.seq (.region a20r2 [4]) .ret) .skip)) (.seq (.seq (.region a20r3 [0,1,5]) (.block 0 (.loop (.seq (.seq (.region a20r4 [0,1,5,14]) (.cond (.t 14) .skip (.exit 0))) (.seq (.block 1 (.seq (.draw a20r5 [] [0,1,5,25]) (.cond (.t 25) (.seq (.region a20r6 [4]) .ret) .skip))) (.region a20r7 [0,1,5])))))) (.seq (.region a20r8 [4]) .ret))))⟩
theorem a20_ok : compileF Tryd.prog (lk [(0,⟨[0,1],[],[]⟩),(1,⟨[0,1,10],[],[]⟩),(2,⟨[4],[],[]⟩),(3,⟨[0,1,5],[],[]⟩),(4,⟨[0,1,5,14],[],[]⟩),(5,⟨[0,1,5],[],[]⟩),(6,⟨[0,1,5,25],[[],[],[0,1],[2,0,1],[],[],[4,5],[6,4,5],[3,7,2,0,1,6,4,5]],[0,1,2,3,4,5,6,7,8]⟩),(7,⟨[4],[],[]⟩),(8,⟨[4],[],[]⟩)]) Tryd.f20 = some a20 := by kernel_rfl

/- payroll/premium.checkPieces -/
def a21r0 : List IOp := [⟨some 2,.mv,[.c (.int .i64 0)],none⟩]
def a21r1 : List IOp := [⟨some 6,.mv,[.t 0],none⟩,
  ⟨some 7,.len,[.t 6],none⟩,
  ⟨some 8,.bin .gtr,[.t 7,.c (.int .i64 4096)],none⟩]
def a21r2 : List IOp := [⟨some 2,.mv,[.c (.int .i64 3)],none⟩]
def a21r3 : List IOp := [⟨some 3,.mv,[.c (.int .i64 0)],none⟩]
def a21r4 : List IOp := [⟨some 9,.mv,[.t 0],none⟩,
  ⟨some 10,.len,[.t 9],none⟩,
  ⟨some 11,.mv,[.c (.int .i64 0)],none⟩]
def a21r5 : List IOp := [⟨some 12,.bin .lss,[.t 11,.t 10],none⟩]
def a21r6 : List IOp := [⟨some 13,.indexAddr 4,[.t 9,.t 11],none⟩,
  ⟨some 14,.loadA 4,[.t 13],none⟩,
  ⟨some 5,.alloc 31 [.int .i64 0,.int .i64 0,.int .i64 0,.str ⟨#[]⟩],[],none⟩,
  ⟨none,.store 4,[.t 5,.t 14],none⟩]
def a21r7 : List IOp := [⟨some 15,.fieldAddr 0,[.t 5],none⟩,
  ⟨some 16,.load1,[.t 15],none⟩,
  ⟨some 17,.bin .lss,[.t 16,.c (.int .i64 0)],none⟩,
  ⟨some 18,.mv,[.t 17],none⟩,
  ⟨some 19,.fieldAddr 0,[.t 5],some (18,false)⟩,
  ⟨some 20,.load1,[.t 19],some (18,false)⟩,
  ⟨some 21,.bin .gtr,[.t 20,.c (.int .i64 84005)],some (18,false)⟩,
  ⟨some 22,.pick,[.t 18,.c (.bool true),.t 21],none⟩]
def a21r8 : List IOp := [⟨some 2,.mv,[.c (.int .i64 1)],none⟩]
def a21r9 : List IOp := [⟨some 23,.fieldAddr 1,[.t 5],none⟩,
  ⟨some 24,.fieldAddr 0,[.t 23],none⟩,
  ⟨some 25,.load1,[.t 24],none⟩,
  ⟨some 26,.bin .lss,[.t 25,.c (.int .i64 0)],none⟩,
  ⟨some 27,.mv,[.t 26],none⟩,
  ⟨some 28,.fieldAddr 1,[.t 5],some (27,false)⟩,
  ⟨some 29,.fieldAddr 1,[.t 28],some (27,false)⟩,
  ⟨some 30,.load1,[.t 29],some (27,false)⟩,
  ⟨some 31,.fieldAddr 1,[.t 5],some (27,false)⟩,
  ⟨some 32,.fieldAddr 0,[.t 31],some (27,false)⟩,
  ⟨some 33,.load1,[.t 32],some (27,false)⟩,
  ⟨some 34,.bin .leq,[.t 30,.t 33],some (27,false)⟩,
  ⟨some 35,.pick,[.t 27,.c (.bool true),.t 34],none⟩,
  ⟨some 36,.mv,[.t 35],none⟩,
  ⟨some 37,.fieldAddr 1,[.t 5],some (36,false)⟩,
  ⟨some 38,.fieldAddr 1,[.t 37],some (36,false)⟩,
  ⟨some 39,.load1,[.t 38],some (36,false)⟩,
  ⟨some 40,.bin .gtr,[.t 39,.c (.int .i64 120968640)],some (36,false)⟩,
  ⟨some 41,.pick,[.t 36,.c (.bool true),.t 40],none⟩]
def a21r10 : List IOp := [⟨some 2,.mv,[.c (.int .i64 1)],none⟩]
def a21r11 : List IOp := [⟨some 42,.mv,[.t 3],none⟩,
  ⟨some 43,.fieldAddr 1,[.t 5],none⟩,
  ⟨some 44,.fieldAddr 1,[.t 43],none⟩,
  ⟨some 45,.load1,[.t 44],none⟩,
  ⟨some 46,.fieldAddr 1,[.t 5],none⟩,
  ⟨some 47,.fieldAddr 0,[.t 46],none⟩,
  ⟨some 48,.load1,[.t 47],none⟩,
  ⟨some 49,.bin .sub,[.t 45,.t 48],none⟩,
  ⟨some 50,.bin .add,[.t 42,.t 49],none⟩,
  ⟨some 3,.mv,[.t 50],none⟩]
def a21r12 : List IOp := [⟨some 51,.bin .add,[.t 11,.c (.int .i64 1)],none⟩,
  ⟨some 11,.mv,[.t 51],none⟩]
def a21r13 : List IOp := [⟨some 52,.mv,[.t 3],none⟩,
  ⟨some 53,.bin .gtr,[.t 52,.c (.int .i64 100000)],none⟩]
def a21r14 : List IOp := [⟨some 2,.mv,[.c (.int .i64 3)],none⟩]
def a21r15 : List IOp := [⟨some 2,.mv,[.c (.int .i64 0)],none⟩]
def a21 : AFunc := ⟨54,[.tmp 2],(.seq (.region a21r0 [0]) (.seq (.seq (.region a21r1 [0,8]) (.cond (.t 8) (.seq (.region a21r2 [2]) .ret) .skip)) (.seq (.region a21r3 [0,3]) (.seq (.seq (.region a21r4 [3,9,10,11]) (.block 0 (.loop (.seq (.region a21r5 [3,9,10,11,12]) (.seq (.cond (.t 12) .skip (.exit 0)) (.seq (.block 1 (.seq (.region a21r6 [3,5,9,10,11]) (.seq (.seq (.region a21r7 [3,5,9,10,11,22]) (.cond (.t 22) (.seq (.region a21r8 [2]) .ret) .skip)) (.seq (.seq (.region a21r9 [3,5,9,10,11,41]) (.cond (.t 41) (.seq (.region a21r10 [2]) .ret) .skip)) (.region a21r11 [3,9,10,11]))))) (.region a21r12 [3,9,10,11]))))))) (.seq (.seq (.region a21r13 [53]) (.cond (.t 53) (.seq (.region a21r14 [2]) .ret) .skip)) (.seq (.region a21r15 [2]) .ret))))))⟩
theorem a21_ok : compileF Tryd.prog (lk [(0,⟨[0],[],[]⟩),(1,⟨[0,8],[],[]⟩),(2,⟨[2],[],[]⟩),(3,⟨[0,3],[],[]⟩),(4,⟨[3,9,10,11],[],[]⟩),(5,⟨[3,9,10,11,12],[],[]⟩),(6,⟨[3,5,9,10,11],[],[]⟩),(7,⟨[3,5,9,10,11,22],[],[]⟩),(8,⟨[2],[],[]⟩),(9,⟨[3,5,9,10,11,41],[],[]⟩),(10,⟨[2],[],[]⟩),(11,⟨[3,9,10,11],[],[]⟩),(12,⟨[3,9,10,11],[],[]⟩),(13,⟨[53],[],[]⟩),(14,⟨[2],[],[]⟩),(15,⟨[2],[],[]⟩)]) Tryd.f21 = some a21 := by kernel_rfl

/- payroll/premium.count -/
def a22r0 : List IOp := [⟨some 4,.box 38 2,[.t 0],none⟩,
  ⟨some 8,.mv,[.c (.nilm)],none⟩]
def a22r1 : List IOp := [⟨some 23,.mv,[.t 1],none⟩,
  ⟨some 24,.call 32,[.t 23],none⟩,
  ⟨some 9,.mv,[.t 24],none⟩]
def a22r2 : List IOp := [⟨some 25,.mkmap false [.int .i64],[],none⟩,
  ⟨some 10,.mv,[.t 25],none⟩]
def a22r3 : List IOp := [⟨some 26,.mkmap false [.int .i64],[],none⟩,
  ⟨some 11,.mv,[.t 26],none⟩]
def a22r4 : List IOp := [⟨some 27,.mv,[.t 3],none⟩,
  ⟨some 28,.len,[.t 27],none⟩,
  ⟨some 29,.mv,[.c (.int .i64 0)],none⟩]
def a22r5 : List IOp := [⟨some 30,.bin .lss,[.t 29,.t 28],none⟩]
def a22r6 : List IOp := [⟨some 31,.indexAddr 4,[.t 27,.t 29],none⟩,
  ⟨some 32,.loadA 4,[.t 31],none⟩,
  ⟨some 13,.alloc 31 [.int .i64 0,.int .i64 0,.int .i64 0,.str ⟨#[]⟩],[],none⟩,
  ⟨none,.store 4,[.t 13,.t 32],none⟩]
def a22r7 : List IOp := [⟨some 33,.mv,[.t 11],none⟩,
  ⟨some 34,.fieldAddr 0,[.t 13],none⟩,
  ⟨some 35,.load1,[.t 34],none⟩,
  ⟨some 36,.look false false [.int .i64] (.agg [.int .i64 0,.int .i64 0,.int .i64 0,.int .i64 0,.int .i64 0,.int .i64 0,.int .i64 0,.int .i64 0,.int .i64 0,.int .i64 0,.int .i64 0,.int .i64 0,.int .i64 0,.int .i64 0,.int .i64 0,.int .i64 0]),[.t 33,.t 35],none⟩,
  ⟨some 14,.alloc 64 [.int .i64 0,.int .i64 0,.int .i64 0,.int .i64 0,.int .i64 0,.int .i64 0,.int .i64 0,.int .i64 0,.int .i64 0,.int .i64 0,.int .i64 0,.int .i64 0,.int .i64 0,.int .i64 0,.int .i64 0,.int .i64 0],[],none⟩,
  ⟨none,.store 16,[.t 14,.t 36],none⟩]
def a22r8 : List IOp := [⟨some 37,.fieldAddr 1,[.t 13],none⟩,
  ⟨some 38,.fieldAddr 0,[.t 37],none⟩,
  ⟨some 39,.load1,[.t 38],none⟩,
  ⟨some 15,.mv,[.t 39],none⟩]
def a22r9 : List IOp := [⟨some 40,.mv,[.t 15],none⟩,
  ⟨some 41,.fieldAddr 1,[.t 13],none⟩,
  ⟨some 42,.fieldAddr 1,[.t 41],none⟩,
  ⟨some 43,.load1,[.t 42],none⟩,
  ⟨some 44,.bin .lss,[.t 40,.t 43],none⟩]
def a22r10 : List IOp := [⟨some 47,.loadA 2,[.t 4],none⟩,
  ⟨some 48,.mv,[.t 9],none⟩,
  ⟨some 49,.mv,[.t 15],none⟩,
  ⟨some 50,.call 31,[.t 47,.t 48,.t 49],none⟩,
  ⟨some 16,.alloc 79 [.int .i64 0,.int .i64 0,.bool false],[],none⟩,
  ⟨none,.store 3,[.t 16,.t 50],none⟩]
def a22r11 : List IOp := [⟨some 17,.mv,[.c (.int .i64 0)],none⟩]
def a22r12 : List IOp := [⟨some 51,.mv,[.t 2],none⟩,
  ⟨some 52,.len,[.t 51],none⟩,
  ⟨some 53,.mv,[.c (.int .i64 0)],none⟩]
def a22r13 : List IOp := [⟨some 54,.bin .lss,[.t 53,.t 52],none⟩]
def a22r14 : List IOp := [⟨some 55,.mv,[.t 53],none⟩,
  ⟨some 56,.indexAddr 7,[.t 51,.t 53],none⟩,
  ⟨some 57,.loadA 7,[.t 56],none⟩,
  ⟨some 19,.alloc 25 [.str ⟨#[]⟩,.str ⟨#[]⟩,.int .i64 0,.int .i64 0,.int .i64 0,.int .i64 0,.int .i64 0],[],none⟩,
  ⟨some 18,.mv,[.t 55],none⟩,
  ⟨none,.store 7,[.t 19,.t 57],none⟩]
def a22r15 : List IOp := [⟨some 58,.loadA 7,[.t 19],none⟩,
  ⟨some 59,.loadA 3,[.t 16],none⟩,
  ⟨some 60,.call 30,[.t 58,.t 59],none⟩]
def a22r16 : List IOp := [⟨some 61,.mv,[.t 17],none⟩,
  ⟨some 62,.mv,[.t 18],none⟩,
  ⟨some 63,.bin .shl,[.c (.int .i64 1),.t 62],none⟩,
  ⟨some 64,.bin .or,[.t 61,.t 63],none⟩,
  ⟨some 17,.mv,[.t 64],none⟩]
def a22r17 : List IOp := [⟨some 65,.bin .add,[.t 53,.c (.int .i64 1)],none⟩,
  ⟨some 53,.mv,[.t 65],none⟩]
def a22r18 : List IOp := [⟨some 67,.mv,[.t 10],none⟩,
  ⟨some 68,.mv,[.t 17],none⟩,
  ⟨some 69,.look true false [.int .i64] (.int .i64 0),[.t 67,.t 68],none⟩,
  ⟨some 66,.mv,[.t 69],none⟩,
  ⟨some 70,.extract 0,[.t 66],none⟩,
  ⟨some 71,.extract 1,[.t 66],none⟩,
  ⟨some 20,.mv,[.t 70],none⟩,
  ⟨some 21,.mv,[.t 71],none⟩]
def a22r19 : List IOp := [⟨some 72,.mv,[.t 21],none⟩,
  ⟨some 73,.not,[.t 72],none⟩]
def a22r20 : List IOp := [⟨some 74,.mv,[.t 2],none⟩,
  ⟨some 75,.mv,[.t 17],none⟩,
  ⟨some 76,.call 38,[.t 74,.t 75],none⟩,
  ⟨some 20,.mv,[.t 76],none⟩]
def a22r21 : List IOp := [⟨some 77,.mv,[.t 10],none⟩,
  ⟨some 78,.mv,[.t 17],none⟩,
  ⟨some 79,.mv,[.t 20],none⟩,
  ⟨none,.mset false [.int .i64],[.t 77,.t 78,.t 79],none⟩]
def a22r22 : List IOp := [⟨some 80,.mv,[.t 2],none⟩,
  ⟨some 81,.len,[.t 80],none⟩,
  ⟨some 82,.mv,[.c (.int .i64 0)],none⟩]
def a22r23 : List IOp := [⟨some 83,.bin .lss,[.t 82,.t 81],none⟩]
def a22r24 : List IOp := [⟨some 84,.mv,[.t 82],none⟩,
  ⟨some 22,.mv,[.t 84],none⟩]
def a22r25 : List (Nat × DOp) := [(0,⟨⟨some 85,.mv,[.t 22],none⟩,none,[3,4,5,6]⟩),
  (1,⟨⟨some 86,.indexArr 16 1,[.t 14,.t 85],none⟩,none,[3,4,5,6]⟩),
  (2,⟨⟨some 87,.load1,[.t 86],none⟩,none,[3,4,5,6]⟩),
  (3,⟨⟨some 88,.mv,[.t 20],none⟩,none,[0,1,2,4]⟩),
  (4,⟨⟨some 89,.mv,[.t 22],none⟩,none,[0,1,2,3]⟩),
  (5,⟨⟨some 90,.bin .shr,[.t 88,.t 89],none⟩,none,[0,1,2]⟩),
  (6,⟨⟨some 91,.bin .and,[.t 90,.c (.int .i64 1)],none⟩,none,[0,1,2]⟩),
  (7,⟨⟨some 92,.bin .add,[.t 87,.t 91],none⟩,none,[]⟩),
  (8,⟨⟨some 93,.indexArr 16 1,[.t 14,.t 85],none⟩,none,[]⟩),
  (9,⟨⟨none,.store 1,[.t 93,.t 92],none⟩,none,[]⟩)]
def a22r26 : List IOp := [⟨some 94,.bin .add,[.t 82,.c (.int .i64 1)],none⟩,
  ⟨some 82,.mv,[.t 94],none⟩]
def a22r27 : List IOp := [⟨some 45,.mv,[.t 15],none⟩,
  ⟨some 46,.bin .add,[.t 45,.c (.int .i64 1)],none⟩,
  ⟨some 15,.mv,[.t 46],none⟩]
def a22r28 : List IOp := [⟨some 95,.mv,[.t 11],none⟩,
  ⟨some 96,.fieldAddr 0,[.t 13],none⟩,
  ⟨some 97,.load1,[.t 96],none⟩,
  ⟨some 98,.loadA 16,[.t 14],none⟩,
  ⟨none,.mset false [.int .i64],[.t 95,.t 97,.t 98],none⟩]
def a22r29 : List IOp := [⟨some 99,.bin .add,[.t 29,.c (.int .i64 1)],none⟩,
  ⟨some 29,.mv,[.t 99],none⟩]
def a22r30 : List IOp := [⟨some 100,.mv,[.t 11],none⟩,
  ⟨some 8,.mv,[.t 100],none⟩]
def a22 : AFunc := ⟨101,[.tmp 8],(.seq (.region a22r0 [1,2,3,4]) (.seq (.region a22r1 [2,3,4,9]) (.seq (.region a22r2 [2,3,4,9,10]) (.seq (.region a22r3 [2,3,4,9,10,11]) (.seq (.seq (.region a22r4 [2,4,9,10,11,27,28,29]) (.block 0 (.loop (.seq (.region a22r5 [2,4,9,10,11,27,28,29,30]) (.seq (.cond (.t 30) .skip (.exit 0)) (.seq (.block 1 (.seq (.region a22r6 [2,4,9,10,11,13,27,28,29]) (.seq (.region a22r7 [2,4,9,10,11,13,14,27,28,29]) (.seq (.seq (.region a22r8 [2,4,9,10,11,13,14,15,27,28,29]) (.block 2 (.loop (.seq (.seq (.region a22r9 [2,4,9,10,11,13,14,15,27,28,29,44]) (.cond (.t 44) .skip (.exit 2))) (.seq (.block 3 (.seq (.region a22r10 [2,4,9,10,11,13,14,15,16,27,28,29]) (.seq (.region a22r11 [2,4,9,10,11,13,14,15,16,17,27,28,29]) (.seq (.seq (.region a22r12 [2,4,9,10,11,13,14,15,16,17,27,28,29,51,52,53]) (.block 4 (.loop (.seq (.region a22r13 [2,4,9,10,11,13,14,15,16,17,27,28,29,51,52,53,54]) (.seq (.cond (.t 54) .skip (.exit 4)) (.seq (.block 5 (.seq (.region a22r14 [2,4,9,10,11,13,14,15,16,17,18,19,27,28,29,51,52,53]) (.seq (.region a22r15 [2,4,9,10,11,13,14,15,16,17,18,27,28,29,51,52,53,60]) (.cond (.t 60) (.region a22r16 [2,4,9,10,11,13,14,15,16,17,27,28,29,51,52,53]) .skip)))) (.region a22r17 [2,4,9,10,11,13,14,15,16,17,27,28,29,51,52,53]))))))) (.seq (.region a22r18 [2,4,9,10,11,13,14,15,17,20,21,27,28,29]) (.seq (.seq (.region a22r19 [2,4,9,10,11,13,14,15,17,20,27,28,29,73]) (.cond (.t 73) (.seq (.region a22r20 [2,4,9,10,11,13,14,15,17,20,27,28,29]) (.region a22r21 [2,4,9,10,11,13,14,15,20,27,28,29])) .skip)) (.seq (.region a22r22 [2,4,9,10,11,13,14,15,20,27,28,29,81,82]) (.block 6 (.loop (.seq (.region a22r23 [2,4,9,10,11,13,14,15,20,27,28,29,81,82,83]) (.seq (.cond (.t 83) .skip (.exit 6)) (.seq (.block 7 (.seq (.region a22r24 [2,4,9,10,11,13,14,15,20,22,27,28,29,81,82]) (.draw a22r25 [] [2,4,9,10,11,13,14,15,20,27,28,29,81,82]))) (.region a22r26 [2,4,9,10,11,13,14,15,20,27,28,29,81,82]))))))))))))) (.region a22r27 [2,4,9,10,11,13,14,15,27,28,29])))))) (.region a22r28 [2,4,9,10,11,27,28,29]))))) (.region a22r29 [2,4,9,10,11,27,28,29]))))))) (.seq (.region a22r30 [8]) .ret))))))⟩
theorem a22_ok : compileF Tryd.prog (lk [(0,⟨[1,2,3,4],[],[]⟩),(1,⟨[2,3,4,9],[],[]⟩),(2,⟨[2,3,4,9,10],[],[]⟩),(3,⟨[2,3,4,9,10,11],[],[]⟩),(4,⟨[2,4,9,10,11,27,28,29],[],[]⟩),(5,⟨[2,4,9,10,11,27,28,29,30],[],[]⟩),(6,⟨[2,4,9,10,11,13,27,28,29],[],[]⟩),(7,⟨[2,4,9,10,11,13,14,27,28,29],[],[]⟩),(8,⟨[2,4,9,10,11,13,14,15,27,28,29],[],[]⟩),(9,⟨[2,4,9,10,11,13,14,15,27,28,29,44],[],[]⟩),(10,⟨[2,4,9,10,11,13,14,15,27,28,29],[],[]⟩),(11,⟨[2,4,9,10,11,13,14,15,16,27,28,29],[],[]⟩),(12,⟨[2,4,9,10,11,13,14,15,16,17,27,28,29],[],[]⟩),(13,⟨[2,4,9,10,11,13,14,15,16,17,27,28,29,51,52,53],[],[]⟩),(14,⟨[2,4,9,10,11,13,14,15,16,17,27,28,29,51,52,53,54],[],[]⟩),(15,⟨[2,4,9,10,11,13,14,15,16,17,18,19,27,28,29,51,52,53],[],[]⟩),(16,⟨[2,4,9,10,11,13,14,15,16,17,18,27,28,29,51,52,53,60],[],[]⟩),(17,⟨[2,4,9,10,11,13,14,15,16,17,27,28,29,51,52,53],[],[]⟩),(18,⟨[2,4,9,10,11,13,14,15,16,17,27,28,29,51,52,53],[],[]⟩),(19,⟨[2,4,9,10,11,13,14,15,17,20,21,27,28,29],[],[]⟩),(20,⟨[2,4,9,10,11,13,14,15,17,20,27,28,29,73],[],[]⟩),(21,⟨[2,4,9,10,11,13,14,15,17,20,27,28,29],[],[]⟩),(22,⟨[2,4,9,10,11,13,14,15,20,27,28,29],[],[]⟩),(23,⟨[2,4,9,10,11,13,14,15,20,27,28,29,81,82],[],[]⟩),(24,⟨[2,4,9,10,11,13,14,15,20,27,28,29,81,82,83],[],[]⟩),(25,⟨[2,4,9,10,11,13,14,15,20,22,27,28,29,81,82],[],[]⟩),(26,⟨[2,4,9,10,11,13,14,15,20,27,28,29,81,82],[[],[0],[1,0],[],[],[3,4],[5,3,4],[2,6,1,0,5,3,4],[0,1,2,3,4,5,6,7],[8,7,0,1,2,3,4,5,6]],[0,1,2,3,4,5,6,7,8,9]⟩),(27,⟨[2,4,9,10,11,13,14,15,20,27,28,29,81,82],[],[]⟩),(28,⟨[2,4,9,10,11,27,28,29],[],[]⟩),(29,⟨[2,4,9,10,11,27,28,29],[],[]⟩),(30,⟨[8],[],[]⟩)]) Tryd.f22 = some a22 := by kernel_rfl

/- slices.Sorted[int] -/
def a23r0 : List IOp := [⟨some 2,.mv,[.c (.nils)],none⟩]
def a23r1 : List IOp := [⟨some 4,.mv,[.t 0],none⟩,
  ⟨some 5,.call 39,[.t 4],none⟩,
  ⟨some 3,.mv,[.t 5],none⟩]
def a23r2 : List IOp := [⟨some 6,.mv,[.t 3],none⟩,
  ⟨some 7,.call 40,[.t 6],none⟩]
def a23r3 : List IOp := [⟨some 8,.mv,[.t 3],none⟩,
  ⟨some 2,.mv,[.t 8],none⟩]
def a23 : AFunc := ⟨9,[.tmp 2],(.seq (.region a23r0 [0]) (.seq (.region a23r1 [3]) (.seq (.region a23r2 [3]) (.seq (.region a23r3 [2]) .ret))))⟩
/- maps.Keys[map[int][16]int,int,[16]int] -/
def a24r0 : List IOp := [⟨some 1,.box 58 1,[.t 0],none⟩,
  ⟨some 2,.mv,[],none⟩]
def a24r1 : List IOp := [⟨some 3,.mkfn 41,[.t 1],none⟩,
  ⟨some 2,.mv,[.t 3],none⟩]
def a24 : AFunc := ⟨4,[.tmp 2],(.seq (.region a24r0 [1]) (.seq (.region a24r1 [2]) .ret))⟩
/- payroll/clock.Valid -/
def a25r0 : List IOp := [⟨some 1,.box 38 2,[.t 0],none⟩,
  ⟨some 2,.mv,[.c (.int .i64 0)],none⟩]
def a25r1 : List IOp := [⟨some 5,.fieldAddr 1,[.t 1],none⟩,
  ⟨some 6,.load1,[.t 5],none⟩,
  ⟨some 7,.len,[.t 6],none⟩,
  ⟨some 8,.bin .gtr,[.t 7,.c (.int .i64 64)],none⟩]
def a25r2 : List IOp := [⟨some 2,.mv,[.c (.int .i64 3)],none⟩]
def a25r3 : List IOp := [⟨some 9,.fieldAddr 0,[.t 1],none⟩,
  ⟨some 10,.load1,[.t 9],none⟩,
  ⟨some 11,.call 42,[.t 10],none⟩,
  ⟨some 12,.not,[.t 11],none⟩]
def a25r4 : List IOp := [⟨some 2,.mv,[.c (.int .i64 2)],none⟩]
def a25r5 : List IOp := [⟨some 13,.fieldAddr 1,[.t 1],none⟩,
  ⟨some 14,.load1,[.t 13],none⟩,
  ⟨some 15,.len,[.t 14],none⟩,
  ⟨some 16,.mv,[.c (.int .i64 0)],none⟩]
def a25r6 : List IOp := [⟨some 17,.bin .lss,[.t 16,.t 15],none⟩]
def a25r7 : List IOp := [⟨some 18,.mv,[.t 16],none⟩,
  ⟨some 19,.indexAddr 2,[.t 14,.t 16],none⟩,
  ⟨some 20,.loadA 2,[.t 19],none⟩,
  ⟨some 4,.alloc 73 [.int .i64 0,.int .i64 0],[],none⟩,
  ⟨some 3,.mv,[.t 18],none⟩,
  ⟨none,.store 2,[.t 4,.t 20],none⟩]
def a25r8 : List IOp := [⟨some 21,.fieldAddr 0,[.t 4],none⟩,
  ⟨some 22,.load1,[.t 21],none⟩,
  ⟨some 23,.bin .lss,[.t 22,.c (.int .i64 0)],none⟩,
  ⟨some 24,.mv,[.t 23],none⟩,
  ⟨some 25,.fieldAddr 0,[.t 4],some (24,false)⟩,
  ⟨some 26,.load1,[.t 25],some (24,false)⟩,
  ⟨some 27,.bin .gtr,[.t 26,.c (.int .i64 120968639)],some (24,false)⟩,
  ⟨some 28,.pick,[.t 24,.c (.bool true),.t 27],none⟩,
  ⟨some 29,.mv,[.t 28],none⟩,
  ⟨some 30,.fieldAddr 1,[.t 4],some (29,false)⟩,
  ⟨some 31,.load1,[.t 30],some (29,false)⟩,
  ⟨some 32,.call 42,[.t 31],some (29,false)⟩,
  ⟨some 33,.not,[.t 32],some (29,false)⟩,
  ⟨some 34,.pick,[.t 29,.c (.bool true),.t 33],none⟩]
def a25r9 : List IOp := [⟨some 2,.mv,[.c (.int .i64 2)],none⟩]
def a25r10 : List (Nat × DOp) := [(0,⟨⟨some 35,.mv,[.t 3],none⟩,none,[]⟩),
  (1,⟨⟨some 36,.bin .gtr,[.t 35,.c (.int .i64 0)],none⟩,none,[]⟩),
  (2,⟨⟨some 37,.mv,[.t 36],none⟩,none,[]⟩),
  (3,⟨⟨some 38,.fieldAddr 0,[.t 4],some (37,true)⟩,none,[5,6,7,8,9,10,11]⟩),
  (4,⟨⟨some 39,.load1,[.t 38],some (37,true)⟩,none,[5,6,7,8,9,10,11]⟩),
  (5,⟨⟨some 40,.fieldAddr 1,[.t 1],some (37,true)⟩,none,[3,4,7,8]⟩),
  (6,⟨⟨some 41,.load1,[.t 40],some (37,true)⟩,none,[3,4,7,8]⟩),
  (7,⟨⟨some 42,.mv,[.t 3],some (37,true)⟩,none,[3,4,5,6]⟩),
  (8,⟨⟨some 43,.bin .sub,[.t 42,.c (.int .i64 1)],some (37,true)⟩,none,[3,4,5,6]⟩),
  (9,⟨⟨some 44,.indexAddr 2,[.t 41,.t 43],some (37,true)⟩,none,[3,4]⟩),
  (10,⟨⟨some 45,.fieldAddr 0,[.t 44],some (37,true)⟩,none,[3,4]⟩),
  (11,⟨⟨some 46,.load1,[.t 45],some (37,true)⟩,none,[3,4]⟩),
  (12,⟨⟨some 47,.bin .leq,[.t 39,.t 46],some (37,true)⟩,none,[]⟩),
  (13,⟨⟨some 48,.pick,[.t 37,.t 47,.c (.bool false)],none⟩,none,[]⟩)]
def a25r11 : List IOp := [⟨some 2,.mv,[.c (.int .i64 1)],none⟩]
def a25r12 : List IOp := [⟨some 49,.bin .add,[.t 16,.c (.int .i64 1)],none⟩,
  ⟨some 16,.mv,[.t 49],none⟩]
def a25r13 : List IOp := [⟨some 2,.mv,[.c (.int .i64 0)],none⟩]
def a25 : AFunc := ⟨50,[.tmp 2],(.seq (.region a25r0 [1]) (.seq (.seq (.region a25r1 [1,8]) (.cond (.t 8) (.seq (.region a25r2 [2]) .ret) .skip)) (.seq (.seq (.region a25r3 [1,12]) (.cond (.t 12) (.seq (.region a25r4 [2]) .ret) .skip)) (.seq (.seq (.region a25r5 [1,14,15,16]) (.block 0 (.loop (.seq (.region a25r6 [1,14,15,16,17]) (.seq (.cond (.t 17) .skip (.exit 0)) (.seq (.block 1 (.seq (.region a25r7 [1,3,4,14,15,16]) (.seq (.seq (.region a25r8 [1,3,4,14,15,16,34]) (.cond (.t 34) (.seq (.region a25r9 [2]) .ret) .skip)) (.seq (.draw a25r10 [] [1,14,15,16,48]) (.cond (.t 48) (.seq (.region a25r11 [2]) .ret) .skip))))) (.region a25r12 [1,14,15,16]))))))) (.seq (.region a25r13 [2]) .ret)))))⟩
theorem a25_ok : compileF Tryd.prog (lk [(0,⟨[1],[],[]⟩),(1,⟨[1,8],[],[]⟩),(2,⟨[2],[],[]⟩),(3,⟨[1,12],[],[]⟩),(4,⟨[2],[],[]⟩),(5,⟨[1,14,15,16],[],[]⟩),(6,⟨[1,14,15,16,17],[],[]⟩),(7,⟨[1,3,4,14,15,16],[],[]⟩),(8,⟨[1,3,4,14,15,16,34],[],[]⟩),(9,⟨[2],[],[]⟩),(10,⟨[1,14,15,16,48],[[],[0],[1,0],[2,1,0],[3,2,1,0],[2,1,0],[5,2,1,0],[2,1,0],[7,2,1,0],[6,8,2,5,1,0,7],[9,2,6,8,5,1,0,7],[10,2,9,6,8,5,1,0,7],[4,11,2,3,1,0,10,9,6,8,5,7],[2,12,1,0,4,11,3,10,9,6,8,5,7]],[0,1,2,3,4,5,6,7,8,9,10,11,12,13]⟩),(11,⟨[2],[],[]⟩),(12,⟨[1,14,15,16],[],[]⟩),(13,⟨[2],[],[]⟩)]) Tryd.f25 = some a25 := by kernel_rfl

/- payroll/calendar.Valid -/
def a26r0 : List IOp := [⟨some 2,.mv,[.c (.int .i64 0)],none⟩]
def a26r1 : List IOp := [⟨some 5,.mv,[.t 0],none⟩,
  ⟨some 6,.len,[.t 5],none⟩,
  ⟨some 7,.bin .gtr,[.t 6,.c (.int .i64 1024)],none⟩]
def a26r2 : List IOp := [⟨some 2,.mv,[.c (.int .i64 3)],none⟩]
def a26r3 : List IOp := [⟨some 8,.mv,[.t 0],none⟩,
  ⟨some 9,.len,[.t 8],none⟩,
  ⟨some 10,.mv,[.c (.int .i64 0)],none⟩]
def a26r4 : List IOp := [⟨some 11,.bin .lss,[.t 10,.t 9],none⟩]
def a26r5 : List IOp := [⟨some 12,.indexAddr 6,[.t 8,.t 10],none⟩,
  ⟨some 13,.loadA 6,[.t 12],none⟩,
  ⟨some 4,.alloc 75 [.int .i64 0,.int .i64 0,.int .i64 0,.int .i64 0,.int .i64 0,.bool false],[],none⟩,
  ⟨none,.store 6,[.t 4,.t 13],none⟩]
def a26r6 : List IOp := [⟨some 14,.loadA 6,[.t 4],none⟩,
  ⟨some 15,.call 43,[.t 14],none⟩,
  ⟨some 16,.not,[.t 15],none⟩]
def a26r7 : List IOp := [⟨some 2,.mv,[.c (.int .i64 1)],none⟩]
def a26r8 : List IOp := [⟨some 17,.bin .add,[.t 10,.c (.int .i64 1)],none⟩,
  ⟨some 10,.mv,[.t 17],none⟩]
def a26r9 : List IOp := [⟨some 2,.mv,[.c (.int .i64 0)],none⟩]
def a26 : AFunc := ⟨18,[.tmp 2],(.seq (.region a26r0 [0]) (.seq (.seq (.region a26r1 [0,7]) (.cond (.t 7) (.seq (.region a26r2 [2]) .ret) .skip)) (.seq (.seq (.region a26r3 [8,9,10]) (.block 0 (.loop (.seq (.region a26r4 [8,9,10,11]) (.seq (.cond (.t 11) .skip (.exit 0)) (.seq (.block 1 (.seq (.region a26r5 [4,8,9,10]) (.seq (.region a26r6 [8,9,10,16]) (.cond (.t 16) (.seq (.region a26r7 [2]) .ret) .skip)))) (.region a26r8 [8,9,10]))))))) (.seq (.region a26r9 [2]) .ret))))⟩
theorem a26_ok : compileF Tryd.prog (lk [(0,⟨[0],[],[]⟩),(1,⟨[0,7],[],[]⟩),(2,⟨[2],[],[]⟩),(3,⟨[8,9,10],[],[]⟩),(4,⟨[8,9,10,11],[],[]⟩),(5,⟨[4,8,9,10],[],[]⟩),(6,⟨[8,9,10,16],[],[]⟩),(7,⟨[2],[],[]⟩),(8,⟨[8,9,10],[],[]⟩),(9,⟨[2],[],[]⟩)]) Tryd.f26 = some a26 := by kernel_rfl

/- payroll/premium.validWindow -/
def a27r0 : List IOp := [⟨some 1,.box 25 7,[.t 0],none⟩,
  ⟨some 2,.mv,[.c (.bool false)],none⟩]
def a27r1 : List IOp := [⟨some 3,.fieldAddr 0,[.t 1],none⟩,
  ⟨some 4,.load1,[.t 3],none⟩,
  ⟨some 5,.call 44,[.t 4],none⟩,
  ⟨some 6,.mv,[.t 5],none⟩,
  ⟨some 7,.fieldAddr 1,[.t 1],some (6,true)⟩,
  ⟨some 8,.load1,[.t 7],some (6,true)⟩,
  ⟨some 9,.bin .eql,[.t 8,.c (.str ⟨#[]⟩)],some (6,true)⟩,
  ⟨some 10,.mv,[.t 9],some (6,true)⟩,
  ⟨some 11,.fieldAddr 1,[.t 1],some (10,false)⟩,
  ⟨some 12,.load1,[.t 11],some (10,false)⟩,
  ⟨some 13,.call 44,[.t 12],some (10,false)⟩,
  ⟨some 14,.pick,[.t 10,.c (.bool true),.t 13],some (6,true)⟩,
  ⟨some 15,.pick,[.t 6,.t 14,.c (.bool false)],none⟩,
  ⟨some 16,.mv,[.t 15],none⟩,
  ⟨some 17,.fieldAddr 2,[.t 1],some (16,true)⟩,
  ⟨some 18,.load1,[.t 17],some (16,true)⟩,
  ⟨some 19,.bin .geq,[.t 18,.c (.int .i64 0)],some (16,true)⟩,
  ⟨some 20,.pick,[.t 16,.t 19,.c (.bool false)],none⟩,
  ⟨some 21,.mv,[.t 20],none⟩,
  ⟨some 22,.fieldAddr 2,[.t 1],some (21,true)⟩,
  ⟨some 23,.load1,[.t 22],some (21,true)⟩,
  ⟨some 24,.bin .leq,[.t 23,.c (.int .i64 1000)],some (21,true)⟩,
  ⟨some 25,.pick,[.t 21,.t 24,.c (.bool false)],none⟩,
  ⟨some 26,.mv,[.t 25],none⟩,
  ⟨some 27,.fieldAddr 3,[.t 1],some (26,true)⟩,
  ⟨some 28,.load1,[.t 27],some (26,true)⟩,
  ⟨some 29,.bin .geq,[.t 28,.c (.int .i64 0)],some (26,true)⟩,
  ⟨some 30,.pick,[.t 26,.t 29,.c (.bool false)],none⟩,
  ⟨some 31,.mv,[.t 30],none⟩,
  ⟨some 32,.fieldAddr 3,[.t 1],some (31,true)⟩,
  ⟨some 33,.load1,[.t 32],some (31,true)⟩,
  ⟨some 34,.bin .lss,[.t 33,.c (.int .i64 1440)],some (31,true)⟩,
  ⟨some 35,.pick,[.t 31,.t 34,.c (.bool false)],none⟩,
  ⟨some 36,.mv,[.t 35],none⟩,
  ⟨some 37,.fieldAddr 4,[.t 1],some (36,true)⟩,
  ⟨some 38,.load1,[.t 37],some (36,true)⟩,
  ⟨some 39,.bin .geq,[.t 38,.c (.int .i64 0)],some (36,true)⟩,
  ⟨some 40,.pick,[.t 36,.t 39,.c (.bool false)],none⟩,
  ⟨some 41,.mv,[.t 40],none⟩,
  ⟨some 42,.fieldAddr 4,[.t 1],some (41,true)⟩,
  ⟨some 43,.load1,[.t 42],some (41,true)⟩,
  ⟨some 44,.bin .leq,[.t 43,.c (.int .i64 1440)],some (41,true)⟩,
  ⟨some 45,.pick,[.t 41,.t 44,.c (.bool false)],none⟩,
  ⟨some 46,.mv,[.t 45],none⟩,
  ⟨some 47,.fieldAddr 5,[.t 1],some (46,true)⟩,
  ⟨some 48,.load1,[.t 47],some (46,true)⟩,
  ⟨some 49,.bin .geq,[.t 48,.c (.int .i64 0)],some (46,true)⟩,
  ⟨some 50,.pick,[.t 46,.t 49,.c (.bool false)],none⟩,
  ⟨some 51,.mv,[.t 50],none⟩,
  ⟨some 52,.fieldAddr 5,[.t 1],some (51,true)⟩,
  ⟨some 53,.load1,[.t 52],some (51,true)⟩,
  ⟨some 54,.bin .leq,[.t 53,.c (.int .i64 127)],some (51,true)⟩,
  ⟨some 55,.pick,[.t 51,.t 54,.c (.bool false)],none⟩,
  ⟨some 56,.mv,[.t 55],none⟩,
  ⟨some 57,.fieldAddr 6,[.t 1],some (56,true)⟩,
  ⟨some 58,.load1,[.t 57],some (56,true)⟩,
  ⟨some 59,.bin .geq,[.t 58,.c (.int .i64 0)],some (56,true)⟩,
  ⟨some 60,.pick,[.t 56,.t 59,.c (.bool false)],none⟩,
  ⟨some 61,.mv,[.t 60],none⟩,
  ⟨some 62,.fieldAddr 6,[.t 1],some (61,true)⟩,
  ⟨some 63,.load1,[.t 62],some (61,true)⟩,
  ⟨some 64,.bin .leq,[.t 63,.c (.int .i64 2)],some (61,true)⟩,
  ⟨some 65,.pick,[.t 61,.t 64,.c (.bool false)],none⟩,
  ⟨some 2,.mv,[.t 65],none⟩]
def a27 : AFunc := ⟨66,[.tmp 2],(.seq (.region a27r0 [1]) (.seq (.region a27r1 [2]) .ret))⟩
theorem a27_ok : compileF Tryd.prog (lk [(0,⟨[1],[],[]⟩),(1,⟨[2],[],[]⟩)]) Tryd.f27 = some a27 := by kernel_rfl

/- (*payroll/payrollgen.Tape).Pick -/
def a28r0 : List IOp := [⟨some 4,.mv,[.c (.int .i64 0)],none⟩]
def a28r1 : List IOp := [⟨some 5,.mv,[.t 1],none⟩,
  ⟨some 6,.mv,[.t 0],none⟩,
  ⟨some 7,.mv,[.t 1],none⟩,
  ⟨some 8,.len,[.t 7],none⟩,
  ⟨some 9,.call 29,[.t 6,.t 8],none⟩,
  ⟨some 10,.indexAddr 1,[.t 5,.t 9],none⟩,
  ⟨some 11,.load1,[.t 10],none⟩,
  ⟨some 4,.mv,[.t 11],none⟩]
def a28 : AFunc := ⟨12,[.tmp 4],(.seq (.region a28r0 [0,1]) (.seq (.region a28r1 [4]) .ret))⟩
theorem a28_ok : compileF Tryd.prog (lk [(0,⟨[0,1],[],[]⟩),(1,⟨[4],[],[]⟩)]) Tryd.f28 = some a28 := by kernel_rfl

/- (*payroll/payrollgen.Tape).Next -/
def a29r0 : List IOp := [⟨some 4,.mv,[.c (.int .i64 0)],none⟩]
def a29r1 : List (Nat × DOp) := [(0,⟨⟨some 5,.mv,[.t 1],none⟩,none,[]⟩),
  (1,⟨⟨some 6,.bin .lss,[.t 5,.c (.int .i64 1)],none⟩,none,[]⟩),
  (2,⟨⟨some 7,.mv,[.t 6],none⟩,none,[]⟩),
  (3,⟨⟨some 8,.mv,[.t 0],some (7,false)⟩,none,[7,8,9,10,11]⟩),
  (4,⟨⟨some 9,.nilchk,[.t 8],some (7,false)⟩,none,[7,8,9,10,11]⟩),
  (5,⟨⟨some 10,.fieldAddr 1,[.t 9],some (7,false)⟩,none,[7,8,9,10,11]⟩),
  (6,⟨⟨some 11,.load1,[.t 10],some (7,false)⟩,none,[7,8,9,10,11]⟩),
  (7,⟨⟨some 12,.mv,[.t 0],some (7,false)⟩,none,[3,4,5,6]⟩),
  (8,⟨⟨some 13,.nilchk,[.t 12],some (7,false)⟩,none,[3,4,5,6]⟩),
  (9,⟨⟨some 14,.fieldAddr 0,[.t 13],some (7,false)⟩,none,[3,4,5,6]⟩),
  (10,⟨⟨some 15,.load1,[.t 14],some (7,false)⟩,none,[3,4,5,6]⟩),
  (11,⟨⟨some 16,.len,[.t 15],some (7,false)⟩,none,[3,4,5,6]⟩),
  (12,⟨⟨some 17,.bin .geq,[.t 11,.t 16],some (7,false)⟩,none,[]⟩),
  (13,⟨⟨some 18,.pick,[.t 7,.c (.bool true),.t 17],none⟩,none,[]⟩)]
def a29r2 : List IOp := [⟨some 4,.mv,[.c (.int .i64 0)],none⟩]
def a29r3 : List IOp := [⟨some 19,.mv,[.t 0],none⟩,
  ⟨some 20,.nilchk,[.t 19],none⟩,
  ⟨some 21,.fieldAddr 1,[.t 20],none⟩,
  ⟨some 22,.load1,[.t 21],none⟩,
  ⟨some 23,.bin .add,[.t 22,.c (.int .i64 1)],none⟩,
  ⟨some 24,.nilchk,[.t 19],none⟩,
  ⟨some 25,.fieldAddr 1,[.t 24],none⟩,
  ⟨none,.store 1,[.t 25,.t 23],none⟩]
def a29r4 : List (Nat × DOp) := [(0,⟨⟨some 26,.mv,[.t 0],none⟩,none,[4,5,6,7,8,11]⟩),
  (1,⟨⟨some 27,.nilchk,[.t 26],none⟩,none,[4,5,6,7,8,11]⟩),
  (2,⟨⟨some 28,.fieldAddr 0,[.t 27],none⟩,none,[4,5,6,7,8,11]⟩),
  (3,⟨⟨some 29,.load1,[.t 28],none⟩,none,[4,5,6,7,8,11]⟩),
  (4,⟨⟨some 30,.mv,[.t 0],none⟩,none,[0,1,2,3,11]⟩),
  (5,⟨⟨some 31,.nilchk,[.t 30],none⟩,none,[0,1,2,3,11]⟩),
  (6,⟨⟨some 32,.fieldAddr 1,[.t 31],none⟩,none,[0,1,2,3,11]⟩),
  (7,⟨⟨some 33,.load1,[.t 32],none⟩,none,[0,1,2,3,11]⟩),
  (8,⟨⟨some 34,.bin .sub,[.t 33,.c (.int .i64 1)],none⟩,none,[0,1,2,3,11]⟩),
  (9,⟨⟨some 35,.indexAddr 1,[.t 29,.t 34],none⟩,none,[11]⟩),
  (10,⟨⟨some 36,.load1,[.t 35],none⟩,none,[11]⟩),
  (11,⟨⟨some 37,.mv,[.t 1],none⟩,none,[0,1,2,3,4,5,6,7,8,9,10]⟩),
  (12,⟨⟨some 38,.call 7,[.t 36,.t 37],none⟩,none,[]⟩),
  (13,⟨⟨some 4,.mv,[.t 38],none⟩,none,[]⟩)]
def a29 : AFunc := ⟨39,[.tmp 4],(.seq (.region a29r0 [0,1]) (.seq (.seq (.draw a29r1 [] [0,1,18]) (.cond (.t 18) (.seq (.region a29r2 [4]) .ret) .skip)) (.seq (.region a29r3 [0,1]) (.seq (.draw a29r4 [] [4]) .ret))))⟩
theorem a29_ok : compileF Tryd.prog (lk [(0,⟨[0,1],[],[]⟩),(1,⟨[0,1,18],[[],[0],[1,0],[2,1,0],[3,2,1,0],[4,2,3,1,0],[5,2,4,3,1,0],[2,1,0],[7,2,1,0],[8,2,7,1,0],[9,2,8,7,1,0],[10,2,9,8,7,1,0],[6,11,2,5,4,3,1,0,10,9,8,7],[2,12,1,0,6,11,5,4,3,10,9,8,7]],[0,1,2,3,4,5,6,7,8,9,10,11,12,13]⟩),(2,⟨[4],[],[]⟩),(3,⟨[0,1],[],[]⟩),(4,⟨[4],[[],[0],[1,0],[2,1,0],[],[4],[5,4],[6,5,4],[7,6,5,4],[3,8,2,1,0,7,6,5,4],[9,3,8,2,1,0,7,6,5,4],[],[10,11,9,3,8,2,1,0,7,6,5,4],[12,0,1,2,3,4,5,6,7,8,9,10,11]],[0,1,2,3,4,5,6,7,8,9,10,11,12,13]⟩)]) Tryd.f29 = some a29 := by kernel_rfl

/- payroll/premium.covers -/
def a30r0 : List IOp := [⟨some 2,.box 25 7,[.t 0],none⟩,
  ⟨some 3,.box 79 3,[.t 1],none⟩,
  ⟨some 4,.mv,[.c (.bool false)],none⟩]
def a30r1 : List IOp := [⟨some 6,.fieldAddr 0,[.t 3],none⟩,
  ⟨some 7,.load1,[.t 6],none⟩,
  ⟨some 8,.fieldAddr 3,[.t 2],none⟩,
  ⟨some 9,.load1,[.t 8],none⟩,
  ⟨some 10,.bin .geq,[.t 7,.t 9],none⟩,
  ⟨some 11,.mv,[.t 10],none⟩,
  ⟨some 12,.fieldAddr 0,[.t 3],some (11,true)⟩,
  ⟨some 13,.load1,[.t 12],some (11,true)⟩,
  ⟨some 14,.fieldAddr 4,[.t 2],some (11,true)⟩,
  ⟨some 15,.load1,[.t 14],some (11,true)⟩,
  ⟨some 16,.bin .lss,[.t 13,.t 15],some (11,true)⟩,
  ⟨some 17,.pick,[.t 11,.t 16,.c (.bool false)],none⟩,
  ⟨some 5,.mv,[.t 17],none⟩]
def a30r2 : List IOp := [⟨some 18,.fieldAddr 4,[.t 2],none⟩,
  ⟨some 19,.load1,[.t 18],none⟩,
  ⟨some 20,.fieldAddr 3,[.t 2],none⟩,
  ⟨some 21,.load1,[.t 20],none⟩,
  ⟨some 22,.bin .leq,[.t 19,.t 21],none⟩]
def a30r3 : List IOp := [⟨some 23,.fieldAddr 0,[.t 3],none⟩,
  ⟨some 24,.load1,[.t 23],none⟩,
  ⟨some 25,.fieldAddr 3,[.t 2],none⟩,
  ⟨some 26,.load1,[.t 25],none⟩,
  ⟨some 27,.bin .geq,[.t 24,.t 26],none⟩,
  ⟨some 28,.mv,[.t 27],none⟩,
  ⟨some 29,.fieldAddr 0,[.t 3],some (28,false)⟩,
  ⟨some 30,.load1,[.t 29],some (28,false)⟩,
  ⟨some 31,.fieldAddr 4,[.t 2],some (28,false)⟩,
  ⟨some 32,.load1,[.t 31],some (28,false)⟩,
  ⟨some 33,.bin .lss,[.t 30,.t 32],some (28,false)⟩,
  ⟨some 34,.pick,[.t 28,.c (.bool true),.t 33],none⟩,
  ⟨some 5,.mv,[.t 34],none⟩]
def a30r4 : List IOp := [⟨some 35,.mv,[.t 5],none⟩,
  ⟨some 36,.not,[.t 35],none⟩,
  ⟨some 37,.mv,[.t 36],none⟩,
  ⟨some 38,.fieldAddr 5,[.t 2],some (37,false)⟩,
  ⟨some 39,.load1,[.t 38],some (37,false)⟩,
  ⟨some 40,.fieldAddr 1,[.t 3],some (37,false)⟩,
  ⟨some 41,.load1,[.t 40],some (37,false)⟩,
  ⟨some 42,.bin .shr,[.t 39,.t 41],some (37,false)⟩,
  ⟨some 43,.bin .and,[.t 42,.c (.int .i64 1)],some (37,false)⟩,
  ⟨some 44,.bin .eql,[.t 43,.c (.int .i64 0)],some (37,false)⟩,
  ⟨some 45,.pick,[.t 37,.c (.bool true),.t 44],none⟩]
def a30r5 : List IOp := [⟨some 4,.mv,[.c (.bool false)],none⟩]
def a30r6 : List IOp := [⟨some 46,.fieldAddr 6,[.t 2],none⟩,
  ⟨some 47,.load1,[.t 46],none⟩]
def a30r7 : List IOp := [⟨some 49,.bin .eql,[.t 47,.c (.int .i64 1)],none⟩,
  ⟨some 48,.mv,[.t 49],none⟩]
def a30r8 : List IOp := [⟨some 50,.fieldAddr 2,[.t 3],none⟩,
  ⟨some 51,.load1,[.t 50],none⟩,
  ⟨some 4,.mv,[.t 51],none⟩]
def a30r9 : List IOp := [⟨some 53,.bin .eql,[.t 47,.c (.int .i64 2)],none⟩,
  ⟨some 52,.mv,[.t 53],none⟩]
def a30r10 : List IOp := [⟨some 54,.fieldAddr 2,[.t 3],none⟩,
  ⟨some 55,.load1,[.t 54],none⟩,
  ⟨some 56,.not,[.t 55],none⟩,
  ⟨some 4,.mv,[.t 56],none⟩]
def a30r11 : List IOp := [⟨some 4,.mv,[.c (.bool true)],none⟩]
def a30 : AFunc := ⟨57,[.tmp 4],(.seq (.region a30r0 [2,3]) (.seq (.region a30r1 [2,3,5]) (.seq (.seq (.region a30r2 [2,3,5,22]) (.cond (.t 22) (.region a30r3 [2,3,5]) .skip)) (.seq (.seq (.region a30r4 [2,3,45]) (.cond (.t 45) (.seq (.region a30r5 [4]) .ret) .skip)) (.seq (.seq (.region a30r6 [3,47]) (.block 0 (.seq (.region a30r7 [3,47,48]) (.cond (.t 48) (.seq (.region a30r8 [4]) .ret) (.seq (.region a30r9 [3,52]) (.cond (.t 52) (.seq (.region a30r10 [4]) .ret) .skip)))))) (.seq (.region a30r11 [4]) .ret))))))⟩
theorem a30_ok : compileF Tryd.prog (lk [(0,⟨[2,3],[],[]⟩),(1,⟨[2,3,5],[],[]⟩),(2,⟨[2,3,5,22],[],[]⟩),(3,⟨[2,3,5],[],[]⟩),(4,⟨[2,3,45],[],[]⟩),(5,⟨[4],[],[]⟩),(6,⟨[3,47],[],[]⟩),(7,⟨[3,47,48],[],[]⟩),(8,⟨[4],[],[]⟩),(9,⟨[3,52],[],[]⟩),(10,⟨[4],[],[]⟩),(11,⟨[4],[],[]⟩)]) Tryd.f30 = some a30 := by kernel_rfl

/- payroll/premium.show -/
def a31r0 : List IOp := [⟨some 3,.box 38 2,[.t 0],none⟩,
  ⟨some 6,.alloc 79 [.int .i64 0,.int .i64 0,.bool false],[],none⟩]
def a31r1 : List IOp := [⟨some 11,.loadA 2,[.t 3],none⟩,
  ⟨some 12,.mv,[.t 2],none⟩,
  ⟨some 13,.call 45,[.t 11,.t 12],none⟩,
  ⟨some 10,.mv,[.t 13],none⟩,
  ⟨some 14,.extract 0,[.t 10],none⟩,
  ⟨some 15,.extract 1,[.t 10],none⟩,
  ⟨some 7,.mv,[.t 14],none⟩,
  ⟨some 8,.mv,[.t 15],none⟩]
def a31r2 : List IOp := [⟨some 16,.mv,[.t 7],none⟩,
  ⟨some 17,.bin .quo,[.t 16,.c (.int .i64 1440)],none⟩,
  ⟨some 9,.mv,[.t 17],none⟩]
def a31r3 : List IOp := [⟨some 18,.mv,[.t 7],none⟩,
  ⟨some 19,.bin .rem,[.t 18,.c (.int .i64 1440)],none⟩,
  ⟨some 20,.bin .lss,[.t 19,.c (.int .i64 0)],none⟩]
def a31r4 : List IOp := [⟨some 21,.mv,[.t 9],none⟩,
  ⟨some 22,.bin .sub,[.t 21,.c (.int .i64 1)],none⟩,
  ⟨some 9,.mv,[.t 22],none⟩]
def a31r5 : List IOp := [⟨some 23,.mv,[.t 7],none⟩,
  ⟨some 24,.mv,[.t 9],none⟩,
  ⟨some 25,.bin .mul,[.t 24,.c (.int .i64 1440)],none⟩,
  ⟨some 26,.bin .sub,[.t 23,.t 25],none⟩,
  ⟨some 27,.mv,[.t 9],none⟩,
  ⟨some 28,.bin .rem,[.t 27,.c (.int .i64 7)],none⟩,
  ⟨some 29,.bin .add,[.t 28,.c (.int .i64 10)],none⟩,
  ⟨some 30,.bin .rem,[.t 29,.c (.int .i64 7)],none⟩,
  ⟨some 31,.mv,[.t 1],none⟩,
  ⟨some 32,.mv,[.t 9],none⟩,
  ⟨some 33,.call 46,[.t 31,.t 32],none⟩,
  ⟨some 34,.build [.int .i64 0,.int .i64 0,.bool false] [(0,1),(1,1),(2,1)],[.t 26,.t 30,.t 33],none⟩,
  ⟨none,.store 3,[.t 6,.t 34],none⟩]
def a31 : AFunc := ⟨35,[.cellA 6 3],(.seq (.region a31r0 [1,2,3,6]) (.seq (.region a31r1 [1,6,7]) (.seq (.region a31r2 [1,6,7,9]) (.seq (.seq (.region a31r3 [1,6,7,9,20]) (.cond (.t 20) (.region a31r4 [1,6,7,9]) .skip)) (.seq (.region a31r5 [6]) .ret)))))⟩
theorem a31_ok : compileF Tryd.prog (lk [(0,⟨[1,2,3,6],[],[]⟩),(1,⟨[1,6,7],[],[]⟩),(2,⟨[1,6,7,9],[],[]⟩),(3,⟨[1,6,7,9,20],[],[]⟩),(4,⟨[1,6,7,9],[],[]⟩),(5,⟨[6],[],[]⟩)]) Tryd.f31 = some a31 := by kernel_rfl

/- payroll/premium.newAlmanac -/
def a32r0 : List IOp := [⟨some 2,.mv,[.c (.nilp)],none⟩]
def a32r1 : List IOp := [⟨some 3,.mv,[.t 0],none⟩,
  ⟨some 4,.mkmap false [.int .i64],[],none⟩,
  ⟨some 5,.mkmap false [.int .i64],[],none⟩,
  ⟨some 6,.build [.nils,.nilm,.nilm] [(0,1),(1,1),(2,1)],[.t 3,.t 4,.t 5],none⟩,
  ⟨some 7,.box 99 3,[.t 6],none⟩,
  ⟨some 2,.mv,[.t 7],none⟩]
def a32 : AFunc := ⟨8,[.tmp 2],(.seq (.region a32r0 [0]) (.seq (.region a32r1 [2]) .ret))⟩
theorem a32_ok : compileF Tryd.prog (lk [(0,⟨[0],[],[]⟩),(1,⟨[2],[],[]⟩)]) Tryd.f32 = some a32 := by kernel_rfl

/- payroll/payrollref13.Valid -/
def a33r0 : List IOp := [⟨some 3,.box 38 2,[.t 0],none⟩,
  ⟨some 6,.mv,[.c (.int .i64 0)],none⟩]
def a33r1 : List IOp := [⟨some 10,.loadA 2,[.t 3],none⟩,
  ⟨some 11,.call 47,[.t 10],none⟩,
  ⟨some 7,.mv,[.t 11],none⟩]
def a33r2 : List IOp := [⟨some 12,.mv,[.t 7],none⟩,
  ⟨some 13,.bin .neq,[.t 12,.c (.int .i64 0)],none⟩]
def a33r3 : List IOp := [⟨some 14,.mv,[.t 7],none⟩,
  ⟨some 6,.mv,[.t 14],none⟩]
def a33r4 : List IOp := [⟨some 15,.mv,[.t 1],none⟩,
  ⟨some 16,.call 48,[.t 15],none⟩,
  ⟨some 8,.mv,[.t 16],none⟩]
def a33r5 : List IOp := [⟨some 17,.mv,[.t 8],none⟩,
  ⟨some 18,.bin .neq,[.t 17,.c (.int .i64 0)],none⟩]
def a33r6 : List IOp := [⟨some 19,.mv,[.t 8],none⟩,
  ⟨some 6,.mv,[.t 19],none⟩]
def a33r7 : List IOp := [⟨some 20,.mv,[.t 2],none⟩,
  ⟨some 21,.len,[.t 20],none⟩,
  ⟨some 22,.bin .gtr,[.t 21,.c (.int .i64 16)],none⟩]
def a33r8 : List IOp := [⟨some 6,.mv,[.c (.int .i64 3)],none⟩]
def a33r9 : List IOp := [⟨some 9,.mv,[.c (.int .i64 0)],none⟩]
def a33r10 : List IOp := [⟨some 23,.mv,[.t 9],none⟩,
  ⟨some 24,.mv,[.t 2],none⟩,
  ⟨some 25,.len,[.t 24],none⟩,
  ⟨some 26,.bin .lss,[.t 23,.t 25],none⟩]
def a33r11 : List IOp := [⟨some 29,.mv,[.t 2],none⟩,
  ⟨some 30,.mv,[.t 9],none⟩,
  ⟨some 31,.indexAddr 7,[.t 29,.t 30],none⟩,
  ⟨some 32,.loadA 7,[.t 31],none⟩,
  ⟨some 33,.call 49,[.t 32],none⟩,
  ⟨some 34,.not,[.t 33],none⟩]
def a33r12 : List IOp := [⟨some 6,.mv,[.c (.int .i64 1)],none⟩]
def a33r13 : List IOp := [⟨some 27,.mv,[.t 9],none⟩,
  ⟨some 28,.bin .add,[.t 27,.c (.int .i64 1)],none⟩,
  ⟨some 9,.mv,[.t 28],none⟩]
def a33r14 : List IOp := [⟨some 6,.mv,[.c (.int .i64 0)],none⟩]
def a33 : AFunc := ⟨35,[.tmp 6],(.seq (.region a33r0 [1,2,3]) (.seq (.seq (.region a33r1 [1,2,7]) (.seq (.region a33r2 [1,2,7,13]) (.cond (.t 13) (.seq (.region a33r3 [6]) .ret) .skip))) (.seq (.seq (.region a33r4 [2,8]) (.seq (.region a33r5 [2,8,18]) (.cond (.t 18) (.seq (.region a33r6 [6]) .ret) .skip))) (.seq (.seq (.region a33r7 [2,22]) (.cond (.t 22) (.seq (.region a33r8 [6]) .ret) .skip)) (.seq (.seq (.region a33r9 [2,9]) (.block 0 (.loop (.seq (.seq (.region a33r10 [2,9,26]) (.cond (.t 26) .skip (.exit 0))) (.seq (.block 1 (.seq (.region a33r11 [2,9,34]) (.cond (.t 34) (.seq (.region a33r12 [6]) .ret) .skip))) (.region a33r13 [2,9])))))) (.seq (.region a33r14 [6]) .ret))))))⟩
/- payroll/payrollref4.IsInstant -/
/- payroll/payrollref13.shown -/
/- payroll/payrollref4.Shift -/
/- payroll/payrollref13.covers -/
/- payroll/premium.choose -/
def a38r0 : List IOp := [⟨some 4,.mv,[.c (.int .i64 0)],none⟩]
def a38r1 : List IOp := [⟨some 5,.mv,[.c (.int .i64 0)],none⟩]
def a38r2 : List IOp := [⟨some 13,.mkmap false [.str],[],none⟩,
  ⟨some 6,.mv,[.t 13],none⟩]
def a38r3 : List IOp := [⟨some 14,.mv,[.t 0],none⟩,
  ⟨some 15,.len,[.t 14],none⟩,
  ⟨some 16,.mv,[.c (.int .i64 0)],none⟩]
def a38r4 : List IOp := [⟨some 17,.bin .lss,[.t 16,.t 15],none⟩]
def a38r5 : List IOp := [⟨some 18,.mv,[.t 16],none⟩,
  ⟨some 19,.indexAddr 7,[.t 14,.t 16],none⟩,
  ⟨some 20,.loadA 7,[.t 19],none⟩,
  ⟨some 8,.alloc 25 [.str ⟨#[]⟩,.str ⟨#[]⟩,.int .i64 0,.int .i64 0,.int .i64 0,.int .i64 0,.int .i64 0],[],none⟩,
  ⟨some 7,.mv,[.t 18],none⟩,
  ⟨none,.store 7,[.t 8,.t 20],none⟩]
def a38r6 : List IOp := [⟨some 21,.mv,[.t 1],none⟩,
  ⟨some 22,.mv,[.t 7],none⟩,
  ⟨some 23,.bin .shr,[.t 21,.t 22],none⟩,
  ⟨some 24,.bin .and,[.t 23,.c (.int .i64 1)],none⟩,
  ⟨some 25,.bin .eql,[.t 24,.c (.int .i64 0)],none⟩]
def a38r7 : List IOp := [⟨some 26,.fieldAddr 1,[.t 8],none⟩,
  ⟨some 27,.load1,[.t 26],none⟩,
  ⟨some 28,.bin .eql,[.t 27,.c (.str ⟨#[]⟩)],none⟩]
def a38r8 : List IOp := [⟨some 29,.mv,[.t 5],none⟩,
  ⟨some 30,.mv,[.t 7],none⟩,
  ⟨some 31,.bin .shl,[.c (.int .i64 1),.t 30],none⟩,
  ⟨some 32,.bin .or,[.t 29,.t 31],none⟩,
  ⟨some 5,.mv,[.t 32],none⟩]
def a38r9 : List IOp := [⟨some 34,.mv,[.t 6],none⟩,
  ⟨some 35,.fieldAddr 1,[.t 8],none⟩,
  ⟨some 36,.load1,[.t 35],none⟩,
  ⟨some 37,.look true false [.str] (.int .i64 0),[.t 34,.t 36],none⟩,
  ⟨some 33,.mv,[.t 37],none⟩,
  ⟨some 38,.extract 0,[.t 33],none⟩,
  ⟨some 39,.extract 1,[.t 33],none⟩,
  ⟨some 9,.mv,[.t 38],none⟩,
  ⟨some 10,.mv,[.t 39],none⟩]
def a38r10 : List (Nat × DOp) := [(0,⟨⟨some 40,.mv,[.t 10],none⟩,none,[]⟩),
  (1,⟨⟨some 41,.not,[.t 40],none⟩,none,[]⟩),
  (2,⟨⟨some 42,.mv,[.t 41],none⟩,none,[]⟩),
  (3,⟨⟨some 43,.fieldAddr 2,[.t 8],some (42,false)⟩,none,[5,6,7,8,9]⟩),
  (4,⟨⟨some 44,.load1,[.t 43],some (42,false)⟩,none,[5,6,7,8,9]⟩),
  (5,⟨⟨some 45,.mv,[.t 0],some (42,false)⟩,none,[3,4,6]⟩),
  (6,⟨⟨some 46,.mv,[.t 9],some (42,false)⟩,none,[3,4,5]⟩),
  (7,⟨⟨some 47,.indexAddr 7,[.t 45,.t 46],some (42,false)⟩,none,[3,4]⟩),
  (8,⟨⟨some 48,.fieldAddr 2,[.t 47],some (42,false)⟩,none,[3,4]⟩),
  (9,⟨⟨some 49,.load1,[.t 48],some (42,false)⟩,none,[3,4]⟩),
  (10,⟨⟨some 50,.bin .gtr,[.t 44,.t 49],some (42,false)⟩,none,[]⟩),
  (11,⟨⟨some 51,.pick,[.t 42,.c (.bool true),.t 50],none⟩,none,[]⟩)]
def a38r11 : List IOp := [⟨some 52,.mv,[.t 6],none⟩,
  ⟨some 53,.fieldAddr 1,[.t 8],none⟩,
  ⟨some 54,.load1,[.t 53],none⟩,
  ⟨some 55,.mv,[.t 7],none⟩,
  ⟨none,.mset false [.str],[.t 52,.t 54,.t 55],none⟩]
def a38r12 : List IOp := [⟨some 56,.bin .add,[.t 16,.c (.int .i64 1)],none⟩,
  ⟨some 16,.mv,[.t 56],none⟩]
def a38r13 : List IOp := [⟨some 57,.mv,[.t 6],none⟩,
  ⟨some 58,.iter,[.t 57],none⟩]
def a38r14 : List IOp := [⟨some 59,.next,[.t 58],none⟩,
  ⟨some 60,.extract 0,[.t 59],none⟩]
def a38r15 : List IOp := [⟨some 61,.entry,[.t 58],none⟩,
  ⟨some 62,.extract 1,[.t 61],none⟩,
  ⟨some 12,.mv,[.t 62],none⟩]
def a38r16 : List IOp := [⟨some 63,.mv,[.t 5],none⟩,
  ⟨some 64,.mv,[.t 12],none⟩,
  ⟨some 65,.bin .shl,[.c (.int .i64 1),.t 64],none⟩,
  ⟨some 66,.bin .or,[.t 63,.t 65],none⟩,
  ⟨some 5,.mv,[.t 66],none⟩]
def a38r17 : List IOp := [⟨some 67,.mv,[.t 5],none⟩,
  ⟨some 4,.mv,[.t 67],none⟩]
def a38 : AFunc := ⟨68,[.tmp 4],(.seq (.region a38r0 [0,1]) (.seq (.region a38r1 [0,1,5]) (.seq (.region a38r2 [0,1,5,6]) (.seq (.seq (.region a38r3 [0,1,5,6,14,15,16]) (.block 0 (.loop (.seq (.region a38r4 [0,1,5,6,14,15,16,17]) (.seq (.cond (.t 17) .skip (.exit 0)) (.seq (.block 1 (.seq (.region a38r5 [0,1,5,6,7,8,14,15,16]) (.seq (.seq (.region a38r6 [0,1,5,6,7,8,14,15,16,25]) (.cond (.t 25) (.exit 1) .skip)) (.seq (.seq (.region a38r7 [0,1,5,6,7,8,14,15,16,28]) (.cond (.t 28) (.seq (.region a38r8 [0,1,5,6,14,15,16]) (.exit 1)) .skip)) (.seq (.region a38r9 [0,1,5,6,7,8,9,10,14,15,16]) (.seq (.draw a38r10 [] [0,1,5,6,7,8,14,15,16,51]) (.cond (.t 51) (.region a38r11 [0,1,5,6,14,15,16]) .skip))))))) (.region a38r12 [0,1,5,6,14,15,16]))))))) (.seq (.seq (.region a38r13 [5,58]) (.block 2 (.loop (.seq (.region a38r14 [5,58,60]) (.seq (.cond (.t 60) .skip (.exit 2)) (.block 3 (.seq (.region a38r15 [5,12,58]) (.region a38r16 [5,58])))))))) (.seq (.region a38r17 [4]) .ret))))))⟩
theorem a38_ok : compileF Tryd.prog (lk [(0,⟨[0,1],[],[]⟩),(1,⟨[0,1,5],[],[]⟩),(2,⟨[0,1,5,6],[],[]⟩),(3,⟨[0,1,5,6,14,15,16],[],[]⟩),(4,⟨[0,1,5,6,14,15,16,17],[],[]⟩),(5,⟨[0,1,5,6,7,8,14,15,16],[],[]⟩),(6,⟨[0,1,5,6,7,8,14,15,16,25],[],[]⟩),(7,⟨[0,1,5,6,7,8,14,15,16,28],[],[]⟩),(8,⟨[0,1,5,6,14,15,16],[],[]⟩),(9,⟨[0,1,5,6,7,8,9,10,14,15,16],[],[]⟩),(10,⟨[0,1,5,6,7,8,14,15,16,51],[[],[0],[1,0],[2,1,0],[3,2,1,0],[2,1,0],[2,1,0],[5,6,2,1,0],[7,2,5,6,1,0],[8,2,7,5,6,1,0],[4,9,2,3,1,0,8,7,5,6],[2,10,1,0,4,9,3,8,7,5,6]],[0,1,2,3,4,5,6,7,8,9,10,11]⟩),(11,⟨[0,1,5,6,14,15,16],[],[]⟩),(12,⟨[0,1,5,6,14,15,16],[],[]⟩),(13,⟨[5,58],[],[]⟩),(14,⟨[5,58,60],[],[]⟩),(15,⟨[5,12,58],[],[]⟩),(16,⟨[5,58],[],[]⟩),(17,⟨[4],[],[]⟩)]) Tryd.f38 = some a38 := by kernel_rfl

/- slices.Collect[int] -/
/- maps.Keys[map[int][16]int,int,[16]int]$1 -/
/- payroll/clock.validOffset -/
def a42r0 : List IOp := [⟨some 2,.mv,[.c (.bool false)],none⟩]
def a42r1 : List IOp := [⟨some 3,.mv,[.t 0],none⟩,
  ⟨some 4,.bin .geq,[.t 3,.c (.int .i64 (-840))],none⟩,
  ⟨some 5,.mv,[.t 4],none⟩,
  ⟨some 6,.mv,[.t 0],some (5,true)⟩,
  ⟨some 7,.bin .leq,[.t 6,.c (.int .i64 840)],some (5,true)⟩,
  ⟨some 8,.pick,[.t 5,.t 7,.c (.bool false)],none⟩,
  ⟨some 2,.mv,[.t 8],none⟩]
def a42 : AFunc := ⟨9,[.tmp 2],(.seq (.region a42r0 [0]) (.seq (.region a42r1 [2]) .ret))⟩
theorem a42_ok : compileF Tryd.prog (lk [(0,⟨[0],[],[]⟩),(1,⟨[2],[],[]⟩)]) Tryd.f42 = some a42 := by kernel_rfl

/- payroll/calendar.validRule -/
def a43r0 : List IOp := [⟨some 1,.box 75 6,[.t 0],none⟩,
  ⟨some 2,.mv,[.c (.bool false)],none⟩]
def a43r1 : List IOp := [⟨some 4,.fieldAddr 0,[.t 1],none⟩,
  ⟨some 5,.load1,[.t 4],none⟩]
def a43r2 : List IOp := [⟨some 7,.bin .eql,[.t 5,.c (.int .i64 0)],none⟩,
  ⟨some 6,.mv,[.t 7],none⟩]
def a43r3 : List IOp := [⟨some 8,.fieldAddr 1,[.t 1],none⟩,
  ⟨some 9,.load1,[.t 8],none⟩,
  ⟨some 10,.bin .lss,[.t 9,.c (.int .i64 1)],none⟩,
  ⟨some 11,.mv,[.t 10],none⟩,
  ⟨some 12,.fieldAddr 1,[.t 1],some (11,false)⟩,
  ⟨some 13,.load1,[.t 12],some (11,false)⟩,
  ⟨some 14,.bin .gtr,[.t 13,.c (.int .i64 12)],some (11,false)⟩,
  ⟨some 15,.pick,[.t 11,.c (.bool true),.t 14],none⟩,
  ⟨some 16,.mv,[.t 15],none⟩,
  ⟨some 17,.fieldAddr 3,[.t 1],some (16,false)⟩,
  ⟨some 18,.load1,[.t 17],some (16,false)⟩,
  ⟨some 19,.bin .neq,[.t 18,.c (.int .i64 0)],some (16,false)⟩,
  ⟨some 20,.pick,[.t 16,.c (.bool true),.t 19],none⟩,
  ⟨some 21,.mv,[.t 20],none⟩,
  ⟨some 22,.fieldAddr 4,[.t 1],some (21,false)⟩,
  ⟨some 23,.load1,[.t 22],some (21,false)⟩,
  ⟨some 24,.bin .neq,[.t 23,.c (.int .i64 0)],some (21,false)⟩,
  ⟨some 25,.pick,[.t 21,.c (.bool true),.t 24],none⟩]
def a43r4 : List IOp := [⟨some 2,.mv,[.c (.bool false)],none⟩]
def a43r5 : List IOp := [⟨some 26,.fieldAddr 1,[.t 1],none⟩,
  ⟨some 27,.load1,[.t 26],none⟩,
  ⟨some 28,.bin .sub,[.t 27,.c (.int .i64 1)],none⟩,
  ⟨some 29,.mv,[],none⟩,
  ⟨some 30,.load1,[.t 29],none⟩,
  ⟨some 3,.mv,[.t 30],none⟩]
def a43r6 : List IOp := [⟨some 31,.fieldAddr 1,[.t 1],none⟩,
  ⟨some 32,.load1,[.t 31],none⟩,
  ⟨some 33,.bin .eql,[.t 32,.c (.int .i64 2)],none⟩]
def a43r7 : List IOp := [⟨some 3,.mv,[.c (.int .i64 29)],none⟩]
def a43r8 : List IOp := [⟨some 34,.fieldAddr 2,[.t 1],none⟩,
  ⟨some 35,.load1,[.t 34],none⟩,
  ⟨some 36,.bin .geq,[.t 35,.c (.int .i64 1)],none⟩,
  ⟨some 37,.mv,[.t 36],none⟩,
  ⟨some 38,.fieldAddr 2,[.t 1],some (37,true)⟩,
  ⟨some 39,.load1,[.t 38],some (37,true)⟩,
  ⟨some 40,.mv,[.t 3],some (37,true)⟩,
  ⟨some 41,.bin .leq,[.t 39,.t 40],some (37,true)⟩,
  ⟨some 42,.pick,[.t 37,.t 41,.c (.bool false)],none⟩,
  ⟨some 2,.mv,[.t 42],none⟩]
def a43r9 : List IOp := [⟨some 44,.bin .eql,[.t 5,.c (.int .i64 1)],none⟩,
  ⟨some 43,.mv,[.t 44],none⟩]
def a43r10 : List IOp := [⟨some 45,.fieldAddr 4,[.t 1],none⟩,
  ⟨some 46,.load1,[.t 45],none⟩,
  ⟨some 47,.bin .geq,[.t 46,.c (.int .i64 (-100))],none⟩,
  ⟨some 48,.mv,[.t 47],none⟩,
  ⟨some 49,.fieldAddr 4,[.t 1],some (48,true)⟩,
  ⟨some 50,.load1,[.t 49],some (48,true)⟩,
  ⟨some 51,.bin .leq,[.t 50,.c (.int .i64 100)],some (48,true)⟩,
  ⟨some 52,.pick,[.t 48,.t 51,.c (.bool false)],none⟩,
  ⟨some 53,.mv,[.t 52],none⟩,
  ⟨some 54,.fieldAddr 1,[.t 1],some (53,true)⟩,
  ⟨some 55,.load1,[.t 54],some (53,true)⟩,
  ⟨some 56,.bin .eql,[.t 55,.c (.int .i64 0)],some (53,true)⟩,
  ⟨some 57,.pick,[.t 53,.t 56,.c (.bool false)],none⟩,
  ⟨some 58,.mv,[.t 57],none⟩,
  ⟨some 59,.fieldAddr 2,[.t 1],some (58,true)⟩,
  ⟨some 60,.load1,[.t 59],some (58,true)⟩,
  ⟨some 61,.bin .eql,[.t 60,.c (.int .i64 0)],some (58,true)⟩,
  ⟨some 62,.pick,[.t 58,.t 61,.c (.bool false)],none⟩,
  ⟨some 63,.mv,[.t 62],none⟩,
  ⟨some 64,.fieldAddr 3,[.t 1],some (63,true)⟩,
  ⟨some 65,.load1,[.t 64],some (63,true)⟩,
  ⟨some 66,.bin .eql,[.t 65,.c (.int .i64 0)],some (63,true)⟩,
  ⟨some 67,.pick,[.t 63,.t 66,.c (.bool false)],none⟩,
  ⟨some 2,.mv,[.t 67],none⟩]
def a43r11 : List IOp := [⟨some 69,.bin .eql,[.t 5,.c (.int .i64 2)],none⟩,
  ⟨some 68,.mv,[.t 69],none⟩]
def a43r12 : List IOp := [⟨some 70,.fieldAddr 1,[.t 1],none⟩,
  ⟨some 71,.load1,[.t 70],none⟩,
  ⟨some 72,.bin .geq,[.t 71,.c (.int .i64 1)],none⟩,
  ⟨some 73,.mv,[.t 72],none⟩,
  ⟨some 74,.fieldAddr 1,[.t 1],some (73,true)⟩,
  ⟨some 75,.load1,[.t 74],some (73,true)⟩,
  ⟨some 76,.bin .leq,[.t 75,.c (.int .i64 12)],some (73,true)⟩,
  ⟨some 77,.pick,[.t 73,.t 76,.c (.bool false)],none⟩,
  ⟨some 78,.mv,[.t 77],none⟩,
  ⟨some 79,.fieldAddr 2,[.t 1],some (78,true)⟩,
  ⟨some 80,.load1,[.t 79],some (78,true)⟩,
  ⟨some 81,.bin .eql,[.t 80,.c (.int .i64 (-1))],some (78,true)⟩,
  ⟨some 82,.mv,[.t 81],some (78,true)⟩,
  ⟨some 83,.fieldAddr 2,[.t 1],some (82,false)⟩,
  ⟨some 84,.load1,[.t 83],some (82,false)⟩,
  ⟨some 85,.bin .geq,[.t 84,.c (.int .i64 1)],some (82,false)⟩,
  ⟨some 86,.mv,[.t 85],some (82,false)⟩,
  ⟨some 87,.fieldAddr 2,[.t 1],some (86,true)⟩,
  ⟨some 88,.load1,[.t 87],some (86,true)⟩,
  ⟨some 89,.bin .leq,[.t 88,.c (.int .i64 5)],some (86,true)⟩,
  ⟨some 90,.pick,[.t 86,.t 89,.c (.bool false)],some (82,false)⟩,
  ⟨some 91,.pick,[.t 82,.c (.bool true),.t 90],some (78,true)⟩,
  ⟨some 92,.pick,[.t 78,.t 91,.c (.bool false)],none⟩,
  ⟨some 93,.mv,[.t 92],none⟩,
  ⟨some 94,.fieldAddr 3,[.t 1],some (93,true)⟩,
  ⟨some 95,.load1,[.t 94],some (93,true)⟩,
  ⟨some 96,.bin .geq,[.t 95,.c (.int .i64 0)],some (93,true)⟩,
  ⟨some 97,.pick,[.t 93,.t 96,.c (.bool false)],none⟩,
  ⟨some 98,.mv,[.t 97],none⟩,
  ⟨some 99,.fieldAddr 3,[.t 1],some (98,true)⟩,
  ⟨some 100,.load1,[.t 99],some (98,true)⟩,
  ⟨some 101,.bin .leq,[.t 100,.c (.int .i64 6)],some (98,true)⟩,
  ⟨some 102,.pick,[.t 98,.t 101,.c (.bool false)],none⟩,
  ⟨some 103,.mv,[.t 102],none⟩,
  ⟨some 104,.fieldAddr 4,[.t 1],some (103,true)⟩,
  ⟨some 105,.load1,[.t 104],some (103,true)⟩,
  ⟨some 106,.bin .geq,[.t 105,.c (.int .i64 (-7))],some (103,true)⟩,
  ⟨some 107,.pick,[.t 103,.t 106,.c (.bool false)],none⟩,
  ⟨some 108,.mv,[.t 107],none⟩,
  ⟨some 109,.fieldAddr 4,[.t 1],some (108,true)⟩,
  ⟨some 110,.load1,[.t 109],some (108,true)⟩,
  ⟨some 111,.bin .leq,[.t 110,.c (.int .i64 7)],some (108,true)⟩,
  ⟨some 112,.pick,[.t 108,.t 111,.c (.bool false)],none⟩,
  ⟨some 2,.mv,[.t 112],none⟩]
def a43r13 : List IOp := [⟨some 2,.mv,[.c (.bool false)],none⟩]
def a43 : AFunc := ⟨113,[.tmp 2],(.seq (.region a43r0 [1]) (.seq (.seq (.region a43r1 [1,5]) (.block 0 (.seq (.region a43r2 [1,5,6]) (.cond (.t 6) (.seq (.seq (.region a43r3 [1,25]) (.cond (.t 25) (.seq (.region a43r4 [2]) .ret) .skip)) (.seq (.region a43r5 [1,3]) (.seq (.seq (.region a43r6 [1,3,33]) (.cond (.t 33) (.region a43r7 [1,3]) .skip)) (.seq (.region a43r8 [2]) .ret)))) (.seq (.region a43r9 [1,5,43]) (.cond (.t 43) (.seq (.region a43r10 [2]) .ret) (.seq (.region a43r11 [1,68]) (.cond (.t 68) (.seq (.region a43r12 [2]) .ret) .skip)))))))) (.seq (.region a43r13 [2]) .ret)))⟩
theorem a43_ok : compileF Tryd.prog (lk [(0,⟨[1],[],[]⟩),(1,⟨[1,5],[],[]⟩),(2,⟨[1,5,6],[],[]⟩),(3,⟨[1,25],[],[]⟩),(4,⟨[2],[],[]⟩),(5,⟨[1,3],[],[]⟩),(6,⟨[1,3,33],[],[]⟩),(7,⟨[1,3],[],[]⟩),(8,⟨[2],[],[]⟩),(9,⟨[1,5,43],[],[]⟩),(10,⟨[2],[],[]⟩),(11,⟨[1,68],[],[]⟩),(12,⟨[2],[],[]⟩),(13,⟨[2],[],[]⟩)]) Tryd.f43 = some a43 := by kernel_rfl

/- payroll/premium.isName -/
def a44r0 : List IOp := [⟨some 2,.mv,[.c (.bool false)],none⟩]
def a44r1 : List IOp := [⟨some 5,.mv,[.t 0],none⟩,
  ⟨some 6,.lenS,[.t 5],none⟩,
  ⟨some 7,.bin .lss,[.t 6,.c (.int .i64 1)],none⟩,
  ⟨some 8,.mv,[.t 7],none⟩,
  ⟨some 9,.mv,[.t 0],some (8,false)⟩,
  ⟨some 10,.lenS,[.t 9],some (8,false)⟩,
  ⟨some 11,.bin .gtr,[.t 10,.c (.int .i64 24)],some (8,false)⟩,
  ⟨some 12,.pick,[.t 8,.c (.bool true),.t 11],none⟩,
  ⟨some 13,.mv,[.t 12],none⟩,
  ⟨some 14,.mv,[.t 0],some (13,false)⟩,
  ⟨some 15,.index,[.t 14,.c (.int .i64 0)],some (13,false)⟩,
  ⟨some 16,.bin .lss,[.t 15,.c (.int .u8 97)],some (13,false)⟩,
  ⟨some 17,.pick,[.t 13,.c (.bool true),.t 16],none⟩,
  ⟨some 18,.mv,[.t 17],none⟩,
  ⟨some 19,.mv,[.t 0],some (18,false)⟩,
  ⟨some 20,.index,[.t 19,.c (.int .i64 0)],some (18,false)⟩,
  ⟨some 21,.bin .gtr,[.t 20,.c (.int .u8 122)],some (18,false)⟩,
  ⟨some 22,.pick,[.t 18,.c (.bool true),.t 21],none⟩]
def a44r2 : List IOp := [⟨some 2,.mv,[.c (.bool false)],none⟩]
def a44r3 : List IOp := [⟨some 23,.mv,[.t 0],none⟩,
  ⟨some 24,.lenS,[.t 23],none⟩,
  ⟨some 25,.mv,[.c (.int .i64 0)],none⟩]
def a44r4 : List IOp := [⟨some 26,.bin .lss,[.t 25,.t 24],none⟩]
def a44r5 : List IOp := [⟨some 27,.mv,[.t 25],none⟩,
  ⟨some 3,.mv,[.t 27],none⟩]
def a44r6 : List IOp := [⟨some 28,.mv,[.t 0],none⟩,
  ⟨some 29,.mv,[.t 3],none⟩,
  ⟨some 30,.index,[.t 28,.t 29],none⟩,
  ⟨some 4,.mv,[.t 30],none⟩]
def a44r7 : List IOp := [⟨some 31,.mv,[.t 4],none⟩,
  ⟨some 32,.bin .lss,[.t 31,.c (.int .u8 97)],none⟩,
  ⟨some 33,.mv,[.t 32],none⟩,
  ⟨some 34,.mv,[.t 4],some (33,false)⟩,
  ⟨some 35,.bin .gtr,[.t 34,.c (.int .u8 122)],some (33,false)⟩,
  ⟨some 36,.pick,[.t 33,.c (.bool true),.t 35],none⟩,
  ⟨some 37,.mv,[.t 36],none⟩,
  ⟨some 38,.mv,[.t 4],some (37,true)⟩,
  ⟨some 39,.bin .lss,[.t 38,.c (.int .u8 48)],some (37,true)⟩,
  ⟨some 40,.mv,[.t 39],some (37,true)⟩,
  ⟨some 41,.mv,[.t 4],some (40,false)⟩,
  ⟨some 42,.bin .gtr,[.t 41,.c (.int .u8 57)],some (40,false)⟩,
  ⟨some 43,.pick,[.t 40,.c (.bool true),.t 42],some (37,true)⟩,
  ⟨some 44,.pick,[.t 37,.t 43,.c (.bool false)],none⟩,
  ⟨some 45,.mv,[.t 44],none⟩,
  ⟨some 46,.mv,[.t 4],some (45,true)⟩,
  ⟨some 47,.bin .neq,[.t 46,.c (.int .u8 95)],some (45,true)⟩,
  ⟨some 48,.pick,[.t 45,.t 47,.c (.bool false)],none⟩]
def a44r8 : List IOp := [⟨some 2,.mv,[.c (.bool false)],none⟩]
def a44r9 : List IOp := [⟨some 49,.bin .add,[.t 25,.c (.int .i64 1)],none⟩,
  ⟨some 25,.mv,[.t 49],none⟩]
def a44r10 : List IOp := [⟨some 2,.mv,[.c (.bool true)],none⟩]
def a44 : AFunc := ⟨50,[.tmp 2],(.seq (.region a44r0 [0]) (.seq (.seq (.region a44r1 [0,22]) (.cond (.t 22) (.seq (.region a44r2 [2]) .ret) .skip)) (.seq (.seq (.region a44r3 [0,24,25]) (.block 0 (.loop (.seq (.region a44r4 [0,24,25,26]) (.seq (.cond (.t 26) .skip (.exit 0)) (.seq (.block 1 (.seq (.region a44r5 [0,3,24,25]) (.seq (.region a44r6 [0,4,24,25]) (.seq (.region a44r7 [0,24,25,48]) (.cond (.t 48) (.seq (.region a44r8 [2]) .ret) .skip))))) (.region a44r9 [0,24,25]))))))) (.seq (.region a44r10 [2]) .ret))))⟩
theorem a44_ok : compileF Tryd.prog (lk [(0,⟨[0],[],[]⟩),(1,⟨[0,22],[],[]⟩),(2,⟨[2],[],[]⟩),(3,⟨[0,24,25],[],[]⟩),(4,⟨[0,24,25,26],[],[]⟩),(5,⟨[0,3,24,25],[],[]⟩),(6,⟨[0,4,24,25],[],[]⟩),(7,⟨[0,24,25,48],[],[]⟩),(8,⟨[2],[],[]⟩),(9,⟨[0,24,25],[],[]⟩),(10,⟨[2],[],[]⟩)]) Tryd.f44 = some a44 := by kernel_rfl

/- payroll/clock.Local -/
def a45r0 : List IOp := [⟨some 2,.box 38 2,[.t 0],none⟩,
  ⟨some 4,.mv,[.c (.int .i64 0)],none⟩,
  ⟨some 5,.mv,[.c (.int .i64 0)],none⟩]
def a45r1 : List IOp := [⟨some 9,.loadA 2,[.t 2],none⟩,
  ⟨some 10,.mv,[.t 1],none⟩,
  ⟨some 11,.call 55,[.t 9,.t 10],none⟩,
  ⟨some 8,.mv,[.t 11],none⟩,
  ⟨some 12,.extract 0,[.t 8],none⟩,
  ⟨some 13,.extract 1,[.t 8],none⟩,
  ⟨some 6,.mv,[.t 12],none⟩,
  ⟨some 7,.mv,[.t 13],none⟩]
def a45r2 : List IOp := [⟨some 14,.mv,[.t 7],none⟩,
  ⟨some 15,.bin .neq,[.t 14,.c (.int .i64 0)],none⟩]
def a45r3 : List IOp := [⟨some 16,.mv,[.t 7],none⟩,
  ⟨some 4,.mv,[.c (.int .i64 0)],none⟩,
  ⟨some 5,.mv,[.t 16],none⟩]
def a45r4 : List IOp := [⟨some 17,.mv,[.t 1],none⟩,
  ⟨some 18,.mv,[.t 6],none⟩,
  ⟨some 19,.bin .add,[.t 17,.t 18],none⟩,
  ⟨some 4,.mv,[.t 19],none⟩,
  ⟨some 5,.mv,[.c (.int .i64 0)],none⟩]
def a45 : AFunc := ⟨20,[.tmp 4,.tmp 5],(.seq (.region a45r0 [1,2]) (.seq (.region a45r1 [1,6,7]) (.seq (.seq (.region a45r2 [1,6,7,15]) (.cond (.t 15) (.seq (.region a45r3 [4,5]) .ret) .skip)) (.seq (.region a45r4 [4,5]) .ret))))⟩
theorem a45_ok : compileF Tryd.prog (lk [(0,⟨[1,2],[],[]⟩),(1,⟨[1,6,7],[],[]⟩),(2,⟨[1,6,7,15],[],[]⟩),(3,⟨[4,5],[],[]⟩),(4,⟨[4,5],[],[]⟩)]) Tryd.f45 = some a45 := by kernel_rfl

/- (*payroll/premium.almanac).holiday -/
def a46r0 : List IOp := [⟨some 4,.mv,[.c (.bool false)],none⟩]
def a46r1 : List IOp := [⟨some 14,.mv,[.t 0],none⟩,
  ⟨some 15,.nilchk,[.t 14],none⟩,
  ⟨some 16,.fieldAddr 2,[.t 15],none⟩,
  ⟨some 17,.load1,[.t 16],none⟩,
  ⟨some 18,.mv,[.t 1],none⟩,
  ⟨some 19,.look true false [.int .i64] (.bool false),[.t 17,.t 18],none⟩,
  ⟨some 13,.mv,[.t 19],none⟩,
  ⟨some 20,.extract 0,[.t 13],none⟩,
  ⟨some 21,.extract 1,[.t 13],none⟩,
  ⟨some 5,.mv,[.t 20],none⟩,
  ⟨some 6,.mv,[.t 21],none⟩]
def a46r2 : List IOp := [⟨some 22,.mv,[.t 6],none⟩]
def a46r3 : List IOp := [⟨some 23,.mv,[.t 5],none⟩,
  ⟨some 4,.mv,[.t 23],none⟩]
def a46r4 : List IOp := [⟨some 7,.mv,[.c (.bool false)],none⟩]
def a46r5 : List IOp := [⟨some 25,.mv,[.t 1],none⟩,
  ⟨some 26,.call 56,[.t 25],none⟩,
  ⟨some 24,.mv,[.t 26],none⟩,
  ⟨some 27,.extract 0,[.t 24],none⟩,
  ⟨some 28,.extract 1,[.t 24],none⟩,
  ⟨some 29,.extract 2,[.t 24],none⟩,
  ⟨some 30,.extract 3,[.t 24],none⟩,
  ⟨some 8,.mv,[.t 27],none⟩,
  ⟨some 9,.mv,[.t 28],none⟩,
  ⟨some 10,.mv,[.t 29],none⟩,
  ⟨some 11,.mv,[.t 30],none⟩]
def a46r6 : List IOp := [⟨some 31,.mv,[.t 11],none⟩]
def a46r7 : List IOp := [⟨some 32,.mv,[.t 8],none⟩,
  ⟨some 33,.bin .sub,[.t 32,.c (.int .i64 1)],none⟩,
  ⟨some 12,.mv,[.t 33],none⟩]
def a46r8 : List IOp := [⟨some 34,.mv,[.t 12],none⟩,
  ⟨some 35,.mv,[.t 8],none⟩,
  ⟨some 36,.bin .add,[.t 35,.c (.int .i64 1)],none⟩,
  ⟨some 37,.bin .leq,[.t 34,.t 36],none⟩,
  ⟨some 38,.mv,[.t 37],none⟩,
  ⟨some 39,.mv,[.t 7],some (38,true)⟩,
  ⟨some 40,.not,[.t 39],some (38,true)⟩,
  ⟨some 41,.pick,[.t 38,.t 40,.c (.bool false)],none⟩]
def a46r9 : List IOp := [⟨some 44,.mv,[.t 0],none⟩,
  ⟨some 45,.mv,[.t 12],none⟩,
  ⟨some 46,.call 58,[.t 44,.t 45],none⟩,
  ⟨some 47,.mv,[.t 1],none⟩,
  ⟨some 48,.call 57,[.t 46,.t 47],none⟩,
  ⟨some 7,.mv,[.t 48],none⟩]
def a46r10 : List IOp := [⟨some 42,.mv,[.t 12],none⟩,
  ⟨some 43,.bin .add,[.t 42,.c (.int .i64 1)],none⟩,
  ⟨some 12,.mv,[.t 43],none⟩]
def a46r11 : List IOp := [⟨some 49,.mv,[.t 0],none⟩,
  ⟨some 50,.nilchk,[.t 49],none⟩,
  ⟨some 51,.fieldAddr 2,[.t 50],none⟩,
  ⟨some 52,.load1,[.t 51],none⟩,
  ⟨some 53,.mv,[.t 1],none⟩,
  ⟨some 54,.mv,[.t 7],none⟩,
  ⟨none,.mset false [.int .i64],[.t 52,.t 53,.t 54],none⟩]
def a46r12 : List IOp := [⟨some 55,.mv,[.t 7],none⟩,
  ⟨some 4,.mv,[.t 55],none⟩]
def a46 : AFunc := ⟨56,[.tmp 4],(.seq (.region a46r0 [0,1]) (.seq (.seq (.region a46r1 [0,1,5,6]) (.seq (.region a46r2 [0,1,5,22]) (.cond (.t 22) (.seq (.region a46r3 [4]) .ret) .skip))) (.seq (.region a46r4 [0,1,7]) (.seq (.seq (.region a46r5 [0,1,7,8,11]) (.seq (.region a46r6 [0,1,7,8,31]) (.cond (.t 31) (.seq (.region a46r7 [0,1,7,8,12]) (.block 0 (.loop (.seq (.seq (.region a46r8 [0,1,7,8,12,41]) (.cond (.t 41) .skip (.exit 0))) (.seq (.block 1 (.region a46r9 [0,1,7,8,12])) (.region a46r10 [0,1,7,8,12])))))) .skip))) (.seq (.region a46r11 [7]) (.seq (.region a46r12 [4]) .ret))))))⟩
theorem a46_ok : compileF Tryd.prog (lk [(0,⟨[0,1],[],[]⟩),(1,⟨[0,1,5,6],[],[]⟩),(2,⟨[0,1,5,22],[],[]⟩),(3,⟨[4],[],[]⟩),(4,⟨[0,1,7],[],[]⟩),(5,⟨[0,1,7,8,11],[],[]⟩),(6,⟨[0,1,7,8,31],[],[]⟩),(7,⟨[0,1,7,8,12],[],[]⟩),(8,⟨[0,1,7,8,12,41],[],[]⟩),(9,⟨[0,1,7,8,12],[],[]⟩),(10,⟨[0,1,7,8,12],[],[]⟩),(11,⟨[7],[],[]⟩),(12,⟨[4],[],[]⟩)]) Tryd.f46 = some a46 := by kernel_rfl

/- payroll/payrollref4.Valid -/
/- payroll/payrollref3.Valid -/
/- payroll/payrollref13.window -/
/- payroll/payrollref3.Shown -/
/- payroll/payrollref3.IsHoliday -/
def a51r0 : List IOp := [⟨some 4,.mv,[.c (.bool false)],none⟩]
def a51r1 : List IOp := [⟨some 14,.mv,[.t 1],none⟩,
  ⟨some 15,.call 62,[.t 14],none⟩,
  ⟨some 13,.mv,[.t 15],none⟩,
  ⟨some 16,.extract 0,[.t 13],none⟩,
  ⟨some 17,.extract 1,[.t 13],none⟩,
  ⟨some 18,.extract 2,[.t 13],none⟩,
  ⟨some 19,.extract 3,[.t 13],none⟩,
  ⟨some 5,.mv,[.t 16],none⟩,
  ⟨some 6,.mv,[.t 17],none⟩,
  ⟨some 7,.mv,[.t 18],none⟩,
  ⟨some 8,.mv,[.t 19],none⟩]
def a51r2 : List IOp := [⟨some 9,.mv,[.c (.int .i64 0)],none⟩]
def a51r3 : List IOp := [⟨some 20,.mv,[.t 8],none⟩,
  ⟨some 21,.mv,[.t 20],none⟩,
  ⟨some 22,.mv,[.t 9],some (21,true)⟩,
  ⟨some 23,.mv,[.t 0],some (21,true)⟩,
  ⟨some 24,.len,[.t 23],some (21,true)⟩,
  ⟨some 25,.bin .lss,[.t 22,.t 24],some (21,true)⟩,
  ⟨some 26,.pick,[.t 21,.t 25,.c (.bool false)],none⟩]
def a51r4 : List IOp := [⟨some 29,.mv,[.t 5],none⟩,
  ⟨some 30,.bin .sub,[.t 29,.c (.int .i64 1)],none⟩,
  ⟨some 31,.minmax true,[.t 30,.c (.int .i64 1970)],none⟩,
  ⟨some 10,.mv,[.t 31],none⟩]
def a51r5 : List IOp := [⟨some 32,.mv,[.t 10],none⟩,
  ⟨some 33,.mv,[.t 5],none⟩,
  ⟨some 34,.bin .add,[.t 33,.c (.int .i64 1)],none⟩,
  ⟨some 35,.minmax false,[.t 34,.c (.int .i64 2199)],none⟩,
  ⟨some 36,.bin .leq,[.t 32,.t 35],none⟩]
def a51r6 : List IOp := [⟨some 40,.mv,[.t 0],none⟩,
  ⟨some 41,.mv,[.t 9],none⟩,
  ⟨some 42,.indexAddr 6,[.t 40,.t 41],none⟩,
  ⟨some 43,.loadA 6,[.t 42],none⟩,
  ⟨some 44,.mv,[.t 10],none⟩,
  ⟨some 45,.call 63,[.t 43,.t 44],none⟩,
  ⟨some 39,.mv,[.t 45],none⟩,
  ⟨some 46,.extract 0,[.t 39],none⟩,
  ⟨some 47,.extract 1,[.t 39],none⟩,
  ⟨some 11,.mv,[.t 46],none⟩,
  ⟨some 12,.mv,[.t 47],none⟩]
def a51r7 : List IOp := [⟨some 48,.mv,[.t 12],none⟩,
  ⟨some 49,.mv,[.t 48],none⟩,
  ⟨some 50,.mv,[.t 11],some (49,true)⟩,
  ⟨some 51,.mv,[.t 1],some (49,true)⟩,
  ⟨some 52,.bin .eql,[.t 50,.t 51],some (49,true)⟩,
  ⟨some 53,.pick,[.t 49,.t 52,.c (.bool false)],none⟩]
def a51r8 : List IOp := [⟨some 4,.mv,[.c (.bool true)],none⟩]
def a51r9 : List IOp := [⟨some 37,.mv,[.t 10],none⟩,
  ⟨some 38,.bin .add,[.t 37,.c (.int .i64 1)],none⟩,
  ⟨some 10,.mv,[.t 38],none⟩]
def a51r10 : List IOp := [⟨some 27,.mv,[.t 9],none⟩,
  ⟨some 28,.bin .add,[.t 27,.c (.int .i64 1)],none⟩,
  ⟨some 9,.mv,[.t 28],none⟩]
def a51r11 : List IOp := [⟨some 4,.mv,[.c (.bool false)],none⟩]
def a51 : AFunc := ⟨54,[.tmp 4],(.seq (.region a51r0 [0,1]) (.seq (.region a51r1 [0,1,5,8]) (.seq (.seq (.region a51r2 [0,1,5,8,9]) (.block 0 (.loop (.seq (.seq (.region a51r3 [0,1,5,8,9,26]) (.cond (.t 26) .skip (.exit 0))) (.seq (.block 1 (.seq (.region a51r4 [0,1,5,8,9,10]) (.block 2 (.loop (.seq (.seq (.region a51r5 [0,1,5,8,9,10,36]) (.cond (.t 36) .skip (.exit 2))) (.seq (.block 3 (.seq (.region a51r6 [0,1,5,8,9,10,11,12]) (.seq (.region a51r7 [0,1,5,8,9,10,53]) (.cond (.t 53) (.seq (.region a51r8 [4]) .ret) .skip)))) (.region a51r9 [0,1,5,8,9,10]))))))) (.region a51r10 [0,1,5,8,9])))))) (.seq (.region a51r11 [4]) .ret))))⟩
/- payroll/clock.Offset -/
def a55r0 : List IOp := [⟨some 2,.box 38 2,[.t 0],none⟩,
  ⟨some 4,.mv,[.c (.int .i64 0)],none⟩,
  ⟨some 5,.mv,[.c (.int .i64 0)],none⟩]
def a55r1 : List IOp := [⟨some 8,.loadA 2,[.t 2],none⟩,
  ⟨some 9,.call 25,[.t 8],none⟩,
  ⟨some 6,.mv,[.t 9],none⟩]
def a55r2 : List IOp := [⟨some 10,.mv,[.t 6],none⟩,
  ⟨some 11,.bin .neq,[.t 10,.c (.int .i64 0)],none⟩]
def a55r3 : List IOp := [⟨some 12,.mv,[.t 6],none⟩,
  ⟨some 4,.mv,[.c (.int .i64 0)],none⟩,
  ⟨some 5,.mv,[.t 12],none⟩]
def a55r4 : List IOp := [⟨some 13,.mv,[.t 1],none⟩,
  ⟨some 14,.bin .lss,[.t 13,.c (.int .i64 0)],none⟩,
  ⟨some 15,.mv,[.t 14],none⟩,
  ⟨some 16,.mv,[.t 1],some (15,false)⟩,
  ⟨some 17,.bin .gtr,[.t 16,.c (.int .i64 120968639)],some (15,false)⟩,
  ⟨some 18,.pick,[.t 15,.c (.bool true),.t 17],none⟩]
def a55r5 : List IOp := [⟨some 4,.mv,[.c (.int .i64 0)],none⟩,
  ⟨some 5,.mv,[.c (.int .i64 2)],none⟩]
def a55r6 : List IOp := [⟨some 19,.fieldAddr 1,[.t 2],none⟩,
  ⟨some 20,.load1,[.t 19],none⟩,
  ⟨some 21,.len,[.t 20],none⟩,
  ⟨some 22,.bin .sub,[.t 21,.c (.int .i64 1)],none⟩,
  ⟨some 7,.mv,[.t 22],none⟩]
def a55r7 : List IOp := [⟨some 23,.mv,[.t 7],none⟩,
  ⟨some 24,.bin .geq,[.t 23,.c (.int .i64 0)],none⟩]
def a55r8 : List IOp := [⟨some 27,.fieldAddr 1,[.t 2],none⟩,
  ⟨some 28,.load1,[.t 27],none⟩,
  ⟨some 29,.mv,[.t 7],none⟩,
  ⟨some 30,.indexAddr 2,[.t 28,.t 29],none⟩,
  ⟨some 31,.fieldAddr 0,[.t 30],none⟩,
  ⟨some 32,.load1,[.t 31],none⟩,
  ⟨some 33,.mv,[.t 1],none⟩,
  ⟨some 34,.bin .leq,[.t 32,.t 33],none⟩]
def a55r9 : List IOp := [⟨some 35,.fieldAddr 1,[.t 2],none⟩,
  ⟨some 36,.load1,[.t 35],none⟩,
  ⟨some 37,.mv,[.t 7],none⟩,
  ⟨some 38,.indexAddr 2,[.t 36,.t 37],none⟩,
  ⟨some 39,.fieldAddr 1,[.t 38],none⟩,
  ⟨some 40,.load1,[.t 39],none⟩,
  ⟨some 4,.mv,[.t 40],none⟩,
  ⟨some 5,.mv,[.c (.int .i64 0)],none⟩]
def a55r10 : List IOp := [⟨some 25,.mv,[.t 7],none⟩,
  ⟨some 26,.bin .sub,[.t 25,.c (.int .i64 1)],none⟩,
  ⟨some 7,.mv,[.t 26],none⟩]
def a55r11 : List IOp := [⟨some 41,.fieldAddr 0,[.t 2],none⟩,
  ⟨some 42,.load1,[.t 41],none⟩,
  ⟨some 4,.mv,[.t 42],none⟩,
  ⟨some 5,.mv,[.c (.int .i64 0)],none⟩]
def a55 : AFunc := ⟨43,[.tmp 4,.tmp 5],(.seq (.region a55r0 [1,2]) (.seq (.seq (.region a55r1 [1,2,6]) (.seq (.region a55r2 [1,2,6,11]) (.cond (.t 11) (.seq (.region a55r3 [4,5]) .ret) .skip))) (.seq (.seq (.region a55r4 [1,2,18]) (.cond (.t 18) (.seq (.region a55r5 [4,5]) .ret) .skip)) (.seq (.seq (.region a55r6 [1,2,7]) (.block 0 (.loop (.seq (.seq (.region a55r7 [1,2,7,24]) (.cond (.t 24) .skip (.exit 0))) (.seq (.block 1 (.seq (.region a55r8 [1,2,7,34]) (.cond (.t 34) (.seq (.region a55r9 [4,5]) .ret) .skip))) (.region a55r10 [1,2,7])))))) (.seq (.region a55r11 [4,5]) .ret)))))⟩
theorem a55_ok : compileF Tryd.prog (lk [(0,⟨[1,2],[],[]⟩),(1,⟨[1,2,6],[],[]⟩),(2,⟨[1,2,6,11],[],[]⟩),(3,⟨[4,5],[],[]⟩),(4,⟨[1,2,18],[],[]⟩),(5,⟨[4,5],[],[]⟩),(6,⟨[1,2,7],[],[]⟩),(7,⟨[1,2,7,24],[],[]⟩),(8,⟨[1,2,7],[],[]⟩),(9,⟨[1,2,7,34],[],[]⟩),(10,⟨[4,5],[],[]⟩),(11,⟨[4,5],[],[]⟩)]) Tryd.f55 = some a55 := by kernel_rfl

/- payroll/calendar.Date -/
def a56r0 : List IOp := [⟨some 2,.mv,[.c (.int .i64 0)],none⟩,
  ⟨some 3,.mv,[.c (.int .i64 0)],none⟩,
  ⟨some 4,.mv,[.c (.int .i64 0)],none⟩,
  ⟨some 5,.mv,[.c (.bool false)],none⟩]
def a56r1 : List IOp := [⟨some 9,.mv,[.t 0],none⟩,
  ⟨some 10,.call 75,[.t 9],none⟩,
  ⟨some 11,.not,[.t 10],none⟩]
def a56r2 : List IOp := [⟨some 2,.mv,[.c (.int .i64 0)],none⟩,
  ⟨some 3,.mv,[.c (.int .i64 0)],none⟩,
  ⟨some 4,.mv,[.c (.int .i64 0)],none⟩,
  ⟨some 5,.mv,[.c (.bool false)],none⟩]
def a56r3 : List IOp := [⟨some 12,.mv,[.t 0],none⟩,
  ⟨some 13,.call 76,[.t 12],none⟩,
  ⟨some 6,.mv,[.t 13],none⟩]
def a56r4 : List IOp := [⟨some 14,.mv,[.t 0],none⟩,
  ⟨some 15,.mv,[.t 6],none⟩,
  ⟨some 16,.call 77,[.t 15],none⟩,
  ⟨some 17,.bin .sub,[.t 14,.t 16],none⟩,
  ⟨some 7,.mv,[.t 17],none⟩]
def a56r5 : List IOp := [⟨some 8,.mv,[.c (.int .i64 1)],none⟩]
def a56r6 : List IOp := [⟨some 18,.mv,[.t 7],none⟩,
  ⟨some 19,.mv,[.t 6],none⟩,
  ⟨some 20,.mv,[.t 8],none⟩,
  ⟨some 21,.call 78,[.t 19,.t 20],none⟩,
  ⟨some 22,.bin .geq,[.t 18,.t 21],none⟩]
def a56r7 : List IOp := [⟨some 23,.mv,[.t 7],none⟩,
  ⟨some 24,.mv,[.t 6],none⟩,
  ⟨some 25,.mv,[.t 8],none⟩,
  ⟨some 26,.call 78,[.t 24,.t 25],none⟩,
  ⟨some 27,.bin .sub,[.t 23,.t 26],none⟩,
  ⟨some 7,.mv,[.t 27],none⟩]
def a56r8 : List IOp := [⟨some 28,.mv,[.t 8],none⟩,
  ⟨some 29,.bin .add,[.t 28,.c (.int .i64 1)],none⟩,
  ⟨some 8,.mv,[.t 29],none⟩]
def a56r9 : List IOp := [⟨some 30,.mv,[.t 6],none⟩,
  ⟨some 31,.mv,[.t 8],none⟩,
  ⟨some 32,.mv,[.t 7],none⟩,
  ⟨some 33,.bin .add,[.t 32,.c (.int .i64 1)],none⟩,
  ⟨some 2,.mv,[.t 30],none⟩,
  ⟨some 3,.mv,[.t 31],none⟩,
  ⟨some 4,.mv,[.t 33],none⟩,
  ⟨some 5,.mv,[.c (.bool true)],none⟩]
def a56 : AFunc := ⟨34,[.tmp 2,.tmp 3,.tmp 4,.tmp 5],(.seq (.region a56r0 [0]) (.seq (.seq (.region a56r1 [0,11]) (.cond (.t 11) (.seq (.region a56r2 [2,3,4,5]) .ret) .skip)) (.seq (.region a56r3 [0,6]) (.seq (.region a56r4 [6,7]) (.seq (.region a56r5 [6,7,8]) (.seq (.block 0 (.loop (.seq (.seq (.region a56r6 [6,7,8,22]) (.cond (.t 22) .skip (.exit 0))) (.block 1 (.seq (.region a56r7 [6,7,8]) (.region a56r8 [6,7,8])))))) (.seq (.region a56r9 [2,3,4,5]) .ret)))))))⟩
theorem a56_ok : compileF Tryd.prog (lk [(0,⟨[0],[],[]⟩),(1,⟨[0,11],[],[]⟩),(2,⟨[2,3,4,5],[],[]⟩),(3,⟨[0,6],[],[]⟩),(4,⟨[6,7],[],[]⟩),(5,⟨[6,7,8],[],[]⟩),(6,⟨[6,7,8,22],[],[]⟩),(7,⟨[6,7,8],[],[]⟩),(8,⟨[6,7,8],[],[]⟩),(9,⟨[2,3,4,5],[],[]⟩)]) Tryd.f56 = some a56 := by kernel_rfl

/- slices.Contains[[]int,int] -/
def a57r0 : List IOp := [⟨some 4,.mv,[.c (.bool false)],none⟩]
def a57r1 : List IOp := [⟨some 5,.mv,[.t 0],none⟩,
  ⟨some 6,.mv,[.t 1],none⟩,
  ⟨some 7,.call 79,[.t 5,.t 6],none⟩,
  ⟨some 8,.bin .geq,[.t 7,.c (.int .i64 0)],none⟩,
  ⟨some 4,.mv,[.t 8],none⟩]
def a57 : AFunc := ⟨9,[.tmp 4],(.seq (.region a57r0 [0,1]) (.seq (.region a57r1 [4]) .ret))⟩
theorem a57_ok : compileF Tryd.prog (lk [(0,⟨[0,1],[],[]⟩),(1,⟨[4],[],[]⟩)]) Tryd.f57 = some a57 := by kernel_rfl

/- (*payroll/premium.almanac).year -/
def a58r0 : List IOp := [⟨some 4,.mv,[.c (.nils)],none⟩]
def a58r1 : List IOp := [⟨some 8,.mv,[.t 0],none⟩,
  ⟨some 9,.nilchk,[.t 8],none⟩,
  ⟨some 10,.fieldAddr 1,[.t 9],none⟩,
  ⟨some 11,.load1,[.t 10],none⟩,
  ⟨some 12,.mv,[.t 1],none⟩,
  ⟨some 13,.look true false [.int .i64] (.nils),[.t 11,.t 12],none⟩,
  ⟨some 7,.mv,[.t 13],none⟩,
  ⟨some 14,.extract 0,[.t 7],none⟩,
  ⟨some 15,.extract 1,[.t 7],none⟩,
  ⟨some 5,.mv,[.t 14],none⟩,
  ⟨some 6,.mv,[.t 15],none⟩]
def a58r2 : List IOp := [⟨some 16,.mv,[.t 6],none⟩,
  ⟨some 17,.not,[.t 16],none⟩]
def a58r3 : List IOp := [⟨some 19,.mv,[.t 0],none⟩,
  ⟨some 20,.nilchk,[.t 19],none⟩,
  ⟨some 21,.fieldAddr 0,[.t 20],none⟩,
  ⟨some 22,.load1,[.t 21],none⟩,
  ⟨some 23,.mv,[.t 1],none⟩,
  ⟨some 24,.call 80,[.t 22,.t 23],none⟩,
  ⟨some 18,.mv,[.t 24],none⟩,
  ⟨some 25,.extract 0,[.t 18],none⟩,
  ⟨some 26,.extract 1,[.t 18],none⟩,
  ⟨some 5,.mv,[.t 25],none⟩]
def a58r4 : List IOp := [⟨some 27,.mv,[.t 0],none⟩,
  ⟨some 28,.nilchk,[.t 27],none⟩,
  ⟨some 29,.fieldAddr 1,[.t 28],none⟩,
  ⟨some 30,.load1,[.t 29],none⟩,
  ⟨some 31,.mv,[.t 1],none⟩,
  ⟨some 32,.mv,[.t 5],none⟩,
  ⟨none,.mset false [.int .i64],[.t 30,.t 31,.t 32],none⟩]
def a58r5 : List IOp := [⟨some 33,.mv,[.t 5],none⟩,
  ⟨some 4,.mv,[.t 33],none⟩]
def a58 : AFunc := ⟨34,[.tmp 4],(.seq (.region a58r0 [0,1]) (.seq (.region a58r1 [0,1,5,6]) (.seq (.seq (.region a58r2 [0,1,5,17]) (.cond (.t 17) (.seq (.region a58r3 [0,1,5]) (.region a58r4 [5])) .skip)) (.seq (.region a58r5 [4]) .ret))))⟩
theorem a58_ok : compileF Tryd.prog (lk [(0,⟨[0,1],[],[]⟩),(1,⟨[0,1,5,6],[],[]⟩),(2,⟨[0,1,5,17],[],[]⟩),(3,⟨[0,1,5],[],[]⟩),(4,⟨[5],[],[]⟩),(5,⟨[4],[],[]⟩)]) Tryd.f58 = some a58 := by kernel_rfl

/- payroll/payrollref4.IsOffset -/
/- payroll/payrollref3.ValidRule -/
/- payroll/payrollref12.IsName -/
/- payroll/payrollref3.Date -/
/- payroll/payrollref3.named -/
/- payroll/calendar.valid -/
def a75r0 : List IOp := [⟨some 2,.mv,[.c (.bool false)],none⟩]
def a75r1 : List IOp := [⟨some 3,.mv,[.t 0],none⟩,
  ⟨some 4,.bin .geq,[.t 3,.c (.int .i64 0)],none⟩,
  ⟨some 5,.mv,[.t 4],none⟩,
  ⟨some 6,.mv,[.t 0],some (5,true)⟩,
  ⟨some 7,.bin .leq,[.t 6,.c (.int .i64 84005)],some (5,true)⟩,
  ⟨some 8,.pick,[.t 5,.t 7,.c (.bool false)],none⟩,
  ⟨some 2,.mv,[.t 8],none⟩]
def a75 : AFunc := ⟨9,[.tmp 2],(.seq (.region a75r0 [0]) (.seq (.region a75r1 [2]) .ret))⟩
theorem a75_ok : compileF Tryd.prog (lk [(0,⟨[0],[],[]⟩),(1,⟨[2],[],[]⟩)]) Tryd.f75 = some a75 := by kernel_rfl

/- payroll/calendar.yearOf -/
def a76r0 : List IOp := [⟨some 2,.mv,[.c (.int .i64 0)],none⟩]
def a76r1 : List IOp := [⟨some 4,.mv,[.t 0],none⟩,
  ⟨some 5,.bin .quo,[.t 4,.c (.int .i64 366)],none⟩,
  ⟨some 6,.bin .add,[.c (.int .i64 1970),.t 5],none⟩,
  ⟨some 3,.mv,[.t 6],none⟩]
def a76r2 : List IOp := [⟨some 7,.mv,[.t 3],none⟩,
  ⟨some 8,.bin .add,[.t 7,.c (.int .i64 1)],none⟩,
  ⟨some 9,.call 77,[.t 8],none⟩,
  ⟨some 10,.mv,[.t 0],none⟩,
  ⟨some 11,.bin .leq,[.t 9,.t 10],none⟩]
def a76r3 : List IOp := [⟨some 12,.mv,[.t 3],none⟩,
  ⟨some 13,.bin .add,[.t 12,.c (.int .i64 1)],none⟩,
  ⟨some 3,.mv,[.t 13],none⟩]
def a76r4 : List IOp := [⟨some 14,.mv,[.t 3],none⟩,
  ⟨some 2,.mv,[.t 14],none⟩]
def a76 : AFunc := ⟨15,[.tmp 2],(.seq (.region a76r0 [0]) (.seq (.region a76r1 [0,3]) (.seq (.block 0 (.loop (.seq (.seq (.region a76r2 [0,3,11]) (.cond (.t 11) .skip (.exit 0))) (.block 1 (.region a76r3 [0,3]))))) (.seq (.region a76r4 [2]) .ret))))⟩
theorem a76_ok : compileF Tryd.prog (lk [(0,⟨[0],[],[]⟩),(1,⟨[0,3],[],[]⟩),(2,⟨[0,3,11],[],[]⟩),(3,⟨[0,3],[],[]⟩),(4,⟨[2],[],[]⟩)]) Tryd.f76 = some a76 := by kernel_rfl

/- payroll/calendar.begin -/
def a77r0 : List IOp := [⟨some 2,.mv,[.c (.int .i64 0)],none⟩]
def a77r1 : List IOp := [⟨some 3,.mv,[.t 0],none⟩,
  ⟨some 4,.bin .sub,[.t 3,.c (.int .i64 1970)],none⟩,
  ⟨some 5,.bin .mul,[.c (.int .i64 365),.t 4],none⟩,
  ⟨some 6,.mv,[.t 0],none⟩,
  ⟨some 7,.bin .sub,[.t 6,.c (.int .i64 1)],none⟩,
  ⟨some 8,.call 92,[.t 7],none⟩,
  ⟨some 9,.bin .add,[.t 5,.t 8],none⟩,
  ⟨some 10,.call 92,[.c (.int .i64 1969)],none⟩,
  ⟨some 11,.bin .sub,[.t 9,.t 10],none⟩,
  ⟨some 2,.mv,[.t 11],none⟩]
def a77 : AFunc := ⟨12,[.tmp 2],(.seq (.region a77r0 [0]) (.seq (.region a77r1 [2]) .ret))⟩
theorem a77_ok : compileF Tryd.prog (lk [(0,⟨[0],[],[]⟩),(1,⟨[2],[],[]⟩)]) Tryd.f77 = some a77 := by kernel_rfl

/- slices.Index[[]int,int] -/
def a79r0 : List IOp := [⟨some 4,.mv,[.c (.int .i64 0)],none⟩]
def a79r1 : List IOp := [⟨some 6,.mv,[.t 0],none⟩,
  ⟨some 7,.len,[.t 6],none⟩,
  ⟨some 8,.mv,[.c (.int .i64 0)],none⟩]
def a79r2 : List IOp := [⟨some 9,.bin .lss,[.t 8,.t 7],none⟩]
def a79r3 : List IOp := [⟨some 10,.mv,[.t 8],none⟩,
  ⟨some 5,.mv,[.t 10],none⟩]
def a79r4 : List IOp := [⟨some 11,.mv,[.t 1],none⟩,
  ⟨some 12,.mv,[.t 0],none⟩,
  ⟨some 13,.mv,[.t 5],none⟩,
  ⟨some 14,.indexAddr 1,[.t 12,.t 13],none⟩,
  ⟨some 15,.load1,[.t 14],none⟩,
  ⟨some 16,.bin .eql,[.t 11,.t 15],none⟩]
def a79r5 : List IOp := [⟨some 17,.mv,[.t 5],none⟩,
  ⟨some 4,.mv,[.t 17],none⟩]
def a79r6 : List IOp := [⟨some 18,.bin .add,[.t 8,.c (.int .i64 1)],none⟩,
  ⟨some 8,.mv,[.t 18],none⟩]
def a79r7 : List IOp := [⟨some 4,.mv,[.c (.int .i64 (-1))],none⟩]
def a79 : AFunc := ⟨19,[.tmp 4],(.seq (.region a79r0 [0,1]) (.seq (.seq (.region a79r1 [0,1,7,8]) (.block 0 (.loop (.seq (.region a79r2 [0,1,7,8,9]) (.seq (.cond (.t 9) .skip (.exit 0)) (.seq (.block 1 (.seq (.region a79r3 [0,1,5,7,8]) (.seq (.region a79r4 [0,1,5,7,8,16]) (.cond (.t 16) (.seq (.region a79r5 [4]) .ret) .skip)))) (.region a79r6 [0,1,7,8]))))))) (.seq (.region a79r7 [4]) .ret)))⟩
theorem a79_ok : compileF Tryd.prog (lk [(0,⟨[0,1],[],[]⟩),(1,⟨[0,1,7,8],[],[]⟩),(2,⟨[0,1,7,8,9],[],[]⟩),(3,⟨[0,1,5,7,8],[],[]⟩),(4,⟨[0,1,5,7,8,16],[],[]⟩),(5,⟨[4],[],[]⟩),(6,⟨[0,1,7,8],[],[]⟩),(7,⟨[4],[],[]⟩)]) Tryd.f79 = some a79 := by kernel_rfl

/- payroll/calendar.Holidays -/
def a80r0 : List IOp := [⟨some 4,.mv,[.c (.nils)],none⟩,
  ⟨some 5,.mv,[.c (.int .i64 0)],none⟩]
def a80r1 : List IOp := [⟨some 7,.mv,[.t 0],none⟩,
  ⟨some 8,.call 26,[.t 7],none⟩,
  ⟨some 6,.mv,[.t 8],none⟩]
def a80r2 : List IOp := [⟨some 9,.mv,[.t 6],none⟩,
  ⟨some 10,.bin .neq,[.t 9,.c (.int .i64 0)],none⟩]
def a80r3 : List IOp := [⟨some 11,.mv,[.t 6],none⟩,
  ⟨some 4,.mv,[.c (.nils)],none⟩,
  ⟨some 5,.mv,[.t 11],none⟩]
def a80r4 : List IOp := [⟨some 12,.mv,[.t 1],none⟩,
  ⟨some 13,.bin .lss,[.t 12,.c (.int .i64 1970)],none⟩,
  ⟨some 14,.mv,[.t 13],none⟩,
  ⟨some 15,.mv,[.t 1],some (14,false)⟩,
  ⟨some 16,.bin .gtr,[.t 15,.c (.int .i64 2199)],some (14,false)⟩,
  ⟨some 17,.pick,[.t 14,.c (.bool true),.t 16],none⟩]
def a80r5 : List IOp := [⟨some 4,.mv,[.c (.nils)],none⟩,
  ⟨some 5,.mv,[.c (.int .i64 2)],none⟩]
def a80r6 : List IOp := [⟨some 18,.mv,[.t 0],none⟩,
  ⟨some 19,.mv,[.t 1],none⟩,
  ⟨some 20,.mv,[.t 1],none⟩,
  ⟨some 21,.call 94,[.t 18,.t 19,.t 20],none⟩,
  ⟨some 4,.mv,[.t 21],none⟩,
  ⟨some 5,.mv,[.c (.int .i64 0)],none⟩]
def a80 : AFunc := ⟨22,[.tmp 4,.tmp 5],(.seq (.region a80r0 [0,1]) (.seq (.seq (.region a80r1 [0,1,6]) (.seq (.region a80r2 [0,1,6,10]) (.cond (.t 10) (.seq (.region a80r3 [4,5]) .ret) .skip))) (.seq (.seq (.region a80r4 [0,1,17]) (.cond (.t 17) (.seq (.region a80r5 [4,5]) .ret) .skip)) (.seq (.region a80r6 [4,5]) .ret))))⟩
theorem a80_ok : compileF Tryd.prog (lk [(0,⟨[0,1],[],[]⟩),(1,⟨[0,1,6],[],[]⟩),(2,⟨[0,1,6,10],[],[]⟩),(3,⟨[4,5],[],[]⟩),(4,⟨[0,1,17],[],[]⟩),(5,⟨[4,5],[],[]⟩),(6,⟨[4,5],[],[]⟩)]) Tryd.f80 = some a80 := by kernel_rfl

/- payroll/payrollref3.lengths -/
/- payroll/payrollref3.InDays -/
/- payroll/payrollref3.before -/
/- payroll/payrollref3.raw -/
/- payroll/payrollref3.easter -/
/- cmp.isNaN[int] -/
/- payroll/calendar.leaps -/
def a92r0 : List IOp := [⟨some 2,.mv,[.c (.int .i64 0)],none⟩]
def a92r1 : List IOp := [⟨some 3,.mv,[.t 0],none⟩,
  ⟨some 4,.bin .quo,[.t 3,.c (.int .i64 4)],none⟩,
  ⟨some 5,.mv,[.t 0],none⟩,
  ⟨some 6,.bin .quo,[.t 5,.c (.int .i64 100)],none⟩,
  ⟨some 7,.bin .sub,[.t 4,.t 6],none⟩,
  ⟨some 8,.mv,[.t 0],none⟩,
  ⟨some 9,.bin .quo,[.t 8,.c (.int .i64 400)],none⟩,
  ⟨some 10,.bin .add,[.t 7,.t 9],none⟩,
  ⟨some 2,.mv,[.t 10],none⟩]
def a92 : AFunc := ⟨11,[.tmp 2],(.seq (.region a92r0 [0]) (.seq (.region a92r1 [2]) .ret))⟩
theorem a92_ok : compileF Tryd.prog (lk [(0,⟨[0],[],[]⟩),(1,⟨[2],[],[]⟩)]) Tryd.f92 = some a92 := by kernel_rfl

/- payroll/calendar.leap -/
/- payroll/calendar.collect -/
def a94r0 : List IOp := [⟨some 6,.mv,[.c (.nils)],none⟩]
def a94r1 : List IOp := [⟨some 7,.mv,[.c (.nils)],none⟩]
def a94r2 : List IOp := [⟨some 13,.mv,[.t 1],none⟩,
  ⟨some 8,.mv,[.t 13],none⟩]
def a94r3 : List IOp := [⟨some 14,.mv,[.t 8],none⟩,
  ⟨some 15,.mv,[.t 2],none⟩,
  ⟨some 16,.bin .leq,[.t 14,.t 15],none⟩]
def a94r4 : List IOp := [⟨some 19,.mv,[.t 0],none⟩,
  ⟨some 20,.len,[.t 19],none⟩,
  ⟨some 21,.mv,[.c (.int .i64 0)],none⟩]
def a94r5 : List IOp := [⟨some 22,.bin .lss,[.t 21,.t 20],none⟩]
def a94r6 : List IOp := [⟨some 23,.indexAddr 6,[.t 19,.t 21],none⟩,
  ⟨some 24,.loadA 6,[.t 23],none⟩,
  ⟨some 10,.alloc 75 [.int .i64 0,.int .i64 0,.int .i64 0,.int .i64 0,.int .i64 0,.bool false],[],none⟩,
  ⟨none,.store 6,[.t 10,.t 24],none⟩]
def a94r7 : List IOp := [⟨some 26,.loadA 6,[.t 10],none⟩,
  ⟨some 27,.mv,[.t 8],none⟩,
  ⟨some 28,.call 96,[.t 26,.t 27],none⟩,
  ⟨some 25,.mv,[.t 28],none⟩,
  ⟨some 29,.extract 0,[.t 25],none⟩,
  ⟨some 30,.extract 1,[.t 25],none⟩,
  ⟨some 11,.mv,[.t 29],none⟩,
  ⟨some 12,.mv,[.t 30],none⟩]
def a94r8 : List IOp := [⟨some 31,.mv,[.t 12],none⟩]
def a94r9 : List IOp := [⟨some 32,.mv,[.t 7],none⟩,
  ⟨some 33,.mv,[.t 11],none⟩,
  ⟨some 34,.bslice 3 1 [.int .i64 0] 1 [0],[.t 33],none⟩,
  ⟨some 35,.append 3 1 8,[.t 32,.t 34],none⟩,
  ⟨some 7,.mv,[.t 35],none⟩]
def a94r10 : List IOp := [⟨some 36,.bin .add,[.t 21,.c (.int .i64 1)],none⟩,
  ⟨some 21,.mv,[.t 36],none⟩]
def a94r11 : List IOp := [⟨some 17,.mv,[.t 8],none⟩,
  ⟨some 18,.bin .add,[.t 17,.c (.int .i64 1)],none⟩,
  ⟨some 8,.mv,[.t 18],none⟩]
def a94r12 : List IOp := [⟨some 37,.mv,[.t 7],none⟩,
  ⟨some 38,.call 40,[.t 37],none⟩]
def a94r13 : List IOp := [⟨some 39,.mv,[.t 7],none⟩,
  ⟨some 40,.call 97,[.t 39],none⟩,
  ⟨some 6,.mv,[.t 40],none⟩]
def a94 : AFunc := ⟨41,[.tmp 6],(.seq (.region a94r0 [0,1,2]) (.seq (.region a94r1 [0,1,2,7]) (.seq (.seq (.region a94r2 [0,2,7,8]) (.block 0 (.loop (.seq (.seq (.region a94r3 [0,2,7,8,16]) (.cond (.t 16) .skip (.exit 0))) (.seq (.block 1 (.seq (.region a94r4 [0,2,7,8,19,20,21]) (.block 2 (.loop (.seq (.region a94r5 [0,2,7,8,19,20,21,22]) (.seq (.cond (.t 22) .skip (.exit 2)) (.seq (.block 3 (.seq (.region a94r6 [0,2,7,8,10,19,20,21]) (.seq (.region a94r7 [0,2,7,8,11,12,19,20,21]) (.seq (.region a94r8 [0,2,7,8,11,19,20,21,31]) (.cond (.t 31) (.region a94r9 [0,2,7,8,19,20,21]) .skip))))) (.region a94r10 [0,2,7,8,19,20,21])))))))) (.region a94r11 [0,2,7,8])))))) (.seq (.region a94r12 [7]) (.seq (.region a94r13 [6]) .ret)))))⟩
theorem a94_ok : compileF Tryd.prog (lk [(0,⟨[0,1,2],[],[]⟩),(1,⟨[0,1,2,7],[],[]⟩),(2,⟨[0,2,7,8],[],[]⟩),(3,⟨[0,2,7,8,16],[],[]⟩),(4,⟨[0,2,7,8],[],[]⟩),(5,⟨[0,2,7,8,19,20,21],[],[]⟩),(6,⟨[0,2,7,8,19,20,21,22],[],[]⟩),(7,⟨[0,2,7,8,10,19,20,21],[],[]⟩),(8,⟨[0,2,7,8,11,12,19,20,21],[],[]⟩),(9,⟨[0,2,7,8,11,19,20,21,31],[],[]⟩),(10,⟨[0,2,7,8,19,20,21],[],[]⟩),(11,⟨[0,2,7,8,19,20,21],[],[]⟩),(12,⟨[7],[],[]⟩),(13,⟨[6],[],[]⟩)]) Tryd.f94 = some a94 := by kernel_rfl

/- payroll/calendar.named -/
def a96r0 : List IOp := [⟨some 2,.box 75 6,[.t 0],none⟩,
  ⟨some 4,.mv,[.c (.int .i64 0)],none⟩,
  ⟨some 5,.mv,[.c (.bool false)],none⟩]
def a96r1 : List IOp := [⟨some 6,.mv,[.c (.int .i64 0)],none⟩]
def a96r2 : List IOp := [⟨some 7,.mv,[.c (.bool false)],none⟩]
def a96r3 : List IOp := [⟨some 9,.fieldAddr 0,[.t 2],none⟩,
  ⟨some 10,.load1,[.t 9],none⟩]
def a96r4 : List IOp := [⟨some 12,.bin .eql,[.t 10,.c (.int .i64 0)],none⟩,
  ⟨some 11,.mv,[.t 12],none⟩]
def a96r5 : List IOp := [⟨some 14,.mv,[.t 1],none⟩,
  ⟨some 15,.fieldAddr 1,[.t 2],none⟩,
  ⟨some 16,.load1,[.t 15],none⟩,
  ⟨some 17,.fieldAddr 2,[.t 2],none⟩,
  ⟨some 18,.load1,[.t 17],none⟩,
  ⟨some 19,.call 98,[.t 14,.t 16,.t 18],none⟩,
  ⟨some 13,.mv,[.t 19],none⟩,
  ⟨some 20,.extract 0,[.t 13],none⟩,
  ⟨some 21,.extract 1,[.t 13],none⟩,
  ⟨some 6,.mv,[.t 20],none⟩,
  ⟨some 7,.mv,[.t 21],none⟩]
def a96r6 : List IOp := [⟨some 23,.bin .eql,[.t 10,.c (.int .i64 1)],none⟩,
  ⟨some 22,.mv,[.t 23],none⟩]
def a96r7 : List IOp := [⟨some 25,.mv,[.t 1],none⟩,
  ⟨some 26,.call 99,[.t 25],none⟩,
  ⟨some 24,.mv,[.t 26],none⟩,
  ⟨some 27,.extract 0,[.t 24],none⟩,
  ⟨some 28,.extract 1,[.t 24],none⟩,
  ⟨some 6,.mv,[.t 27],none⟩,
  ⟨some 7,.mv,[.t 28],none⟩]
def a96r8 : List IOp := [⟨some 30,.bin .eql,[.t 10,.c (.int .i64 2)],none⟩,
  ⟨some 29,.mv,[.t 30],none⟩]
def a96r9 : List IOp := [⟨some 32,.mv,[.t 1],none⟩,
  ⟨some 33,.fieldAddr 1,[.t 2],none⟩,
  ⟨some 34,.load1,[.t 33],none⟩,
  ⟨some 35,.fieldAddr 3,[.t 2],none⟩,
  ⟨some 36,.load1,[.t 35],none⟩,
  ⟨some 37,.fieldAddr 2,[.t 2],none⟩,
  ⟨some 38,.load1,[.t 37],none⟩,
  ⟨some 39,.call 100,[.t 32,.t 34,.t 36,.t 38],none⟩,
  ⟨some 31,.mv,[.t 39],none⟩,
  ⟨some 40,.extract 0,[.t 31],none⟩,
  ⟨some 41,.extract 1,[.t 31],none⟩,
  ⟨some 6,.mv,[.t 40],none⟩,
  ⟨some 7,.mv,[.t 41],none⟩]
def a96r10 : List IOp := [⟨some 42,.mv,[.t 7],none⟩,
  ⟨some 43,.not,[.t 42],none⟩]
def a96r11 : List IOp := [⟨some 4,.mv,[.c (.int .i64 0)],none⟩,
  ⟨some 5,.mv,[.c (.bool false)],none⟩]
def a96r12 : List IOp := [⟨some 44,.mv,[.t 6],none⟩,
  ⟨some 45,.fieldAddr 4,[.t 2],none⟩,
  ⟨some 46,.load1,[.t 45],none⟩,
  ⟨some 47,.bin .add,[.t 44,.t 46],none⟩,
  ⟨some 6,.mv,[.t 47],none⟩]
def a96r13 : List IOp := [⟨some 48,.mv,[.t 6],none⟩,
  ⟨some 49,.call 101,[.t 48],none⟩,
  ⟨some 8,.mv,[.t 49],none⟩]
def a96r14 : List IOp := [⟨some 50,.fieldAddr 5,[.t 2],none⟩,
  ⟨some 51,.load1,[.t 50],none⟩,
  ⟨some 52,.mv,[.t 51],none⟩,
  ⟨some 53,.mv,[.t 8],some (52,true)⟩,
  ⟨some 54,.bin .geq,[.t 53,.c (.int .i64 5)],some (52,true)⟩,
  ⟨some 55,.pick,[.t 52,.t 54,.c (.bool false)],none⟩]
def a96r15 : List IOp := [⟨some 56,.mv,[.t 6],none⟩,
  ⟨some 57,.mv,[.t 8],none⟩,
  ⟨some 58,.bin .sub,[.c (.int .i64 7),.t 57],none⟩,
  ⟨some 59,.bin .add,[.t 56,.t 58],none⟩,
  ⟨some 6,.mv,[.t 59],none⟩]
def a96r16 : List IOp := [⟨some 60,.mv,[.t 6],none⟩,
  ⟨some 61,.call 75,[.t 60],none⟩,
  ⟨some 62,.not,[.t 61],none⟩]
def a96r17 : List IOp := [⟨some 4,.mv,[.c (.int .i64 0)],none⟩,
  ⟨some 5,.mv,[.c (.bool false)],none⟩]
def a96r18 : List IOp := [⟨some 63,.mv,[.t 6],none⟩,
  ⟨some 4,.mv,[.t 63],none⟩,
  ⟨some 5,.mv,[.c (.bool true)],none⟩]
def a96 : AFunc := ⟨64,[.tmp 4,.tmp 5],(.seq (.region a96r0 [1,2]) (.seq (.region a96r1 [1,2,6]) (.seq (.region a96r2 [1,2,6,7]) (.seq (.seq (.region a96r3 [1,2,6,7,10]) (.block 0 (.seq (.region a96r4 [1,2,6,7,10,11]) (.cond (.t 11) (.region a96r5 [2,6,7]) (.seq (.region a96r6 [1,2,6,7,10,22]) (.cond (.t 22) (.region a96r7 [2,6,7]) (.seq (.region a96r8 [1,2,6,7,29]) (.cond (.t 29) (.region a96r9 [2,6,7]) .skip)))))))) (.seq (.seq (.region a96r10 [2,6,43]) (.cond (.t 43) (.seq (.region a96r11 [4,5]) .ret) .skip)) (.seq (.region a96r12 [2,6]) (.seq (.seq (.region a96r13 [2,6,8]) (.seq (.region a96r14 [6,8,55]) (.cond (.t 55) (.region a96r15 [6]) .skip))) (.seq (.seq (.region a96r16 [6,62]) (.cond (.t 62) (.seq (.region a96r17 [4,5]) .ret) .skip)) (.seq (.region a96r18 [4,5]) .ret)))))))))⟩
theorem a96_ok : compileF Tryd.prog (lk [(0,⟨[1,2],[],[]⟩),(1,⟨[1,2,6],[],[]⟩),(2,⟨[1,2,6,7],[],[]⟩),(3,⟨[1,2,6,7,10],[],[]⟩),(4,⟨[1,2,6,7,10,11],[],[]⟩),(5,⟨[2,6,7],[],[]⟩),(6,⟨[1,2,6,7,10,22],[],[]⟩),(7,⟨[2,6,7],[],[]⟩),(8,⟨[1,2,6,7,29],[],[]⟩),(9,⟨[2,6,7],[],[]⟩),(10,⟨[2,6,43],[],[]⟩),(11,⟨[4,5],[],[]⟩),(12,⟨[2,6],[],[]⟩),(13,⟨[2,6,8],[],[]⟩),(14,⟨[6,8,55],[],[]⟩),(15,⟨[6],[],[]⟩),(16,⟨[6,62],[],[]⟩),(17,⟨[4,5],[],[]⟩),(18,⟨[4,5],[],[]⟩)]) Tryd.f96 = some a96 := by kernel_rfl

/- payroll/calendar.Day -/
def a98r0 : List IOp := [⟨some 6,.mv,[.c (.int .i64 0)],none⟩,
  ⟨some 7,.mv,[.c (.bool false)],none⟩]
def a98r1 : List IOp := [⟨some 8,.mv,[.t 0],none⟩,
  ⟨some 9,.bin .lss,[.t 8,.c (.int .i64 1970)],none⟩,
  ⟨some 10,.mv,[.t 9],none⟩,
  ⟨some 11,.mv,[.t 0],some (10,false)⟩,
  ⟨some 12,.bin .gtr,[.t 11,.c (.int .i64 2199)],some (10,false)⟩,
  ⟨some 13,.pick,[.t 10,.c (.bool true),.t 12],none⟩,
  ⟨some 14,.mv,[.t 13],none⟩,
  ⟨some 15,.mv,[.t 1],some (14,false)⟩,
  ⟨some 16,.bin .lss,[.t 15,.c (.int .i64 1)],some (14,false)⟩,
  ⟨some 17,.pick,[.t 14,.c (.bool true),.t 16],none⟩,
  ⟨some 18,.mv,[.t 17],none⟩,
  ⟨some 19,.mv,[.t 1],some (18,false)⟩,
  ⟨some 20,.bin .gtr,[.t 19,.c (.int .i64 12)],some (18,false)⟩,
  ⟨some 21,.pick,[.t 18,.c (.bool true),.t 20],none⟩]
def a98r2 : List IOp := [⟨some 6,.mv,[.c (.int .i64 0)],none⟩,
  ⟨some 7,.mv,[.c (.bool false)],none⟩]
def a98r3 : List IOp := [⟨some 22,.mv,[.t 2],none⟩,
  ⟨some 23,.bin .lss,[.t 22,.c (.int .i64 1)],none⟩,
  ⟨some 24,.mv,[.t 23],none⟩,
  ⟨some 25,.mv,[.t 2],some (24,false)⟩,
  ⟨some 26,.mv,[.t 0],some (24,false)⟩,
  ⟨some 27,.mv,[.t 1],some (24,false)⟩,
  ⟨some 28,.call 78,[.t 26,.t 27],some (24,false)⟩,
  ⟨some 29,.bin .gtr,[.t 25,.t 28],some (24,false)⟩,
  ⟨some 30,.pick,[.t 24,.c (.bool true),.t 29],none⟩]
def a98r4 : List IOp := [⟨some 6,.mv,[.c (.int .i64 0)],none⟩,
  ⟨some 7,.mv,[.c (.bool false)],none⟩]
def a98r5 : List IOp := [⟨some 31,.mv,[.t 0],none⟩,
  ⟨some 32,.mv,[.t 1],none⟩,
  ⟨some 33,.mv,[.t 2],none⟩,
  ⟨some 34,.call 102,[.t 31,.t 32,.t 33],none⟩,
  ⟨some 6,.mv,[.t 34],none⟩,
  ⟨some 7,.mv,[.c (.bool true)],none⟩]
def a98 : AFunc := ⟨35,[.tmp 6,.tmp 7],(.seq (.region a98r0 [0,1,2]) (.seq (.seq (.region a98r1 [0,1,2,21]) (.cond (.t 21) (.seq (.region a98r2 [6,7]) .ret) .skip)) (.seq (.seq (.region a98r3 [0,1,2,30]) (.cond (.t 30) (.seq (.region a98r4 [6,7]) .ret) .skip)) (.seq (.region a98r5 [6,7]) .ret))))⟩
theorem a98_ok : compileF Tryd.prog (lk [(0,⟨[0,1,2],[],[]⟩),(1,⟨[0,1,2,21],[],[]⟩),(2,⟨[6,7],[],[]⟩),(3,⟨[0,1,2,30],[],[]⟩),(4,⟨[6,7],[],[]⟩),(5,⟨[6,7],[],[]⟩)]) Tryd.f98 = some a98 := by kernel_rfl

/- payroll/calendar.Easter -/
def a99r0 : List IOp := [⟨some 2,.mv,[.c (.int .i64 0)],none⟩,
  ⟨some 3,.mv,[.c (.bool false)],none⟩]
def a99r1 : List IOp := [⟨some 12,.mv,[.t 0],none⟩,
  ⟨some 13,.bin .lss,[.t 12,.c (.int .i64 1970)],none⟩,
  ⟨some 14,.mv,[.t 13],none⟩,
  ⟨some 15,.mv,[.t 0],some (14,false)⟩,
  ⟨some 16,.bin .gtr,[.t 15,.c (.int .i64 2199)],some (14,false)⟩,
  ⟨some 17,.pick,[.t 14,.c (.bool true),.t 16],none⟩]
def a99r2 : List IOp := [⟨some 2,.mv,[.c (.int .i64 0)],none⟩,
  ⟨some 3,.mv,[.c (.bool false)],none⟩]
def a99r3 : List IOp := [⟨some 18,.mv,[.t 0],none⟩,
  ⟨some 19,.bin .rem,[.t 18,.c (.int .i64 19)],none⟩,
  ⟨some 20,.mv,[.t 0],none⟩,
  ⟨some 21,.bin .quo,[.t 20,.c (.int .i64 100)],none⟩,
  ⟨some 22,.mv,[.t 0],none⟩,
  ⟨some 23,.bin .rem,[.t 22,.c (.int .i64 100)],none⟩,
  ⟨some 4,.mv,[.t 19],none⟩,
  ⟨some 5,.mv,[.t 21],none⟩,
  ⟨some 6,.mv,[.t 23],none⟩]
def a99r4 : List IOp := [⟨some 24,.mv,[.t 5],none⟩,
  ⟨some 25,.mv,[.t 5],none⟩,
  ⟨some 26,.bin .add,[.t 25,.c (.int .i64 8)],none⟩,
  ⟨some 27,.bin .quo,[.t 26,.c (.int .i64 25)],none⟩,
  ⟨some 28,.bin .sub,[.t 24,.t 27],none⟩,
  ⟨some 29,.bin .add,[.t 28,.c (.int .i64 1)],none⟩,
  ⟨some 30,.bin .quo,[.t 29,.c (.int .i64 3)],none⟩,
  ⟨some 7,.mv,[.t 30],none⟩]
def a99r5 : List IOp := [⟨some 31,.mv,[.t 4],none⟩,
  ⟨some 32,.bin .mul,[.c (.int .i64 19),.t 31],none⟩,
  ⟨some 33,.mv,[.t 5],none⟩,
  ⟨some 34,.bin .add,[.t 32,.t 33],none⟩,
  ⟨some 35,.mv,[.t 5],none⟩,
  ⟨some 36,.bin .quo,[.t 35,.c (.int .i64 4)],none⟩,
  ⟨some 37,.bin .sub,[.t 34,.t 36],none⟩,
  ⟨some 38,.mv,[.t 7],none⟩,
  ⟨some 39,.bin .sub,[.t 37,.t 38],none⟩,
  ⟨some 40,.bin .add,[.t 39,.c (.int .i64 15)],none⟩,
  ⟨some 41,.bin .rem,[.t 40,.c (.int .i64 30)],none⟩,
  ⟨some 8,.mv,[.t 41],none⟩]
def a99r6 : List IOp := [⟨some 42,.mv,[.t 5],none⟩,
  ⟨some 43,.bin .rem,[.t 42,.c (.int .i64 4)],none⟩,
  ⟨some 44,.bin .mul,[.c (.int .i64 2),.t 43],none⟩,
  ⟨some 45,.bin .add,[.c (.int .i64 32),.t 44],none⟩,
  ⟨some 46,.mv,[.t 6],none⟩,
  ⟨some 47,.bin .quo,[.t 46,.c (.int .i64 4)],none⟩,
  ⟨some 48,.bin .mul,[.c (.int .i64 2),.t 47],none⟩,
  ⟨some 49,.bin .add,[.t 45,.t 48],none⟩,
  ⟨some 50,.mv,[.t 8],none⟩,
  ⟨some 51,.bin .sub,[.t 49,.t 50],none⟩,
  ⟨some 52,.mv,[.t 6],none⟩,
  ⟨some 53,.bin .rem,[.t 52,.c (.int .i64 4)],none⟩,
  ⟨some 54,.bin .sub,[.t 51,.t 53],none⟩,
  ⟨some 55,.bin .rem,[.t 54,.c (.int .i64 7)],none⟩,
  ⟨some 9,.mv,[.t 55],none⟩]
def a99r7 : List IOp := [⟨some 56,.mv,[.t 4],none⟩,
  ⟨some 57,.mv,[.t 8],none⟩,
  ⟨some 58,.bin .mul,[.c (.int .i64 11),.t 57],none⟩,
  ⟨some 59,.bin .add,[.t 56,.t 58],none⟩,
  ⟨some 60,.mv,[.t 9],none⟩,
  ⟨some 61,.bin .mul,[.c (.int .i64 22),.t 60],none⟩,
  ⟨some 62,.bin .add,[.t 59,.t 61],none⟩,
  ⟨some 63,.bin .quo,[.t 62,.c (.int .i64 451)],none⟩,
  ⟨some 10,.mv,[.t 63],none⟩]
def a99r8 : List IOp := [⟨some 64,.mv,[.t 8],none⟩,
  ⟨some 65,.mv,[.t 9],none⟩,
  ⟨some 66,.bin .add,[.t 64,.t 65],none⟩,
  ⟨some 67,.mv,[.t 10],none⟩,
  ⟨some 68,.bin .mul,[.c (.int .i64 7),.t 67],none⟩,
  ⟨some 69,.bin .sub,[.t 66,.t 68],none⟩,
  ⟨some 70,.bin .add,[.t 69,.c (.int .i64 114)],none⟩,
  ⟨some 11,.mv,[.t 70],none⟩]
def a99r9 : List IOp := [⟨some 71,.mv,[.t 0],none⟩,
  ⟨some 72,.mv,[.t 11],none⟩,
  ⟨some 73,.bin .quo,[.t 72,.c (.int .i64 31)],none⟩,
  ⟨some 74,.mv,[.t 11],none⟩,
  ⟨some 75,.bin .rem,[.t 74,.c (.int .i64 31)],none⟩,
  ⟨some 76,.bin .add,[.t 75,.c (.int .i64 1)],none⟩,
  ⟨some 77,.call 98,[.t 71,.t 73,.t 76],none⟩,
  ⟨some 78,.extract 0,[.t 77],none⟩,
  ⟨some 79,.extract 1,[.t 77],none⟩,
  ⟨some 2,.mv,[.t 78],none⟩,
  ⟨some 3,.mv,[.t 79],none⟩]
def a99 : AFunc := ⟨80,[.tmp 2,.tmp 3],(.seq (.region a99r0 [0]) (.seq (.seq (.region a99r1 [0,17]) (.cond (.t 17) (.seq (.region a99r2 [2,3]) .ret) .skip)) (.seq (.region a99r3 [0,4,5,6]) (.seq (.region a99r4 [0,4,5,6,7]) (.seq (.region a99r5 [0,4,5,6,8]) (.seq (.region a99r6 [0,4,8,9]) (.seq (.region a99r7 [0,8,9,10]) (.seq (.region a99r8 [0,11]) (.seq (.region a99r9 [2,3]) .ret)))))))))⟩
theorem a99_ok : compileF Tryd.prog (lk [(0,⟨[0],[],[]⟩),(1,⟨[0,17],[],[]⟩),(2,⟨[2,3],[],[]⟩),(3,⟨[0,4,5,6],[],[]⟩),(4,⟨[0,4,5,6,7],[],[]⟩),(5,⟨[0,4,5,6,8],[],[]⟩),(6,⟨[0,4,8,9],[],[]⟩),(7,⟨[0,8,9,10],[],[]⟩),(8,⟨[0,11],[],[]⟩),(9,⟨[2,3],[],[]⟩)]) Tryd.f99 = some a99 := by kernel_rfl

/- payroll/calendar.nth -/
def a100r0 : List IOp := [⟨some 8,.mv,[.c (.int .i64 0)],none⟩,
  ⟨some 9,.mv,[.c (.bool false)],none⟩]
def a100r1 : List IOp := [⟨some 13,.mv,[.t 0],none⟩,
  ⟨some 14,.mv,[.t 1],none⟩,
  ⟨some 15,.call 102,[.t 13,.t 14,.c (.int .i64 1)],none⟩,
  ⟨some 10,.mv,[.t 15],none⟩]
def a100r2 : List IOp := [⟨some 16,.mv,[.t 0],none⟩,
  ⟨some 17,.mv,[.t 1],none⟩,
  ⟨some 18,.call 78,[.t 16,.t 17],none⟩,
  ⟨some 11,.mv,[.t 18],none⟩]
def a100r3 : List IOp := [⟨some 19,.mv,[.t 2],none⟩,
  ⟨some 20,.mv,[.t 10],none⟩,
  ⟨some 21,.call 101,[.t 20],none⟩,
  ⟨some 22,.bin .sub,[.t 19,.t 21],none⟩,
  ⟨some 23,.bin .add,[.t 22,.c (.int .i64 7)],none⟩,
  ⟨some 24,.bin .rem,[.t 23,.c (.int .i64 7)],none⟩,
  ⟨some 12,.mv,[.t 24],none⟩]
def a100r4 : List IOp := [⟨some 25,.mv,[.t 3],none⟩,
  ⟨some 26,.bin .eql,[.t 25,.c (.int .i64 (-1))],none⟩]
def a100r5 : List IOp := [⟨some 27,.mv,[.t 12],none⟩,
  ⟨some 28,.mv,[.t 11],none⟩,
  ⟨some 29,.bin .sub,[.t 28,.c (.int .i64 1)],none⟩,
  ⟨some 30,.mv,[.t 12],none⟩,
  ⟨some 31,.bin .sub,[.t 29,.t 30],none⟩,
  ⟨some 32,.bin .quo,[.t 31,.c (.int .i64 7)],none⟩,
  ⟨some 33,.bin .mul,[.t 32,.c (.int .i64 7)],none⟩,
  ⟨some 34,.bin .add,[.t 27,.t 33],none⟩,
  ⟨some 12,.mv,[.t 34],none⟩]
def a100r6 : List IOp := [⟨some 35,.mv,[.t 12],none⟩,
  ⟨some 36,.mv,[.t 3],none⟩,
  ⟨some 37,.bin .sub,[.t 36,.c (.int .i64 1)],none⟩,
  ⟨some 38,.bin .mul,[.c (.int .i64 7),.t 37],none⟩,
  ⟨some 39,.bin .add,[.t 35,.t 38],none⟩,
  ⟨some 12,.mv,[.t 39],none⟩]
def a100r7 : List IOp := [⟨some 40,.mv,[.t 12],none⟩,
  ⟨some 41,.mv,[.t 11],none⟩,
  ⟨some 42,.bin .geq,[.t 40,.t 41],none⟩]
def a100r8 : List IOp := [⟨some 8,.mv,[.c (.int .i64 0)],none⟩,
  ⟨some 9,.mv,[.c (.bool false)],none⟩]
def a100r9 : List IOp := [⟨some 43,.mv,[.t 10],none⟩,
  ⟨some 44,.mv,[.t 12],none⟩,
  ⟨some 45,.bin .add,[.t 43,.t 44],none⟩,
  ⟨some 8,.mv,[.t 45],none⟩,
  ⟨some 9,.mv,[.c (.bool true)],none⟩]
def a100 : AFunc := ⟨46,[.tmp 8,.tmp 9],(.seq (.region a100r0 [0,1,2,3]) (.seq (.region a100r1 [0,1,2,3,10]) (.seq (.region a100r2 [2,3,10,11]) (.seq (.region a100r3 [3,10,11,12]) (.seq (.seq (.region a100r4 [3,10,11,12,26]) (.cond (.t 26) (.region a100r5 [10,11,12]) (.region a100r6 [10,11,12]))) (.seq (.seq (.region a100r7 [10,12,42]) (.cond (.t 42) (.seq (.region a100r8 [8,9]) .ret) .skip)) (.seq (.region a100r9 [8,9]) .ret)))))))⟩
theorem a100_ok : compileF Tryd.prog (lk [(0,⟨[0,1,2,3],[],[]⟩),(1,⟨[0,1,2,3,10],[],[]⟩),(2,⟨[2,3,10,11],[],[]⟩),(3,⟨[3,10,11,12],[],[]⟩),(4,⟨[3,10,11,12,26],[],[]⟩),(5,⟨[10,11,12],[],[]⟩),(6,⟨[10,11,12],[],[]⟩),(7,⟨[10,12,42],[],[]⟩),(8,⟨[8,9],[],[]⟩),(9,⟨[8,9],[],[]⟩)]) Tryd.f100 = some a100 := by kernel_rfl

/- payroll/calendar.weekday -/
def a101r0 : List IOp := [⟨some 2,.mv,[.c (.int .i64 0)],none⟩]
def a101r1 : List IOp := [⟨some 3,.mv,[.t 0],none⟩,
  ⟨some 4,.bin .add,[.t 3,.c (.int .i64 3)],none⟩,
  ⟨some 5,.bin .rem,[.t 4,.c (.int .i64 7)],none⟩,
  ⟨some 6,.bin .add,[.t 5,.c (.int .i64 7)],none⟩,
  ⟨some 7,.bin .rem,[.t 6,.c (.int .i64 7)],none⟩,
  ⟨some 2,.mv,[.t 7],none⟩]
def a101 : AFunc := ⟨8,[.tmp 2],(.seq (.region a101r0 [0]) (.seq (.region a101r1 [2]) .ret))⟩
theorem a101_ok : compileF Tryd.prog (lk [(0,⟨[0],[],[]⟩),(1,⟨[2],[],[]⟩)]) Tryd.f101 = some a101 := by kernel_rfl

/- payroll/calendar.number -/
def a102r0 : List IOp := [⟨some 6,.mv,[.c (.int .i64 0)],none⟩]
def a102r1 : List IOp := [⟨some 9,.mv,[.t 0],none⟩,
  ⟨some 10,.call 77,[.t 9],none⟩,
  ⟨some 7,.mv,[.t 10],none⟩]
def a102r2 : List IOp := [⟨some 8,.mv,[.c (.int .i64 1)],none⟩]
def a102r3 : List IOp := [⟨some 11,.mv,[.t 8],none⟩,
  ⟨some 12,.mv,[.t 1],none⟩,
  ⟨some 13,.bin .lss,[.t 11,.t 12],none⟩]
def a102r4 : List IOp := [⟨some 16,.mv,[.t 7],none⟩,
  ⟨some 17,.mv,[.t 0],none⟩,
  ⟨some 18,.mv,[.t 8],none⟩,
  ⟨some 19,.call 78,[.t 17,.t 18],none⟩,
  ⟨some 20,.bin .add,[.t 16,.t 19],none⟩,
  ⟨some 7,.mv,[.t 20],none⟩]
def a102r5 : List IOp := [⟨some 14,.mv,[.t 8],none⟩,
  ⟨some 15,.bin .add,[.t 14,.c (.int .i64 1)],none⟩,
  ⟨some 8,.mv,[.t 15],none⟩]
def a102r6 : List IOp := [⟨some 21,.mv,[.t 7],none⟩,
  ⟨some 22,.mv,[.t 2],none⟩,
  ⟨some 23,.bin .add,[.t 21,.t 22],none⟩,
  ⟨some 24,.bin .sub,[.t 23,.c (.int .i64 1)],none⟩,
  ⟨some 6,.mv,[.t 24],none⟩]
def a102 : AFunc := ⟨25,[.tmp 6],(.seq (.region a102r0 [0,1,2]) (.seq (.region a102r1 [0,1,2,7]) (.seq (.seq (.region a102r2 [0,1,2,7,8]) (.block 0 (.loop (.seq (.seq (.region a102r3 [0,1,2,7,8,13]) (.cond (.t 13) .skip (.exit 0))) (.seq (.block 1 (.region a102r4 [0,1,2,7,8])) (.region a102r5 [0,1,2,7,8])))))) (.seq (.region a102r6 [6]) .ret))))⟩
theorem a102_ok : compileF Tryd.prog (lk [(0,⟨[0,1,2],[],[]⟩),(1,⟨[0,1,2,7],[],[]⟩),(2,⟨[0,1,2,7,8],[],[]⟩),(3,⟨[0,1,2,7,8,13],[],[]⟩),(4,⟨[0,1,2,7,8],[],[]⟩),(5,⟨[0,1,2,7,8],[],[]⟩),(6,⟨[6],[],[]⟩)]) Tryd.f102 = some a102 := by kernel_rfl

end Go.Proofs.YtefemdpicjgkeaaDoor
