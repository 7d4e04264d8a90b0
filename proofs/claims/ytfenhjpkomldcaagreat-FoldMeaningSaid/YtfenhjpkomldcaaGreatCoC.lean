/- The codes of functions of the program, as the evaluator reads them; that each is what its compiler makes of the model's function. Conditions: none. -/
import Derived.Test.YtfenhjpkomldcaaGreatEvF
import Derived.Test.YtfenhjpkomldcaaGreatChecked
import Derived.KernelRfl
set_option maxRecDepth 100000
namespace Go.Proofs.YtfenhjpkomldcaaGreat
open Go Go.Ev
def c139:AFunc:=⟨26,
.seq ( .region [
 ⟨(some 6),.mv (.c (.b false)),none⟩]) (
.seq (
.seq ( .region [
om 7 1,
om 8 2,
ob 9 .leq (.t 7) (.t 8)]) ( .cond (.t 9) (
.seq ( .region [
om 10 1,
om 11 0,
ob 12 .leq (.t 10) (.t 11),
om 13 12,⟨(some 14),.mv (.t 0),(some (13,true))⟩,
⟨(some 15),.mv (.t 2),(some (13,true))⟩,
⟨(some 16),.bin .lss (.t 14) (.t 15),(some (13,true))⟩,
⟨(some 17),.pick (.t 13) (.t 16) (.c (.b false)),none⟩,
om 6 17]) ( .ret)) ( .skip))) (
.seq ( .region [
om 18 1,
om 19 0,
ob 20 .leq (.t 18) (.t 19),
om 21 20,⟨(some 22),.mv (.t 0),(some (21,false))⟩,
⟨(some 23),.mv (.t 2),(some (21,false))⟩,
⟨(some 24),.bin .lss (.t 22) (.t 23),(some (21,false))⟩,
⟨(some 25),.pick (.t 21) (.c (.b true)) (.t 24),none⟩,
om 6 25]) ( .ret))),[.tmp 6],false,none⟩
theorem k139:CodeOk Tryz.prog 139 c139:=codeOk (hs:= []) Tryz.func139 (by kernel_rfl)
def c140:AFunc:=⟨31,
.seq ( .region [
 ⟨(some 4),.mv (.c (.i .i64 0)),none⟩]) (
.seq ( .region [
om 6 0,
om 7 1,
ob 8 .add (.t 6) (.t 7),
om 5 8]) (
.seq (
.seq ( .region [
om 9 0,
ob 10 .geq (.t 9) (.c (.i .i64 0)),
om 11 10,⟨(some 12),.mv (.t 1),(some (11,true))⟩,
⟨(some 13),.bin .geq (.t 12) (.c (.i .i64 0)),(some (11,true))⟩,
⟨(some 14),.pick (.t 11) (.t 13) (.c (.b false)),none⟩,
om 15 14,⟨(some 16),.mv (.t 5),(some (15,true))⟩,
⟨(some 17),.bin .lss (.t 16) (.c (.i .i64 0)),(some (15,true))⟩,
⟨(some 18),.pick (.t 15) (.t 17) (.c (.b false)),none⟩]) ( .cond (.t 18) (
.seq ( .region [
 ⟨(some 4),.mv (.c (.i .i64 1099511627776)),none⟩]) ( .ret)) ( .skip))) (
.seq (
.seq ( .region [
om 19 0,
ob 20 .lss (.t 19) (.c (.i .i64 0)),
om 21 20,⟨(some 22),.mv (.t 1),(some (21,true))⟩,
⟨(some 23),.bin .lss (.t 22) (.c (.i .i64 0)),(some (21,true))⟩,
⟨(some 24),.pick (.t 21) (.t 23) (.c (.b false)),none⟩,
om 25 24,⟨(some 26),.mv (.t 5),(some (25,true))⟩,
⟨(some 27),.bin .geq (.t 26) (.c (.i .i64 0)),(some (25,true))⟩,
⟨(some 28),.pick (.t 25) (.t 27) (.c (.b false)),none⟩]) ( .cond (.t 28) (
.seq ( .region [
 ⟨(some 4),.mv (.c (.i .i64 (-1099511627776))),none⟩]) ( .ret)) ( .skip))) (
.seq ( .region [
om 29 5,oc 30 137 [(.t 29)],
om 4 30]) ( .ret))))),[.tmp 4],false,none⟩
theorem k140:CodeOk Tryz.prog 140 c140:=codeOk (hs:= []) Tryz.func140 (by kernel_rfl)
def c141:AFunc:=⟨61,
.seq ( .region [
 ⟨(some 6),.mv (.c (.i .i64 0)),none⟩]) (
.seq (
.seq ( .region [
om 7 0]) ( .block 0 (
.seq ( .region [
 ob 9 .eql (.t 7) (.c (.i .i64 8)),
om 8 9]) ( .cond (.t 8) (
.seq ( .region [
om 10 1,
om 11 2,oc 12 140 [(.t 10),(.t 11)],
om 6 12]) ( .ret)) (
.seq ( .region [
 ob 14 .eql (.t 7) (.c (.i .i64 9)),
om 13 14]) ( .cond (.t 13) (
.seq ( .region [
om 15 1,
om 16 2,⟨(some 17),.un .neg (.t 16),none⟩,oc 18 140 [(.t 15),(.t 17)],
om 6 18]) ( .ret)) (
.seq ( .region [
 ob 20 .eql (.t 7) (.c (.i .i64 10)),
om 19 20]) ( .cond (.t 19) (
.seq ( .region [
om 21 1,
om 22 2,oc 23 213 [(.t 21),(.t 22)],
om 6 23]) ( .ret)) (
.seq ( .region [
 ob 25 .eql (.t 7) (.c (.i .i64 11)),
om 24 25]) ( .cond (.t 24) (
.seq ( .region [
om 26 1,
om 27 2,oc 28 214 [(.t 26),(.t 27)],
om 6 28]) ( .ret)) (
.seq ( .region [
 ob 30 .eql (.t 7) (.c (.i .i64 16)),
om 29 30]) ( .cond (.t 29) (
.seq ( .region [
om 31 1,
om 32 2,
ob 33 .lss (.t 31) (.t 32),oc 34 136 [(.t 33)],
om 6 34]) ( .ret)) (
.seq ( .region [
 ob 36 .eql (.t 7) (.c (.i .i64 17)),
om 35 36]) ( .cond (.t 35) (
.seq ( .region [
om 37 1,
om 38 2,
ob 39 .leq (.t 37) (.t 38),oc 40 136 [(.t 39)],
om 6 40]) ( .ret)) (
.seq ( .region [
 ob 42 .eql (.t 7) (.c (.i .i64 18)),
om 41 42]) ( .cond (.t 41) (
.seq ( .region [
om 43 1,
om 44 2,
ob 45 .eql (.t 43) (.t 44),oc 46 136 [(.t 45)],
om 6 46]) ( .ret)) (
.seq ( .region [
 ob 48 .eql (.t 7) (.c (.i .i64 20)),
om 47 48]) ( .cond (.t 47) (
.seq ( .region [
om 49 1,
om 50 2,
ob 51 .and (.t 49) (.t 50),
om 6 51]) ( .ret)) (
.seq ( .region [
 ob 53 .eql (.t 7) (.c (.i .i64 21)),
om 52 53]) ( .cond (.t 52) (
.seq ( .region [
om 54 1,
om 55 2,
ob 56 .or (.t 54) (.t 55),
om 6 56]) ( .ret)) ( .skip))))))))))))))))))))) (
.seq ( .region [
om 57 1,
ob 58 .sub (.c (.i .i64 1)) (.t 57),
om 59 2,
ob 60 .or (.t 58) (.t 59),
om 6 60]) ( .ret))),[.tmp 6],false,none⟩
theorem k141:CodeOk Tryz.prog 141 c141:=codeOk (hs:= []) Tryz.func141 (by kernel_rfl)
def c142_L1:ACode:=
.seq ( .region [
 ob 62 .lss (.t 61) (.t 60)]) (
.seq ( .cond (.t 62) ( .skip) ( .exit 0)) (
.seq ( .block 1 (
.seq ( .region [
om 63 61,oi 64 59 61 4,ol 65 64 4 true,⟨(some 16),.alloc [(.i .i64 0),(.i .i64 0),(.s []),.nilsl] false,none⟩,
om 15 63,ot 16 65 4]) (
.seq ( .region [
om 67 0,
om 68 1,
om 69 2,ol 70 16 4 true,oc 71 142 [(.t 67),(.t 68),(.t 69),(.t 70)],
om 66 71,oe 72 66 0,oe 73 66 1,
om 17 72,
om 18 73]) (
.seq (
.seq ( .region [
om 74 18,
ob 75 .neq (.t 74) (.c (.i .i64 0))]) ( .cond (.t 75) (
.seq ( .region [
om 76 18,⟨(some 8),.mv (.c (.i .i64 0)),none⟩,
om 9 76]) ( .ret)) ( .skip))) ( .region [
om 77 14,
om 78 15,
om 79 17,oi 80 77 78 1,ot 80 79 1]))))) ( .region [
 ob 81 .add (.t 61) (.c (.i .i64 1)),
om 61 81])))
theorem c142_L1_w:wrM (wrC (.loop c142_L1))=4835700972615507485623040:=nr rfl
def c142:AFunc:=⟨89,
.seq ( .region [
 ⟨(some 7),.box (.t 3) false,none⟩,
⟨(some 8),.mv (.c (.i .i64 0)),none⟩,
⟨(some 9),.mv (.c (.i .i64 0)),none⟩]) (
.seq (
.seq ( .region [
 oa 20 7 0,ol 21 20 1 false,
ob 22 .eql (.t 21) (.c (.i .i64 6))]) ( .cond (.t 22) (
.seq (
.seq ( .region [
om 24 1,oa 25 7 2,ol 26 25 1 false,oc 27 89 [(.t 24),(.t 26)],
om 23 27,oe 28 23 0,oe 29 23 1,
om 10 28,
om 11 29]) (
.seq ( .region [
om 30 11,
ob 31 .eql (.t 30) (.c (.i .i64 0))]) ( .cond (.t 31) (
.seq ( .region [
om 32 10,
om 8 32,⟨(some 9),.mv (.c (.i .i64 0)),none⟩]) ( .ret)) ( .skip)))) (
.seq (
.seq ( .draws [([],
om 34 0),([],⟨(some 35),.nck (.t 34),none⟩),
([],oa 36 35 1),([],ol 37 36 1 false),([],oa 38 7 2),([3],ol 39 38 1 false),([],⟨(some 40),.lk (.one .str) (.t 37) (.t 39) (.i .i64 0) true,none⟩),
([],
om 33 40),([],oe 41 33 0),([],oe 42 33 1),([],
om 12 41),([],
om 13 42)]) (
.seq ( .region [
om 43 13,
om 44 43,⟨(some 45),.mv (.t 12),(some (44,true))⟩,
⟨(some 46),.mv (.t 2),(some (44,true))⟩,
⟨(some 47),.bin .lss (.t 45) (.t 46),(some (44,true))⟩,
⟨(some 48),.pick (.t 44) (.t 47) (.c (.b false)),none⟩]) ( .cond (.t 48) (
.seq ( .region [
om 49 0,
om 50 12,oc 51 114 [(.t 49),(.t 50)],oe 52 51 0,oe 53 51 1,
om 8 52,
om 9 53]) ( .ret)) ( .skip)))) (
.seq ( .region [
 ⟨(some 8),.mv (.c (.i .i64 0)),none⟩,
⟨(some 9),.mv (.c (.i .i64 6)),none⟩]) ( .ret)))) ( .skip))) (
.seq ( .region [
 oa 54 7 3,ol 55 54 1 false,on 56 55,⟨(some 57),.mksl [(.i .i64 0)] 8 (.t 56) false,none⟩,
om 14 57]) (
.seq (
.seq ( .region [
 oa 58 7 3,ol 59 58 1 false,on 60 59,⟨(some 61),.mv (.c (.i .i64 0)),none⟩]) ( .block 0 ( .loop c142_L1))) (
.seq (
.seq ( .region [
 oa 82 7 0,ol 83 82 1 false,
om 84 14,oc 85 215 [(.t 83),(.t 84)],
om 19 85]) (
.seq ( .region [
om 86 19,
ob 87 .neq (.t 86) (.c (.i .i64 0))]) ( .cond (.t 87) (
.seq ( .region [
om 88 19,
om 8 88,⟨(some 9),.mv (.c (.i .i64 0)),none⟩]) ( .ret)) ( .skip)))) (
.seq ( .region [
 ⟨(some 8),.mv (.c (.i .i64 0)),none⟩,
⟨(some 9),.mv (.c (.i .i64 9)),none⟩]) ( .ret)))))),[.tmp 8,.tmp 9],true,none⟩
theorem k142:CodeOk Tryz.prog 142 c142:=codeOk (hs:= []) Tryz.func142 (by kernel_rfl)
def c143:AFunc:=⟨8,
.seq ( .region [
 ⟨(some 2),.mv (.c .nilsl),none⟩]) (
.seq (
.seq ( .region [
om 3 0,⟨(some 4),.eq false .sl (.t 3) (.c .nilsl),none⟩]) ( .cond (.t 4) (
.seq ( .region [
 ⟨(some 2),.mv (.c .nilsl),none⟩]) ( .ret)) ( .skip))) (
.seq ( .region [
 ⟨(some 5),.bsl [(.i .i64 0),(.i .i64 0),(.s []),.nilsl] 0 [],none⟩,
om 6 0,⟨(some 7),.app 4 56 (.t 5) (.t 6) false false,none⟩,
om 2 7]) ( .ret))),[.tmp 2],false,(some 0)⟩
theorem k143:CodeOk Tryz.prog 143 c143:=codeOk (hs:= [1000000]) Tryz.func143 (by kernel_rfl)
def c144_L1:ACode:=
.seq ( .region [
 ob 9 .lss (.t 8) (.t 7)]) (
.seq ( .cond (.t 9) ( .skip) ( .exit 0)) (
.seq ( .block 1 (
.seq ( .region [
om 10 8,
om 5 10]) (
.seq ( .region [
om 11 1,
om 12 0,
om 13 5,oi 14 12 13 5,ol 15 14 5 true,⟨(some 16),.callv (.t 11) [(.t 15)],none⟩]) ( .cond (.t 16) (
.seq ( .region [
om 17 5,
om 4 17]) ( .ret)) ( .skip))))) ( .region [
 ob 18 .add (.t 8) (.c (.i .i64 1)),
om 8 18])))
def c144:AFunc:=⟨19,
.seq ( .region [
 ⟨(some 4),.mv (.c (.i .i64 0)),none⟩]) (
.seq (
.seq ( .region [
om 6 0,on 7 6,⟨(some 8),.mv (.c (.i .i64 0)),none⟩]) ( .block 0 ( .loop c144_L1))) (
.seq ( .region [
 ⟨(some 4),.mv (.c (.i .i64 (-1))),none⟩]) ( .ret))),[.tmp 4],false,none⟩
theorem k144:CodeOk Tryz.prog 144 c144:=codeOk (hs:= []) Tryz.func144 (by kernel_rfl)
def c145:AFunc:=⟨8,
.seq ( .region [
 ⟨(some 2),.box (.t 0) false,none⟩,
⟨(some 3),.mv (.c (.b false)),none⟩]) (
.seq ( .region [
 oa 4 2 0,ol 5 4 1 false,ol 6 1 1 false,
ob 7 .eql (.t 5) (.t 6),
om 3 7]) ( .ret)),[.tmp 3],false,none⟩
theorem k145:CodeOk Tryz.prog 145 c145:=codeOk (hs:= []) Tryz.func145 (by kernel_rfl)
def c146:AFunc:=⟨9,
.seq ( .region [
 ⟨(some 4),.mv (.c (.b false)),none⟩]) (
.seq ( .region [
om 5 0,
om 6 1,oc 7 216 [(.t 5),(.t 6)],
ob 8 .geq (.t 7) (.c (.i .i64 0)),
om 4 8]) ( .ret)),[.tmp 4],false,none⟩
theorem k146:CodeOk Tryz.prog 146 c146:=codeOk (hs:= []) Tryz.func146 (by kernel_rfl)
def c147:AFunc:=⟨27,
.seq ( .region [
 ⟨(some 1),.box (.t 0) false,none⟩,
⟨(some 2),.mv (.c (.b false)),none⟩]) (
.seq (
.seq ( .region [
 oa 3 1 0,ol 4 3 1 false]) ( .block 0 (
.seq (
.seq ( .region [
 ob 6 .eql (.t 4) (.c (.i .i64 1)),
om 5 6]) ( .cond (.t 5) ( .skip) (
.seq ( .region [
 ob 7 .eql (.t 4) (.c (.i .i64 2)),
om 5 7]) ( .cond (.t 5) ( .skip) (
.seq ( .region [
 ob 8 .eql (.t 4) (.c (.i .i64 3)),
om 5 8]) ( .cond (.t 5) ( .skip) (
.seq ( .region [
 ob 9 .eql (.t 4) (.c (.i .i64 4)),
om 5 9]) ( .cond (.t 5) ( .skip) ( .region [
 ob 10 .eql (.t 4) (.c (.i .i64 5)),
om 5 10]))))))))) ( .cond (.t 5) (
.seq ( .region [
 ⟨(some 2),.mv (.c (.b false)),none⟩]) ( .ret)) (
.seq ( .region [
 ob 12 .eql (.t 4) (.c (.i .i64 7)),
om 11 12]) ( .cond (.t 11) (
.seq ( .region [
 oa 13 1 3,ol 14 13 1 false,⟨(some 15),.ia (.t 14) (.c (.i .i64 0)) 4,none⟩,oa 16 15 0,ol 17 16 1 false,
ob 18 .neq (.t 17) (.c (.i .i64 1)),
om 19 18,⟨(some 20),.fa (.t 1) 3,(some (19,true))⟩,
⟨(some 21),.ld (.t 20) 1 false,(some (19,true))⟩,
⟨(some 22),.ia (.t 21) (.c (.i .i64 0)) 4,(some (19,true))⟩,
⟨(some 23),.fa (.t 22) 0,(some (19,true))⟩,
⟨(some 24),.ld (.t 23) 1 false,(some (19,true))⟩,
⟨(some 25),.bin .neq (.t 24) (.c (.i .i64 2)),(some (19,true))⟩,
⟨(some 26),.pick (.t 19) (.t 25) (.c (.b false)),none⟩,
om 2 26]) ( .ret)) ( .skip))))))) (
.seq ( .region [
 ⟨(some 2),.mv (.c (.b true)),none⟩]) ( .ret))),[.tmp 2],false,none⟩
theorem k147:CodeOk Tryz.prog 147 c147:=codeOk (hs:= []) Tryz.func147 (by kernel_rfl)
def c148:AFunc:=⟨30,
.seq ( .region [
 ⟨(some 4),.alloc [(.i .i64 0),(.i .i64 0),(.s []),.nilsl] false,none⟩]) (
.seq ( .region [
 ⟨(some 5),.mv (.c (.i .i64 1)),none⟩]) (
.seq (
.seq ( .region [
om 6 0]) ( .block 0 (
.seq ( .region [
 ob 8 .eql (.t 6) (.c (.i .i64 4)),
om 7 8]) ( .cond (.t 7) (
.seq (
.seq ( .region [
om 9 1,
ob 10 .neq (.t 9) (.c (.i .i64 0))]) ( .cond (.t 10) (
.seq ( .region [
 ⟨(some 11),.build [(.i .i64 0),(.i .i64 0),(.s []),.nilsl] [(0,1,(.c (.i .i64 4)))],none⟩,ot 4 11 4]) ( .ret)) ( .skip))) (
.seq ( .region [
 ⟨(some 12),.build [(.i .i64 0),(.i .i64 0),(.s []),.nilsl] [(0,1,(.c (.i .i64 5)))],none⟩,ot 4 12 4]) ( .ret))) (
.seq ( .region [
 ob 14 .eql (.t 6) (.c (.i .i64 3)),
om 13 14]) ( .cond (.t 13) (
.seq ( .region [
om 15 1,⟨(some 16),.build [(.i .i64 0),(.i .i64 0),(.s []),.nilsl] [(0,1,(.c (.i .i64 3))),(1,1,(.t 15))],none⟩,ot 4 16 4]) ( .ret)) (
.seq ( .region [
 ob 18 .eql (.t 6) (.c (.i .i64 2)),
om 17 18]) ( .cond (.t 17) ( .region [
 ⟨(some 5),.mv (.c (.i .i64 2)),none⟩]) ( .skip))))))))) (
.seq (
.seq ( .region [
om 19 1,
ob 20 .lss (.t 19) (.c (.i .i64 0))]) ( .cond (.t 20) (
.seq ( .region [
om 21 5,
om 22 1,⟨(some 23),.un .neg (.t 22),none⟩,
⟨(some 24),.build [(.i .i64 0),(.i .i64 0),(.s []),.nilsl] [(0,1,(.t 21)),(1,1,(.t 23))],none⟩,
⟨(some 25),.bsl [(.i .i64 0),(.i .i64 0),(.s []),.nilsl] 1 [(0,(.t 24))],none⟩,
⟨(some 26),.build [(.i .i64 0),(.i .i64 0),(.s []),.nilsl] [(0,1,(.c (.i .i64 7))),(3,1,(.t 25))],none⟩,ot 4 26 4]) ( .ret)) ( .skip))) (
.seq ( .region [
om 27 5,
om 28 1,⟨(some 29),.build [(.i .i64 0),(.i .i64 0),(.s []),.nilsl] [(0,1,(.t 27)),(1,1,(.t 28))],none⟩,ot 4 29 4]) ( .ret))))),[.cell 4 4 true],false,none⟩
theorem k148:CodeOk Tryz.prog 148 c148:=codeOk (hs:= []) Tryz.func148 (by kernel_rfl)
def c149:AFunc:=⟨55,
.seq ( .region [
 ⟨(some 1),.box (.t 0) false,none⟩,
⟨(some 2),.mv (.c (.i .i64 0)),none⟩]) (
.seq (
.seq ( .region [
 oa 3 1 0,ol 4 3 1 false]) ( .block 0 (
.seq ( .region [
 ob 6 .eql (.t 4) (.c (.i .i64 1)),
om 5 6]) ( .cond (.t 5) (
.seq ( .region [
 ⟨(some 2),.mv (.c (.i .i64 1)),none⟩]) ( .ret)) (
.seq ( .region [
 ob 8 .eql (.t 4) (.c (.i .i64 2)),
om 7 8]) ( .cond (.t 7) (
.seq ( .region [
 ⟨(some 2),.mv (.c (.i .i64 2)),none⟩]) ( .ret)) (
.seq ( .region [
 ob 10 .eql (.t 4) (.c (.i .i64 3)),
om 9 10]) ( .cond (.t 9) (
.seq ( .region [
 ⟨(some 2),.mv (.c (.i .i64 3)),none⟩]) ( .ret)) (
.seq (
.seq ( .region [
 ob 12 .eql (.t 4) (.c (.i .i64 7)),
om 11 12]) ( .cond (.t 11) ( .skip) (
.seq ( .region [
 ob 13 .eql (.t 4) (.c (.i .i64 8)),
om 11 13]) ( .cond (.t 11) ( .skip) (
.seq ( .region [
 ob 14 .eql (.t 4) (.c (.i .i64 9)),
om 11 14]) ( .cond (.t 11) ( .skip) (
.seq ( .region [
 ob 15 .eql (.t 4) (.c (.i .i64 12)),
om 11 15]) ( .cond (.t 11) ( .skip) ( .region [
 ob 16 .eql (.t 4) (.c (.i .i64 13)),
om 11 16]))))))))) ( .cond (.t 11) (
.seq ( .region [
 oa 17 1 3,ol 18 17 1 false,⟨(some 19),.ia (.t 18) (.c (.i .i64 0)) 4,none⟩,ol 20 19 4 true,oc 21 149 [(.t 20)],
om 2 21]) ( .ret)) (
.seq ( .region [
 ob 23 .eql (.t 4) (.c (.i .i64 14)),
om 22 23]) ( .cond (.t 22) (
.seq ( .region [
 oa 24 1 3,ol 25 24 1 false,⟨(some 26),.ia (.t 25) (.c (.i .i64 1)) 4,none⟩,ol 27 26 4 true,oc 28 149 [(.t 27)],
om 2 28]) ( .ret)) (
.seq ( .region [
 ob 30 .eql (.t 4) (.c (.i .i64 10)),
om 29 30]) ( .cond (.t 29) (
.seq ( .draws [([],oa 31 1 3),([],ol 32 31 1 false),([],⟨(some 33),.ia (.t 32) (.c (.i .i64 0)) 4,none⟩),
([],ol 34 33 4 true),([],oc 35 149 [(.t 34)]),([],oa 36 1 3),([1,3,4],ol 37 36 1 false),([],⟨(some 38),.ia (.t 37) (.c (.i .i64 1)) 4,none⟩),
([1,3,4],ol 39 38 4 true),([],oc 40 149 [(.t 39)]),([],⟨(some 41),.mm true [(.t 35),(.t 40)],none⟩),
([],
om 2 41)]) ( .ret)) (
.seq ( .region [
 ob 43 .eql (.t 4) (.c (.i .i64 11)),
om 42 43]) ( .cond (.t 42) (
.seq (
.seq ( .region [
 oa 44 1 3,ol 45 44 1 false,⟨(some 46),.ia (.t 45) (.c (.i .i64 1)) 4,none⟩,ol 47 46 4 true,oc 48 149 [(.t 47)],
ob 49 .eql (.t 48) (.c (.i .i64 2))]) ( .cond (.t 49) (
.seq ( .region [
 ⟨(some 2),.mv (.c (.i .i64 1)),none⟩]) ( .ret)) ( .skip))) (
.seq ( .region [
 oa 50 1 3,ol 51 50 1 false,⟨(some 52),.ia (.t 51) (.c (.i .i64 0)) 4,none⟩,ol 53 52 4 true,oc 54 149 [(.t 53)],
om 2 54]) ( .ret))) ( .skip))))))))))))))))) (
.seq ( .region [
 ⟨(some 2),.mv (.c (.i .i64 4)),none⟩]) ( .ret))),[.tmp 2],false,none⟩
theorem k149:CodeOk Tryz.prog 149 c149:=codeOk (hs:= []) Tryz.func149 (by kernel_rfl)
def c150:AFunc:=⟨44,
.seq ( .region [
 ⟨(some 1),.box (.t 0) false,none⟩,
⟨(some 2),.alloc [(.i .i64 0),(.i .i64 0),(.s []),.nilsl] false,none⟩]) (
.seq ( .region [
 ⟨(some 3),.mv (.c (.i .i64 5)),none⟩,
⟨(some 4),.mv (.c (.i .i64 4)),none⟩]) (
.seq (
.seq ( .region [
 oa 7 1 0,ol 8 7 1 false,
ob 9 .eql (.t 8) (.c (.i .i64 21))]) ( .cond (.t 9) ( .region [
 ⟨(some 3),.mv (.c (.i .i64 4)),none⟩,
⟨(some 4),.mv (.c (.i .i64 5)),none⟩]) ( .skip))) (
.seq ( .draws [([],oa 10 1 3),([],ol 11 10 1 false),([],⟨(some 12),.ia (.t 11) (.c (.i .i64 0)) 4,none⟩),
([],ol 13 12 4 true),([],oa 14 1 3),([1,3],ol 15 14 1 false),([],⟨(some 16),.ia (.t 15) (.c (.i .i64 1)) 4,none⟩),
([1,3],ol 17 16 4 true),([1,3,5,7],⟨(some 5),.alloc [(.i .i64 0),(.i .i64 0),(.s []),.nilsl] false,none⟩),
([1,3,5,7,8],⟨(some 6),.alloc [(.i .i64 0),(.i .i64 0),(.s []),.nilsl] false,none⟩),
([5,7],ot 5 13 4),([],ot 6 17 4)]) (
.seq ( .block 0 (
.seq ( .region [
 oa 19 5 0,ol 20 19 1 false,
om 21 3,
ob 22 .eql (.t 20) (.t 21),
om 23 22,⟨(some 24),.fa (.t 6) 0,(some (23,false))⟩,
⟨(some 25),.ld (.t 24) 1 false,(some (23,false))⟩,
⟨(some 26),.mv (.t 3),(some (23,false))⟩,
⟨(some 27),.bin .eql (.t 25) (.t 26),(some (23,false))⟩,
⟨(some 28),.pick (.t 23) (.c (.b true)) (.t 27),none⟩,
om 18 28]) ( .cond (.t 18) (
.seq ( .region [
om 29 3,⟨(some 30),.build [(.i .i64 0),(.i .i64 0),(.s []),.nilsl] [(0,1,(.t 29))],none⟩,ot 2 30 4]) ( .ret)) (
.seq ( .region [
 oa 32 5 0,ol 33 32 1 false,
om 34 4,
ob 35 .eql (.t 33) (.t 34),
om 31 35]) ( .cond (.t 31) (
.seq ( .region [
 ol 36 6 4 true,ot 2 36 4]) ( .ret)) (
.seq ( .region [
 oa 38 6 0,ol 39 38 1 false,
om 40 4,
ob 41 .eql (.t 39) (.t 40),
om 37 41]) ( .cond (.t 37) (
.seq ( .region [
 ol 42 5 4 true,ot 2 42 4]) ( .ret)) ( .skip)))))))) (
.seq ( .region [
 ol 43 1 4 true,ot 2 43 4]) ( .ret)))))),[.cell 2 4 true],false,none⟩
theorem k150:CodeOk Tryz.prog 150 c150:=codeOk (hs:= []) Tryz.func150 (by kernel_rfl)
def c151:AFunc:=⟨40,
.seq ( .region [
 ⟨(some 3),.box (.t 1) false,none⟩,
⟨(some 4),.alloc [(.i .i64 0),(.i .i64 0),(.s []),.nilsl] false,none⟩]) (
.seq ( .draws [([],oa 7 3 3),([],ol 8 7 1 false),([],⟨(some 9),.ia (.t 8) (.c (.i .i64 0)) 4,none⟩),
([],ol 10 9 4 true),([],oa 11 3 3),([1,3],ol 12 11 1 false),([],⟨(some 13),.ia (.t 12) (.c (.i .i64 1)) 4,none⟩),
([1,3],ol 14 13 4 true),([1,3,5,7],⟨(some 5),.alloc [(.i .i64 0),(.i .i64 0),(.s []),.nilsl] false,none⟩),
([1,3,5,7,8],⟨(some 6),.alloc [(.i .i64 0),(.i .i64 0),(.s []),.nilsl] false,none⟩),
([5,7],ot 5 10 4),([],ot 6 14 4)]) (
.seq ( .block 0 (
.seq ( .region [
 oa 16 5 0,ol 17 16 1 false,
ob 18 .eql (.t 17) (.c (.i .i64 5)),
om 19 18,⟨(some 20),.fa (.t 6) 0,(some (19,false))⟩,
⟨(some 21),.ld (.t 20) 1 false,(some (19,false))⟩,
⟨(some 22),.bin .eql (.t 21) (.c (.i .i64 4)),(some (19,false))⟩,
⟨(some 23),.pick (.t 19) (.c (.b true)) (.t 22),none⟩,
om 15 23]) ( .cond (.t 15) (
.seq ( .region [
 ⟨(some 24),.build [(.i .i64 0),(.i .i64 0),(.s []),.nilsl] [(0,1,(.c (.i .i64 4)))],none⟩,ot 4 24 4]) ( .ret)) (
.seq ( .region [
 oa 26 5 0,ol 27 26 1 false,
ob 28 .eql (.t 27) (.c (.i .i64 4)),
om 25 28]) ( .cond (.t 25) (
.seq ( .region [
 ol 29 6 4 true,ot 4 29 4]) ( .ret)) (
.seq ( .region [
 oa 31 6 0,ol 32 31 1 false,
ob 33 .eql (.t 32) (.c (.i .i64 5)),
om 30 33]) ( .cond (.t 30) (
.seq ( .region [
om 34 0,ol 35 5 4 true,⟨(some 36),.bsl [(.i .i64 0),(.i .i64 0),(.s []),.nilsl] 1 [(0,(.t 35))],none⟩,
⟨(some 37),.build [(.i .i64 0),(.i .i64 0),(.s []),.nilsl] [(0,1,(.c (.i .i64 19))),(3,1,(.t 36))],none⟩,oc 38 100 [(.t 34),(.t 37)],ot 4 38 4]) ( .ret)) ( .skip)))))))) (
.seq ( .region [
 ol 39 3 4 true,ot 4 39 4]) ( .ret)))),[.cell 4 4 true],true,none⟩
theorem k151:CodeOk Tryz.prog 151 c151:=codeOk (hs:= []) Tryz.func151 (by kernel_rfl)
def c152:AFunc:=⟨33,
.seq ( .region [
 ⟨(some 3),.box (.t 0) false,none⟩,
⟨(some 6),.alloc [(.i .i64 0),(.i .i64 0),(.s []),.nilsl] false,none⟩]) (
.seq ( .block 0 (
.seq ( .region [
om 8 1,oa 9 3 3,ol 10 9 1 false,⟨(some 11),.ia (.t 10) (.c (.i .i64 1)) 4,none⟩,ol 12 11 4 true,⟨(some 13),.callv (.t 8) [(.t 12)],none⟩,
om 7 13]) ( .cond (.t 7) (
.seq ( .region [
 oa 14 3 3,ol 15 14 1 false,⟨(some 16),.ia (.t 15) (.c (.i .i64 0)) 4,none⟩,ol 17 16 4 true,ot 6 17 4]) ( .ret)) (
.seq ( .region [
om 19 2,
om 20 19,⟨(some 21),.mv (.t 1),(some (20,true))⟩,
⟨(some 22),.fa (.t 3) 3,(some (20,true))⟩,
⟨(some 23),.ld (.t 22) 1 false,(some (20,true))⟩,
⟨(some 24),.ia (.t 23) (.c (.i .i64 0)) 4,(some (20,true))⟩,
⟨(some 25),.ld (.t 24) 4 true,(some (20,true))⟩,
⟨(some 26),.callv (.t 21) [(.t 25)],(some (20,true))⟩,
⟨(some 27),.pick (.t 20) (.t 26) (.c (.b false)),none⟩,
om 18 27]) ( .cond (.t 18) (
.seq ( .region [
 oa 28 3 3,ol 29 28 1 false,⟨(some 30),.ia (.t 29) (.c (.i .i64 1)) 4,none⟩,ol 31 30 4 true,ot 6 31 4]) ( .ret)) ( .skip)))))) (
.seq ( .region [
 ol 32 3 4 true,ot 6 32 4]) ( .ret))),[.cell 6 4 true],false,none⟩
theorem k152:CodeOk Tryz.prog 152 c152:=codeOk (hs:= []) Tryz.func152 (by kernel_rfl)
def c153:AFunc:=⟨16,
.seq ( .region [
 ⟨(some 1),.box (.t 0) false,none⟩,
⟨(some 2),.mv (.c (.b false)),none⟩]) (
.seq ( .region [
 oa 3 1 0,ol 4 3 1 false,
ob 5 .eql (.t 4) (.c (.i .i64 1)),
om 6 5,⟨(some 7),.fa (.t 1) 0,(some (6,false))⟩,
⟨(some 8),.ld (.t 7) 1 false,(some (6,false))⟩,
⟨(some 9),.bin .eql (.t 8) (.c (.i .i64 2)),(some (6,false))⟩,
⟨(some 10),.pick (.t 6) (.c (.b true)) (.t 9),none⟩,
om 11 10,⟨(some 12),.fa (.t 1) 1,(some (11,true))⟩,
⟨(some 13),.ld (.t 12) 1 false,(some (11,true))⟩,
⟨(some 14),.bin .eql (.t 13) (.c (.i .i64 0)),(some (11,true))⟩,
⟨(some 15),.pick (.t 11) (.t 14) (.c (.b false)),none⟩,
om 2 15]) ( .ret)),[.tmp 2],false,none⟩
theorem k153:CodeOk Tryz.prog 153 c153:=codeOk (hs:= []) Tryz.func153 (by kernel_rfl)
def c154:AFunc:=⟨11,
.seq ( .region [
 ⟨(some 1),.box (.t 0) false,none⟩,
⟨(some 2),.mv (.c (.b false)),none⟩]) (
.seq ( .region [
 oa 3 1 0,ol 4 3 1 false,
ob 5 .eql (.t 4) (.c (.i .i64 1)),
om 6 5,⟨(some 7),.fa (.t 1) 1,(some (6,true))⟩,
⟨(some 8),.ld (.t 7) 1 false,(some (6,true))⟩,
⟨(some 9),.bin .eql (.t 8) (.c (.i .i64 1)),(some (6,true))⟩,
⟨(some 10),.pick (.t 6) (.t 9) (.c (.b false)),none⟩,
om 2 10]) ( .ret)),[.tmp 2],false,none⟩
theorem k154:CodeOk Tryz.prog 154 c154:=codeOk (hs:= []) Tryz.func154 (by kernel_rfl)
def c155:AFunc:=⟨32,
.seq ( .region [
 ⟨(some 4),.mv (.c (.b false)),none⟩]) (
.seq (
.seq ( .region [
om 5 0]) ( .block 0 (
.seq (
.seq ( .region [
 ob 7 .eql (.t 5) (.c (.i .i64 1)),
om 6 7]) ( .cond (.t 6) ( .skip) (
.seq ( .region [
 ob 8 .eql (.t 5) (.c (.i .i64 2)),
om 6 8]) ( .cond (.t 6) ( .skip) (
.seq ( .region [
 ob 9 .eql (.t 5) (.c (.i .i64 3)),
om 6 9]) ( .cond (.t 6) ( .skip) (
.seq ( .region [
 ob 10 .eql (.t 5) (.c (.i .i64 4)),
om 6 10]) ( .cond (.t 6) ( .skip) (
.seq ( .region [
 ob 11 .eql (.t 5) (.c (.i .i64 5)),
om 6 11]) ( .cond (.t 6) ( .skip) ( .region [
 ob 12 .eql (.t 5) (.c (.i .i64 6)),
om 6 12]))))))))))) ( .cond (.t 6) (
.seq ( .region [
om 13 1,
ob 14 .eql (.t 13) (.c (.i .i64 0)),
om 4 14]) ( .ret)) (
.seq (
.seq ( .region [
 ob 16 .eql (.t 5) (.c (.i .i64 7)),
om 15 16]) ( .cond (.t 15) ( .skip) ( .region [
 ob 17 .eql (.t 5) (.c (.i .i64 19)),
om 15 17]))) ( .cond (.t 15) (
.seq ( .region [
om 18 1,
ob 19 .eql (.t 18) (.c (.i .i64 1)),
om 4 19]) ( .ret)) (
.seq (
.seq ( .region [
 ob 21 .eql (.t 5) (.c (.i .i64 12)),
om 20 21]) ( .cond (.t 20) ( .skip) ( .region [
 ob 22 .eql (.t 5) (.c (.i .i64 13)),
om 20 22]))) ( .cond (.t 20) (
.seq ( .region [
om 23 1,
ob 24 .geq (.t 23) (.c (.i .i64 2)),
om 4 24]) ( .ret)) (
.seq (
.seq ( .region [
 ob 26 .eql (.t 5) (.c (.i .i64 14)),
om 25 26]) ( .cond (.t 25) ( .skip) ( .region [
 ob 27 .eql (.t 5) (.c (.i .i64 15)),
om 25 27]))) ( .cond (.t 25) (
.seq ( .region [
om 28 1,
ob 29 .eql (.t 28) (.c (.i .i64 3)),
om 4 29]) ( .ret)) ( .skip))))))))))) (
.seq ( .region [
om 30 1,
ob 31 .eql (.t 30) (.c (.i .i64 2)),
om 4 31]) ( .ret))),[.tmp 4],false,none⟩
theorem k155:CodeOk Tryz.prog 155 c155:=codeOk (hs:= []) Tryz.func155 (by kernel_rfl)
def c156:AFunc:=⟨21,
.seq ( .region [
 ⟨(some 2),.mv (.c (.b false)),none⟩]) (
.seq (
.seq ( .region [
om 7 0,oc 8 217 [(.t 7),(.c (.s [46]))],
om 6 8,oe 9 6 0,oe 10 6 1,oe 11 6 2,
om 3 9,
om 4 10,
om 5 11]) (
.seq ( .region [
om 12 5]) ( .cond (.t 12) (
.seq ( .region [
om 13 3,oc 14 174 [(.t 13)],
om 15 14,⟨(some 16),.mv (.t 4),(some (15,true))⟩,
⟨(some 17),.callf 174 [(.t 16)],(some (15,true))⟩,
⟨(some 18),.pick (.t 15) (.t 17) (.c (.b false)),none⟩,
om 2 18]) ( .ret)) ( .skip)))) (
.seq ( .region [
om 19 0,oc 20 218 [(.t 19)],
om 2 20]) ( .ret))),[.tmp 2],false,none⟩
theorem k156:CodeOk Tryz.prog 156 c156:=codeOk (hs:= []) Tryz.func156 (by kernel_rfl)
def c174_L1:ACode:=
.seq ( .region [
 ob 16 .lss (.t 15) (.t 14)]) (
.seq ( .cond (.t 16) ( .skip) ( .exit 0)) (
.seq ( .block 1 (
.seq ( .region [
om 17 15,
om 3 17]) (
.seq ( .region [
om 18 0,
om 19 3,⟨(some 20),.ixS (.t 18) (.t 19),none⟩,
om 4 20]) ( .block 2 (
.seq ( .region [
om 22 4,
ob 23 .geq (.t 22) (.c (.i .u8 97)),
om 24 23,⟨(some 25),.mv (.t 4),(some (24,true))⟩,
⟨(some 26),.bin .leq (.t 25) (.c (.i .u8 122)),(some (24,true))⟩,
⟨(some 27),.pick (.t 24) (.t 26) (.c (.b false)),none⟩,
om 21 27]) ( .cond (.t 21) ( .skip) (
.seq ( .region [
om 29 3,
ob 30 .gtr (.t 29) (.c (.i .i64 0)),
om 31 30,⟨(some 32),.mv (.t 4),(some (31,true))⟩,
⟨(some 33),.bin .geq (.t 32) (.c (.i .u8 48)),(some (31,true))⟩,
⟨(some 34),.mv (.t 33),(some (31,true))⟩,
⟨(some 35),.mv (.t 4),(some (34,true))⟩,
⟨(some 36),.bin .leq (.t 35) (.c (.i .u8 57)),(some (34,true))⟩,
⟨(some 37),.pick (.t 34) (.t 36) (.c (.b false)),(some (31,true))⟩,
⟨(some 38),.mv (.t 37),(some (31,true))⟩,
⟨(some 39),.mv (.t 4),(some (38,false))⟩,
⟨(some 40),.bin .eql (.t 39) (.c (.i .u8 95)),(some (38,false))⟩,
⟨(some 41),.pick (.t 38) (.c (.b true)) (.t 40),(some (31,true))⟩,
⟨(some 42),.pick (.t 31) (.t 41) (.c (.b false)),none⟩,
om 28 42]) ( .cond (.t 28) ( .skip) (
.seq ( .region [
 ⟨(some 2),.mv (.c (.b false)),none⟩]) ( .ret)))))))))) ( .region [
 ob 43 .add (.t 15) (.c (.i .i64 1)),
om 15 43])))
def c174:AFunc:=⟨44,
.seq ( .region [
 ⟨(some 2),.mv (.c (.b false)),none⟩]) (
.seq (
.seq ( .region [
om 5 0,⟨(some 6),.lenS (.t 5),none⟩,
ob 7 .lss (.t 6) (.c (.i .i64 1)),
om 8 7,⟨(some 9),.mv (.t 0),(some (8,false))⟩,
⟨(some 10),.lenS (.t 9),(some (8,false))⟩,
⟨(some 11),.bin .gtr (.t 10) (.c (.i .i64 16)),(some (8,false))⟩,
⟨(some 12),.pick (.t 8) (.c (.b true)) (.t 11),none⟩]) ( .cond (.t 12) (
.seq ( .region [
 ⟨(some 2),.mv (.c (.b false)),none⟩]) ( .ret)) ( .skip))) (
.seq (
.seq ( .region [
om 13 0,⟨(some 14),.lenS (.t 13),none⟩,
⟨(some 15),.mv (.c (.i .i64 0)),none⟩]) ( .block 0 ( .loop c174_L1))) (
.seq ( .region [
 ⟨(some 2),.mv (.c (.b true)),none⟩]) ( .ret)))),[.tmp 2],false,none⟩
theorem k174:CodeOk Tryz.prog 174 c174:=codeOk (hs:= []) Tryz.func174 (by kernel_rfl)
def c212:AFunc:=⟨11,
.seq ( .region [
 ⟨(some 4),.mv (.c (.s [])),none⟩,
⟨(some 5),.mv (.c (.b false)),none⟩]) (
.seq ( .region [
om 6 0,
om 7 1,oc 8 243 [(.t 6),(.t 7)],oe 9 8 0,oe 10 8 1,
om 4 9,
om 5 10]) ( .ret)),[.tmp 4,.tmp 5],false,none⟩
theorem k212:CodeOk Tryz.prog 212 c212:=codeOk (hs:= []) Tryz.func212 (by kernel_rfl)
def c213:AFunc:=⟨31,
.seq ( .region [
 ⟨(some 4),.mv (.c (.i .i64 0)),none⟩]) (
.seq ( .region [
om 8 0,oc 9 245 [(.t 8)],
om 10 1,oc 11 245 [(.t 10)],oc 12 244 [(.t 9),(.t 11)],
om 7 12,oe 13 7 0,oe 14 7 1,
om 5 13,
om 6 14]) (
.seq (
.seq ( .region [
om 15 5,
ob 16 .neq (.t 15) (.c (.i .u64 0)),
om 17 16,⟨(some 18),.mv (.t 6),(some (17,false))⟩,
⟨(some 19),.bin .gtr (.t 18) (.c (.i .u64 1099511627776)),(some (17,false))⟩,
⟨(some 20),.pick (.t 17) (.c (.b true)) (.t 19),none⟩]) ( .cond (.t 20) ( .region [
 ⟨(some 6),.mv (.c (.i .u64 1099511627776)),none⟩]) ( .skip))) (
.seq (
.seq ( .region [
om 21 0,
ob 22 .lss (.t 21) (.c (.i .i64 0)),
om 23 1,
ob 24 .lss (.t 23) (.c (.i .i64 0)),⟨(some 25),.eq true (.one .bool) (.t 22) (.t 24),none⟩]) ( .cond (.t 25) (
.seq ( .region [
om 26 6,⟨(some 27),.cvi .i64 (.t 26),none⟩,
⟨(some 28),.un .neg (.t 27),none⟩,
om 4 28]) ( .ret)) ( .skip))) (
.seq ( .region [
om 29 6,⟨(some 30),.cvi .i64 (.t 29),none⟩,
om 4 30]) ( .ret))))),[.tmp 4],false,none⟩
theorem k213:CodeOk Tryz.prog 213 c213:=codeOk (hs:= []) Tryz.func213 (by kernel_rfl)
def c214:AFunc:=⟨31,
.seq ( .region [
 ⟨(some 4),.mv (.c (.i .i64 0)),none⟩]) (
.seq (
.seq ( .region [
om 6 1]) ( .block 0 (
.seq ( .region [
 ob 8 .eql (.t 6) (.c (.i .i64 0)),
om 7 8]) ( .cond (.t 7) (
.seq ( .region [
 ⟨(some 4),.mv (.c (.i .i64 0)),none⟩]) ( .ret)) (
.seq ( .region [
 ob 10 .eql (.t 6) (.c (.i .i64 (-1))),
om 9 10]) ( .cond (.t 9) (
.seq ( .region [
om 11 0,oc 12 213 [(.t 11),(.c (.i .i64 (-1)))],
om 4 12]) ( .ret)) ( .skip))))))) (
.seq ( .region [
om 13 0,
om 14 1,
ob 15 .quo (.t 13) (.t 14),
om 5 15]) (
.seq (
.seq ( .region [
om 16 0,
om 17 1,
ob 18 .rem (.t 16) (.t 17),
ob 19 .neq (.t 18) (.c (.i .i64 0)),
om 20 19,⟨(some 21),.mv (.t 0),(some (20,true))⟩,
⟨(some 22),.bin .lss (.t 21) (.c (.i .i64 0)),(some (20,true))⟩,
⟨(some 23),.mv (.t 1),(some (20,true))⟩,
⟨(some 24),.bin .lss (.t 23) (.c (.i .i64 0)),(some (20,true))⟩,
⟨(some 25),.eq true (.one .bool) (.t 22) (.t 24),(some (20,true))⟩,
⟨(some 26),.pick (.t 20) (.t 25) (.c (.b false)),none⟩]) ( .cond (.t 26) ( .region [
om 27 5,
ob 28 .sub (.t 27) (.c (.i .i64 1)),
om 5 28]) ( .skip))) (
.seq ( .region [
om 29 5,oc 30 137 [(.t 29)],
om 4 30]) ( .ret))))),[.tmp 4],false,none⟩
theorem k214:CodeOk Tryz.prog 214 c214:=codeOk (hs:= []) Tryz.func214 (by kernel_rfl)
def c215:AFunc:=⟨67,
.seq ( .region [
 ⟨(some 4),.mv (.c (.i .i64 0)),none⟩]) (
.seq (
.seq ( .region [
om 5 0]) ( .block 0 (
.seq ( .region [
 ob 10 .eql (.t 5) (.c (.i .i64 1)),
om 9 10]) ( .cond (.t 9) (
.seq ( .region [
 ⟨(some 4),.mv (.c (.i .i64 1)),none⟩]) ( .ret)) (
.seq ( .region [
 ob 12 .eql (.t 5) (.c (.i .i64 2)),
om 11 12]) ( .cond (.t 11) (
.seq ( .region [
 ⟨(some 4),.mv (.c (.i .i64 2)),none⟩]) ( .ret)) (
.seq ( .region [
 ob 14 .eql (.t 5) (.c (.i .i64 3)),
om 13 14]) ( .cond (.t 13) (
.seq ( .region [
 ⟨(some 4),.mv (.c (.i .i64 3)),none⟩]) ( .ret)) (
.seq (
.seq ( .region [
 ob 16 .eql (.t 5) (.c (.i .i64 4)),
om 15 16]) ( .cond (.t 15) ( .skip) ( .region [
 ob 17 .eql (.t 5) (.c (.i .i64 5)),
om 15 17]))) ( .cond (.t 15) (
.seq ( .region [
 ⟨(some 4),.mv (.c (.i .i64 4)),none⟩]) ( .ret)) (
.seq (
.seq ( .region [
 ob 19 .eql (.t 5) (.c (.i .i64 7)),
om 18 19]) ( .cond (.t 18) ( .skip) (
.seq ( .region [
 ob 20 .eql (.t 5) (.c (.i .i64 8)),
om 18 20]) ( .cond (.t 18) ( .skip) (
.seq ( .region [
 ob 21 .eql (.t 5) (.c (.i .i64 9)),
om 18 21]) ( .cond (.t 18) ( .skip) (
.seq ( .region [
 ob 22 .eql (.t 5) (.c (.i .i64 12)),
om 18 22]) ( .cond (.t 18) ( .skip) ( .region [
 ob 23 .eql (.t 5) (.c (.i .i64 13)),
om 18 23]))))))))) ( .cond (.t 18) (
.seq ( .region [
om 24 1,⟨(some 25),.ia (.t 24) (.c (.i .i64 0)) 1,none⟩,ol 26 25 1 false,oc 27 246 [(.t 26)],
om 28 27,⟨(some 29),.mv (.t 1),(some (28,true))⟩,
⟨(some 30),.mv (.t 1),(some (28,true))⟩,
⟨(some 31),.ia (.t 30) (.c (.i .i64 0)) 1,(some (28,true))⟩,
⟨(some 32),.ld (.t 31) 1 false,(some (28,true))⟩,
⟨(some 33),.callf 247 [(.t 29),(.t 32)],(some (28,true))⟩,
⟨(some 34),.pick (.t 28) (.t 33) (.c (.b false)),none⟩]) ( .cond (.t 34) (
.seq ( .region [
om 35 1,⟨(some 36),.ia (.t 35) (.c (.i .i64 0)) 1,none⟩,ol 37 36 1 false,
om 4 37]) ( .ret)) ( .skip))) (
.seq (
.seq ( .region [
 ob 39 .eql (.t 5) (.c (.i .i64 10)),
om 38 39]) ( .cond (.t 38) ( .skip) ( .region [
 ob 40 .eql (.t 5) (.c (.i .i64 11)),
om 38 40]))) ( .cond (.t 38) (
.seq ( .draws [([],
om 41 0),([],
om 42 1),([],⟨(some 43),.ia (.t 42) (.c (.i .i64 0)) 1,none⟩),
([],ol 44 43 1 false),([],
om 45 1),([],⟨(some 46),.ia (.t 45) (.c (.i .i64 1)) 1,none⟩),
([3],ol 47 46 1 false),([],oc 48 248 [(.t 41),(.t 44),(.t 47)]),([],
om 4 48)]) ( .ret)) (
.seq ( .region [
 ob 50 .eql (.t 5) (.c (.i .i64 14)),
om 49 50]) ( .cond (.t 49) (
.seq ( .draws [([],
om 51 1),([],⟨(some 52),.ia (.t 51) (.c (.i .i64 0)) 1,none⟩),
([],ol 53 52 1 false),([],
ob 54 .eql (.t 53) (.c (.i .i64 4))),([],
om 55 54),([],⟨(some 56),.mv (.t 1),(some (55,true))⟩),
([],⟨(some 57),.ia (.t 56) (.c (.i .i64 1)) 1,(some (55,true))⟩),
([],⟨(some 58),.ld (.t 57) 1 false,(some (55,true))⟩),
([],⟨(some 59),.mv (.t 1),(some (55,true))⟩),
([],⟨(some 60),.ia (.t 59) (.c (.i .i64 2)) 1,(some (55,true))⟩),
([7],⟨(some 61),.ld (.t 60) 1 false,(some (55,true))⟩),
([],⟨(some 62),.bin .eql (.t 58) (.t 61),(some (55,true))⟩),
([],⟨(some 63),.pick (.t 55) (.t 62) (.c (.b false)),none⟩)]) ( .cond (.t 63) (
.seq ( .region [
om 64 1,⟨(some 65),.ia (.t 64) (.c (.i .i64 1)) 1,none⟩,ol 66 65 1 false,
om 4 66]) ( .ret)) ( .skip))) (
.seq ( .region [
om 6 0,
om 7 1,oc 8 249 [(.t 6),(.t 7)]]) ( .cond (.t 8) (
.seq ( .region [
 ⟨(some 4),.mv (.c (.i .i64 4)),none⟩]) ( .ret)) ( .skip))))))))))))))))))) (
.seq ( .region [
 ⟨(some 4),.mv (.c (.i .i64 0)),none⟩]) ( .ret))),[.tmp 4],false,none⟩
theorem k215:CodeOk Tryz.prog 215 c215:=codeOk (hs:= []) Tryz.func215 (by kernel_rfl)
def c216_L1:ACode:=
.seq ( .region [
 ob 9 .lss (.t 8) (.t 7)]) (
.seq ( .cond (.t 9) ( .skip) ( .exit 0)) (
.seq ( .block 1 (
.seq ( .region [
om 10 8,
om 5 10]) (
.seq ( .region [
om 11 1,
om 12 0,
om 13 5,oi 14 12 13 4,ol 15 14 4 true,⟨(some 16),.callv (.t 11) [(.t 15)],none⟩]) ( .cond (.t 16) (
.seq ( .region [
om 17 5,
om 4 17]) ( .ret)) ( .skip))))) ( .region [
 ob 18 .add (.t 8) (.c (.i .i64 1)),
om 8 18])))
def c216:AFunc:=⟨19,
.seq ( .region [
 ⟨(some 4),.mv (.c (.i .i64 0)),none⟩]) (
.seq (
.seq ( .region [
om 6 0,on 7 6,⟨(some 8),.mv (.c (.i .i64 0)),none⟩]) ( .block 0 ( .loop c216_L1))) (
.seq ( .region [
 ⟨(some 4),.mv (.c (.i .i64 (-1))),none⟩]) ( .ret))),[.tmp 4],false,none⟩
theorem k216:CodeOk Tryz.prog 216 c216:=codeOk (hs:= []) Tryz.func216 (by kernel_rfl)
def c217:AFunc:=⟨13,
.seq ( .region [
 ⟨(some 4),.mv (.c (.s [])),none⟩,
⟨(some 5),.mv (.c (.s [])),none⟩,
⟨(some 6),.mv (.c (.b false)),none⟩]) (
.seq ( .region [
om 7 0,
om 8 1,oc 9 250 [(.t 7),(.t 8)],oe 10 9 0,oe 11 9 1,oe 12 9 2,
om 4 10,
om 5 11,
om 6 12]) ( .ret)),[.tmp 4,.tmp 5,.tmp 6],false,none⟩
theorem k217:CodeOk Tryz.prog 217 c217:=codeOk (hs:= []) Tryz.func217 (by kernel_rfl)
def c218:AFunc:=⟨10,
.seq ( .region [
 ⟨(some 2),.mv (.c (.b false)),none⟩]) (
.seq ( .region [
om 3 0,oc 4 174 [(.t 3)],
om 5 4,⟨(some 6),.mv (.t 0),(some (5,true))⟩,
⟨(some 7),.callf 251 [(.t 6)],(some (5,true))⟩,
⟨(some 8),.un .not (.t 7),(some (5,true))⟩,
⟨(some 9),.pick (.t 5) (.t 8) (.c (.b false)),none⟩,
om 2 9]) ( .ret)),[.tmp 2],false,none⟩
theorem k218:CodeOk Tryz.prog 218 c218:=codeOk (hs:= []) Tryz.func218 (by kernel_rfl)
def c243:AFunc:=⟨15,
.seq ( .region [
 ⟨(some 4),.mv (.c (.s [])),none⟩,
⟨(some 5),.mv (.c (.b false)),none⟩]) (
.seq (
.seq ( .region [
om 6 0,
om 7 1,oc 8 266 [(.t 6),(.t 7)],⟨(some 9),.un .not (.t 8),none⟩]) ( .cond (.t 9) (
.seq ( .region [
om 10 0,
om 4 10,⟨(some 5),.mv (.c (.b false)),none⟩]) ( .ret)) ( .skip))) (
.seq ( .region [
om 11 0,
om 12 1,⟨(some 13),.lenS (.t 12),none⟩,
⟨(some 14),.slS (.t 11) (some (.t 13)) none,none⟩,
om 4 14,⟨(some 5),.mv (.c (.b true)),none⟩]) ( .ret))),[.tmp 4,.tmp 5],false,none⟩
theorem k243:CodeOk Tryz.prog 243 c243:=codeOk (hs:= []) Tryz.func243 (by kernel_rfl)
def c244:AFunc:=⟨51,
.seq ( .region [
 ⟨(some 4),.mv (.c (.i .u64 0)),none⟩,
⟨(some 5),.mv (.c (.i .u64 0)),none⟩]) (
.seq ( .region [
om 14 0,
ob 15 .and (.t 14) (.c (.i .u64 4294967295)),
om 6 15]) (
.seq ( .region [
om 16 0,
ob 17 .shr (.t 16) (.c (.i .u64 32)),
om 7 17]) (
.seq ( .region [
om 18 1,
ob 19 .and (.t 18) (.c (.i .u64 4294967295)),
om 8 19]) (
.seq ( .region [
om 20 1,
ob 21 .shr (.t 20) (.c (.i .u64 32)),
om 9 21]) (
.seq ( .region [
om 22 6,
om 23 8,
ob 24 .mul (.t 22) (.t 23),
om 10 24]) (
.seq ( .region [
om 25 7,
om 26 8,
ob 27 .mul (.t 25) (.t 26),
om 28 10,
ob 29 .shr (.t 28) (.c (.i .u64 32)),
ob 30 .add (.t 27) (.t 29),
om 11 30]) (
.seq ( .region [
om 31 11,
ob 32 .and (.t 31) (.c (.i .u64 4294967295)),
om 12 32]) (
.seq ( .region [
om 33 11,
ob 34 .shr (.t 33) (.c (.i .u64 32)),
om 13 34]) (
.seq ( .region [
om 35 12,
om 36 6,
om 37 9,
ob 38 .mul (.t 36) (.t 37),
ob 39 .add (.t 35) (.t 38),
om 12 39]) (
.seq ( .region [
om 40 7,
om 41 9,
ob 42 .mul (.t 40) (.t 41),
om 43 13,
ob 44 .add (.t 42) (.t 43),
om 45 12,
ob 46 .shr (.t 45) (.c (.i .u64 32)),
ob 47 .add (.t 44) (.t 46),
om 4 47]) (
.seq ( .region [
om 48 0,
om 49 1,
ob 50 .mul (.t 48) (.t 49),
om 5 50]) ( .ret)))))))))))),[.tmp 4,.tmp 5],false,none⟩
theorem k244:CodeOk Tryz.prog 244 c244:=codeOk (hs:= []) Tryz.func244 (by kernel_rfl)
def c245:AFunc:=⟨10,
.seq ( .region [
 ⟨(some 2),.mv (.c (.i .u64 0)),none⟩]) (
.seq (
.seq ( .region [
om 3 0,
ob 4 .lss (.t 3) (.c (.i .i64 0))]) ( .cond (.t 4) (
.seq ( .region [
om 5 0,⟨(some 6),.cvi .u64 (.t 5),none⟩,
⟨(some 7),.un .neg (.t 6),none⟩,
om 2 7]) ( .ret)) ( .skip))) (
.seq ( .region [
om 8 0,⟨(some 9),.cvi .u64 (.t 8),none⟩,
om 2 9]) ( .ret))),[.tmp 2],false,none⟩
theorem k245:CodeOk Tryz.prog 245 c245:=codeOk (hs:= []) Tryz.func245 (by kernel_rfl)
def c246:AFunc:=⟨9,
.seq ( .region [
 ⟨(some 2),.mv (.c (.b false)),none⟩]) (
.seq ( .region [
om 3 0,
ob 4 .eql (.t 3) (.c (.i .i64 1)),
om 5 4,⟨(some 6),.mv (.t 0),(some (5,false))⟩,
⟨(some 7),.bin .eql (.t 6) (.c (.i .i64 2)),(some (5,false))⟩,
⟨(some 8),.pick (.t 5) (.c (.b true)) (.t 7),none⟩,
om 2 8]) ( .ret)),[.tmp 2],false,none⟩
theorem k246:CodeOk Tryz.prog 246 c246:=codeOk (hs:= []) Tryz.func246 (by kernel_rfl)
def c247_L1:ACode:=
.seq ( .region [
 ob 10 .lss (.t 9) (.t 8)]) (
.seq ( .cond (.t 10) ( .skip) ( .exit 0)) (
.seq ( .block 1 (
.seq ( .region [
 oi 11 7 9 1,ol 12 11 1 false,
om 6 12]) (
.seq ( .region [
om 13 6,
om 14 1,
ob 15 .neq (.t 13) (.t 14)]) ( .cond (.t 15) (
.seq ( .region [
 ⟨(some 4),.mv (.c (.b false)),none⟩]) ( .ret)) ( .skip))))) ( .region [
 ob 16 .add (.t 9) (.c (.i .i64 1)),
om 9 16])))
def c247:AFunc:=⟨17,
.seq ( .region [
 ⟨(some 4),.mv (.c (.b false)),none⟩]) (
.seq (
.seq ( .region [
om 7 0,on 8 7,⟨(some 9),.mv (.c (.i .i64 0)),none⟩]) ( .block 0 ( .loop c247_L1))) (
.seq ( .region [
 ⟨(some 4),.mv (.c (.b true)),none⟩]) ( .ret))),[.tmp 4],false,none⟩
theorem k247:CodeOk Tryz.prog 247 c247:=codeOk (hs:= []) Tryz.func247 (by kernel_rfl)
def c248:AFunc:=⟨43,
.seq ( .region [
 ⟨(some 6),.mv (.c (.i .i64 0)),none⟩]) (
.seq ( .block 0 (
.seq ( .region [
om 8 1,
ob 9 .eql (.t 8) (.c (.i .i64 1)),
om 10 9,⟨(some 11),.mv (.t 2),(some (10,true))⟩,
⟨(some 12),.bin .eql (.t 11) (.c (.i .i64 1)),(some (10,true))⟩,
⟨(some 13),.pick (.t 10) (.t 12) (.c (.b false)),none⟩,
om 7 13]) ( .cond (.t 7) (
.seq ( .region [
 ⟨(some 6),.mv (.c (.i .i64 1)),none⟩]) ( .ret)) (
.seq ( .region [
om 15 1,
ob 16 .eql (.t 15) (.c (.i .i64 2)),
om 17 16,⟨(some 18),.mv (.t 2),(some (17,true))⟩,
⟨(some 19),.bin .eql (.t 18) (.c (.i .i64 1)),(some (17,true))⟩,
⟨(some 20),.pick (.t 17) (.t 19) (.c (.b false)),none⟩,
om 14 20]) ( .cond (.t 14) (
.seq ( .region [
 ⟨(some 6),.mv (.c (.i .i64 2)),none⟩]) ( .ret)) (
.seq ( .region [
om 22 0,
ob 23 .eql (.t 22) (.c (.i .i64 10)),
om 24 23,⟨(some 25),.mv (.t 1),(some (24,true))⟩,
⟨(some 26),.bin .eql (.t 25) (.c (.i .i64 1)),(some (24,true))⟩,
⟨(some 27),.pick (.t 24) (.t 26) (.c (.b false)),none⟩,
om 28 27,⟨(some 29),.mv (.t 2),(some (28,true))⟩,
⟨(some 30),.bin .eql (.t 29) (.c (.i .i64 2)),(some (28,true))⟩,
⟨(some 31),.pick (.t 28) (.t 30) (.c (.b false)),none⟩,
om 21 31]) ( .cond (.t 21) (
.seq ( .region [
 ⟨(some 6),.mv (.c (.i .i64 2)),none⟩]) ( .ret)) (
.seq ( .region [
om 33 0,
ob 34 .eql (.t 33) (.c (.i .i64 11)),
om 35 34,⟨(some 36),.mv (.t 1),(some (35,true))⟩,
⟨(some 37),.bin .eql (.t 36) (.c (.i .i64 2)),(some (35,true))⟩,
⟨(some 38),.pick (.t 35) (.t 37) (.c (.b false)),none⟩,
om 39 38,⟨(some 40),.mv (.t 2),(some (39,true))⟩,
⟨(some 41),.bin .eql (.t 40) (.c (.i .i64 2)),(some (39,true))⟩,
⟨(some 42),.pick (.t 39) (.t 41) (.c (.b false)),none⟩,
om 32 42]) ( .cond (.t 32) (
.seq ( .region [
 ⟨(some 6),.mv (.c (.i .i64 1)),none⟩]) ( .ret)) ( .skip)))))))))) (
.seq ( .region [
 ⟨(some 6),.mv (.c (.i .i64 0)),none⟩]) ( .ret))),[.tmp 6],false,none⟩
theorem k248:CodeOk Tryz.prog 248 c248:=codeOk (hs:= []) Tryz.func248 (by kernel_rfl)
def c249:AFunc:=⟨37,
.seq ( .region [
 ⟨(some 4),.mv (.c (.b false)),none⟩]) (
.seq (
.seq ( .region [
om 5 0]) ( .block 0 (
.seq ( .region [
 ob 7 .eql (.t 5) (.c (.i .i64 15)),
om 6 7]) ( .cond (.t 6) (
.seq ( .region [
om 8 1,oc 9 247 [(.t 8),(.c (.i .i64 3))],
om 4 9]) ( .ret)) (
.seq (
.seq ( .region [
 ob 11 .eql (.t 5) (.c (.i .i64 16)),
om 10 11]) ( .cond (.t 10) ( .skip) ( .region [
 ob 12 .eql (.t 5) (.c (.i .i64 17)),
om 10 12]))) ( .cond (.t 10) (
.seq ( .draws [([],
om 13 1),([],⟨(some 14),.ia (.t 13) (.c (.i .i64 0)) 1,none⟩),
([],ol 15 14 1 false),([],oc 16 246 [(.t 15)]),([],
om 17 16),([],⟨(some 18),.mv (.t 1),(some (17,true))⟩),
([],⟨(some 19),.ia (.t 18) (.c (.i .i64 0)) 1,(some (17,true))⟩),
([],⟨(some 20),.ld (.t 19) 1 false,(some (17,true))⟩),
([],⟨(some 21),.mv (.t 1),(some (17,true))⟩),
([],⟨(some 22),.ia (.t 21) (.c (.i .i64 1)) 1,(some (17,true))⟩),
([7],⟨(some 23),.ld (.t 22) 1 false,(some (17,true))⟩),
([],⟨(some 24),.bin .eql (.t 20) (.t 23),(some (17,true))⟩),
([],⟨(some 25),.pick (.t 17) (.t 24) (.c (.b false)),none⟩),
([],
om 4 25)]) ( .ret)) (
.seq ( .region [
 ob 27 .eql (.t 5) (.c (.i .i64 18)),
om 26 27]) ( .cond (.t 26) (
.seq ( .draws [([],
om 28 1),([],⟨(some 29),.ia (.t 28) (.c (.i .i64 0)) 1,none⟩),
([],ol 30 29 1 false),([],
om 31 1),([],⟨(some 32),.ia (.t 31) (.c (.i .i64 1)) 1,none⟩),
([2],ol 33 32 1 false),([],
ob 34 .eql (.t 30) (.t 33)),([],
om 4 34)]) ( .ret)) ( .skip))))))))) (
.seq ( .region [
om 35 1,oc 36 247 [(.t 35),(.c (.i .i64 4))],
om 4 36]) ( .ret))),[.tmp 4],false,none⟩
theorem k249:CodeOk Tryz.prog 249 c249:=codeOk (hs:= []) Tryz.func249 (by kernel_rfl)
def c250:AFunc:=⟨23,
.seq ( .region [
 ⟨(some 4),.mv (.c (.s [])),none⟩,
⟨(some 5),.mv (.c (.s [])),none⟩,
⟨(some 6),.mv (.c (.b false)),none⟩]) (
.seq (
.seq ( .region [
om 8 0,
om 9 1,oc 10 267 [(.t 8),(.t 9)],
om 7 10]) (
.seq ( .region [
om 11 7,
ob 12 .geq (.t 11) (.c (.i .i64 0))]) ( .cond (.t 12) (
.seq ( .draws [([],
om 13 0),([],
om 14 7),([],⟨(some 15),.slS (.t 13) none (some (.t 14)),none⟩),
([],
om 16 0),([],
om 17 7),([],
om 18 1),([],⟨(some 19),.lenS (.t 18),none⟩),
([],
ob 20 .add (.t 17) (.t 19)),([],⟨(some 21),.slS (.t 16) (some (.t 20)) none,none⟩),
([],
om 4 15),([],
om 5 21),([],⟨(some 6),.mv (.c (.b true)),none⟩)]) ( .ret)) ( .skip)))) (
.seq ( .region [
om 22 0,
om 4 22,⟨(some 5),.mv (.c (.s [])),none⟩,
⟨(some 6),.mv (.c (.b false)),none⟩]) ( .ret))),[.tmp 4,.tmp 5,.tmp 6],false,none⟩
theorem k250:CodeOk Tryz.prog 250 c250:=codeOk (hs:= []) Tryz.func250 (by kernel_rfl)
def c251:AFunc:=⟨18,
.seq ( .region [
 ⟨(some 2),.mv (.c (.b false)),none⟩]) (
.seq (
.seq ( .region [
om 3 0]) ( .block 0 (
.seq (
.seq ( .region [
 ob 5 .eql (.t 3) (.c (.s [97,110,100])),
om 4 5]) ( .cond (.t 4) ( .skip) (
.seq ( .region [
 ob 6 .eql (.t 3) (.c (.s [111,114])),
om 4 6]) ( .cond (.t 4) ( .skip) (
.seq ( .region [
 ob 7 .eql (.t 3) (.c (.s [110,111,116])),
om 4 7]) ( .cond (.t 4) ( .skip) (
.seq ( .region [
 ob 8 .eql (.t 3) (.c (.s [105,109,112,108,105,101,115])),
om 4 8]) ( .cond (.t 4) ( .skip) (
.seq ( .region [
 ob 9 .eql (.t 3) (.c (.s [105,110])),
om 4 9]) ( .cond (.t 4) ( .skip) (
.seq ( .region [
 ob 10 .eql (.t 3) (.c (.s [116,111])),
om 4 10]) ( .cond (.t 4) ( .skip) (
.seq ( .region [
 ob 11 .eql (.t 3) (.c (.s [116,114,117,101])),
om 4 11]) ( .cond (.t 4) ( .skip) (
.seq ( .region [
 ob 12 .eql (.t 3) (.c (.s [102,97,108,115,101])),
om 4 12]) ( .cond (.t 4) ( .skip) (
.seq ( .region [
 ob 13 .eql (.t 3) (.c (.s [109,105,110])),
om 4 13]) ( .cond (.t 4) ( .skip) (
.seq ( .region [
 ob 14 .eql (.t 3) (.c (.s [109,97,120])),
om 4 14]) ( .cond (.t 4) ( .skip) (
.seq ( .region [
 ob 15 .eql (.t 3) (.c (.s [105,102])),
om 4 15]) ( .cond (.t 4) ( .skip) (
.seq ( .region [
 ob 16 .eql (.t 3) (.c (.s [116,104,101,110])),
om 4 16]) ( .cond (.t 4) ( .skip) ( .region [
 ob 17 .eql (.t 3) (.c (.s [101,108,115,101])),
om 4 17]))))))))))))))))))))))))) ( .cond (.t 4) (
.seq ( .region [
 ⟨(some 2),.mv (.c (.b true)),none⟩]) ( .ret)) ( .skip))))) (
.seq ( .region [
 ⟨(some 2),.mv (.c (.b false)),none⟩]) ( .ret))),[.tmp 2],false,none⟩
theorem k251:CodeOk Tryz.prog 251 c251:=codeOk (hs:= []) Tryz.func251 (by kernel_rfl)
def c266:AFunc:=⟨18,
.seq ( .region [
 ⟨(some 4),.mv (.c (.b false)),none⟩]) (
.seq ( .region [
om 5 0,⟨(some 6),.lenS (.t 5),none⟩,
om 7 1,⟨(some 8),.lenS (.t 7),none⟩,
ob 9 .geq (.t 6) (.t 8),
om 10 9,⟨(some 11),.mv (.t 0),(some (10,true))⟩,
⟨(some 12),.mv (.t 1),(some (10,true))⟩,
⟨(some 13),.lenS (.t 12),(some (10,true))⟩,
⟨(some 14),.slS (.t 11) none (some (.t 13)),(some (10,true))⟩,
⟨(some 15),.mv (.t 1),(some (10,true))⟩,
⟨(some 16),.bin .eql (.t 14) (.t 15),(some (10,true))⟩,
⟨(some 17),.pick (.t 10) (.t 16) (.c (.b false)),none⟩,
om 4 17]) ( .ret)),[.tmp 4],false,none⟩
theorem k266:CodeOk Tryz.prog 266 c266:=codeOk (hs:= []) Tryz.func266 (by kernel_rfl)
end Go.Proofs.YtfenhjpkomldcaaGreat
