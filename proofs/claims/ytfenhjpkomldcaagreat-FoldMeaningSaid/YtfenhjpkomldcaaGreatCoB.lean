/- The codes of functions of the program, as the evaluator reads them; that each is what its compiler makes of the model's function. Conditions: none. -/
import Derived.Test.YtfenhjpkomldcaaGreatEvF
import Derived.Test.YtfenhjpkomldcaaGreatChecked
import Derived.KernelRfl
set_option maxRecDepth 100000
namespace Go.Proofs.YtfenhjpkomldcaaGreat
open Go Go.Ev
def c86:AFunc:=⟨23,
.seq ( .region [
 ⟨(some 4),.mv (.c (.i .i64 0)),none⟩]) (
.seq (
.seq ( .region [
om 5 0,on 6 5,
ob 7 .eql (.t 6) (.c (.i .i64 0))]) ( .cond (.t 7) (
.seq ( .region [
om 8 1,
ob 9 .and (.t 8) (.c (.i .i64 65535)),
om 4 9]) ( .ret)) ( .skip))) (
.seq ( .draws [([],
om 10 0),([],
om 11 1),([],
om 12 0),([],on 13 12),([],
ob 14 .rem (.t 11) (.t 13)),([],oi 15 10 14 1),([],ol 16 15 1 false),([],
ob 17 .and (.t 16) (.c (.i .i64 65535))),([],
om 18 1),([],
om 19 0),([],on 20 19),([],
ob 21 .quo (.t 18) (.t 20)),([],
ob 22 .add (.t 17) (.t 21)),([],
om 4 22)]) ( .ret))),[.tmp 4],false,none⟩
theorem k86:CodeOk Tryz.prog 86 c86:=codeOk (hs:= []) Tryz.func86 (by kernel_rfl)
def c87_L1:ACode:=
.seq ( .region [
 ob 39 .lss (.t 38) (.t 37)]) (
.seq ( .cond (.t 39) ( .skip) ( .exit 0)) (
.seq ( .block 1 (
.seq ( .region [
 oi 40 36 38 4,ol 41 40 4 true,⟨(some 12),.alloc [(.i .i64 0),(.i .i64 0),(.s []),.nilsl] false,none⟩,ot 12 41 4]) (
.seq ( .region [
om 42 0,
om 43 1,ol 44 12 4 true,oc 45 87 [(.t 42),(.t 43),(.t 44)],⟨(some 46),.un .not (.t 45),none⟩]) ( .cond (.t 46) (
.seq ( .region [
 ⟨(some 6),.mv (.c (.b false)),none⟩]) ( .ret)) ( .skip))))) ( .region [
 ob 47 .add (.t 38) (.c (.i .i64 1)),
om 38 47])))
def c87:AFunc:=⟨48,
.seq ( .region [
 ⟨(some 5),.box (.t 2) false,none⟩,
⟨(some 6),.mv (.c (.b false)),none⟩]) (
.seq (
.seq ( .region [
 oa 13 5 0,ol 14 13 1 false,
ob 15 .eql (.t 14) (.c (.i .i64 6))]) ( .cond (.t 15) (
.seq ( .region [
om 17 0,oa 18 5 2,ol 19 18 1 false,oc 20 89 [(.t 17),(.t 19)],
om 16 20,oe 21 16 0,oe 22 16 1,
om 7 21,
om 8 22]) (
.seq ( .region [
om 24 1,oa 25 5 2,ol 26 25 1 false,⟨(some 27),.lk (.one .str) (.t 24) (.t 26) (.i .i64 0) true,none⟩,
om 23 27,oe 28 23 0,oe 29 23 1,
om 9 28,
om 10 29]) (
.seq ( .region [
om 30 10,
om 31 30,⟨(some 32),.mv (.t 8),(some (31,false))⟩,
⟨(some 33),.bin .neq (.t 32) (.c (.i .i64 0)),(some (31,false))⟩,
⟨(some 34),.pick (.t 31) (.c (.b true)) (.t 33),none⟩,
om 6 34]) ( .ret)))) ( .skip))) (
.seq (
.seq ( .region [
 oa 35 5 3,ol 36 35 1 false,on 37 36,⟨(some 38),.mv (.c (.i .i64 0)),none⟩]) ( .block 0 ( .loop c87_L1))) (
.seq ( .region [
 ⟨(some 6),.mv (.c (.b true)),none⟩]) ( .ret)))),[.tmp 6],false,none⟩
theorem k87:CodeOk Tryz.prog 87 c87:=codeOk (hs:= []) Tryz.func87 (by kernel_rfl)
def c88_L1:ACode:=
.seq ( .region [
 ob 24 .lss (.t 23) (.t 22)]) (
.seq ( .cond (.t 24) ( .skip) ( .exit 3)) (
.seq ( .block 4 (
.seq ( .region [
 oi 25 21 23 1,ol 26 25 1 false,
om 7 26]) ( .region [
om 27 3,
om 28 5,
om 29 7,
ob 30 .add (.t 28) (.t 29),⟨(some 31),.bsl [(.s [])] 1 [(0,(.t 30))],none⟩,
⟨(some 32),.app 1 16 (.t 27) (.t 31) false false,none⟩,
om 3 32]))) ( .region [
 ob 33 .add (.t 23) (.c (.i .i64 1)),
om 23 33])))
def c88_L2:ACode:=
.seq ( .region [
 ob 18 .lss (.t 17) (.t 16)]) (
.seq ( .cond (.t 18) ( .skip) ( .exit 1)) (
.seq ( .block 2 (
.seq ( .region [
 oi 19 15 17 1,ol 20 19 1 false,
om 5 20]) (
.seq ( .region [
 oc 21 88 [(.c (.i .i64 1))],on 22 21,⟨(some 23),.mv (.c (.i .i64 0)),none⟩]) ( .block 3 ( .loop c88_L1))))) ( .region [
 ob 34 .add (.t 17) (.c (.i .i64 1)),
om 17 34])))
def c88:AFunc:=⟨39,
.seq ( .region [
 ⟨(some 2),.mv (.c .nilsl),none⟩]) (
.seq (
.seq ( .region [
om 8 0]) ( .block 0 (
.seq ( .region [
 ob 10 .eql (.t 8) (.c (.i .i64 1)),
om 9 10]) ( .cond (.t 9) (
.seq ( .region [
 ⟨(some 11),.bsl [(.s [])] 11 [(0,(.c (.s [108,101,103,115]))),(1,(.c (.s [104,101,97,100,115]))),(2,(.c (.s [116,121,112,101,115]))),(3,(.c (.s [98,108,111,99,107]))),(4,(.c (.s [115,112,97,110]))),(5,(.c (.s [110,105,103,104,116]))),(6,(.c (.s [108,111,110,103,101,115,116]))),(7,(.c (.s [115,104,111,114,116,101,115,116]))),(8,(.c (.s [115,104,105,102,116]))),(9,(.c (.s [115,116,97,114,116]))),(10,(.c (.s [101,110,100])))],none⟩,
om 2 11]) ( .ret)) (
.seq ( .region [
 ob 13 .eql (.t 8) (.c (.i .i64 2)),
om 12 13]) ( .cond (.t 12) (
.seq ( .region [
 ⟨(some 14),.bsl [(.s [])] 3 [(0,(.c (.s [114,101,115,116]))),(1,(.c (.s [110,105,103,104,116,115]))),(2,(.c (.s [104,111,109,101])))],none⟩,
om 3 14]) (
.seq (
.seq ( .region [
 ⟨(some 15),.bsl [(.s [])] 2 [(0,(.c (.s [98,101,102,111,114,101,46]))),(1,(.c (.s [97,102,116,101,114,46])))],none⟩,on 16 15,⟨(some 17),.mv (.c (.i .i64 0)),none⟩]) ( .block 1 ( .loop c88_L2))) (
.seq ( .region [
om 35 3,
om 2 35]) ( .ret)))) (
.seq ( .region [
 ob 37 .eql (.t 8) (.c (.i .i64 3)),
om 36 37]) ( .cond (.t 36) (
.seq ( .region [
 ⟨(some 38),.bsl [(.s [])] 7 [(0,(.c (.s [100,117,116,105,101,115]))),(1,(.c (.s [108,101,103,115]))),(2,(.c (.s [104,101,97,100,115]))),(3,(.c (.s [100,97,121,115]))),(4,(.c (.s [98,108,111,99,107]))),(5,(.c (.s [115,112,97,110]))),(6,(.c (.s [99,114,101,100,105,116])))],none⟩,
om 2 38]) ( .ret)) ( .skip))))))))) (
.seq ( .region [
 ⟨(some 2),.mv (.c .nilsl),none⟩]) ( .ret))),[.tmp 2],false,none⟩
theorem k88:CodeOk Tryz.prog 88 c88:=codeOk (hs:= []) Tryz.func88 (by kernel_rfl)
def c89:AFunc:=⟨23,
.seq ( .region [
 ⟨(some 4),.mv (.c (.i .i64 0)),none⟩,
⟨(some 5),.mv (.c (.i .i64 0)),none⟩]) (
.seq ( .region [
 ⟨(some 6),.mv (.c (.i .i64 0)),none⟩]) (
.seq (
.seq ( .region [
om 7 0]) ( .block 0 (
.seq ( .region [
 ob 9 .eql (.t 7) (.c (.i .i64 1)),
om 8 9]) ( .cond (.t 8) ( .region [
om 10 1,oc 11 133 [(.t 10)],
om 6 11]) (
.seq ( .region [
 ob 13 .eql (.t 7) (.c (.i .i64 2)),
om 12 13]) ( .cond (.t 12) ( .region [
om 14 1,oc 15 134 [(.t 14)],
om 6 15]) (
.seq ( .region [
 ob 17 .eql (.t 7) (.c (.i .i64 3)),
om 16 17]) ( .cond (.t 16) ( .region [
om 18 1,oc 19 135 [(.t 18)],
om 6 19]) ( .skip))))))))) (
.seq (
.seq ( .region [
om 20 6,
ob 21 .eql (.t 20) (.c (.i .i64 0))]) ( .cond (.t 21) (
.seq ( .region [
 ⟨(some 4),.mv (.c (.i .i64 0)),none⟩,
⟨(some 5),.mv (.c (.i .i64 6)),none⟩]) ( .ret)) ( .skip))) (
.seq ( .region [
om 22 6,
om 4 22,⟨(some 5),.mv (.c (.i .i64 0)),none⟩]) ( .ret))))),[.tmp 4,.tmp 5],false,none⟩
theorem k89:CodeOk Tryz.prog 89 c89:=codeOk (hs:= []) Tryz.func89 (by kernel_rfl)
def c90:AFunc:=⟨19,
.seq ( .region [
 ⟨(some 4),.mv (.c (.i .i64 0)),none⟩]) (
.seq (
.seq ( .region [
om 5 0]) ( .block 0 (
.seq ( .region [
 ob 7 .eql (.t 5) (.c (.i .i64 3)),
om 6 7]) ( .cond (.t 6) (
.seq ( .region [
om 8 1,
ob 9 .rem (.t 8) (.c (.i .i64 1440)),
ob 10 .add (.t 9) (.c (.i .i64 1440)),
ob 11 .rem (.t 10) (.c (.i .i64 1440)),
om 4 11]) ( .ret)) (
.seq ( .region [
 ob 13 .eql (.t 5) (.c (.i .i64 4)),
om 12 13]) ( .cond (.t 12) (
.seq ( .region [
om 14 1,
ob 15 .neq (.t 14) (.c (.i .i64 0)),oc 16 136 [(.t 15)],
om 4 16]) ( .ret)) ( .skip))))))) (
.seq ( .region [
om 17 1,oc 18 137 [(.t 17)],
om 4 18]) ( .ret))),[.tmp 4],false,none⟩
theorem k90:CodeOk Tryz.prog 90 c90:=codeOk (hs:= []) Tryz.func90 (by kernel_rfl)
def c91_L1:ACode:=
.seq ( .region [
 ob 66 .lss (.t 65) (.t 64)]) (
.seq ( .cond (.t 66) ( .skip) ( .exit 1)) (
.seq ( .block 2 (
.seq ( .region [
om 67 65,oi 68 63 65 4,ol 69 68 4 true,⟨(some 11),.alloc [(.i .i64 0),(.i .i64 0),(.s []),.nilsl] false,none⟩,
om 10 67,ot 11 69 4]) ( .draws [([],oa 70 9 2),([],ol 71 70 1 false),([],
om 72 10),([],
om 73 0),([],
om 74 1),([1],ol 75 11 4 true),([1],oc 76 91 [(.t 73),(.t 74),(.t 75)]),([],oi 77 71 72 3),([],ot 77 76 3)]))) ( .region [
 ob 78 .add (.t 65) (.c (.i .i64 1)),
om 65 78])))
theorem c91_L1_w:wrM (wrC (.loop c91_L1))=604426016319167168252928:=nr rfl
def c91:AFunc:=⟨80,
.seq ( .region [
 ⟨(some 5),.box (.t 2) false,none⟩,
⟨(some 6),.alloc [(.i .i64 0),(.i .i64 0),.nilsl] false,none⟩]) (
.seq (
.seq ( .region [
 oa 12 5 0,ol 13 12 1 false]) ( .block 0 (
.seq (
.seq ( .region [
 ob 15 .eql (.t 13) (.c (.i .i64 1)),
om 14 15]) ( .cond (.t 14) ( .skip) (
.seq ( .region [
 ob 16 .eql (.t 13) (.c (.i .i64 2)),
om 14 16]) ( .cond (.t 14) ( .skip) ( .region [
 ob 17 .eql (.t 13) (.c (.i .i64 3)),
om 14 17]))))) ( .cond (.t 14) (
.seq ( .region [
 oa 18 5 1,ol 19 18 1 false,⟨(some 20),.build [(.i .i64 0),(.i .i64 0),.nilsl] [(0,1,(.c (.i .i64 1))),(1,1,(.t 19))],none⟩,ot 6 20 3]) ( .ret)) (
.seq ( .region [
 ob 22 .eql (.t 13) (.c (.i .i64 4)),
om 21 22]) ( .cond (.t 21) (
.seq ( .region [
 ⟨(some 23),.build [(.i .i64 0),(.i .i64 0),.nilsl] [(0,1,(.c (.i .i64 1))),(1,1,(.c (.i .i64 1)))],none⟩,ot 6 23 3]) ( .ret)) (
.seq ( .region [
 ob 25 .eql (.t 13) (.c (.i .i64 5)),
om 24 25]) ( .cond (.t 24) (
.seq ( .region [
 ⟨(some 26),.build [(.i .i64 0),(.i .i64 0),.nilsl] [(0,1,(.c (.i .i64 1)))],none⟩,ot 6 26 3]) ( .ret)) (
.seq ( .region [
 ob 28 .eql (.t 13) (.c (.i .i64 6)),
om 27 28]) ( .cond (.t 27) (
.seq (
.seq ( .region [
om 29 1,
ob 30 .geq (.t 29) (.c (.i .i64 0)),
om 31 30,⟨(some 32),.mv (.t 1),(some (31,true))⟩,
⟨(some 33),.bin .lss (.t 32) (.c (.i .i64 4)),(some (31,true))⟩,
⟨(some 34),.pick (.t 31) (.t 33) (.c (.b false)),none⟩]) ( .cond (.t 34) (
.seq ( .draws [([],
om 36 0),([],
om 37 1),([],⟨(some 38),.nck (.t 36),none⟩),
([],oa 39 38 3),([],⟨(some 40),.iaA (.t 39) (.t 37) 4 1,none⟩),
([],ol 41 40 1 false),([],oa 42 5 2),([5],ol 43 42 1 false),([],⟨(some 44),.lk (.one .str) (.t 41) (.t 43) (.i .i64 0) true,none⟩),
([],
om 35 44),([],oe 45 35 0),([],oe 46 35 1),([],
om 7 45),([],
om 8 46)]) (
.seq ( .region [
om 47 8]) ( .cond (.t 47) (
.seq ( .region [
om 48 7,⟨(some 49),.build [(.i .i64 0),(.i .i64 0),.nilsl] [(0,1,(.c (.i .i64 6))),(1,1,(.t 48))],none⟩,ot 6 49 3]) ( .ret)) ( .skip)))) ( .skip))) (
.seq ( .region [
om 50 0,oa 51 5 2,ol 52 51 1 false,oc 53 138 [(.t 50),(.t 52)],⟨(some 54),.build [(.i .i64 0),(.i .i64 0),.nilsl] [(0,1,(.c (.i .i64 1))),(1,1,(.t 53))],none⟩,ot 6 54 3]) ( .ret))) ( .skip))))))))))) (
.seq ( .draws [([],oa 55 5 0),([],ol 56 55 1 false),([],oa 57 5 3),([1],ol 58 57 1 false),([],on 59 58),([1],⟨(some 60),.mksl [(.i .i64 0),(.i .i64 0),.nilsl] 40 (.t 59) false,none⟩),
([],⟨(some 61),.build [(.i .i64 0),(.i .i64 0),.nilsl] [(0,1,(.t 56)),(2,1,(.t 60))],none⟩),
([1,3,5],⟨(some 9),.alloc [(.i .i64 0),(.i .i64 0),.nilsl] false,none⟩),
([],ot 9 61 3)]) (
.seq (
.seq ( .region [
 oa 62 5 3,ol 63 62 1 false,on 64 63,⟨(some 65),.mv (.c (.i .i64 0)),none⟩]) ( .block 1 ( .loop c91_L1))) (
.seq ( .region [
 ol 79 9 3 true,ot 6 79 3]) ( .ret))))),[.cell 6 3 true],true,none⟩
theorem k91:CodeOk Tryz.prog 91 c91:=codeOk (hs:= []) Tryz.func91 (by kernel_rfl)
def c92_L1:ACode:=
.seq (
.seq ( .region [
om 61 6,
om 62 0,⟨(some 63),.nck (.t 62),none⟩,oa 64 63 2,ol 65 64 1 false,on 66 65,
ob 67 .lss (.t 61) (.t 66)]) ( .cond (.t 67) ( .skip) ( .exit 1))) (
.seq ( .block 2 (
.seq ( .region [
om 70 0,⟨(some 71),.nck (.t 70),none⟩,oa 72 71 2,ol 73 72 1 false,
om 74 6,oi 75 73 74 3,
om 76 1,oc 77 92 [(.t 75),(.t 76)],
om 7 77]) (
.seq ( .region [
om 78 0,⟨(some 79),.nck (.t 78),none⟩,oa 80 79 0,ol 81 80 1 false,
ob 82 .eql (.t 81) (.c (.i .i64 12))]) ( .cond (.t 82) ( .region [
om 83 5,
om 84 7,⟨(some 85),.mm false [(.t 83),(.t 84)],none⟩,
om 5 85]) ( .region [
om 86 5,
om 87 7,⟨(some 88),.mm true [(.t 86),(.t 87)],none⟩,
om 5 88]))))) ( .region [
om 68 6,
ob 69 .add (.t 68) (.c (.i .i64 1)),
om 6 69]))
def c92:AFunc:=⟨155,
.seq ( .region [
 ⟨(some 4),.mv (.c (.i .i64 0)),none⟩]) (
.seq (
.seq ( .region [
om 8 0,⟨(some 9),.nck (.t 8),none⟩,oa 10 9 0,ol 11 10 1 false]) ( .block 0 (
.seq ( .region [
 ob 13 .eql (.t 11) (.c (.i .i64 1)),
om 12 13]) ( .cond (.t 12) (
.seq ( .region [
om 14 0,⟨(some 15),.nck (.t 14),none⟩,oa 16 15 1,ol 17 16 1 false,
om 4 17]) ( .ret)) (
.seq ( .region [
 ob 19 .eql (.t 11) (.c (.i .i64 6)),
om 18 19]) ( .cond (.t 18) (
.seq ( .region [
om 20 1,
om 21 0,⟨(some 22),.nck (.t 21),none⟩,oa 23 22 1,ol 24 23 1 false,oi 25 20 24 1,ol 26 25 1 false,
om 4 26]) ( .ret)) (
.seq ( .region [
 ob 28 .eql (.t 11) (.c (.i .i64 14)),
om 27 28]) ( .cond (.t 27) (
.seq (
.seq ( .region [
om 29 0,⟨(some 30),.nck (.t 29),none⟩,oa 31 30 2,ol 32 31 1 false,⟨(some 33),.ia (.t 32) (.c (.i .i64 0)) 3,none⟩,
om 34 1,oc 35 92 [(.t 33),(.t 34)],
ob 36 .neq (.t 35) (.c (.i .i64 0))]) ( .cond (.t 36) (
.seq ( .region [
om 37 0,⟨(some 38),.nck (.t 37),none⟩,oa 39 38 2,ol 40 39 1 false,⟨(some 41),.ia (.t 40) (.c (.i .i64 1)) 3,none⟩,
om 42 1,oc 43 92 [(.t 41),(.t 42)],
om 4 43]) ( .ret)) ( .skip))) (
.seq ( .region [
om 44 0,⟨(some 45),.nck (.t 44),none⟩,oa 46 45 2,ol 47 46 1 false,⟨(some 48),.ia (.t 47) (.c (.i .i64 2)) 3,none⟩,
om 49 1,oc 50 92 [(.t 48),(.t 49)],
om 4 50]) ( .ret))) (
.seq (
.seq ( .region [
 ob 52 .eql (.t 11) (.c (.i .i64 12)),
om 51 52]) ( .cond (.t 51) ( .skip) ( .region [
 ob 53 .eql (.t 11) (.c (.i .i64 13)),
om 51 53]))) ( .cond (.t 51) (
.seq ( .region [
om 54 0,⟨(some 55),.nck (.t 54),none⟩,oa 56 55 2,ol 57 56 1 false,⟨(some 58),.ia (.t 57) (.c (.i .i64 0)) 3,none⟩,
om 59 1,oc 60 92 [(.t 58),(.t 59)],
om 5 60]) (
.seq (
.seq ( .region [
 ⟨(some 6),.mv (.c (.i .i64 1)),none⟩]) ( .block 1 ( .loop c92_L1))) (
.seq ( .region [
om 89 5,
om 4 89]) ( .ret)))) (
.seq ( .region [
 ob 91 .eql (.t 11) (.c (.i .i64 15)),
om 90 91]) ( .cond (.t 90) (
.seq ( .draws [([],
om 92 0),([],⟨(some 93),.nck (.t 92),none⟩),
([],oa 94 93 2),([],ol 95 94 1 false),([],⟨(some 96),.ia (.t 95) (.c (.i .i64 0)) 3,none⟩),
([],
om 97 1),([],oc 98 92 [(.t 96),(.t 97)]),([],
om 99 0),([],⟨(some 100),.nck (.t 99),none⟩),
([],oa 101 100 2),([3,6],ol 102 101 1 false),([],⟨(some 103),.ia (.t 102) (.c (.i .i64 1)) 3,none⟩),
([],
om 104 1),([],oc 105 92 [(.t 103),(.t 104)]),([],
om 106 0),([],⟨(some 107),.nck (.t 106),none⟩),
([],oa 108 107 2),([3,6,10,13],ol 109 108 1 false),([],⟨(some 110),.ia (.t 109) (.c (.i .i64 2)) 3,none⟩),
([],
om 111 1),([],oc 112 92 [(.t 110),(.t 111)]),([],oc 113 139 [(.t 98),(.t 105),(.t 112)]),([],oc 114 136 [(.t 113)]),([],
om 4 114)]) ( .ret)) (
.seq ( .region [
 ob 116 .eql (.t 11) (.c (.i .i64 7)),
om 115 116]) ( .cond (.t 115) (
.seq ( .region [
om 117 0,⟨(some 118),.nck (.t 117),none⟩,oa 119 118 2,ol 120 119 1 false,⟨(some 121),.ia (.t 120) (.c (.i .i64 0)) 3,none⟩,
om 122 1,oc 123 92 [(.t 121),(.t 122)],⟨(some 124),.un .neg (.t 123),none⟩,oc 125 140 [(.c (.i .i64 0)),(.t 124)],
om 4 125]) ( .ret)) (
.seq ( .region [
 ob 127 .eql (.t 11) (.c (.i .i64 19)),
om 126 127]) ( .cond (.t 126) (
.seq ( .region [
om 128 0,⟨(some 129),.nck (.t 128),none⟩,oa 130 129 2,ol 131 130 1 false,⟨(some 132),.ia (.t 131) (.c (.i .i64 0)) 3,none⟩,
om 133 1,oc 134 92 [(.t 132),(.t 133)],
ob 135 .sub (.c (.i .i64 1)) (.t 134),
om 4 135]) ( .ret)) ( .skip))))))))))))))))) (
.seq ( .draws [([],
om 136 0),([],⟨(some 137),.nck (.t 136),none⟩),
([],oa 138 137 0),([],ol 139 138 1 false),([],
om 140 0),([],⟨(some 141),.nck (.t 140),none⟩),
([],oa 142 141 2),([3],ol 143 142 1 false),([],⟨(some 144),.ia (.t 143) (.c (.i .i64 0)) 3,none⟩),
([],
om 145 1),([3],oc 146 92 [(.t 144),(.t 145)]),([],
om 147 0),([],⟨(some 148),.nck (.t 147),none⟩),
([],oa 149 148 2),([3,7,10],ol 150 149 1 false),([],⟨(some 151),.ia (.t 150) (.c (.i .i64 1)) 3,none⟩),
([],
om 152 1),([3],oc 153 92 [(.t 151),(.t 152)]),([],oc 154 141 [(.t 139),(.t 146),(.t 153)]),([],
om 4 154)]) ( .ret))),[.tmp 4],false,none⟩
theorem k92:CodeOk Tryz.prog 92 c92:=codeOk (hs:= []) Tryz.func92 (by kernel_rfl)
def c93:AFunc:=⟨23,
.seq ( .region [
 ⟨(some 4),.mv (.c (.i .i64 0)),none⟩]) (
.seq ( .region [
om 5 0,⟨(some 6),.nck (.t 5),none⟩,oa 7 6 1,ol 8 7 1 false,
ob 9 .add (.t 8) (.c (.i .i64 1)),⟨(some 10),.nck (.t 5),none⟩,oa 11 10 1,ot 11 9 1]) (
.seq ( .draws [([],
om 12 0),([],⟨(some 13),.nck (.t 12),none⟩),
([],oa 14 13 0),([],ol 15 14 1 false),([],
om 16 0),([],⟨(some 17),.nck (.t 16),none⟩),
([],oa 18 17 1),([3],ol 19 18 1 false),([],oc 20 86 [(.t 15),(.t 19)]),([],
om 21 1),([],
ob 22 .rem (.t 20) (.t 21)),([],
om 4 22)]) ( .ret))),[.tmp 4],true,none⟩
theorem k93:CodeOk Tryz.prog 93 c93:=codeOk (hs:= []) Tryz.func93 (by kernel_rfl)
def c94_L1:ACode:=
.seq (
.seq ( .region [
om 17 9,
om 18 8,on 19 18,
ob 20 .lss (.t 17) (.t 19)]) ( .cond (.t 20) ( .skip) ( .exit 0))) (
.seq ( .block 1 (
.seq ( .region [
om 24 1,
om 25 8,
om 26 9,oi 27 25 26 1,ol 28 27 1 false,oc 29 85 [(.t 24),(.t 28)],
om 23 29,oe 30 23 0,oe 31 23 1,
om 10 30,
om 11 31]) (
.seq ( .region [
om 32 10,
om 33 2,
ob 34 .eql (.t 32) (.t 33)]) ( .cond (.t 34) ( .region [
om 35 7,
om 36 8,
om 37 9,oi 38 36 37 1,ol 39 38 1 false,⟨(some 40),.bsl [(.s [])] 1 [(0,(.t 39))],none⟩,
⟨(some 41),.app 1 16 (.t 35) (.t 40) false false,none⟩,
om 7 41]) ( .skip))))) ( .region [
om 21 9,
ob 22 .add (.t 21) (.c (.i .i64 1)),
om 9 22]))
theorem c94_L1_w:wrM (wrC (.loop c94_L1))=4398046383744:=nr rfl
def c94:AFunc:=⟨92,
.seq ( .region [
 ⟨(some 6),.alloc [(.i .i64 0),(.i .i64 0),(.s []),.nilsl] false,none⟩]) (
.seq (
.seq ( .region [
om 12 0,oc 13 93 [(.t 12),(.c (.i .i64 3))],
ob 14 .gtr (.t 13) (.c (.i .i64 0))]) ( .cond (.t 14) (
.seq ( .region [
 ⟨(some 7),.mv (.c .nilsl),none⟩]) (
.seq ( .region [
om 15 1,oc 16 84 [(.t 15)],
om 8 16]) (
.seq (
.seq ( .region [
 ⟨(some 9),.mv (.c (.i .i64 0)),none⟩]) ( .block 0 ( .loop c94_L1))) (
.seq ( .region [
om 42 7,on 43 42,
ob 44 .gtr (.t 43) (.c (.i .i64 0))]) ( .cond (.t 44) (
.seq ( .region [
om 45 7,
om 46 0,
om 47 7,on 48 47,oc 49 93 [(.t 46),(.t 48)],oi 50 45 49 1,ol 51 50 1 false,⟨(some 52),.build [(.i .i64 0),(.i .i64 0),(.s []),.nilsl] [(0,1,(.c (.i .i64 6))),(2,1,(.t 51))],none⟩,ot 6 52 4]) ( .ret)) ( .skip)))))) ( .skip))) (
.seq (
.seq ( .region [
om 53 2]) ( .block 2 (
.seq ( .region [
 ob 55 .eql (.t 53) (.c (.i .i64 1)),
om 54 55]) ( .cond (.t 54) (
.seq (
.seq ( .region [
om 56 0,oc 57 93 [(.t 56),(.c (.i .i64 4))],
ob 58 .eql (.t 57) (.c (.i .i64 0))]) ( .cond (.t 58) (
.seq ( .region [
 ⟨(some 59),.build [(.i .i64 0),(.i .i64 0),(.s []),.nilsl] [(0,1,(.c (.i .i64 6))),(2,1,(.c (.s [116,119,111])))],none⟩,ot 6 59 4]) ( .ret)) ( .skip))) (
.seq ( .region [
 ⟨(some 60),.bsl [(.i .i64 0)] 8 [(0,(.c (.i .i64 0))),(1,(.c (.i .i64 1))),(2,(.c (.i .i64 1))),(3,(.c (.i .i64 2))),(4,(.c (.i .i64 3))),(5,(.c (.i .i64 5))),(6,(.c (.i .i64 60))),(7,(.c (.i .i64 1099511627776)))],none⟩,
om 61 0,oc 62 93 [(.t 61),(.c (.i .i64 8))],oi 63 60 62 1,ol 64 63 1 false,⟨(some 65),.build [(.i .i64 0),(.i .i64 0),(.s []),.nilsl] [(0,1,(.c (.i .i64 1))),(1,1,(.t 64))],none⟩,ot 6 65 4]) ( .ret))) (
.seq ( .region [
 ob 67 .eql (.t 53) (.c (.i .i64 2)),
om 66 67]) ( .cond (.t 66) (
.seq (
.seq ( .region [
om 68 0,oc 69 93 [(.t 68),(.c (.i .i64 4))],
ob 70 .eql (.t 69) (.c (.i .i64 0))]) ( .cond (.t 70) (
.seq ( .region [
 ⟨(some 71),.build [(.i .i64 0),(.i .i64 0),(.s []),.nilsl] [(0,1,(.c (.i .i64 6))),(2,1,(.c (.s [115,104,105,102,116,95,116,105,109,101])))],none⟩,ot 6 71 4]) ( .ret)) ( .skip))) (
.seq ( .region [
 ⟨(some 72),.bsl [(.i .i64 0)] 8 [(0,(.c (.i .i64 0))),(1,(.c (.i .i64 0))),(2,(.c (.i .i64 15))),(3,(.c (.i .i64 60))),(4,(.c (.i .i64 90))),(5,(.c (.i .i64 600))),(6,(.c (.i .i64 780))),(7,(.c (.i .i64 1099511627776)))],none⟩,
om 73 0,oc 74 93 [(.t 73),(.c (.i .i64 8))],oi 75 72 74 1,ol 76 75 1 false,⟨(some 77),.build [(.i .i64 0),(.i .i64 0),(.s []),.nilsl] [(0,1,(.c (.i .i64 2))),(1,1,(.t 76))],none⟩,ot 6 77 4]) ( .ret))) (
.seq ( .region [
 ob 79 .eql (.t 53) (.c (.i .i64 3)),
om 78 79]) ( .cond (.t 78) (
.seq ( .region [
 ⟨(some 80),.bsl [(.i .i64 0)] 5 [(0,(.c (.i .i64 0))),(1,(.c (.i .i64 300))),(2,(.c (.i .i64 720))),(3,(.c (.i .i64 1320))),(4,(.c (.i .i64 1439)))],none⟩,
om 81 0,oc 82 93 [(.t 81),(.c (.i .i64 5))],oi 83 80 82 1,ol 84 83 1 false,⟨(some 85),.build [(.i .i64 0),(.i .i64 0),(.s []),.nilsl] [(0,1,(.c (.i .i64 3))),(1,1,(.t 84))],none⟩,ot 6 85 4]) ( .ret)) ( .skip))))))))) (
.seq ( .region [
 ⟨(some 86),.bsl [(.i .i64 0)] 2 [(0,(.c (.i .i64 4))),(1,(.c (.i .i64 5)))],none⟩,
om 87 0,oc 88 93 [(.t 87),(.c (.i .i64 2))],oi 89 86 88 1,ol 90 89 1 false,⟨(some 91),.build [(.i .i64 0),(.i .i64 0),(.s []),.nilsl] [(0,1,(.t 90))],none⟩,ot 6 91 4]) ( .ret)))),[.cell 6 4 true],true,none⟩
theorem k94:CodeOk Tryz.prog 94 c94:=codeOk (hs:= []) Tryz.func94 (by kernel_rfl)
def c95:AFunc:=⟨8,
.seq ( .region [
 ⟨(some 4),.alloc [(.i .i64 0),(.i .i64 0),(.s []),.nilsl] false,none⟩]) (
.seq ( .region [
om 5 0,
om 6 1,⟨(some 7),.build [(.i .i64 0),(.i .i64 0),(.s []),.nilsl] [(0,1,(.t 5)),(3,1,(.t 6))],none⟩,ot 4 7 4]) ( .ret)),[.cell 4 4 true],false,none⟩
theorem k95:CodeOk Tryz.prog 95 c95:=codeOk (hs:= []) Tryz.func95 (by kernel_rfl)
def c96_L1:ACode:=
.seq ( .region [
 ob 16 .lss (.t 15) (.t 14)]) (
.seq ( .cond (.t 16) ( .skip) ( .exit 0)) (
.seq ( .block 1 (
.seq ( .region [
om 17 15,oi 18 13 15 5,ol 19 18 5 true,⟨(some 5),.alloc [(.s []),(.i .i64 0),(.i .i64 0),(.s []),.nilsl] false,none⟩,
om 4 17,ot 5 19 5]) (
.seq ( .draws [([],
om 21 3),([],⟨(some 22),.nck (.t 21),none⟩),
([],oa 23 22 1),([],ol 24 23 1 false),([],oa 25 5 0),([3],ol 26 25 1 false),([],⟨(some 27),.lk (.one .str) (.t 24) (.t 26) (.i .i64 0) true,none⟩),
([],
om 20 27),([],oe 28 20 0),([],oe 29 20 1),([],
om 6 28),([],
om 7 29)]) (
.seq ( .region [
om 30 7,⟨(some 31),.un .not (.t 30),none⟩]) ( .cond (.t 31) ( .draws [([],
om 32 3),([],⟨(some 33),.nck (.t 32),none⟩),
([],oa 34 33 1),([],ol 35 34 1 false),([],oa 36 5 0),([3],ol 37 36 1 false),([],
om 38 4),([],⟨none,.mu (.one .str) (.t 35) (.t 37) (.t 38),none⟩)]) ( .skip)))))) ( .region [
 ob 39 .add (.t 15) (.c (.i .i64 1)),
om 15 39])))
theorem c96_L1_w:wrM (wrC (.loop c96_L1))=1099511595248:=nr rfl
def c96:AFunc:=⟨41,
.seq ( .region [
 ⟨(some 2),.mv (.c .nilptr),none⟩]) (
.seq ( .region [
om 8 0,⟨(some 9),.mkmap true,none⟩,
⟨(some 10),.mkmap true,none⟩,
⟨(some 11),.build [.nilsl,.nilmp,.nilmp] [(0,1,(.t 8)),(1,1,(.t 9)),(2,1,(.t 10))],none⟩,
⟨(some 12),.box (.t 11) true,none⟩,
om 3 12]) (
.seq (
.seq ( .region [
om 13 0,on 14 13,⟨(some 15),.mv (.c (.i .i64 0)),none⟩]) ( .block 0 ( .loop c96_L1))) (
.seq ( .region [
om 40 3,
om 2 40]) ( .ret)))),[.tmp 2],true,none⟩
theorem k96:CodeOk Tryz.prog 96 c96:=codeOk (hs:= [9,10,12]) Tryz.func96 (by kernel_rfl)
def c97:AFunc:=⟨23,
.seq ( .region [
 ⟨(some 7),.box (.t 3) false,none⟩,
⟨(some 8),.mv (.c (.i .i64 0)),none⟩,
⟨(some 9),.mv (.c (.i .i64 0)),none⟩]) (
.seq (
.seq ( .region [
 ol 11 7 4 true,oc 12 55 [(.t 11)],
om 10 12]) (
.seq ( .region [
om 13 10,
ob 14 .neq (.t 13) (.c (.i .i64 0))]) ( .cond (.t 14) (
.seq ( .region [
om 15 10,⟨(some 8),.mv (.c (.i .i64 0)),none⟩,
om 9 15]) ( .ret)) ( .skip)))) (
.seq ( .region [
om 16 0,
om 17 1,
om 18 2,ol 19 7 4 true,oc 20 142 [(.t 16),(.t 17),(.t 18),(.t 19)],oe 21 20 0,oe 22 20 1,
om 8 21,
om 9 22]) ( .ret))),[.tmp 8,.tmp 9],true,none⟩
theorem k97:CodeOk Tryz.prog 97 c97:=codeOk (hs:= []) Tryz.func97 (by kernel_rfl)
def c98_L1:ACode:=
.seq ( .region [
 ob 12 .lss (.t 11) (.t 10)]) (
.seq ( .cond (.t 12) ( .skip) ( .exit 0)) (
.seq ( .block 1 (
.seq ( .region [
om 13 11,
om 3 13]) ( .draws [([],oa 14 1 3),([],ol 15 14 1 false),([],
om 16 3),([],oa 17 1 3),([1],ol 18 17 1 false),([],
om 19 3),([],oi 20 18 19 4),([1],ol 21 20 4 true),([1],oc 22 98 [(.t 21)]),([],oi 23 15 16 4),([],ot 23 22 4)]))) ( .region [
 ob 24 .add (.t 11) (.c (.i .i64 1)),
om 11 24])))
def c98:AFunc:=⟨26,
.seq ( .region [
 ⟨(some 1),.box (.t 0) false,none⟩,
⟨(some 2),.alloc [(.i .i64 0),(.i .i64 0),(.s []),.nilsl] false,none⟩]) (
.seq ( .region [
 oa 4 1 3,ol 5 4 1 false,oc 6 143 [(.t 5)],oa 7 1 3,ot 7 6 1]) (
.seq (
.seq ( .region [
 oa 8 1 3,ol 9 8 1 false,on 10 9,⟨(some 11),.mv (.c (.i .i64 0)),none⟩]) ( .block 0 ( .loop c98_L1))) (
.seq ( .region [
 ol 25 1 4 true,ot 2 25 4]) ( .ret)))),[.cell 2 4 true],false,none⟩
theorem k98:CodeOk Tryz.prog 98 c98:=codeOk (hs:= []) Tryz.func98 (by kernel_rfl)
def c99:AFunc:=⟨46,
.seq ( .region [
 ⟨(some 3),.box (.t 1) false,none⟩,
⟨(some 4),.alloc [(.i .i64 0),(.i .i64 0),(.s []),.nilsl] false,none⟩]) (
.seq (
.seq ( .draws [([],
om 10 0),([],⟨(some 11),.nck (.t 10),none⟩),
([],oa 12 11 1),([],ol 13 12 1 false),([3],ol 14 3 1 false),([],⟨(some 15),.lk (.one .str) (.t 13) (.t 14) (.agg [(.i .i64 0),(.i .i64 0),(.s []),.nilsl]) true,none⟩),
([],
om 9 15),([],oe 16 9 0),([],oe 17 9 1),([3,4,5],⟨(some 5),.alloc [(.i .i64 0),(.i .i64 0),(.s []),.nilsl] false,none⟩),
([],ot 5 16 4),([],
om 6 17)]) (
.seq ( .region [
om 18 6]) ( .cond (.t 18) (
.seq ( .region [
 ol 19 5 4 true,ot 4 19 4]) ( .ret)) ( .skip)))) (
.seq ( .region [
om 20 0,⟨(some 21),.nck (.t 20),none⟩,oa 22 21 0,ol 23 22 1 false,⟨(some 24),.mkfn 145 [] [(.t 3)],none⟩,oc 25 144 [(.t 23),(.t 24)],
om 7 25]) (
.seq (
.seq ( .region [
om 26 7,
ob 27 .lss (.t 26) (.c (.i .i64 0))]) ( .cond (.t 27) (
.seq ( .region [
 ⟨(some 28),.build [(.i .i64 0),(.i .i64 0),(.s []),.nilsl] [(0,1,(.c (.i .i64 5)))],none⟩,ot 4 28 4]) ( .ret)) ( .skip))) (
.seq ( .region [
om 29 0,
om 30 0,⟨(some 31),.nck (.t 30),none⟩,oa 32 31 0,ol 33 32 1 false,
om 34 7,oi 35 33 34 5,oa 36 35 1,ol 37 36 4 true,oc 38 54 [(.t 29),(.c (.i .i64 0)),(.t 37)],⟨(some 8),.alloc [(.i .i64 0),(.i .i64 0),(.s []),.nilsl] false,none⟩,ot 8 38 4]) (
.seq ( .draws [([],
om 39 0),([],⟨(some 40),.nck (.t 39),none⟩),
([],oa 41 40 1),([],ol 42 41 1 false),([3],ol 43 3 1 false),([3,4],ol 44 8 4 true),([],⟨none,.mu (.one .str) (.t 42) (.t 43) (.t 44),none⟩)]) (
.seq ( .region [
 ol 45 8 4 true,ot 4 45 4]) ( .ret))))))),[.cell 4 4 true],true,none⟩
theorem k99:CodeOk Tryz.prog 99 c99:=codeOk (hs:= []) Tryz.func99 (by kernel_rfl)
def c100:AFunc:=⟨86,
.seq ( .region [
 ⟨(some 3),.box (.t 1) false,none⟩,
⟨(some 4),.alloc [(.i .i64 0),(.i .i64 0),(.s []),.nilsl] false,none⟩]) (
.seq (
.seq ( .region [
 oa 6 3 3,ol 7 6 1 false,oc 8 146 [(.t 7),(.c (.fn 147 [] []))],⟨(some 9),.un .not (.t 8),none⟩]) ( .cond (.t 9) (
.seq ( .draws [([],
om 10 0),([],⟨(some 11),.nck (.t 10),none⟩),
([],oa 12 11 2),([],ol 13 12 1 false),([3],ol 14 3 4 true),([],oc 15 91 [(.t 13),(.c (.i .i64 0)),(.t 14)]),([3,4,5],⟨(some 5),.alloc [(.i .i64 0),(.i .i64 0),.nilsl] false,none⟩),
([],ot 5 15 3)]) (
.seq ( .region [
 ol 16 3 4 true,oc 17 149 [(.t 16)],oc 18 92 [(.t 5),(.c .nilsl)],oc 19 148 [(.t 17),(.t 18)],ot 4 19 4]) ( .ret))) ( .skip))) (
.seq (
.seq ( .region [
 oa 20 3 0,ol 21 20 1 false]) ( .block 0 (
.seq ( .region [
 ob 23 .eql (.t 21) (.c (.i .i64 19)),
om 22 23]) ( .cond (.t 22) (
.seq ( .region [
 oa 24 3 3,ol 25 24 1 false,⟨(some 26),.ia (.t 25) (.c (.i .i64 0)) 4,none⟩,oa 27 26 0,ol 28 27 1 false,
ob 29 .eql (.t 28) (.c (.i .i64 19))]) ( .cond (.t 29) (
.seq ( .region [
 oa 30 3 3,ol 31 30 1 false,⟨(some 32),.ia (.t 31) (.c (.i .i64 0)) 4,none⟩,oa 33 32 3,ol 34 33 1 false,⟨(some 35),.ia (.t 34) (.c (.i .i64 0)) 4,none⟩,ol 36 35 4 true,ot 4 36 4]) ( .ret)) ( .skip))) (
.seq (
.seq ( .region [
 ob 38 .eql (.t 21) (.c (.i .i64 20)),
om 37 38]) ( .cond (.t 37) ( .skip) ( .region [
 ob 39 .eql (.t 21) (.c (.i .i64 21)),
om 37 39]))) ( .cond (.t 37) (
.seq ( .region [
 ol 40 3 4 true,oc 41 150 [(.t 40)],ot 4 41 4]) ( .ret)) (
.seq ( .region [
 ob 43 .eql (.t 21) (.c (.i .i64 22)),
om 42 43]) ( .cond (.t 42) (
.seq ( .region [
om 44 0,ol 45 3 4 true,oc 46 151 [(.t 44),(.t 45)],ot 4 46 4]) ( .ret)) (
.seq ( .region [
 ob 48 .eql (.t 21) (.c (.i .i64 14)),
om 47 48]) ( .cond (.t 47) (
.seq (
.seq ( .region [
 oa 49 3 3,ol 50 49 1 false,⟨(some 51),.ia (.t 50) (.c (.i .i64 0)) 4,none⟩,oa 52 51 0,ol 53 52 1 false,
ob 54 .eql (.t 53) (.c (.i .i64 4))]) ( .cond (.t 54) (
.seq ( .region [
 oa 55 3 3,ol 56 55 1 false,⟨(some 57),.ia (.t 56) (.c (.i .i64 1)) 4,none⟩,ol 58 57 4 true,ot 4 58 4]) ( .ret)) ( .skip))) (
.seq ( .region [
 oa 59 3 3,ol 60 59 1 false,⟨(some 61),.ia (.t 60) (.c (.i .i64 0)) 4,none⟩,oa 62 61 0,ol 63 62 1 false,
ob 64 .eql (.t 63) (.c (.i .i64 5))]) ( .cond (.t 64) (
.seq ( .region [
 oa 65 3 3,ol 66 65 1 false,⟨(some 67),.ia (.t 66) (.c (.i .i64 2)) 4,none⟩,ol 68 67 4 true,ot 4 68 4]) ( .ret)) ( .skip)))) (
.seq ( .region [
 ob 70 .eql (.t 21) (.c (.i .i64 8)),
om 69 70]) ( .cond (.t 69) (
.seq ( .region [
 ol 71 3 4 true,oc 72 152 [(.t 71),(.c (.fn 153 [] [])),(.c (.b true))],ot 4 72 4]) ( .ret)) (
.seq ( .region [
 ob 74 .eql (.t 21) (.c (.i .i64 9)),
om 73 74]) ( .cond (.t 73) (
.seq ( .region [
 ol 75 3 4 true,oc 76 152 [(.t 75),(.c (.fn 153 [] [])),(.c (.b false))],ot 4 76 4]) ( .ret)) (
.seq ( .region [
 ob 78 .eql (.t 21) (.c (.i .i64 10)),
om 77 78]) ( .cond (.t 77) (
.seq ( .region [
 ol 79 3 4 true,oc 80 152 [(.t 79),(.c (.fn 154 [] [])),(.c (.b true))],ot 4 80 4]) ( .ret)) (
.seq ( .region [
 ob 82 .eql (.t 21) (.c (.i .i64 11)),
om 81 82]) ( .cond (.t 81) (
.seq ( .region [
 ol 83 3 4 true,oc 84 152 [(.t 83),(.c (.fn 154 [] [])),(.c (.b false))],ot 4 84 4]) ( .ret)) ( .skip))))))))))))))))))) (
.seq ( .region [
 ol 85 3 4 true,ot 4 85 4]) ( .ret)))),[.cell 4 4 true],true,none⟩
theorem k100:CodeOk Tryz.prog 100 c100:=codeOk (hs:= []) Tryz.func100 (by kernel_rfl)
def c101_L1:ACode:=
.seq ( .region [
 ob 26 .lss (.t 25) (.t 24)]) (
.seq ( .cond (.t 26) ( .skip) ( .exit 0)) (
.seq ( .block 1 (
.seq ( .region [
 oi 27 23 25 4,ol 28 27 4 true,⟨(some 8),.alloc [(.i .i64 0),(.i .i64 0),(.s []),.nilsl] false,none⟩,ot 8 28 4]) (
.seq ( .region [
 ol 29 8 4 true,
om 30 1,
ob 31 .add (.t 30) (.c (.i .i64 1)),
om 32 2,oc 33 101 [(.t 29),(.t 31),(.t 32)],⟨(some 34),.un .not (.t 33),none⟩]) ( .cond (.t 34) (
.seq ( .region [
 ⟨(some 6),.mv (.c (.b false)),none⟩]) ( .ret)) ( .skip))))) ( .region [
 ob 35 .add (.t 25) (.c (.i .i64 1)),
om 25 35])))
def c101:AFunc:=⟨36,
.seq ( .region [
 ⟨(some 3),.box (.t 0) false,none⟩,
⟨(some 6),.mv (.c (.b false)),none⟩]) (
.seq ( .region [
om 9 2,⟨(some 10),.nck (.t 9),none⟩,ol 11 10 1 false,
ob 12 .add (.t 11) (.c (.i .i64 1)),⟨(some 13),.nck (.t 9),none⟩,ot 13 12 1]) (
.seq (
.seq ( .region [
om 14 2,⟨(some 15),.nck (.t 14),none⟩,ol 16 15 1 false,
ob 17 .gtr (.t 16) (.c (.i .i64 200)),
om 18 17,⟨(some 19),.mv (.t 1),(some (18,false))⟩,
⟨(some 20),.bin .gtr (.t 19) (.c (.i .i64 16)),(some (18,false))⟩,
⟨(some 21),.pick (.t 18) (.c (.b true)) (.t 20),none⟩]) ( .cond (.t 21) (
.seq ( .region [
 ⟨(some 6),.mv (.c (.b false)),none⟩]) ( .ret)) ( .skip))) (
.seq (
.seq ( .region [
 oa 22 3 3,ol 23 22 1 false,on 24 23,⟨(some 25),.mv (.c (.i .i64 0)),none⟩]) ( .block 0 ( .loop c101_L1))) (
.seq ( .region [
 ⟨(some 6),.mv (.c (.b true)),none⟩]) ( .ret))))),[.tmp 6],true,none⟩
theorem k101:CodeOk Tryz.prog 101 c101:=codeOk (hs:= []) Tryz.func101 (by kernel_rfl)
def c102_L1:ACode:=
.seq ( .region [
 ob 62 .lss (.t 61) (.t 60)]) (
.seq ( .cond (.t 62) ( .skip) ( .exit 1)) (
.seq ( .block 2 (
.seq ( .region [
 oi 63 59 61 4,ol 64 63 4 true,⟨(some 4),.alloc [(.i .i64 0),(.i .i64 0),(.s []),.nilsl] false,none⟩,ot 4 64 4]) (
.seq ( .region [
 ol 65 4 4 true,oc 66 102 [(.t 65)],⟨(some 67),.un .not (.t 66),none⟩]) ( .cond (.t 67) (
.seq ( .region [
 ⟨(some 2),.mv (.c (.b false)),none⟩]) ( .ret)) ( .skip))))) ( .region [
 ob 68 .add (.t 61) (.c (.i .i64 1)),
om 61 68])))
def c102:AFunc:=⟨69,
.seq ( .region [
 ⟨(some 1),.box (.t 0) false,none⟩,
⟨(some 2),.mv (.c (.b false)),none⟩]) (
.seq (
.seq ( .region [
 oa 5 1 0,ol 6 5 1 false,
ob 7 .lss (.t 6) (.c (.i .i64 1)),
om 8 7,⟨(some 9),.fa (.t 1) 0,(some (8,false))⟩,
⟨(some 10),.ld (.t 9) 1 false,(some (8,false))⟩,
⟨(some 11),.bin .gtr (.t 10) (.c (.i .i64 22)),(some (8,false))⟩,
⟨(some 12),.pick (.t 8) (.c (.b true)) (.t 11),none⟩,
om 13 12,⟨(some 14),.fa (.t 1) 0,(some (13,false))⟩,
⟨(some 15),.ld (.t 14) 1 false,(some (13,false))⟩,
⟨(some 16),.fa (.t 1) 3,(some (13,false))⟩,
⟨(some 17),.ld (.t 16) 1 false,(some (13,false))⟩,
⟨(some 18),.lenV (.t 17),(some (13,false))⟩,
⟨(some 19),.callf 155 [(.t 15),(.t 18)],(some (13,false))⟩,
⟨(some 20),.un .not (.t 19),(some (13,false))⟩,
⟨(some 21),.pick (.t 13) (.c (.b true)) (.t 20),none⟩]) ( .cond (.t 21) (
.seq ( .region [
 ⟨(some 2),.mv (.c (.b false)),none⟩]) ( .ret)) ( .skip))) (
.seq (
.seq ( .region [
 oa 22 1 0,ol 23 22 1 false]) ( .block 0 (
.seq (
.seq ( .region [
 ob 28 .eql (.t 23) (.c (.i .i64 1)),
om 27 28]) ( .cond (.t 27) ( .skip) ( .region [
 ob 29 .eql (.t 23) (.c (.i .i64 2)),
om 27 29]))) ( .cond (.t 27) (
.seq ( .region [
 oa 30 1 1,ol 31 30 1 false,
ob 32 .lss (.t 31) (.c (.i .i64 0)),
om 33 32,⟨(some 34),.fa (.t 1) 1,(some (33,false))⟩,
⟨(some 35),.ld (.t 34) 1 false,(some (33,false))⟩,
⟨(some 36),.bin .gtr (.t 35) (.c (.i .i64 1099511627776)),(some (33,false))⟩,
⟨(some 37),.pick (.t 33) (.c (.b true)) (.t 36),none⟩]) ( .cond (.t 37) (
.seq ( .region [
 ⟨(some 2),.mv (.c (.b false)),none⟩]) ( .ret)) ( .skip))) (
.seq ( .region [
 ob 39 .eql (.t 23) (.c (.i .i64 3)),
om 38 39]) ( .cond (.t 38) (
.seq ( .region [
 oa 40 1 1,ol 41 40 1 false,
ob 42 .lss (.t 41) (.c (.i .i64 0)),
om 43 42,⟨(some 44),.fa (.t 1) 1,(some (43,false))⟩,
⟨(some 45),.ld (.t 44) 1 false,(some (43,false))⟩,
⟨(some 46),.bin .gtr (.t 45) (.c (.i .i64 1439)),(some (43,false))⟩,
⟨(some 47),.pick (.t 43) (.c (.b true)) (.t 46),none⟩]) ( .cond (.t 47) (
.seq ( .region [
 ⟨(some 2),.mv (.c (.b false)),none⟩]) ( .ret)) ( .skip))) (
.seq ( .region [
 oa 24 1 1,ol 25 24 1 false,
ob 26 .neq (.t 25) (.c (.i .i64 0))]) ( .cond (.t 26) (
.seq ( .region [
 ⟨(some 2),.mv (.c (.b false)),none⟩]) ( .ret)) ( .skip))))))))) (
.seq (
.seq ( .region [
 oa 48 1 0,ol 49 48 1 false,
ob 50 .eql (.t 49) (.c (.i .i64 6))]) ( .cond (.t 50) (
.seq ( .region [
 oa 51 1 2,ol 52 51 1 false,oc 53 156 [(.t 52)],⟨(some 54),.un .not (.t 53),none⟩]) ( .cond (.t 54) (
.seq ( .region [
 ⟨(some 2),.mv (.c (.b false)),none⟩]) ( .ret)) ( .skip))) (
.seq ( .region [
 oa 55 1 2,ol 56 55 1 false,
ob 57 .neq (.t 56) (.c (.s []))]) ( .cond (.t 57) (
.seq ( .region [
 ⟨(some 2),.mv (.c (.b false)),none⟩]) ( .ret)) ( .skip))))) (
.seq (
.seq ( .region [
 oa 58 1 3,ol 59 58 1 false,on 60 59,⟨(some 61),.mv (.c (.i .i64 0)),none⟩]) ( .block 1 ( .loop c102_L1))) (
.seq ( .region [
 ⟨(some 2),.mv (.c (.b true)),none⟩]) ( .ret)))))),[.tmp 2],false,none⟩
theorem k102:CodeOk Tryz.prog 102 c102:=codeOk (hs:= []) Tryz.func102 (by kernel_rfl)
def c114:AFunc:=⟨45,
.seq ( .region [
 ⟨(some 4),.mv (.c (.i .i64 0)),none⟩,
⟨(some 5),.mv (.c (.i .i64 0)),none⟩]) (
.seq (
.seq ( .region [
om 11 0,⟨(some 12),.nck (.t 11),none⟩,oa 13 12 2,ol 14 13 1 false,
om 15 1,⟨(some 16),.lk (.one .int) (.t 14) (.t 15) (.i .i64 0) true,none⟩,
om 10 16,oe 17 10 0,oe 18 10 1,
om 6 17,
om 7 18]) (
.seq ( .region [
om 19 7]) ( .cond (.t 19) (
.seq ( .region [
om 20 6,
om 4 20,⟨(some 5),.mv (.c (.i .i64 0)),none⟩]) ( .ret)) ( .skip)))) (
.seq ( .region [
om 22 0,
om 23 1,
om 24 0,⟨(some 25),.nck (.t 24),none⟩,oa 26 25 0,ol 27 26 1 false,
om 28 1,oi 29 27 28 5,oa 30 29 1,ol 31 30 4 true,oc 32 97 [(.t 22),(.c (.i .i64 0)),(.t 23),(.t 31)],
om 21 32,oe 33 21 0,oe 34 21 1,
om 8 33,
om 9 34]) (
.seq (
.seq ( .region [
om 35 9,
ob 36 .neq (.t 35) (.c (.i .i64 0))]) ( .cond (.t 36) (
.seq ( .region [
om 37 9,⟨(some 4),.mv (.c (.i .i64 0)),none⟩,
om 5 37]) ( .ret)) ( .skip))) (
.seq ( .region [
om 38 0,⟨(some 39),.nck (.t 38),none⟩,oa 40 39 2,ol 41 40 1 false,
om 42 1,
om 43 8,⟨none,.mu (.one .int) (.t 41) (.t 42) (.t 43),none⟩]) (
.seq ( .region [
om 44 8,
om 4 44,⟨(some 5),.mv (.c (.i .i64 0)),none⟩]) ( .ret)))))),[.tmp 4,.tmp 5],true,none⟩
theorem k114:CodeOk Tryz.prog 114 c114:=codeOk (hs:= []) Tryz.func114 (by kernel_rfl)
def c132:AFunc:=⟨2,
.seq ( .region [
 ⟨(some 0),.mv (.c .nilsl),none⟩]) (
.seq ( .region [
 ⟨(some 1),.bsl [(.s [])] 11 [(0,(.c (.s [108,101,103,115]))),(1,(.c (.s [104,101,97,100,115]))),(2,(.c (.s [116,121,112,101,115]))),(3,(.c (.s [98,108,111,99,107]))),(4,(.c (.s [115,112,97,110]))),(5,(.c (.s [110,105,103,104,116]))),(6,(.c (.s [108,111,110,103,101,115,116]))),(7,(.c (.s [115,104,111,114,116,101,115,116]))),(8,(.c (.s [115,104,105,102,116]))),(9,(.c (.s [115,116,97,114,116]))),(10,(.c (.s [101,110,100])))],none⟩,
om 0 1]) ( .ret)),[.tmp 0],false,none⟩
theorem k132:CodeOk Tryz.prog 132 c132:=codeOk (hs:= []) Tryz.func132 (by kernel_rfl)
def c133:AFunc:=⟨18,
.seq ( .region [
 ⟨(some 2),.mv (.c (.i .i64 0)),none⟩]) (
.seq (
.seq ( .region [
om 3 0]) ( .block 0 (
.seq (
.seq ( .region [
 ob 5 .eql (.t 3) (.c (.s [108,101,103,115])),
om 4 5]) ( .cond (.t 4) ( .skip) (
.seq ( .region [
 ob 6 .eql (.t 3) (.c (.s [104,101,97,100,115])),
om 4 6]) ( .cond (.t 4) ( .skip) ( .region [
 ob 7 .eql (.t 3) (.c (.s [116,121,112,101,115])),
om 4 7]))))) ( .cond (.t 4) (
.seq ( .region [
 ⟨(some 2),.mv (.c (.i .i64 1)),none⟩]) ( .ret)) (
.seq (
.seq ( .region [
 ob 9 .eql (.t 3) (.c (.s [98,108,111,99,107])),
om 8 9]) ( .cond (.t 8) ( .skip) (
.seq ( .region [
 ob 10 .eql (.t 3) (.c (.s [115,112,97,110])),
om 8 10]) ( .cond (.t 8) ( .skip) (
.seq ( .region [
 ob 11 .eql (.t 3) (.c (.s [110,105,103,104,116])),
om 8 11]) ( .cond (.t 8) ( .skip) (
.seq ( .region [
 ob 12 .eql (.t 3) (.c (.s [108,111,110,103,101,115,116])),
om 8 12]) ( .cond (.t 8) ( .skip) (
.seq ( .region [
 ob 13 .eql (.t 3) (.c (.s [115,104,111,114,116,101,115,116])),
om 8 13]) ( .cond (.t 8) ( .skip) ( .region [
 ob 14 .eql (.t 3) (.c (.s [115,104,105,102,116])),
om 8 14]))))))))))) ( .cond (.t 8) (
.seq ( .region [
 ⟨(some 2),.mv (.c (.i .i64 2)),none⟩]) ( .ret)) (
.seq (
.seq ( .region [
 ob 16 .eql (.t 3) (.c (.s [115,116,97,114,116])),
om 15 16]) ( .cond (.t 15) ( .skip) ( .region [
 ob 17 .eql (.t 3) (.c (.s [101,110,100])),
om 15 17]))) ( .cond (.t 15) (
.seq ( .region [
 ⟨(some 2),.mv (.c (.i .i64 3)),none⟩]) ( .ret)) ( .skip))))))))) (
.seq ( .region [
 ⟨(some 2),.mv (.c (.i .i64 0)),none⟩]) ( .ret))),[.tmp 2],false,none⟩
theorem k133:CodeOk Tryz.prog 133 c133:=codeOk (hs:= []) Tryz.func133 (by kernel_rfl)
def c134:AFunc:=⟨30,
.seq ( .region [
 ⟨(some 2),.mv (.c (.i .i64 0)),none⟩]) (
.seq (
.seq ( .region [
om 7 0]) ( .block 0 (
.seq ( .region [
 ob 9 .eql (.t 7) (.c (.s [114,101,115,116])),
om 8 9]) ( .cond (.t 8) (
.seq ( .region [
 ⟨(some 2),.mv (.c (.i .i64 2)),none⟩]) ( .ret)) (
.seq ( .region [
 ob 11 .eql (.t 7) (.c (.s [110,105,103,104,116,115])),
om 10 11]) ( .cond (.t 10) (
.seq ( .region [
 ⟨(some 2),.mv (.c (.i .i64 1)),none⟩]) ( .ret)) (
.seq ( .region [
 ob 13 .eql (.t 7) (.c (.s [104,111,109,101])),
om 12 13]) ( .cond (.t 12) (
.seq ( .region [
 ⟨(some 2),.mv (.c (.i .i64 4)),none⟩]) ( .ret)) ( .skip))))))))) (
.seq (
.seq ( .region [
om 15 0,oc 16 212 [(.t 15),(.c (.s [98,101,102,111,114,101,46]))],
om 14 16,oe 17 14 0,oe 18 14 1,
om 3 17,
om 4 18]) (
.seq ( .region [
om 19 4]) ( .cond (.t 19) (
.seq ( .region [
om 20 3,oc 21 133 [(.t 20)],
om 2 21]) ( .ret)) ( .skip)))) (
.seq (
.seq ( .region [
om 23 0,oc 24 212 [(.t 23),(.c (.s [97,102,116,101,114,46]))],
om 22 24,oe 25 22 0,oe 26 22 1,
om 5 25,
om 6 26]) (
.seq ( .region [
om 27 6]) ( .cond (.t 27) (
.seq ( .region [
om 28 5,oc 29 133 [(.t 28)],
om 2 29]) ( .ret)) ( .skip)))) (
.seq ( .region [
 ⟨(some 2),.mv (.c (.i .i64 0)),none⟩]) ( .ret))))),[.tmp 2],false,none⟩
theorem k134:CodeOk Tryz.prog 134 c134:=codeOk (hs:= []) Tryz.func134 (by kernel_rfl)
def c135:AFunc:=⟨13,
.seq ( .region [
 ⟨(some 2),.mv (.c (.i .i64 0)),none⟩]) (
.seq (
.seq ( .region [
om 3 0]) ( .block 0 (
.seq (
.seq ( .region [
 ob 5 .eql (.t 3) (.c (.s [100,117,116,105,101,115])),
om 4 5]) ( .cond (.t 4) ( .skip) (
.seq ( .region [
 ob 6 .eql (.t 3) (.c (.s [108,101,103,115])),
om 4 6]) ( .cond (.t 4) ( .skip) (
.seq ( .region [
 ob 7 .eql (.t 3) (.c (.s [104,101,97,100,115])),
om 4 7]) ( .cond (.t 4) ( .skip) ( .region [
 ob 8 .eql (.t 3) (.c (.s [100,97,121,115])),
om 4 8]))))))) ( .cond (.t 4) (
.seq ( .region [
 ⟨(some 2),.mv (.c (.i .i64 1)),none⟩]) ( .ret)) (
.seq (
.seq ( .region [
 ob 10 .eql (.t 3) (.c (.s [98,108,111,99,107])),
om 9 10]) ( .cond (.t 9) ( .skip) (
.seq ( .region [
 ob 11 .eql (.t 3) (.c (.s [115,112,97,110])),
om 9 11]) ( .cond (.t 9) ( .skip) ( .region [
 ob 12 .eql (.t 3) (.c (.s [99,114,101,100,105,116])),
om 9 12]))))) ( .cond (.t 9) (
.seq ( .region [
 ⟨(some 2),.mv (.c (.i .i64 2)),none⟩]) ( .ret)) ( .skip))))))) (
.seq ( .region [
 ⟨(some 2),.mv (.c (.i .i64 0)),none⟩]) ( .ret))),[.tmp 2],false,none⟩
theorem k135:CodeOk Tryz.prog 135 c135:=codeOk (hs:= []) Tryz.func135 (by kernel_rfl)
def c136:AFunc:=⟨4,
.seq ( .region [
 ⟨(some 2),.mv (.c (.i .i64 0)),none⟩]) (
.seq (
.seq ( .region [
om 3 0]) ( .cond (.t 3) (
.seq ( .region [
 ⟨(some 2),.mv (.c (.i .i64 1)),none⟩]) ( .ret)) ( .skip))) (
.seq ( .region [
 ⟨(some 2),.mv (.c (.i .i64 0)),none⟩]) ( .ret))),[.tmp 2],false,none⟩
theorem k136:CodeOk Tryz.prog 136 c136:=codeOk (hs:= []) Tryz.func136 (by kernel_rfl)
def c137:AFunc:=⟨6,
.seq ( .region [
 ⟨(some 2),.mv (.c (.i .i64 0)),none⟩]) (
.seq ( .region [
om 3 0,⟨(some 4),.mm false [(.c (.i .i64 1099511627776)),(.t 3)],none⟩,
⟨(some 5),.mm true [(.c (.i .i64 (-1099511627776))),(.t 4)],none⟩,
om 2 5]) ( .ret)),[.tmp 2],false,none⟩
theorem k137:CodeOk Tryz.prog 137 c137:=codeOk (hs:= []) Tryz.func137 (by kernel_rfl)
def c138:AFunc:=⟨51,
.seq ( .region [
 ⟨(some 4),.mv (.c (.i .i64 0)),none⟩]) (
.seq ( .region [
om 12 0,⟨(some 13),.nck (.t 12),none⟩,oa 14 13 1,ol 15 14 1 false,
om 16 1,⟨(some 17),.lk (.one .str) (.t 15) (.t 16) (.i .i64 0) true,none⟩,
om 11 17,oe 18 11 0,oe 19 11 1,
om 5 18,
om 6 19]) (
.seq (
.seq ( .region [
om 20 6,⟨(some 21),.un .not (.t 20),none⟩]) ( .cond (.t 21) (
.seq ( .region [
 ⟨(some 4),.mv (.c (.i .i64 0)),none⟩]) ( .ret)) ( .skip))) (
.seq (
.seq ( .region [
om 23 0,⟨(some 24),.nck (.t 23),none⟩,oa 25 24 2,ol 26 25 1 false,
om 27 5,⟨(some 28),.lk (.one .int) (.t 26) (.t 27) (.i .i64 0) true,none⟩,
om 22 28,oe 29 22 0,oe 30 22 1,
om 7 29,
om 8 30]) (
.seq ( .region [
om 31 8]) ( .cond (.t 31) (
.seq ( .region [
om 32 7,
om 4 32]) ( .ret)) ( .skip)))) (
.seq ( .region [
om 33 0,
om 34 0,⟨(some 35),.nck (.t 34),none⟩,oa 36 35 0,ol 37 36 1 false,
om 38 5,oi 39 37 38 5,oa 40 39 1,ol 41 40 4 true,oc 42 91 [(.t 33),(.c (.i .i64 0)),(.t 41)],⟨(some 9),.alloc [(.i .i64 0),(.i .i64 0),.nilsl] false,none⟩,ot 9 42 3]) (
.seq ( .region [
 oc 43 92 [(.t 9),(.c .nilsl)],
om 10 43]) (
.seq ( .region [
om 44 0,⟨(some 45),.nck (.t 44),none⟩,oa 46 45 2,ol 47 46 1 false,
om 48 5,
om 49 10,⟨none,.mu (.one .int) (.t 47) (.t 48) (.t 49),none⟩]) (
.seq ( .region [
om 50 10,
om 4 50]) ( .ret)))))))),[.tmp 4],true,none⟩
theorem k138:CodeOk Tryz.prog 138 c138:=codeOk (hs:= []) Tryz.func138 (by kernel_rfl)
end Go.Proofs.YtfenhjpkomldcaaGreat
