/- The codes of functions of the program, as the evaluator reads them; that each is what its compiler makes of the model's function. Conditions: none. -/
import Derived.Test.YtfenhjpkomldcaaGreatEvF
import Derived.Test.YtfenhjpkomldcaaGreatChecked
import Derived.KernelRfl
set_option maxRecDepth 100000
namespace Go.Proofs.YtfenhjpkomldcaaGreat
open Go Go.Ev
def R8:aN:=
.seq ( .region [
 ob 24 .lss (.t 23) (.t 22)]) (
.seq ( .cond (.t 24) ( .skip) ( .exit 3)) (
.seq ( .block 4 (
.seq ( .region [
 oi 25 21 23 1,ol 26 25 1 false,
om 7 26]) ( .region [
om 27 3,
om 28 5,
om 29 7,
ob 30 .add (.t 28) (.t 29),⟨(some 31),.bsl [(.s [])] 1 [(0,(.t 30))],none⟩,
⟨(some 32),.app 1 16 (.t 27) (.t 31) false false,none⟩,
om 3 32]))) ( .region [
 ob 33 .add (.t 23) (.c (.i .i64 1)),
om 23 33])))
def R9:aN:=
.seq ( .region [
 ob 18 .lss (.t 17) (.t 16)]) (
.seq ( .cond (.t 18) ( .skip) ( .exit 1)) (
.seq ( .block 2 (
.seq ( .region [
 oi 19 15 17 1,ol 20 19 1 false,
om 5 20]) (
.seq ( .region [
 oc 21 88 [(.c (.i .i64 1))],on 22 21,⟨(some 23),.mv (.c (.i .i64 0)),none⟩]) ( .block 3 ( .loop R8))))) ( .region [
 ob 34 .add (.t 17) (.c (.i .i64 1)),
om 17 34])))
def c88:aE:=⟨39,
.seq ( .region [
 ⟨(some 2),.mv (.c .nilsl),none⟩]) (
.seq (
.seq ( .region [
om 8 0]) ( .block 0 (
.seq ( .region [
 ob 10 .eql (.t 8) (.c (.i .i64 1)),
om 9 10]) ( .cond (.t 9) (
.seq ( .region [
 ⟨(some 11),.bsl [(.s [])] 11 [(0,(.c (.s [108,101,103,115]))),(1,(.c (.s [104,101,97,100,115]))),(2,(.c (.s [116,121,112,101,115]))),(3,(.c (.s [98,108,111,99,107]))),(4,(.c (.s [115,112,97,110]))),(5,(.c (.s [110,105,103,104,116]))),(6,(.c (.s [108,111,110,103,101,115,116]))),(7,(.c (.s [115,104,111,114,116,101,115,116]))),(8,(.c (.s [115,104,105,102,116]))),(9,(.c (.s [115,116,97,114,116]))),(10,(.c (.s [101,110,100])))],none⟩,
om 2 11]) ( .ret)) (
.seq ( .region [
 ob 13 .eql (.t 8) (.c (.i .i64 2)),
om 12 13]) ( .cond (.t 12) (
.seq ( .region [
 ⟨(some 14),.bsl [(.s [])] 3 [(0,(.c (.s [114,101,115,116]))),(1,(.c (.s [110,105,103,104,116,115]))),(2,(.c (.s [104,111,109,101])))],none⟩,
om 3 14]) (
.seq (
.seq ( .region [
 ⟨(some 15),.bsl [(.s [])] 2 [(0,(.c (.s [98,101,102,111,114,101,46]))),(1,(.c (.s [97,102,116,101,114,46])))],none⟩,on 16 15,⟨(some 17),.mv (.c (.i .i64 0)),none⟩]) ( .block 1 ( .loop R9))) (
.seq ( .region [
om 35 3,
om 2 35]) ( .ret)))) (
.seq ( .region [
 ob 37 .eql (.t 8) (.c (.i .i64 3)),
om 36 37]) ( .cond (.t 36) (
.seq ( .region [
 ⟨(some 38),.bsl [(.s [])] 7 [(0,(.c (.s [100,117,116,105,101,115]))),(1,(.c (.s [108,101,103,115]))),(2,(.c (.s [104,101,97,100,115]))),(3,(.c (.s [100,97,121,115]))),(4,(.c (.s [98,108,111,99,107]))),(5,(.c (.s [115,112,97,110]))),(6,(.c (.s [99,114,101,100,105,116])))],none⟩,
om 2 38]) ( .ret)) ( .skip))))))))) (
.seq ( .region [
 ⟨(some 2),.mv (.c .nilsl),none⟩]) ( .ret))),[.tmp 2],false,none⟩
theorem k88:aC Tryz.prog 88 c88:=codeOk (hs:= []) Tryz.func88 (by kernel_rfl)
def PH:aE:=⟨23,
.seq ( .region [
 ⟨(some 4),.mv (.c (.i .i64 0)),none⟩,
⟨(some 5),.mv (.c (.i .i64 0)),none⟩]) (
.seq ( .region [
 ⟨(some 6),.mv (.c (.i .i64 0)),none⟩]) (
.seq (
.seq ( .region [
om 7 0]) ( .block 0 (
.seq ( .region [
 ob 9 .eql (.t 7) (.c (.i .i64 1)),
om 8 9]) ( .cond (.t 8) ( .region [
om 10 1,oc 11 133 [(.t 10)],
om 6 11]) (
.seq ( .region [
 ob 13 .eql (.t 7) (.c (.i .i64 2)),
om 12 13]) ( .cond (.t 12) ( .region [
om 14 1,oc 15 134 [(.t 14)],
om 6 15]) (
.seq ( .region [
 ob 17 .eql (.t 7) (.c (.i .i64 3)),
om 16 17]) ( .cond (.t 16) ( .region [
om 18 1,oc 19 135 [(.t 18)],
om 6 19]) ( .skip))))))))) (
.seq (
.seq ( .region [
om 20 6,
ob 21 .eql (.t 20) (.c (.i .i64 0))]) ( .cond (.t 21) (
.seq ( .region [
 ⟨(some 4),.mv (.c (.i .i64 0)),none⟩,
⟨(some 5),.mv (.c (.i .i64 6)),none⟩]) ( .ret)) ( .skip))) (
.seq ( .region [
om 22 6,
om 4 22,⟨(some 5),.mv (.c (.i .i64 0)),none⟩]) ( .ret))))),[.tmp 4,.tmp 5],false,none⟩
theorem k89:aC Tryz.prog 89 PH:=codeOk (hs:= []) Tryz.func89 (by kernel_rfl)
def jM:aN:=
.seq ( .region [
 ob 66 .lss (.t 65) (.t 64)]) (
.seq ( .cond (.t 66) ( .skip) ( .exit 1)) (
.seq ( .block 2 (
.seq ( .region [
om 67 65,oi 68 63 65 4,ol 69 68 4 true,⟨(some 11),.alloc [(.i .i64 0),(.i .i64 0),(.s []),.nilsl] false,none⟩,
om 10 67,ot 11 69 4]) ( .draws [([],oa 70 9 2),([],ol 71 70 1 false),([],
om 72 10),([],
om 73 0),([],
om 74 1),([1],ol 75 11 4 true),([1],oc 76 91 [(.t 73),(.t 74),(.t 75)]),([],oi 77 71 72 3),([],ot 77 76 3)]))) ( .region [
 ob 78 .add (.t 65) (.c (.i .i64 1)),
om 65 78])))
theorem HL:kV (iJ (.loop jM))=604426016319167168252928:=nr rfl
def LO:aE:=⟨80,
.seq ( .region [
 ⟨(some 5),.box (.t 2) false,none⟩,
⟨(some 6),.alloc [(.i .i64 0),(.i .i64 0),.nilsl] false,none⟩]) (
.seq (
.seq ( .region [
 oa 12 5 0,ol 13 12 1 false]) ( .block 0 (
.seq (
.seq ( .region [
 ob 15 .eql (.t 13) (.c (.i .i64 1)),
om 14 15]) ( .cond (.t 14) ( .skip) (
.seq ( .region [
 ob 16 .eql (.t 13) (.c (.i .i64 2)),
om 14 16]) ( .cond (.t 14) ( .skip) ( .region [
 ob 17 .eql (.t 13) (.c (.i .i64 3)),
om 14 17]))))) ( .cond (.t 14) (
.seq ( .region [
 oa 18 5 1,ol 19 18 1 false,⟨(some 20),.build [(.i .i64 0),(.i .i64 0),.nilsl] [(0,1,(.c (.i .i64 1))),(1,1,(.t 19))],none⟩,ot 6 20 3]) ( .ret)) (
.seq ( .region [
 ob 22 .eql (.t 13) (.c (.i .i64 4)),
om 21 22]) ( .cond (.t 21) (
.seq ( .region [
 ⟨(some 23),.build [(.i .i64 0),(.i .i64 0),.nilsl] [(0,1,(.c (.i .i64 1))),(1,1,(.c (.i .i64 1)))],none⟩,ot 6 23 3]) ( .ret)) (
.seq ( .region [
 ob 25 .eql (.t 13) (.c (.i .i64 5)),
om 24 25]) ( .cond (.t 24) (
.seq ( .region [
 ⟨(some 26),.build [(.i .i64 0),(.i .i64 0),.nilsl] [(0,1,(.c (.i .i64 1)))],none⟩,ot 6 26 3]) ( .ret)) (
.seq ( .region [
 ob 28 .eql (.t 13) (.c (.i .i64 6)),
om 27 28]) ( .cond (.t 27) (
.seq (
.seq ( .region [
om 29 1,
ob 30 .geq (.t 29) (.c (.i .i64 0)),
om 31 30,⟨(some 32),.mv (.t 1),(some (31,true))⟩,
⟨(some 33),.bin .lss (.t 32) (.c (.i .i64 4)),(some (31,true))⟩,
⟨(some 34),.pick (.t 31) (.t 33) (.c (.b false)),none⟩]) ( .cond (.t 34) (
.seq ( .draws [([],
om 36 0),([],
om 37 1),([],⟨(some 38),.nck (.t 36),none⟩),
([],oa 39 38 3),([],⟨(some 40),.iaA (.t 39) (.t 37) 4 1,none⟩),
([],ol 41 40 1 false),([],oa 42 5 2),([5],ol 43 42 1 false),([],⟨(some 44),.lk (.one .str) (.t 41) (.t 43) (.i .i64 0) true,none⟩),
([],
om 35 44),([],oe 45 35 0),([],oe 46 35 1),([],
om 7 45),([],
om 8 46)]) (
.seq ( .region [
om 47 8]) ( .cond (.t 47) (
.seq ( .region [
om 48 7,⟨(some 49),.build [(.i .i64 0),(.i .i64 0),.nilsl] [(0,1,(.c (.i .i64 6))),(1,1,(.t 48))],none⟩,ot 6 49 3]) ( .ret)) ( .skip)))) ( .skip))) (
.seq ( .region [
om 50 0,oa 51 5 2,ol 52 51 1 false,oc 53 138 [(.t 50),(.t 52)],⟨(some 54),.build [(.i .i64 0),(.i .i64 0),.nilsl] [(0,1,(.c (.i .i64 1))),(1,1,(.t 53))],none⟩,ot 6 54 3]) ( .ret))) ( .skip))))))))))) (
.seq ( .draws [([],oa 55 5 0),([],ol 56 55 1 false),([],oa 57 5 3),([1],ol 58 57 1 false),([],on 59 58),([1],⟨(some 60),.mksl [(.i .i64 0),(.i .i64 0),.nilsl] 40 (.t 59) false,none⟩),
([],⟨(some 61),.build [(.i .i64 0),(.i .i64 0),.nilsl] [(0,1,(.t 56)),(2,1,(.t 60))],none⟩),
([1,3,5],⟨(some 9),.alloc [(.i .i64 0),(.i .i64 0),.nilsl] false,none⟩),
([],ot 9 61 3)]) (
.seq (
.seq ( .region [
 oa 62 5 3,ol 63 62 1 false,on 64 63,⟨(some 65),.mv (.c (.i .i64 0)),none⟩]) ( .block 1 ( .loop jM))) (
.seq ( .region [
 ol 79 9 3 true,ot 6 79 3]) ( .ret))))),[.cell 6 3 true],false,none⟩
theorem k91:aC Tryz.prog 91 LO:=codeOk (hs:= []) Tryz.func91 (by kernel_rfl)
def ku:aN:=
.seq (
.seq ( .region [
om 61 6,
om 62 0,⟨(some 63),.nck (.t 62),none⟩,oa 64 63 2,ol 65 64 1 false,on 66 65,
ob 67 .lss (.t 61) (.t 66)]) ( .cond (.t 67) ( .skip) ( .exit 1))) (
.seq ( .block 2 (
.seq ( .region [
om 70 0,⟨(some 71),.nck (.t 70),none⟩,oa 72 71 2,ol 73 72 1 false,
om 74 6,oi 75 73 74 3,
om 76 1,oc 77 92 [(.t 75),(.t 76)],
om 7 77]) (
.seq ( .region [
om 78 0,⟨(some 79),.nck (.t 78),none⟩,oa 80 79 0,ol 81 80 1 false,
ob 82 .eql (.t 81) (.c (.i .i64 12))]) ( .cond (.t 82) ( .region [
om 83 5,
om 84 7,⟨(some 85),.mm false [(.t 83),(.t 84)],none⟩,
om 5 85]) ( .region [
om 86 5,
om 87 7,⟨(some 88),.mm true [(.t 86),(.t 87)],none⟩,
om 5 88]))))) ( .region [
om 68 6,
ob 69 .add (.t 68) (.c (.i .i64 1)),
om 6 69]))
def wG:aE:=⟨155,
.seq ( .region [
 ⟨(some 4),.mv (.c (.i .i64 0)),none⟩]) (
.seq (
.seq ( .region [
om 8 0,⟨(some 9),.nck (.t 8),none⟩,oa 10 9 0,ol 11 10 1 false]) ( .block 0 (
.seq ( .region [
 ob 13 .eql (.t 11) (.c (.i .i64 1)),
om 12 13]) ( .cond (.t 12) (
.seq ( .region [
om 14 0,⟨(some 15),.nck (.t 14),none⟩,oa 16 15 1,ol 17 16 1 false,
om 4 17]) ( .ret)) (
.seq ( .region [
 ob 19 .eql (.t 11) (.c (.i .i64 6)),
om 18 19]) ( .cond (.t 18) (
.seq ( .region [
om 20 1,
om 21 0,⟨(some 22),.nck (.t 21),none⟩,oa 23 22 1,ol 24 23 1 false,oi 25 20 24 1,ol 26 25 1 false,
om 4 26]) ( .ret)) (
.seq ( .region [
 ob 28 .eql (.t 11) (.c (.i .i64 14)),
om 27 28]) ( .cond (.t 27) (
.seq (
.seq ( .region [
om 29 0,⟨(some 30),.nck (.t 29),none⟩,oa 31 30 2,ol 32 31 1 false,⟨(some 33),.ia (.t 32) (.c (.i .i64 0)) 3,none⟩,
om 34 1,oc 35 92 [(.t 33),(.t 34)],
ob 36 .neq (.t 35) (.c (.i .i64 0))]) ( .cond (.t 36) (
.seq ( .region [
om 37 0,⟨(some 38),.nck (.t 37),none⟩,oa 39 38 2,ol 40 39 1 false,⟨(some 41),.ia (.t 40) (.c (.i .i64 1)) 3,none⟩,
om 42 1,oc 43 92 [(.t 41),(.t 42)],
om 4 43]) ( .ret)) ( .skip))) (
.seq ( .region [
om 44 0,⟨(some 45),.nck (.t 44),none⟩,oa 46 45 2,ol 47 46 1 false,⟨(some 48),.ia (.t 47) (.c (.i .i64 2)) 3,none⟩,
om 49 1,oc 50 92 [(.t 48),(.t 49)],
om 4 50]) ( .ret))) (
.seq (
.seq ( .region [
 ob 52 .eql (.t 11) (.c (.i .i64 12)),
om 51 52]) ( .cond (.t 51) ( .skip) ( .region [
 ob 53 .eql (.t 11) (.c (.i .i64 13)),
om 51 53]))) ( .cond (.t 51) (
.seq ( .region [
om 54 0,⟨(some 55),.nck (.t 54),none⟩,oa 56 55 2,ol 57 56 1 false,⟨(some 58),.ia (.t 57) (.c (.i .i64 0)) 3,none⟩,
om 59 1,oc 60 92 [(.t 58),(.t 59)],
om 5 60]) (
.seq (
.seq ( .region [
 ⟨(some 6),.mv (.c (.i .i64 1)),none⟩]) ( .block 1 ( .loop ku))) (
.seq ( .region [
om 89 5,
om 4 89]) ( .ret)))) (
.seq ( .region [
 ob 91 .eql (.t 11) (.c (.i .i64 15)),
om 90 91]) ( .cond (.t 90) (
.seq ( .draws [([],
om 92 0),([],⟨(some 93),.nck (.t 92),none⟩),
([],oa 94 93 2),([],ol 95 94 1 false),([],⟨(some 96),.ia (.t 95) (.c (.i .i64 0)) 3,none⟩),
([],
om 97 1),([],oc 98 92 [(.t 96),(.t 97)]),([],
om 99 0),([],⟨(some 100),.nck (.t 99),none⟩),
([],oa 101 100 2),([3,6],ol 102 101 1 false),([],⟨(some 103),.ia (.t 102) (.c (.i .i64 1)) 3,none⟩),
([],
om 104 1),([],oc 105 92 [(.t 103),(.t 104)]),([],
om 106 0),([],⟨(some 107),.nck (.t 106),none⟩),
([],oa 108 107 2),([3,6,10,13],ol 109 108 1 false),([],⟨(some 110),.ia (.t 109) (.c (.i .i64 2)) 3,none⟩),
([],
om 111 1),([],oc 112 92 [(.t 110),(.t 111)]),([],oc 113 139 [(.t 98),(.t 105),(.t 112)]),([],oc 114 136 [(.t 113)]),([],
om 4 114)]) ( .ret)) (
.seq ( .region [
 ob 116 .eql (.t 11) (.c (.i .i64 7)),
om 115 116]) ( .cond (.t 115) (
.seq ( .region [
om 117 0,⟨(some 118),.nck (.t 117),none⟩,oa 119 118 2,ol 120 119 1 false,⟨(some 121),.ia (.t 120) (.c (.i .i64 0)) 3,none⟩,
om 122 1,oc 123 92 [(.t 121),(.t 122)],⟨(some 124),.un .neg (.t 123),none⟩,oc 125 140 [(.c (.i .i64 0)),(.t 124)],
om 4 125]) ( .ret)) (
.seq ( .region [
 ob 127 .eql (.t 11) (.c (.i .i64 19)),
om 126 127]) ( .cond (.t 126) (
.seq ( .region [
om 128 0,⟨(some 129),.nck (.t 128),none⟩,oa 130 129 2,ol 131 130 1 false,⟨(some 132),.ia (.t 131) (.c (.i .i64 0)) 3,none⟩,
om 133 1,oc 134 92 [(.t 132),(.t 133)],
ob 135 .sub (.c (.i .i64 1)) (.t 134),
om 4 135]) ( .ret)) ( .skip))))))))))))))))) (
.seq ( .draws [([],
om 136 0),([],⟨(some 137),.nck (.t 136),none⟩),
([],oa 138 137 0),([],ol 139 138 1 false),([],
om 140 0),([],⟨(some 141),.nck (.t 140),none⟩),
([],oa 142 141 2),([3],ol 143 142 1 false),([],⟨(some 144),.ia (.t 143) (.c (.i .i64 0)) 3,none⟩),
([],
om 145 1),([3],oc 146 92 [(.t 144),(.t 145)]),([],
om 147 0),([],⟨(some 148),.nck (.t 147),none⟩),
([],oa 149 148 2),([3,7,10],ol 150 149 1 false),([],⟨(some 151),.ia (.t 150) (.c (.i .i64 1)) 3,none⟩),
([],
om 152 1),([3],oc 153 92 [(.t 151),(.t 152)]),([],oc 154 141 [(.t 139),(.t 146),(.t 153)]),([],
om 4 154)]) ( .ret))),[.tmp 4],false,none⟩
theorem k92:aC Tryz.prog 92 wG:=codeOk (hs:= []) Tryz.func92 (by kernel_rfl)
def lM:aN:=
.seq ( .region [
 ob 16 .lss (.t 15) (.t 14)]) (
.seq ( .cond (.t 16) ( .skip) ( .exit 0)) (
.seq ( .block 1 (
.seq ( .region [
om 17 15,oi 18 13 15 5,ol 19 18 5 true,⟨(some 5),.alloc [(.s []),(.i .i64 0),(.i .i64 0),(.s []),.nilsl] false,none⟩,
om 4 17,ot 5 19 5]) (
.seq ( .draws [([],
om 21 3),([],⟨(some 22),.nck (.t 21),none⟩),
([],oa 23 22 1),([],ol 24 23 1 false),([],oa 25 5 0),([3],ol 26 25 1 false),([],⟨(some 27),.lk (.one .str) (.t 24) (.t 26) (.i .i64 0) true,none⟩),
([],
om 20 27),([],oe 28 20 0),([],oe 29 20 1),([],
om 6 28),([],
om 7 29)]) (
.seq ( .region [
om 30 7,⟨(some 31),.un .not (.t 30),none⟩]) ( .cond (.t 31) ( .draws [([],
om 32 3),([],⟨(some 33),.nck (.t 32),none⟩),
([],oa 34 33 1),([],ol 35 34 1 false),([],oa 36 5 0),([3],ol 37 36 1 false),([],
om 38 4),([],⟨none,.mu (.one .str) (.t 35) (.t 37) (.t 38),none⟩)]) ( .skip)))))) ( .region [
 ob 39 .add (.t 15) (.c (.i .i64 1)),
om 15 39])))
theorem HM:kV (iJ (.loop lM))=1099511595248:=nr rfl
def Vw:aE:=⟨41,
.seq ( .region [
 ⟨(some 2),.mv (.c .nilptr),none⟩]) (
.seq ( .region [
om 8 0,⟨(some 9),.mkmap true,none⟩,
⟨(some 10),.mkmap true,none⟩,
⟨(some 11),.build [.nilsl,.nilmp,.nilmp] [(0,1,(.t 8)),(1,1,(.t 9)),(2,1,(.t 10))],none⟩,
⟨(some 12),.box (.t 11) true,none⟩,
om 3 12]) (
.seq (
.seq ( .region [
om 13 0,on 14 13,⟨(some 15),.mv (.c (.i .i64 0)),none⟩]) ( .block 0 ( .loop lM))) (
.seq ( .region [
om 40 3,
om 2 40]) ( .ret)))),[.tmp 2],true,none⟩
theorem k96:aC Tryz.prog 96 Vw:=codeOk (hs:= [9,10,12]) Tryz.func96 (by kernel_rfl)
def UW:aE:=⟨23,
.seq ( .region [
 ⟨(some 7),.box (.t 3) false,none⟩,
⟨(some 8),.mv (.c (.i .i64 0)),none⟩,
⟨(some 9),.mv (.c (.i .i64 0)),none⟩]) (
.seq (
.seq ( .region [
 ol 11 7 4 true,oc 12 55 [(.t 11)],
om 10 12]) (
.seq ( .region [
om 13 10,
ob 14 .neq (.t 13) (.c (.i .i64 0))]) ( .cond (.t 14) (
.seq ( .region [
om 15 10,⟨(some 8),.mv (.c (.i .i64 0)),none⟩,
om 9 15]) ( .ret)) ( .skip)))) (
.seq ( .region [
om 16 0,
om 17 1,
om 18 2,ol 19 7 4 true,oc 20 142 [(.t 16),(.t 17),(.t 18),(.t 19)],oe 21 20 0,oe 22 20 1,
om 8 21,
om 9 22]) ( .ret))),[.tmp 8,.tmp 9],true,none⟩
theorem k97:aC Tryz.prog 97 UW:=codeOk (hs:= []) Tryz.func97 (by kernel_rfl)
def B9:aN:=
.seq ( .region [
 ob 12 .lss (.t 11) (.t 10)]) (
.seq ( .cond (.t 12) ( .skip) ( .exit 0)) (
.seq ( .block 1 (
.seq ( .region [
om 13 11,
om 3 13]) ( .draws [([],oa 14 1 3),([],ol 15 14 1 false),([],
om 16 3),([],oa 17 1 3),([1],ol 18 17 1 false),([],
om 19 3),([],oi 20 18 19 4),([1],ol 21 20 4 true),([1],oc 22 98 [(.t 21)]),([],oi 23 15 16 4),([],ot 23 22 4)]))) ( .region [
 ob 24 .add (.t 11) (.c (.i .i64 1)),
om 11 24])))
def Sa:aE:=⟨26,
.seq ( .region [
 ⟨(some 1),.box (.t 0) false,none⟩,
⟨(some 2),.alloc [(.i .i64 0),(.i .i64 0),(.s []),.nilsl] false,none⟩]) (
.seq ( .region [
 oa 4 1 3,ol 5 4 1 false,oc 6 143 [(.t 5)],oa 7 1 3,ot 7 6 1]) (
.seq (
.seq ( .region [
 oa 8 1 3,ol 9 8 1 false,on 10 9,⟨(some 11),.mv (.c (.i .i64 0)),none⟩]) ( .block 0 ( .loop B9))) (
.seq ( .region [
 ol 25 1 4 true,ot 2 25 4]) ( .ret)))),[.cell 2 4 true],false,none⟩
theorem k98:aC Tryz.prog 98 Sa:=codeOk (hs:= []) Tryz.func98 (by kernel_rfl)
def UX:aE:=⟨46,
.seq ( .region [
 ⟨(some 3),.box (.t 1) false,none⟩,
⟨(some 4),.alloc [(.i .i64 0),(.i .i64 0),(.s []),.nilsl] false,none⟩]) (
.seq (
.seq ( .draws [([],
om 10 0),([],⟨(some 11),.nck (.t 10),none⟩),
([],oa 12 11 1),([],ol 13 12 1 false),([3],ol 14 3 1 false),([],⟨(some 15),.lk (.one .str) (.t 13) (.t 14) (.agg [(.i .i64 0),(.i .i64 0),(.s []),.nilsl]) true,none⟩),
([],
om 9 15),([],oe 16 9 0),([],oe 17 9 1),([3,4,5],⟨(some 5),.alloc [(.i .i64 0),(.i .i64 0),(.s []),.nilsl] false,none⟩),
([],ot 5 16 4),([],
om 6 17)]) (
.seq ( .region [
om 18 6]) ( .cond (.t 18) (
.seq ( .region [
 ol 19 5 4 true,ot 4 19 4]) ( .ret)) ( .skip)))) (
.seq ( .region [
om 20 0,⟨(some 21),.nck (.t 20),none⟩,oa 22 21 0,ol 23 22 1 false,⟨(some 24),.mkfn 145 [] [(.t 3)],none⟩,oc 25 144 [(.t 23),(.t 24)],
om 7 25]) (
.seq (
.seq ( .region [
om 26 7,
ob 27 .lss (.t 26) (.c (.i .i64 0))]) ( .cond (.t 27) (
.seq ( .region [
 ⟨(some 28),.build [(.i .i64 0),(.i .i64 0),(.s []),.nilsl] [(0,1,(.c (.i .i64 5)))],none⟩,ot 4 28 4]) ( .ret)) ( .skip))) (
.seq ( .region [
om 29 0,
om 30 0,⟨(some 31),.nck (.t 30),none⟩,oa 32 31 0,ol 33 32 1 false,
om 34 7,oi 35 33 34 5,oa 36 35 1,ol 37 36 4 true,oc 38 54 [(.t 29),(.c (.i .i64 0)),(.t 37)],⟨(some 8),.alloc [(.i .i64 0),(.i .i64 0),(.s []),.nilsl] false,none⟩,ot 8 38 4]) (
.seq ( .draws [([],
om 39 0),([],⟨(some 40),.nck (.t 39),none⟩),
([],oa 41 40 1),([],ol 42 41 1 false),([3],ol 43 3 1 false),([3,4],ol 44 8 4 true),([],⟨none,.mu (.one .str) (.t 42) (.t 43) (.t 44),none⟩)]) (
.seq ( .region [
 ol 45 8 4 true,ot 4 45 4]) ( .ret))))))),[.cell 4 4 true],true,none⟩
theorem k99:aC Tryz.prog 99 UX:=codeOk (hs:= []) Tryz.func99 (by kernel_rfl)
def iF:aE:=⟨86,
.seq ( .region [
 ⟨(some 3),.box (.t 1) false,none⟩,
⟨(some 4),.alloc [(.i .i64 0),(.i .i64 0),(.s []),.nilsl] false,none⟩]) (
.seq (
.seq ( .region [
 oa 6 3 3,ol 7 6 1 false,oc 8 146 [(.t 7),(.c (.fn 147 [] []))],⟨(some 9),.un .not (.t 8),none⟩]) ( .cond (.t 9) (
.seq ( .draws [([],
om 10 0),([],⟨(some 11),.nck (.t 10),none⟩),
([],oa 12 11 2),([],ol 13 12 1 false),([3],ol 14 3 4 true),([],oc 15 91 [(.t 13),(.c (.i .i64 0)),(.t 14)]),([3,4,5],⟨(some 5),.alloc [(.i .i64 0),(.i .i64 0),.nilsl] false,none⟩),
([],ot 5 15 3)]) (
.seq ( .region [
 ol 16 3 4 true,oc 17 149 [(.t 16)],oc 18 92 [(.t 5),(.c .nilsl)],oc 19 148 [(.t 17),(.t 18)],ot 4 19 4]) ( .ret))) ( .skip))) (
.seq (
.seq ( .region [
 oa 20 3 0,ol 21 20 1 false]) ( .block 0 (
.seq ( .region [
 ob 23 .eql (.t 21) (.c (.i .i64 19)),
om 22 23]) ( .cond (.t 22) (
.seq ( .region [
 oa 24 3 3,ol 25 24 1 false,⟨(some 26),.ia (.t 25) (.c (.i .i64 0)) 4,none⟩,oa 27 26 0,ol 28 27 1 false,
ob 29 .eql (.t 28) (.c (.i .i64 19))]) ( .cond (.t 29) (
.seq ( .region [
 oa 30 3 3,ol 31 30 1 false,⟨(some 32),.ia (.t 31) (.c (.i .i64 0)) 4,none⟩,oa 33 32 3,ol 34 33 1 false,⟨(some 35),.ia (.t 34) (.c (.i .i64 0)) 4,none⟩,ol 36 35 4 true,ot 4 36 4]) ( .ret)) ( .skip))) (
.seq (
.seq ( .region [
 ob 38 .eql (.t 21) (.c (.i .i64 20)),
om 37 38]) ( .cond (.t 37) ( .skip) ( .region [
 ob 39 .eql (.t 21) (.c (.i .i64 21)),
om 37 39]))) ( .cond (.t 37) (
.seq ( .region [
 ol 40 3 4 true,oc 41 150 [(.t 40)],ot 4 41 4]) ( .ret)) (
.seq ( .region [
 ob 43 .eql (.t 21) (.c (.i .i64 22)),
om 42 43]) ( .cond (.t 42) (
.seq ( .region [
om 44 0,ol 45 3 4 true,oc 46 151 [(.t 44),(.t 45)],ot 4 46 4]) ( .ret)) (
.seq ( .region [
 ob 48 .eql (.t 21) (.c (.i .i64 14)),
om 47 48]) ( .cond (.t 47) (
.seq (
.seq ( .region [
 oa 49 3 3,ol 50 49 1 false,⟨(some 51),.ia (.t 50) (.c (.i .i64 0)) 4,none⟩,oa 52 51 0,ol 53 52 1 false,
ob 54 .eql (.t 53) (.c (.i .i64 4))]) ( .cond (.t 54) (
.seq ( .region [
 oa 55 3 3,ol 56 55 1 false,⟨(some 57),.ia (.t 56) (.c (.i .i64 1)) 4,none⟩,ol 58 57 4 true,ot 4 58 4]) ( .ret)) ( .skip))) (
.seq ( .region [
 oa 59 3 3,ol 60 59 1 false,⟨(some 61),.ia (.t 60) (.c (.i .i64 0)) 4,none⟩,oa 62 61 0,ol 63 62 1 false,
ob 64 .eql (.t 63) (.c (.i .i64 5))]) ( .cond (.t 64) (
.seq ( .region [
 oa 65 3 3,ol 66 65 1 false,⟨(some 67),.ia (.t 66) (.c (.i .i64 2)) 4,none⟩,ol 68 67 4 true,ot 4 68 4]) ( .ret)) ( .skip)))) (
.seq ( .region [
 ob 70 .eql (.t 21) (.c (.i .i64 8)),
om 69 70]) ( .cond (.t 69) (
.seq ( .region [
 ol 71 3 4 true,oc 72 152 [(.t 71),(.c (.fn 153 [] [])),(.c (.b true))],ot 4 72 4]) ( .ret)) (
.seq ( .region [
 ob 74 .eql (.t 21) (.c (.i .i64 9)),
om 73 74]) ( .cond (.t 73) (
.seq ( .region [
 ol 75 3 4 true,oc 76 152 [(.t 75),(.c (.fn 153 [] [])),(.c (.b false))],ot 4 76 4]) ( .ret)) (
.seq ( .region [
 ob 78 .eql (.t 21) (.c (.i .i64 10)),
om 77 78]) ( .cond (.t 77) (
.seq ( .region [
 ol 79 3 4 true,oc 80 152 [(.t 79),(.c (.fn 154 [] [])),(.c (.b true))],ot 4 80 4]) ( .ret)) (
.seq ( .region [
 ob 82 .eql (.t 21) (.c (.i .i64 11)),
om 81 82]) ( .cond (.t 81) (
.seq ( .region [
 ol 83 3 4 true,oc 84 152 [(.t 83),(.c (.fn 154 [] [])),(.c (.b false))],ot 4 84 4]) ( .ret)) ( .skip))))))))))))))))))) (
.seq ( .region [
 ol 85 3 4 true,ot 4 85 4]) ( .ret)))),[.cell 4 4 true],true,none⟩
theorem aao:aC Tryz.prog 100 iF:=codeOk (hs:= []) Tryz.func100 (by kernel_rfl)
def gW:aN:=
.seq ( .region [
 ob 26 .lss (.t 25) (.t 24)]) (
.seq ( .cond (.t 26) ( .skip) ( .exit 0)) (
.seq ( .block 1 (
.seq ( .region [
 oi 27 23 25 4,ol 28 27 4 true,⟨(some 8),.alloc [(.i .i64 0),(.i .i64 0),(.s []),.nilsl] false,none⟩,ot 8 28 4]) (
.seq ( .region [
 ol 29 8 4 true,
om 30 1,
ob 31 .add (.t 30) (.c (.i .i64 1)),
om 32 2,oc 33 101 [(.t 29),(.t 31),(.t 32)],⟨(some 34),.un .not (.t 33),none⟩]) ( .cond (.t 34) (
.seq ( .region [
 ⟨(some 6),.mv (.c (.b false)),none⟩]) ( .ret)) ( .skip))))) ( .region [
 ob 35 .add (.t 25) (.c (.i .i64 1)),
om 25 35])))
def zW:aE:=⟨36,
.seq ( .region [
 ⟨(some 3),.box (.t 0) false,none⟩,
⟨(some 6),.mv (.c (.b false)),none⟩]) (
.seq ( .region [
om 9 2,⟨(some 10),.nck (.t 9),none⟩,ol 11 10 1 false,
ob 12 .add (.t 11) (.c (.i .i64 1)),⟨(some 13),.nck (.t 9),none⟩,ot 13 12 1]) (
.seq (
.seq ( .region [
om 14 2,⟨(some 15),.nck (.t 14),none⟩,ol 16 15 1 false,
ob 17 .gtr (.t 16) (.c (.i .i64 200)),
om 18 17,⟨(some 19),.mv (.t 1),(some (18,false))⟩,
⟨(some 20),.bin .gtr (.t 19) (.c (.i .i64 16)),(some (18,false))⟩,
⟨(some 21),.pick (.t 18) (.c (.b true)) (.t 20),none⟩]) ( .cond (.t 21) (
.seq ( .region [
 ⟨(some 6),.mv (.c (.b false)),none⟩]) ( .ret)) ( .skip))) (
.seq (
.seq ( .region [
 oa 22 3 3,ol 23 22 1 false,on 24 23,⟨(some 25),.mv (.c (.i .i64 0)),none⟩]) ( .block 0 ( .loop gW))) (
.seq ( .region [
 ⟨(some 6),.mv (.c (.b true)),none⟩]) ( .ret))))),[.tmp 6],true,none⟩
theorem aap:aC Tryz.prog 101 zW:=codeOk (hs:= []) Tryz.func101 (by kernel_rfl)
def iZ:aN:=
.seq ( .region [
 ob 62 .lss (.t 61) (.t 60)]) (
.seq ( .cond (.t 62) ( .skip) ( .exit 1)) (
.seq ( .block 2 (
.seq ( .region [
 oi 63 59 61 4,ol 64 63 4 true,⟨(some 4),.alloc [(.i .i64 0),(.i .i64 0),(.s []),.nilsl] false,none⟩,ot 4 64 4]) (
.seq ( .region [
 ol 65 4 4 true,oc 66 102 [(.t 65)],⟨(some 67),.un .not (.t 66),none⟩]) ( .cond (.t 67) (
.seq ( .region [
 ⟨(some 2),.mv (.c (.b false)),none⟩]) ( .ret)) ( .skip))))) ( .region [
 ob 68 .add (.t 61) (.c (.i .i64 1)),
om 61 68])))
def jW:aE:=⟨69,
.seq ( .region [
 ⟨(some 1),.box (.t 0) false,none⟩,
⟨(some 2),.mv (.c (.b false)),none⟩]) (
.seq (
.seq ( .region [
 oa 5 1 0,ol 6 5 1 false,
ob 7 .lss (.t 6) (.c (.i .i64 1)),
om 8 7,⟨(some 9),.fa (.t 1) 0,(some (8,false))⟩,
⟨(some 10),.ld (.t 9) 1 false,(some (8,false))⟩,
⟨(some 11),.bin .gtr (.t 10) (.c (.i .i64 22)),(some (8,false))⟩,
⟨(some 12),.pick (.t 8) (.c (.b true)) (.t 11),none⟩,
om 13 12,⟨(some 14),.fa (.t 1) 0,(some (13,false))⟩,
⟨(some 15),.ld (.t 14) 1 false,(some (13,false))⟩,
⟨(some 16),.fa (.t 1) 3,(some (13,false))⟩,
⟨(some 17),.ld (.t 16) 1 false,(some (13,false))⟩,
⟨(some 18),.lenV (.t 17),(some (13,false))⟩,
⟨(some 19),.callf 155 [(.t 15),(.t 18)],(some (13,false))⟩,
⟨(some 20),.un .not (.t 19),(some (13,false))⟩,
⟨(some 21),.pick (.t 13) (.c (.b true)) (.t 20),none⟩]) ( .cond (.t 21) (
.seq ( .region [
 ⟨(some 2),.mv (.c (.b false)),none⟩]) ( .ret)) ( .skip))) (
.seq (
.seq ( .region [
 oa 22 1 0,ol 23 22 1 false]) ( .block 0 (
.seq (
.seq ( .region [
 ob 28 .eql (.t 23) (.c (.i .i64 1)),
om 27 28]) ( .cond (.t 27) ( .skip) ( .region [
 ob 29 .eql (.t 23) (.c (.i .i64 2)),
om 27 29]))) ( .cond (.t 27) (
.seq ( .region [
 oa 30 1 1,ol 31 30 1 false,
ob 32 .lss (.t 31) (.c (.i .i64 0)),
om 33 32,⟨(some 34),.fa (.t 1) 1,(some (33,false))⟩,
⟨(some 35),.ld (.t 34) 1 false,(some (33,false))⟩,
⟨(some 36),.bin .gtr (.t 35) (.c (.i .i64 1099511627776)),(some (33,false))⟩,
⟨(some 37),.pick (.t 33) (.c (.b true)) (.t 36),none⟩]) ( .cond (.t 37) (
.seq ( .region [
 ⟨(some 2),.mv (.c (.b false)),none⟩]) ( .ret)) ( .skip))) (
.seq ( .region [
 ob 39 .eql (.t 23) (.c (.i .i64 3)),
om 38 39]) ( .cond (.t 38) (
.seq ( .region [
 oa 40 1 1,ol 41 40 1 false,
ob 42 .lss (.t 41) (.c (.i .i64 0)),
om 43 42,⟨(some 44),.fa (.t 1) 1,(some (43,false))⟩,
⟨(some 45),.ld (.t 44) 1 false,(some (43,false))⟩,
⟨(some 46),.bin .gtr (.t 45) (.c (.i .i64 1439)),(some (43,false))⟩,
⟨(some 47),.pick (.t 43) (.c (.b true)) (.t 46),none⟩]) ( .cond (.t 47) (
.seq ( .region [
 ⟨(some 2),.mv (.c (.b false)),none⟩]) ( .ret)) ( .skip))) (
.seq ( .region [
 oa 24 1 1,ol 25 24 1 false,
ob 26 .neq (.t 25) (.c (.i .i64 0))]) ( .cond (.t 26) (
.seq ( .region [
 ⟨(some 2),.mv (.c (.b false)),none⟩]) ( .ret)) ( .skip))))))))) (
.seq (
.seq ( .region [
 oa 48 1 0,ol 49 48 1 false,
ob 50 .eql (.t 49) (.c (.i .i64 6))]) ( .cond (.t 50) (
.seq ( .region [
 oa 51 1 2,ol 52 51 1 false,oc 53 156 [(.t 52)],⟨(some 54),.un .not (.t 53),none⟩]) ( .cond (.t 54) (
.seq ( .region [
 ⟨(some 2),.mv (.c (.b false)),none⟩]) ( .ret)) ( .skip))) (
.seq ( .region [
 oa 55 1 2,ol 56 55 1 false,
ob 57 .neq (.t 56) (.c (.s []))]) ( .cond (.t 57) (
.seq ( .region [
 ⟨(some 2),.mv (.c (.b false)),none⟩]) ( .ret)) ( .skip))))) (
.seq (
.seq ( .region [
 oa 58 1 3,ol 59 58 1 false,on 60 59,⟨(some 61),.mv (.c (.i .i64 0)),none⟩]) ( .block 1 ( .loop iZ))) (
.seq ( .region [
 ⟨(some 2),.mv (.c (.b true)),none⟩]) ( .ret)))))),[.tmp 2],false,none⟩
theorem aaq:aC Tryz.prog 102 jW:=codeOk (hs:= []) Tryz.func102 (by kernel_rfl)
def ed:aN:=
.seq (
.seq ( .region [
om 18 11,oa 19 7 3,ol 20 19 1 false,on 21 20,
ob 22 .lss (.t 18) (.t 21)]) ( .cond (.t 22) ( .skip) ( .exit 0))) (
.seq ( .block 1 (
.seq ( .draws [([],ol 26 4 2 true),([],
om 27 1),([],
om 28 2),([],oa 29 7 3),([0],ol 30 29 1 false),([],
om 31 11),([],oi 32 30 31 4),([0],ol 33 32 4 true),([],oc 34 103 [(.t 26),(.t 27),(.t 28),(.t 33)]),([],
om 25 34),([],oe 35 25 0),([],oe 36 25 1),([],
om 12 35),([],
om 13 36)]) (
.seq (
.seq ( .region [
om 37 13,
ob 38 .neq (.t 37) (.c (.i .i64 0))]) ( .cond (.t 38) (
.seq ( .region [
om 39 13,⟨(some 8),.mv (.c (.i .i64 0)),none⟩,
om 9 39]) ( .ret)) ( .skip))) ( .region [
om 40 10,
om 41 12,⟨(some 42),.bsl [(.i .i64 0)] 1 [(0,(.t 41))],none⟩,
⟨(some 43),.app 1 8 (.t 40) (.t 42) false false,none⟩,
om 10 43])))) ( .region [
om 23 11,
ob 24 .add (.t 23) (.c (.i .i64 1)),
om 11 24]))
theorem lZ:kV (iJ (.loop ed))=17592185798400:=nr rfl
def wc:aE:=⟨80,
.seq ( .region [
 ⟨(some 4),.box (.t 0) false,none⟩,
⟨(some 7),.box (.t 3) false,none⟩,
⟨(some 8),.mv (.c (.i .i64 0)),none⟩,
⟨(some 9),.mv (.c (.i .i64 0)),none⟩]) (
.seq ( .region [
 ⟨(some 10),.mv (.c .nilsl),none⟩]) (
.seq (
.seq ( .region [
 ⟨(some 11),.mv (.c (.i .i64 0)),none⟩]) ( .block 0 ( .loop ed))) (
.seq (
.seq ( .region [
 oa 44 7 0,ol 45 44 1 false,
ob 46 .eql (.t 45) (.c (.i .i64 6))]) ( .cond (.t 46) (
.seq (
.seq ( .region [
om 48 2,oa 49 7 2,ol 50 49 1 false,oc 51 85 [(.t 48),(.t 50)],
om 47 51,oe 52 47 0,oe 53 47 1,
om 14 52,
om 15 53]) (
.seq ( .region [
om 54 15,
ob 55 .eql (.t 54) (.c (.i .i64 0))]) ( .cond (.t 55) (
.seq ( .region [
om 56 14,
om 8 56,⟨(some 9),.mv (.c (.i .i64 0)),none⟩]) ( .ret)) ( .skip)))) (
.seq ( .region [
om 57 1,oa 58 7 2,ol 59 58 1 false,oc 60 105 [(.t 57),(.t 59)],
om 16 60]) (
.seq (
.seq ( .region [
om 61 16,
ob 62 .lss (.t 61) (.c (.i .i64 0))]) ( .cond (.t 62) (
.seq ( .region [
 ⟨(some 8),.mv (.c (.i .i64 0)),none⟩,
⟨(some 9),.mv (.c (.i .i64 6)),none⟩]) ( .ret)) ( .skip))) (
.seq ( .draws [([],oa 63 4 0),([],ol 64 63 1 false),([],
om 65 16),([],oi 66 64 65 1),([],ol 67 66 1 false),([],oa 68 4 1),([1,4],ol 69 68 1 false),([],
om 70 16),([],oi 71 69 70 1),([1,4],ol 72 71 1 false),([],
om 8 67),([],
om 9 72)]) ( .ret))))) ( .skip))) (
.seq ( .region [
 oa 73 7 0,ol 74 73 1 false,
om 75 10,oc 76 157 [(.t 74),(.t 75)],
om 17 76]) (
.seq (
.seq ( .region [
om 77 17,
ob 78 .eql (.t 77) (.c (.i .i64 0))]) ( .cond (.t 78) (
.seq ( .region [
 ⟨(some 8),.mv (.c (.i .i64 0)),none⟩,
⟨(some 9),.mv (.c (.i .i64 9)),none⟩]) ( .ret)) ( .skip))) (
.seq ( .region [
om 79 17,
om 8 79,⟨(some 9),.mv (.c (.i .i64 0)),none⟩]) ( .ret))))))),[.tmp 8,.tmp 9],false,none⟩
theorem aar:aC Tryz.prog 103 wc:=codeOk (hs:= []) Tryz.func103 (by kernel_rfl)
def eZ:aN:=
.seq (
.seq ( .region [
om 7 4,
om 8 0,on 9 8,
ob 10 .lss (.t 7) (.t 9)]) ( .cond (.t 10) ( .skip) ( .exit 0))) (
.seq ( .block 1 (
.seq ( .region [
om 13 0,
om 14 4,oi 15 13 14 5,oa 16 15 1,ol 17 16 4 true,oc 18 59 [(.t 17)],⟨(some 5),.mv (.c (.i .i64 0)),none⟩,
om 6 18]) (
.seq (
.seq ( .region [
om 19 6,
ob 20 .eql (.t 19) (.c (.i .i64 0))]) ( .cond (.t 20) ( .draws [([],ol 22 3 2 true),([],
om 23 0),([],
om 24 4),([],⟨(some 25),.slV 5 (.t 23) none (some (.t 24)) none,none⟩),
([],
om 26 0),([],
om 27 4),([],oi 28 26 27 5),([],oa 29 28 1),([0],ol 30 29 4 true),([],oc 31 103 [(.t 22),(.t 25),(.c (.i .i64 0)),(.t 30)]),([],
om 21 31),([],oe 32 21 0),([],oe 33 21 1),([],
om 5 32),([],
om 6 33)]) ( .skip))) ( .draws [([],oa 34 3 0),([],ol 35 34 1 false),([],
om 36 5),([1],⟨(some 37),.bsl [(.i .i64 0)] 1 [(0,(.t 36))],none⟩),
([],⟨(some 38),.app 1 8 (.t 35) (.t 37) false false,none⟩),
([],oa 39 3 1),([1,3,4],ol 40 39 1 false),([],
om 41 6),([1,3,4,6],⟨(some 42),.bsl [(.i .i64 0)] 1 [(0,(.t 41))],none⟩),
([],⟨(some 43),.app 1 8 (.t 40) (.t 42) false false,none⟩),
([],oa 44 3 0),([],ot 44 38 1),([],oa 45 3 1),([],ot 45 43 1)])))) ( .region [
om 11 4,
ob 12 .add (.t 11) (.c (.i .i64 1)),
om 4 12]))
theorem Fl:kV (iJ (.loop eZ))=70368744177648:=nr rfl
def HN:aE:=⟨47,
.seq ( .region [
 ⟨(some 2),.alloc [.nilsl,.nilsl] false,none⟩]) (
.seq ( .region [
 ⟨(some 3),.alloc [.nilsl,.nilsl] false,none⟩]) (
.seq (
.seq ( .region [
 ⟨(some 4),.mv (.c (.i .i64 0)),none⟩]) ( .block 0 ( .loop eZ))) (
.seq ( .region [
 ol 46 3 2 true,ot 2 46 2]) ( .ret)))),[.cell 2 2 true],false,none⟩
theorem aas:aC Tryz.prog 104 HN:=codeOk (hs:= []) Tryz.func104 (by kernel_rfl)
def gX:aN:=
.seq (
.seq ( .region [
om 6 5,
om 7 0,on 8 7,
ob 9 .lss (.t 6) (.t 8)]) ( .cond (.t 9) ( .skip) ( .exit 0))) (
.seq ( .block 1 (
.seq ( .region [
om 12 0,
om 13 5,oi 14 12 13 5,oa 15 14 0,ol 16 15 1 false,
om 17 1,
ob 18 .eql (.t 16) (.t 17)]) ( .cond (.t 18) (
.seq ( .region [
om 19 5,
om 4 19]) ( .ret)) ( .skip)))) ( .region [
om 10 5,
ob 11 .add (.t 10) (.c (.i .i64 1)),
om 5 11]))
def Fo:aE:=⟨20,
.seq ( .region [
 ⟨(some 4),.mv (.c (.i .i64 0)),none⟩]) (
.seq (
.seq ( .region [
 ⟨(some 5),.mv (.c (.i .i64 0)),none⟩]) ( .block 0 ( .loop gX))) (
.seq ( .region [
 ⟨(some 4),.mv (.c (.i .i64 (-1))),none⟩]) ( .ret))),[.tmp 4],false,none⟩
theorem aat:aC Tryz.prog 105 Fo:=codeOk (hs:= []) Tryz.func105 (by kernel_rfl)
def uf:aE:=⟨30,
.seq ( .region [
 ⟨(some 4),.alloc [(.i .i64 0),(.i .i64 0),(.s []),.nilsl] false,none⟩]) (
.seq ( .region [
 ⟨(some 5),.mv (.c (.i .i64 1)),none⟩]) (
.seq (
.seq ( .region [
om 6 0]) ( .block 0 (
.seq ( .region [
 ob 8 .eql (.t 6) (.c (.i .i64 2)),
om 7 8]) ( .cond (.t 7) ( .region [
 ⟨(some 5),.mv (.c (.i .i64 2)),none⟩]) (
.seq ( .region [
 ob 10 .eql (.t 6) (.c (.i .i64 3)),
om 9 10]) ( .cond (.t 9) (
.seq ( .region [
om 11 1,⟨(some 12),.build [(.i .i64 0),(.i .i64 0),(.s []),.nilsl] [(0,1,(.c (.i .i64 3))),(1,1,(.t 11))],none⟩,ot 4 12 4]) ( .ret)) (
.seq ( .region [
 ob 14 .eql (.t 6) (.c (.i .i64 4)),
om 13 14]) ( .cond (.t 13) (
.seq (
.seq ( .region [
om 15 1,
ob 16 .eql (.t 15) (.c (.i .i64 1))]) ( .cond (.t 16) (
.seq ( .region [
 ⟨(some 17),.build [(.i .i64 0),(.i .i64 0),(.s []),.nilsl] [(0,1,(.c (.i .i64 4)))],none⟩,ot 4 17 4]) ( .ret)) ( .skip))) (
.seq ( .region [
 ⟨(some 18),.build [(.i .i64 0),(.i .i64 0),(.s []),.nilsl] [(0,1,(.c (.i .i64 5)))],none⟩,ot 4 18 4]) ( .ret))) ( .skip))))))))) (
.seq (
.seq ( .region [
om 19 1,
ob 20 .lss (.t 19) (.c (.i .i64 0))]) ( .cond (.t 20) (
.seq ( .region [
om 21 5,
om 22 1,⟨(some 23),.un .neg (.t 22),none⟩,
⟨(some 24),.build [(.i .i64 0),(.i .i64 0),(.s []),.nilsl] [(0,1,(.t 21)),(1,1,(.t 23))],none⟩,
⟨(some 25),.bsl [(.i .i64 0),(.i .i64 0),(.s []),.nilsl] 1 [(0,(.t 24))],none⟩,
⟨(some 26),.build [(.i .i64 0),(.i .i64 0),(.s []),.nilsl] [(0,1,(.c (.i .i64 7))),(3,1,(.t 25))],none⟩,ot 4 26 4]) ( .ret)) ( .skip))) (
.seq ( .region [
om 27 5,
om 28 1,⟨(some 29),.build [(.i .i64 0),(.i .i64 0),(.s []),.nilsl] [(0,1,(.t 27)),(1,1,(.t 28))],none⟩,ot 4 29 4]) ( .ret))))),[.cell 4 4 true],false,none⟩
theorem aau:aC Tryz.prog 106 uf:=codeOk (hs:= []) Tryz.func106 (by kernel_rfl)
def tg:aE:=⟨38,
.seq ( .region [
 ⟨(some 1),.box (.t 0) false,none⟩,
⟨(some 2),.mv (.c (.i .i64 0)),none⟩,
⟨(some 3),.mv (.c (.b false)),none⟩]) (
.seq (
.seq ( .region [
 oa 4 1 0,ol 5 4 1 false]) ( .block 0 (
.seq (
.seq ( .region [
 ob 7 .eql (.t 5) (.c (.i .i64 1)),
om 6 7]) ( .cond (.t 6) ( .skip) (
.seq ( .region [
 ob 8 .eql (.t 5) (.c (.i .i64 2)),
om 6 8]) ( .cond (.t 6) ( .skip) ( .region [
 ob 9 .eql (.t 5) (.c (.i .i64 3)),
om 6 9]))))) ( .cond (.t 6) (
.seq ( .region [
 oa 10 1 1,ol 11 10 1 false,
om 2 11,⟨(some 3),.mv (.c (.b true)),none⟩]) ( .ret)) (
.seq ( .region [
 ob 13 .eql (.t 5) (.c (.i .i64 4)),
om 12 13]) ( .cond (.t 12) (
.seq ( .region [
 ⟨(some 2),.mv (.c (.i .i64 1)),none⟩,
⟨(some 3),.mv (.c (.b true)),none⟩]) ( .ret)) (
.seq ( .region [
 ob 15 .eql (.t 5) (.c (.i .i64 5)),
om 14 15]) ( .cond (.t 14) (
.seq ( .region [
 ⟨(some 2),.mv (.c (.i .i64 0)),none⟩,
⟨(some 3),.mv (.c (.b true)),none⟩]) ( .ret)) (
.seq ( .region [
 ob 17 .eql (.t 5) (.c (.i .i64 7)),
om 16 17]) ( .cond (.t 16) (
.seq ( .region [
 oa 18 1 3,ol 19 18 1 false,⟨(some 20),.ia (.t 19) (.c (.i .i64 0)) 4,none⟩,oa 21 20 0,ol 22 21 1 false,
ob 23 .eql (.t 22) (.c (.i .i64 1)),
om 24 23,⟨(some 25),.fa (.t 1) 3,(some (24,false))⟩,
⟨(some 26),.ld (.t 25) 1 false,(some (24,false))⟩,
⟨(some 27),.ia (.t 26) (.c (.i .i64 0)) 4,(some (24,false))⟩,
⟨(some 28),.fa (.t 27) 0,(some (24,false))⟩,
⟨(some 29),.ld (.t 28) 1 false,(some (24,false))⟩,
⟨(some 30),.bin .eql (.t 29) (.c (.i .i64 2)),(some (24,false))⟩,
⟨(some 31),.pick (.t 24) (.c (.b true)) (.t 30),none⟩]) ( .cond (.t 31) (
.seq ( .region [
 oa 32 1 3,ol 33 32 1 false,⟨(some 34),.ia (.t 33) (.c (.i .i64 0)) 4,none⟩,oa 35 34 1,ol 36 35 1 false,⟨(some 37),.un .neg (.t 36),none⟩,
om 2 37,⟨(some 3),.mv (.c (.b true)),none⟩]) ( .ret)) ( .skip))) ( .skip))))))))))) (
.seq ( .region [
 ⟨(some 2),.mv (.c (.i .i64 0)),none⟩,
⟨(some 3),.mv (.c (.b false)),none⟩]) ( .ret))),[.tmp 2,.tmp 3],false,none⟩
theorem aav:aC Tryz.prog 107 tg:=codeOk (hs:= []) Tryz.func107 (by kernel_rfl)
def fG:aN:=
.seq (
.seq ( .region [
om 69 8,
om 70 2,on 71 70,
ob 72 .lss (.t 69) (.t 71)]) ( .cond (.t 72) ( .skip) ( .exit 1))) (
.seq ( .block 2 (
.seq ( .region [
om 75 0,
ob 76 .eql (.t 75) (.c (.i .i64 12)),
om 77 2,
om 78 8,oi 79 77 78 1,ol 80 79 1 false,
om 81 7,
ob 82 .lss (.t 80) (.t 81),⟨(some 83),.eq false (.one .bool) (.t 76) (.t 82),none⟩]) ( .cond (.t 83) ( .region [
om 84 2,
om 85 8,oi 86 84 85 1,ol 87 86 1 false,
om 7 87]) ( .skip)))) ( .region [
om 73 8,
ob 74 .add (.t 73) (.c (.i .i64 1)),
om 8 74]))
def jh:aE:=⟨176,
.seq ( .region [
 ⟨(some 6),.mv (.c (.i .i64 0)),none⟩]) (
.seq (
.seq ( .region [
om 9 0]) ( .block 0 (
.seq (
.seq ( .region [
 ob 11 .eql (.t 9) (.c (.i .i64 1)),
om 10 11]) ( .cond (.t 10) ( .skip) (
.seq ( .region [
 ob 12 .eql (.t 9) (.c (.i .i64 2)),
om 10 12]) ( .cond (.t 10) ( .skip) ( .region [
 ob 13 .eql (.t 9) (.c (.i .i64 3)),
om 10 13]))))) ( .cond (.t 10) (
.seq ( .region [
om 14 1,
om 6 14]) ( .ret)) (
.seq ( .region [
 ob 16 .eql (.t 9) (.c (.i .i64 4)),
om 15 16]) ( .cond (.t 15) (
.seq ( .region [
 ⟨(some 6),.mv (.c (.i .i64 1)),none⟩]) ( .ret)) (
.seq ( .region [
 ob 18 .eql (.t 9) (.c (.i .i64 5)),
om 17 18]) ( .cond (.t 17) (
.seq ( .region [
 ⟨(some 6),.mv (.c (.i .i64 0)),none⟩]) ( .ret)) (
.seq ( .region [
 ob 20 .eql (.t 9) (.c (.i .i64 7)),
om 19 20]) ( .cond (.t 19) (
.seq ( .region [
om 21 2,⟨(some 22),.ia (.t 21) (.c (.i .i64 0)) 1,none⟩,ol 23 22 1 false,⟨(some 24),.un .neg (.t 23),none⟩,oc 25 158 [(.c (.i .i64 0)),(.t 24)],
om 6 25]) ( .ret)) (
.seq ( .region [
 ob 27 .eql (.t 9) (.c (.i .i64 8)),
om 26 27]) ( .cond (.t 26) (
.seq ( .draws [([],
om 28 2),([],⟨(some 29),.ia (.t 28) (.c (.i .i64 0)) 1,none⟩),
([],ol 30 29 1 false),([],
om 31 2),([],⟨(some 32),.ia (.t 31) (.c (.i .i64 1)) 1,none⟩),
([2],ol 33 32 1 false),([],oc 34 158 [(.t 30),(.t 33)]),([],
om 6 34)]) ( .ret)) (
.seq ( .region [
 ob 36 .eql (.t 9) (.c (.i .i64 9)),
om 35 36]) ( .cond (.t 35) (
.seq ( .draws [([],
om 37 2),([],⟨(some 38),.ia (.t 37) (.c (.i .i64 0)) 1,none⟩),
([],ol 39 38 1 false),([],
om 40 2),([],⟨(some 41),.ia (.t 40) (.c (.i .i64 1)) 1,none⟩),
([2],ol 42 41 1 false),([],⟨(some 43),.un .neg (.t 42),none⟩),
([],oc 44 158 [(.t 39),(.t 43)]),([],
om 6 44)]) ( .ret)) (
.seq ( .region [
 ob 46 .eql (.t 9) (.c (.i .i64 10)),
om 45 46]) ( .cond (.t 45) (
.seq ( .draws [([],
om 47 2),([],⟨(some 48),.ia (.t 47) (.c (.i .i64 0)) 1,none⟩),
([],ol 49 48 1 false),([],
om 50 2),([],⟨(some 51),.ia (.t 50) (.c (.i .i64 1)) 1,none⟩),
([2],ol 52 51 1 false),([],oc 53 159 [(.t 49),(.t 52)]),([],
om 6 53)]) ( .ret)) (
.seq ( .region [
 ob 55 .eql (.t 9) (.c (.i .i64 11)),
om 54 55]) ( .cond (.t 54) (
.seq ( .draws [([],
om 56 2),([],⟨(some 57),.ia (.t 56) (.c (.i .i64 0)) 1,none⟩),
([],ol 58 57 1 false),([],
om 59 2),([],⟨(some 60),.ia (.t 59) (.c (.i .i64 1)) 1,none⟩),
([2],ol 61 60 1 false),([],oc 62 160 [(.t 58),(.t 61)]),([],
om 6 62)]) ( .ret)) (
.seq (
.seq ( .region [
 ob 64 .eql (.t 9) (.c (.i .i64 12)),
om 63 64]) ( .cond (.t 63) ( .skip) ( .region [
 ob 65 .eql (.t 9) (.c (.i .i64 13)),
om 63 65]))) ( .cond (.t 63) (
.seq ( .region [
om 66 2,⟨(some 67),.ia (.t 66) (.c (.i .i64 0)) 1,none⟩,ol 68 67 1 false,
om 7 68]) (
.seq (
.seq ( .region [
 ⟨(some 8),.mv (.c (.i .i64 1)),none⟩]) ( .block 1 ( .loop fG))) (
.seq ( .region [
om 88 7,
om 6 88]) ( .ret)))) (
.seq ( .region [
 ob 90 .eql (.t 9) (.c (.i .i64 14)),
om 89 90]) ( .cond (.t 89) (
.seq (
.seq ( .region [
om 91 2,⟨(some 92),.ia (.t 91) (.c (.i .i64 0)) 1,none⟩,ol 93 92 1 false,
ob 94 .eql (.t 93) (.c (.i .i64 1))]) ( .cond (.t 94) (
.seq ( .region [
om 95 2,⟨(some 96),.ia (.t 95) (.c (.i .i64 1)) 1,none⟩,ol 97 96 1 false,
om 6 97]) ( .ret)) ( .skip))) (
.seq ( .region [
om 98 2,⟨(some 99),.ia (.t 98) (.c (.i .i64 2)) 1,none⟩,ol 100 99 1 false,
om 6 100]) ( .ret))) (
.seq ( .region [
 ob 102 .eql (.t 9) (.c (.i .i64 15)),
om 101 102]) ( .cond (.t 101) (
.seq ( .draws [([],
om 103 2),([],⟨(some 104),.ia (.t 103) (.c (.i .i64 0)) 1,none⟩),
([],ol 105 104 1 false),([],
om 106 2),([],⟨(some 107),.ia (.t 106) (.c (.i .i64 1)) 1,none⟩),
([2],ol 108 107 1 false),([],
om 109 2),([],⟨(some 110),.ia (.t 109) (.c (.i .i64 2)) 1,none⟩),
([2,5],ol 111 110 1 false),([],oc 112 162 [(.t 105),(.t 108),(.t 111)]),([],oc 113 161 [(.t 112)]),([],
om 6 113)]) ( .ret)) (
.seq ( .region [
 ob 115 .eql (.t 9) (.c (.i .i64 16)),
om 114 115]) ( .cond (.t 114) (
.seq ( .draws [([],
om 116 2),([],⟨(some 117),.ia (.t 116) (.c (.i .i64 0)) 1,none⟩),
([],ol 118 117 1 false),([],
om 119 2),([],⟨(some 120),.ia (.t 119) (.c (.i .i64 1)) 1,none⟩),
([2],ol 121 120 1 false),([],
ob 122 .lss (.t 118) (.t 121)),([],oc 123 161 [(.t 122)]),([],
om 6 123)]) ( .ret)) (
.seq ( .region [
 ob 125 .eql (.t 9) (.c (.i .i64 17)),
om 124 125]) ( .cond (.t 124) (
.seq ( .draws [([],
om 126 2),([],⟨(some 127),.ia (.t 126) (.c (.i .i64 0)) 1,none⟩),
([],ol 128 127 1 false),([],
om 129 2),([],⟨(some 130),.ia (.t 129) (.c (.i .i64 1)) 1,none⟩),
([2],ol 131 130 1 false),([],
ob 132 .leq (.t 128) (.t 131)),([],oc 133 161 [(.t 132)]),([],
om 6 133)]) ( .ret)) (
.seq ( .region [
 ob 135 .eql (.t 9) (.c (.i .i64 18)),
om 134 135]) ( .cond (.t 134) (
.seq ( .draws [([],
om 136 2),([],⟨(some 137),.ia (.t 136) (.c (.i .i64 0)) 1,none⟩),
([],ol 138 137 1 false),([],
om 139 2),([],⟨(some 140),.ia (.t 139) (.c (.i .i64 1)) 1,none⟩),
([2],ol 141 140 1 false),([],
ob 142 .eql (.t 138) (.t 141)),([],oc 143 161 [(.t 142)]),([],
om 6 143)]) ( .ret)) (
.seq ( .region [
 ob 145 .eql (.t 9) (.c (.i .i64 19)),
om 144 145]) ( .cond (.t 144) (
.seq ( .region [
om 146 2,⟨(some 147),.ia (.t 146) (.c (.i .i64 0)) 1,none⟩,ol 148 147 1 false,
ob 149 .sub (.c (.i .i64 1)) (.t 148),
om 6 149]) ( .ret)) (
.seq ( .region [
 ob 151 .eql (.t 9) (.c (.i .i64 20)),
om 150 151]) ( .cond (.t 150) (
.seq ( .draws [([],
om 152 2),([],⟨(some 153),.ia (.t 152) (.c (.i .i64 0)) 1,none⟩),
([],ol 154 153 1 false),([],
om 155 2),([],⟨(some 156),.ia (.t 155) (.c (.i .i64 1)) 1,none⟩),
([2],ol 157 156 1 false),([],⟨(some 158),.mm false [(.t 154),(.t 157)],none⟩),
([],
om 6 158)]) ( .ret)) (
.seq ( .region [
 ob 160 .eql (.t 9) (.c (.i .i64 21)),
om 159 160]) ( .cond (.t 159) (
.seq ( .draws [([],
om 161 2),([],⟨(some 162),.ia (.t 161) (.c (.i .i64 0)) 1,none⟩),
([],ol 163 162 1 false),([],
om 164 2),([],⟨(some 165),.ia (.t 164) (.c (.i .i64 1)) 1,none⟩),
([2],ol 166 165 1 false),([],⟨(some 167),.mm true [(.t 163),(.t 166)],none⟩),
([],
om 6 167)]) ( .ret)) ( .skip))))))))))))))))))))))))))))))))))))) (
.seq ( .draws [([],
om 168 2),([],⟨(some 169),.ia (.t 168) (.c (.i .i64 0)) 1,none⟩),
([],ol 170 169 1 false),([],
ob 171 .sub (.c (.i .i64 1)) (.t 170)),([],
om 172 2),([],⟨(some 173),.ia (.t 172) (.c (.i .i64 1)) 1,none⟩),
([2],ol 174 173 1 false),([],⟨(some 175),.mm true [(.t 171),(.t 174)],none⟩),
([],
om 6 175)]) ( .ret))),[.tmp 6],false,none⟩
theorem aaw:aC Tryz.prog 108 jh:=codeOk (hs:= []) Tryz.func108 (by kernel_rfl)
def eK:aE:=⟨190,
.seq ( .region [
 ⟨(some 1),.box (.t 0) false,none⟩,
⟨(some 2),.alloc [(.i .i64 0),(.i .i64 0),(.s []),.nilsl] false,none⟩]) (
.seq ( .region [
 oa 6 1 3,ol 7 6 1 false,
om 3 7]) (
.seq ( .region [
 ⟨(some 8),.build [(.i .i64 0),(.i .i64 0),(.s []),.nilsl] [(0,1,(.c (.i .i64 4)))],none⟩,
⟨(some 9),.build [(.i .i64 0),(.i .i64 0),(.s []),.nilsl] [(0,1,(.c (.i .i64 5)))],none⟩,
⟨(some 4),.alloc [(.i .i64 0),(.i .i64 0),(.s []),.nilsl] false,none⟩,
⟨(some 5),.alloc [(.i .i64 0),(.i .i64 0),(.s []),.nilsl] false,none⟩,ot 4 8 4,ot 5 9 4]) (
.seq (
.seq ( .region [
 oa 10 1 0,ol 11 10 1 false]) ( .block 0 (
.seq ( .region [
 ob 13 .eql (.t 11) (.c (.i .i64 19)),
om 12 13]) ( .cond (.t 12) (
.seq ( .region [
om 14 3,⟨(some 15),.ia (.t 14) (.c (.i .i64 0)) 4,none⟩,oa 16 15 0,ol 17 16 1 false,
ob 18 .eql (.t 17) (.c (.i .i64 19))]) ( .cond (.t 18) (
.seq ( .region [
om 19 3,⟨(some 20),.ia (.t 19) (.c (.i .i64 0)) 4,none⟩,oa 21 20 3,ol 22 21 1 false,⟨(some 23),.ia (.t 22) (.c (.i .i64 0)) 4,none⟩,ol 24 23 4 true,ot 2 24 4]) ( .ret)) ( .skip))) (
.seq ( .region [
 ob 26 .eql (.t 11) (.c (.i .i64 20)),
om 25 26]) ( .cond (.t 25) (
.seq (
.seq ( .region [
om 27 3,⟨(some 28),.ia (.t 27) (.c (.i .i64 0)) 4,none⟩,oa 29 28 0,ol 30 29 1 false,
ob 31 .eql (.t 30) (.c (.i .i64 5)),
om 32 31,⟨(some 33),.mv (.t 3),(some (32,false))⟩,
⟨(some 34),.ia (.t 33) (.c (.i .i64 1)) 4,(some (32,false))⟩,
⟨(some 35),.fa (.t 34) 0,(some (32,false))⟩,
⟨(some 36),.ld (.t 35) 1 false,(some (32,false))⟩,
⟨(some 37),.bin .eql (.t 36) (.c (.i .i64 5)),(some (32,false))⟩,
⟨(some 38),.pick (.t 32) (.c (.b true)) (.t 37),none⟩]) ( .cond (.t 38) (
.seq ( .region [
 ol 39 5 4 true,ot 2 39 4]) ( .ret)) ( .skip))) (
.seq (
.seq ( .region [
om 40 3,⟨(some 41),.ia (.t 40) (.c (.i .i64 0)) 4,none⟩,oa 42 41 0,ol 43 42 1 false,
ob 44 .eql (.t 43) (.c (.i .i64 4))]) ( .cond (.t 44) (
.seq ( .region [
om 45 3,⟨(some 46),.ia (.t 45) (.c (.i .i64 1)) 4,none⟩,ol 47 46 4 true,ot 2 47 4]) ( .ret)) ( .skip))) (
.seq ( .region [
om 48 3,⟨(some 49),.ia (.t 48) (.c (.i .i64 1)) 4,none⟩,oa 50 49 0,ol 51 50 1 false,
ob 52 .eql (.t 51) (.c (.i .i64 4))]) ( .cond (.t 52) (
.seq ( .region [
om 53 3,⟨(some 54),.ia (.t 53) (.c (.i .i64 0)) 4,none⟩,ol 55 54 4 true,ot 2 55 4]) ( .ret)) ( .skip))))) (
.seq ( .region [
 ob 57 .eql (.t 11) (.c (.i .i64 21)),
om 56 57]) ( .cond (.t 56) (
.seq (
.seq ( .region [
om 58 3,⟨(some 59),.ia (.t 58) (.c (.i .i64 0)) 4,none⟩,oa 60 59 0,ol 61 60 1 false,
ob 62 .eql (.t 61) (.c (.i .i64 4)),
om 63 62,⟨(some 64),.mv (.t 3),(some (63,false))⟩,
⟨(some 65),.ia (.t 64) (.c (.i .i64 1)) 4,(some (63,false))⟩,
⟨(some 66),.fa (.t 65) 0,(some (63,false))⟩,
⟨(some 67),.ld (.t 66) 1 false,(some (63,false))⟩,
⟨(some 68),.bin .eql (.t 67) (.c (.i .i64 4)),(some (63,false))⟩,
⟨(some 69),.pick (.t 63) (.c (.b true)) (.t 68),none⟩]) ( .cond (.t 69) (
.seq ( .region [
 ol 70 4 4 true,ot 2 70 4]) ( .ret)) ( .skip))) (
.seq (
.seq ( .region [
om 71 3,⟨(some 72),.ia (.t 71) (.c (.i .i64 0)) 4,none⟩,oa 73 72 0,ol 74 73 1 false,
ob 75 .eql (.t 74) (.c (.i .i64 5))]) ( .cond (.t 75) (
.seq ( .region [
om 76 3,⟨(some 77),.ia (.t 76) (.c (.i .i64 1)) 4,none⟩,ol 78 77 4 true,ot 2 78 4]) ( .ret)) ( .skip))) (
.seq ( .region [
om 79 3,⟨(some 80),.ia (.t 79) (.c (.i .i64 1)) 4,none⟩,oa 81 80 0,ol 82 81 1 false,
ob 83 .eql (.t 82) (.c (.i .i64 5))]) ( .cond (.t 83) (
.seq ( .region [
om 84 3,⟨(some 85),.ia (.t 84) (.c (.i .i64 0)) 4,none⟩,ol 86 85 4 true,ot 2 86 4]) ( .ret)) ( .skip))))) (
.seq ( .region [
 ob 88 .eql (.t 11) (.c (.i .i64 22)),
om 87 88]) ( .cond (.t 87) (
.seq (
.seq ( .region [
om 89 3,⟨(some 90),.ia (.t 89) (.c (.i .i64 0)) 4,none⟩,oa 91 90 0,ol 92 91 1 false,
ob 93 .eql (.t 92) (.c (.i .i64 5)),
om 94 93,⟨(some 95),.mv (.t 3),(some (94,false))⟩,
⟨(some 96),.ia (.t 95) (.c (.i .i64 1)) 4,(some (94,false))⟩,
⟨(some 97),.fa (.t 96) 0,(some (94,false))⟩,
⟨(some 98),.ld (.t 97) 1 false,(some (94,false))⟩,
⟨(some 99),.bin .eql (.t 98) (.c (.i .i64 4)),(some (94,false))⟩,
⟨(some 100),.pick (.t 94) (.c (.b true)) (.t 99),none⟩]) ( .cond (.t 100) (
.seq ( .region [
 ol 101 4 4 true,ot 2 101 4]) ( .ret)) ( .skip))) (
.seq (
.seq ( .region [
om 102 3,⟨(some 103),.ia (.t 102) (.c (.i .i64 0)) 4,none⟩,oa 104 103 0,ol 105 104 1 false,
ob 106 .eql (.t 105) (.c (.i .i64 4))]) ( .cond (.t 106) (
.seq ( .region [
om 107 3,⟨(some 108),.ia (.t 107) (.c (.i .i64 1)) 4,none⟩,ol 109 108 4 true,ot 2 109 4]) ( .ret)) ( .skip))) (
.seq ( .region [
om 110 3,⟨(some 111),.ia (.t 110) (.c (.i .i64 1)) 4,none⟩,oa 112 111 0,ol 113 112 1 false,
ob 114 .eql (.t 113) (.c (.i .i64 5))]) ( .cond (.t 114) (
.seq ( .region [
om 115 3,⟨(some 116),.ia (.t 115) (.c (.i .i64 0)) 4,none⟩,ol 117 116 4 true,⟨(some 118),.bsl [(.i .i64 0),(.i .i64 0),(.s []),.nilsl] 1 [(0,(.t 117))],none⟩,
⟨(some 119),.build [(.i .i64 0),(.i .i64 0),(.s []),.nilsl] [(0,1,(.c (.i .i64 19))),(3,1,(.t 118))],none⟩,oc 120 109 [(.t 119)],ot 2 120 4]) ( .ret)) ( .skip))))) (
.seq ( .region [
 ob 122 .eql (.t 11) (.c (.i .i64 14)),
om 121 122]) ( .cond (.t 121) (
.seq (
.seq ( .region [
om 123 3,⟨(some 124),.ia (.t 123) (.c (.i .i64 0)) 4,none⟩,oa 125 124 0,ol 126 125 1 false,
ob 127 .eql (.t 126) (.c (.i .i64 4))]) ( .cond (.t 127) (
.seq ( .region [
om 128 3,⟨(some 129),.ia (.t 128) (.c (.i .i64 1)) 4,none⟩,ol 130 129 4 true,ot 2 130 4]) ( .ret)) ( .skip))) (
.seq ( .region [
om 131 3,⟨(some 132),.ia (.t 131) (.c (.i .i64 0)) 4,none⟩,oa 133 132 0,ol 134 133 1 false,
ob 135 .eql (.t 134) (.c (.i .i64 5))]) ( .cond (.t 135) (
.seq ( .region [
om 136 3,⟨(some 137),.ia (.t 136) (.c (.i .i64 2)) 4,none⟩,ol 138 137 4 true,ot 2 138 4]) ( .ret)) ( .skip)))) (
.seq ( .region [
 ob 140 .eql (.t 11) (.c (.i .i64 8)),
om 139 140]) ( .cond (.t 139) (
.seq (
.seq ( .region [
om 141 3,⟨(some 142),.ia (.t 141) (.c (.i .i64 1)) 4,none⟩,ol 143 142 4 true,oc 144 65 [(.t 143)]]) ( .cond (.t 144) (
.seq ( .region [
om 145 3,⟨(some 146),.ia (.t 145) (.c (.i .i64 0)) 4,none⟩,ol 147 146 4 true,ot 2 147 4]) ( .ret)) ( .skip))) (
.seq ( .region [
om 148 3,⟨(some 149),.ia (.t 148) (.c (.i .i64 0)) 4,none⟩,ol 150 149 4 true,oc 151 65 [(.t 150)]]) ( .cond (.t 151) (
.seq ( .region [
om 152 3,⟨(some 153),.ia (.t 152) (.c (.i .i64 1)) 4,none⟩,ol 154 153 4 true,ot 2 154 4]) ( .ret)) ( .skip)))) (
.seq ( .region [
 ob 156 .eql (.t 11) (.c (.i .i64 9)),
om 155 156]) ( .cond (.t 155) (
.seq ( .region [
om 157 3,⟨(some 158),.ia (.t 157) (.c (.i .i64 1)) 4,none⟩,ol 159 158 4 true,oc 160 65 [(.t 159)]]) ( .cond (.t 160) (
.seq ( .region [
om 161 3,⟨(some 162),.ia (.t 161) (.c (.i .i64 0)) 4,none⟩,ol 163 162 4 true,ot 2 163 4]) ( .ret)) ( .skip))) (
.seq ( .region [
 ob 165 .eql (.t 11) (.c (.i .i64 10)),
om 164 165]) ( .cond (.t 164) (
.seq (
.seq ( .region [
om 166 3,⟨(some 167),.ia (.t 166) (.c (.i .i64 1)) 4,none⟩,ol 168 167 4 true,oc 169 163 [(.t 168)]]) ( .cond (.t 169) (
.seq ( .region [
om 170 3,⟨(some 171),.ia (.t 170) (.c (.i .i64 0)) 4,none⟩,ol 172 171 4 true,ot 2 172 4]) ( .ret)) ( .skip))) (
.seq ( .region [
om 173 3,⟨(some 174),.ia (.t 173) (.c (.i .i64 0)) 4,none⟩,ol 175 174 4 true,oc 176 163 [(.t 175)]]) ( .cond (.t 176) (
.seq ( .region [
om 177 3,⟨(some 178),.ia (.t 177) (.c (.i .i64 1)) 4,none⟩,ol 179 178 4 true,ot 2 179 4]) ( .ret)) ( .skip)))) (
.seq ( .region [
 ob 181 .eql (.t 11) (.c (.i .i64 11)),
om 180 181]) ( .cond (.t 180) (
.seq ( .region [
om 182 3,⟨(some 183),.ia (.t 182) (.c (.i .i64 1)) 4,none⟩,ol 184 183 4 true,oc 185 163 [(.t 184)]]) ( .cond (.t 185) (
.seq ( .region [
om 186 3,⟨(some 187),.ia (.t 186) (.c (.i .i64 0)) 4,none⟩,ol 188 187 4 true,ot 2 188 4]) ( .ret)) ( .skip))) ( .skip))))))))))))))))))))) (
.seq ( .region [
 ol 189 1 4 true,ot 2 189 4]) ( .ret))))),[.cell 2 4 true],false,none⟩
theorem aax:aC Tryz.prog 109 eK:=codeOk (hs:= []) Tryz.func109 (by kernel_rfl)
def gr:aN:=
.seq (
.seq ( .region [
om 44 14,oa 45 9 3,ol 46 45 1 false,on 47 46,
ob 48 .lss (.t 44) (.t 47)]) ( .cond (.t 48) ( .skip) ( .exit 0))) (
.seq ( .block 1 ( .region [
om 51 13,
om 52 0,
om 53 1,
om 54 2,
om 55 3,oa 56 9 3,ol 57 56 1 false,
om 58 14,oi 59 57 58 4,ol 60 59 4 true,oc 61 110 [(.t 52),(.t 53),(.t 54),(.t 55),(.t 60)],⟨(some 62),.bsl [(.i .i64 0)] 1 [(0,(.t 61))],none⟩,
⟨(some 63),.app 1 8 (.t 51) (.t 62) false false,none⟩,
om 13 63])) ( .region [
om 49 14,
ob 50 .add (.t 49) (.c (.i .i64 1)),
om 14 50]))
theorem wH:kV (iJ (.loop gr))=18446726481523531776:=nr rfl
def Ca:aE:=⟨70,
.seq ( .region [
 ⟨(some 9),.box (.t 4) false,none⟩,
⟨(some 10),.mv (.c (.i .i64 0)),none⟩]) (
.seq (
.seq ( .region [
 oa 15 9 0,ol 16 15 1 false,
ob 17 .eql (.t 16) (.c (.i .i64 6))]) ( .cond (.t 17) (
.seq (
.seq ( .region [
om 19 2,oa 20 9 2,ol 21 20 1 false,oc 22 85 [(.t 19),(.t 21)],
om 18 22,oe 23 18 0,oe 24 18 1,
om 11 23,
om 12 24]) (
.seq ( .region [
om 25 12,
ob 26 .eql (.t 25) (.c (.i .i64 0))]) ( .cond (.t 26) (
.seq ( .region [
om 27 11,
om 28 3,
om 29 3,oa 30 9 2,ol 31 30 1 false,oc 32 165 [(.t 29),(.t 31)],oi 33 28 32 2,oa 34 33 1,ol 35 34 1 false,oc 36 164 [(.t 27),(.t 35)],
om 10 36]) ( .ret)) ( .skip)))) (
.seq ( .region [
om 37 0,
om 38 1,oa 39 9 2,ol 40 39 1 false,oc 41 105 [(.t 38),(.t 40)],oi 42 37 41 1,ol 43 42 1 false,
om 10 43]) ( .ret))) ( .skip))) (
.seq ( .region [
 ⟨(some 13),.mv (.c .nilsl),none⟩]) (
.seq (
.seq ( .region [
 ⟨(some 14),.mv (.c (.i .i64 0)),none⟩]) ( .block 0 ( .loop gr))) (
.seq ( .region [
 oa 64 9 0,ol 65 64 1 false,oa 66 9 1,ol 67 66 1 false,
om 68 13,oc 69 108 [(.t 65),(.t 67),(.t 68)],
om 10 69]) ( .ret))))),[.tmp 10],false,none⟩
theorem aay:aC Tryz.prog 110 Ca:=codeOk (hs:= []) Tryz.func110 (by kernel_rfl)
def HO:aE:=⟨8,
.seq ( .region [
 ⟨(some 1),.box (.t 0) false,none⟩,
⟨(some 2),.mv (.c (.i .i64 0)),none⟩,
⟨(some 3),.mv (.c (.i .i64 0)),none⟩]) (
.seq ( .region [
 ol 4 1 4 true,oc 5 166 [(.t 4),(.c (.i .i64 1))],oe 6 5 0,oe 7 5 1,
om 2 6,
om 3 7]) ( .ret)),[.tmp 2,.tmp 3],false,none⟩
theorem aaz:aC Tryz.prog 111 HO:=codeOk (hs:= []) Tryz.func111 (by kernel_rfl)
def ja:aN:=
.seq (
.seq ( .region [
om 70 6,oa 71 1 3,ol 72 71 1 false,on 73 72,
ob 74 .lss (.t 70) (.t 73)]) ( .cond (.t 74) ( .skip) ( .exit 1))) (
.seq ( .block 2 (
.seq ( .region [
 oa 77 1 3,ol 78 77 1 false,
om 79 6,oi 80 78 79 4,ol 81 80 4 true,oc 82 112 [(.t 81)],⟨(some 83),.un .not (.t 82),none⟩]) ( .cond (.t 83) (
.seq ( .region [
 ⟨(some 2),.mv (.c (.b false)),none⟩]) ( .ret)) ( .skip)))) ( .region [
om 75 6,
ob 76 .add (.t 75) (.c (.i .i64 1)),
om 6 76]))
def ji:aE:=⟨84,
.seq ( .region [
 ⟨(some 1),.box (.t 0) false,none⟩,
⟨(some 2),.mv (.c (.b false)),none⟩]) (
.seq (
.seq ( .region [
 oa 7 1 0,ol 8 7 1 false,
ob 9 .lss (.t 8) (.c (.i .i64 1)),
om 10 9,⟨(some 11),.fa (.t 1) 0,(some (10,false))⟩,
⟨(some 12),.ld (.t 11) 1 false,(some (10,false))⟩,
⟨(some 13),.bin .gtr (.t 12) (.c (.i .i64 22)),(some (10,false))⟩,
⟨(some 14),.pick (.t 10) (.c (.b true)) (.t 13),none⟩]) ( .cond (.t 14) (
.seq ( .region [
 ⟨(some 2),.mv (.c (.b false)),none⟩]) ( .ret)) ( .skip))) (
.seq ( .region [
 oa 16 1 0,ol 17 16 1 false,oc 18 167 [(.t 17)],
om 15 18,oe 19 15 0,oe 20 15 1,
om 3 19,
om 4 20]) (
.seq (
.seq ( .region [
 oa 21 1 3,ol 22 21 1 false,on 23 22,
om 24 3,
ob 25 .lss (.t 23) (.t 24),
om 26 25,⟨(some 27),.fa (.t 1) 3,(some (26,false))⟩,
⟨(some 28),.ld (.t 27) 1 false,(some (26,false))⟩,
⟨(some 29),.lenV (.t 28),(some (26,false))⟩,
⟨(some 30),.mv (.t 4),(some (26,false))⟩,
⟨(some 31),.bin .gtr (.t 29) (.t 30),(some (26,false))⟩,
⟨(some 32),.pick (.t 26) (.c (.b true)) (.t 31),none⟩]) ( .cond (.t 32) (
.seq ( .region [
 ⟨(some 2),.mv (.c (.b false)),none⟩]) ( .ret)) ( .skip))) (
.seq ( .region [
 ⟨(some 5),.mv (.c (.i .i64 0)),none⟩]) (
.seq (
.seq ( .region [
 oa 33 1 0,ol 34 33 1 false]) ( .block 0 (
.seq (
.seq ( .region [
 ob 36 .eql (.t 34) (.c (.i .i64 1)),
om 35 36]) ( .cond (.t 35) ( .skip) ( .region [
 ob 37 .eql (.t 34) (.c (.i .i64 2)),
om 35 37]))) ( .cond (.t 35) ( .region [
 ⟨(some 5),.mv (.c (.i .i64 1099511627776)),none⟩]) (
.seq ( .region [
 ob 39 .eql (.t 34) (.c (.i .i64 3)),
om 38 39]) ( .cond (.t 38) ( .region [
 ⟨(some 5),.mv (.c (.i .i64 1439)),none⟩]) ( .skip))))))) (
.seq (
.seq ( .region [
 oa 40 1 1,ol 41 40 1 false,
ob 42 .lss (.t 41) (.c (.i .i64 0)),
om 43 42,⟨(some 44),.fa (.t 1) 1,(some (43,false))⟩,
⟨(some 45),.ld (.t 44) 1 false,(some (43,false))⟩,
⟨(some 46),.mv (.t 5),(some (43,false))⟩,
⟨(some 47),.bin .gtr (.t 45) (.t 46),(some (43,false))⟩,
⟨(some 48),.pick (.t 43) (.c (.b true)) (.t 47),none⟩,
om 49 48,⟨(some 50),.fa (.t 1) 0,(some (49,false))⟩,
⟨(some 51),.ld (.t 50) 1 false,(some (49,false))⟩,
⟨(some 52),.bin .eql (.t 51) (.c (.i .i64 6)),(some (49,false))⟩,
⟨(some 53),.mv (.t 52),(some (49,false))⟩,
⟨(some 54),.fa (.t 1) 2,(some (53,true))⟩,
⟨(some 55),.ld (.t 54) 1 false,(some (53,true))⟩,
⟨(some 56),.callf 168 [(.t 55)],(some (53,true))⟩,
⟨(some 57),.un .not (.t 56),(some (53,true))⟩,
⟨(some 58),.pick (.t 53) (.t 57) (.c (.b false)),(some (49,false))⟩,
⟨(some 59),.pick (.t 49) (.c (.b true)) (.t 58),none⟩,
om 60 59,⟨(some 61),.fa (.t 1) 0,(some (60,false))⟩,
⟨(some 62),.ld (.t 61) 1 false,(some (60,false))⟩,
⟨(some 63),.bin .neq (.t 62) (.c (.i .i64 6)),(some (60,false))⟩,
⟨(some 64),.mv (.t 63),(some (60,false))⟩,
⟨(some 65),.fa (.t 1) 2,(some (64,true))⟩,
⟨(some 66),.ld (.t 65) 1 false,(some (64,true))⟩,
⟨(some 67),.bin .neq (.t 66) (.c (.s [])),(some (64,true))⟩,
⟨(some 68),.pick (.t 64) (.t 67) (.c (.b false)),(some (60,false))⟩,
⟨(some 69),.pick (.t 60) (.c (.b true)) (.t 68),none⟩]) ( .cond (.t 69) (
.seq ( .region [
 ⟨(some 2),.mv (.c (.b false)),none⟩]) ( .ret)) ( .skip))) (
.seq (
.seq ( .region [
 ⟨(some 6),.mv (.c (.i .i64 0)),none⟩]) ( .block 1 ( .loop ja))) (
.seq ( .region [
 ⟨(some 2),.mv (.c (.b true)),none⟩]) ( .ret))))))))),[.tmp 2],false,none⟩
theorem aaA:aC Tryz.prog 112 ji:=codeOk (hs:= []) Tryz.func112 (by kernel_rfl)
def gv:aN:=
.seq ( .region [
 ob 105 .lss (.t 104) (.t 103)]) (
.seq ( .cond (.t 105) ( .skip) ( .exit 3)) (
.seq ( .block 4 (
.seq ( .region [
 oi 106 102 104 4,ol 107 106 4 true,⟨(some 9),.alloc [(.i .i64 0),(.i .i64 0),(.s []),.nilsl] false,none⟩,ot 9 107 4]) (
.seq ( .region [
 ol 108 9 4 true,oc 109 55 [(.t 108)],
om 10 109]) (
.seq ( .region [
om 110 10,
ob 111 .neq (.t 110) (.c (.i .i64 0))]) ( .cond (.t 111) (
.seq ( .region [
om 112 10,
om 2 112]) ( .ret)) ( .skip)))))) ( .region [
 ob 113 .add (.t 104) (.c (.i .i64 1)),
om 104 113])))
theorem Fp:kV (iJ (.loop gv))=20748905024535658843698038065595908:=nr rfl
def fH:aN:=
.seq ( .region [
 ob 87 .lss (.t 86) (.t 85)]) (
.seq ( .cond (.t 87) ( .skip) ( .exit 1)) (
.seq ( .block 2 (
.seq ( .region [
 oi 88 84 86 5,ol 89 88 5 true,⟨(some 6),.alloc [(.i .i64 0),(.i .i64 0),(.i .i64 0),(.s []),.nilsl] false,none⟩,ot 6 89 5]) (
.seq (
.seq ( .region [
 oa 90 6 0,ol 91 90 1 false,oc 92 172 [(.t 91)],⟨(some 93),.un .not (.t 92),none⟩]) ( .cond (.t 93) (
.seq ( .region [
 ⟨(some 2),.mv (.c (.i .i64 1)),none⟩]) ( .ret)) ( .skip))) (
.seq ( .region [
 oa 94 6 1,ol 95 94 4 true,oc 96 55 [(.t 95)],
om 7 96]) (
.seq ( .region [
om 97 7,
ob 98 .neq (.t 97) (.c (.i .i64 0))]) ( .cond (.t 98) (
.seq ( .region [
om 99 7,
om 2 99]) ( .ret)) ( .skip))))))) ( .region [
 ob 100 .add (.t 86) (.c (.i .i64 1)),
om 86 100])))
theorem wI:kV (iJ (.loop fH))=2535223829204003466726225215684:=nr rfl
def eL:aE:=⟨116,
.seq ( .region [
 ⟨(some 1),.box (.t 0) false,none⟩,
⟨(some 2),.mv (.c (.i .i64 0)),none⟩]) (
.seq ( .block 0 (
.seq (
.seq ( .region [
 oa 12 1 0,ol 13 12 1 false,oc 14 169 [(.t 13),(.c (.i .i64 0)),(.c (.i .i64 1440))],⟨(some 15),.un .not (.t 14),none⟩,
om 11 15]) ( .cond (.t 11) ( .skip) (
.seq ( .region [
 oa 16 1 1,ol 17 16 1 false,oc 18 169 [(.t 17),(.c (.i .i64 0)),(.c (.i .i64 1440))],⟨(some 19),.un .not (.t 18),none⟩,
om 11 19]) ( .cond (.t 11) ( .skip) (
.seq ( .region [
 oa 20 1 2,ol 21 20 1 false,oc 22 169 [(.t 21),(.c (.i .i64 0)),(.c (.i .i64 1440))],⟨(some 23),.un .not (.t 22),none⟩,
om 11 23]) ( .cond (.t 11) ( .skip) (
.seq ( .region [
 oa 24 1 3,ol 25 24 1 false,oa 26 1 2,ol 27 26 1 false,oc 28 169 [(.t 25),(.t 27),(.c (.i .i64 1440))],⟨(some 29),.un .not (.t 28),none⟩,
om 11 29]) ( .cond (.t 11) ( .skip) (
.seq ( .region [
 oa 30 1 4,ol 31 30 1 false,oc 32 169 [(.t 31),(.c (.i .i64 0)),(.c (.i .i64 10080))],⟨(some 33),.un .not (.t 32),none⟩,
om 11 33]) ( .cond (.t 11) ( .skip) (
.seq ( .region [
 oa 34 1 5,ol 35 34 1 false,oc 36 169 [(.t 35),(.c (.i .i64 0)),(.c (.i .i64 1439))],⟨(some 37),.un .not (.t 36),none⟩,
om 11 37]) ( .cond (.t 11) ( .skip) (
.seq ( .region [
 oa 38 1 6,ol 39 38 1 false,oc 40 169 [(.t 39),(.c (.i .i64 0)),(.c (.i .i64 1439))],⟨(some 41),.un .not (.t 40),none⟩,
om 11 41]) ( .cond (.t 11) ( .skip) ( .region [
 oa 42 1 13,ol 43 42 1 false,oc 44 169 [(.t 43),(.c (.i .i64 0)),(.c (.i .i64 599999))],⟨(some 45),.un .not (.t 44),none⟩,
om 11 45]))))))))))))))) ( .cond (.t 11) (
.seq ( .region [
 ⟨(some 2),.mv (.c (.i .i64 5)),none⟩]) ( .ret)) (
.seq (
.seq ( .region [
 oa 47 1 7,ol 48 47 1 false,on 49 48,
ob 50 .gtr (.t 49) (.c (.i .i64 32)),
om 46 50]) ( .cond (.t 46) ( .skip) (
.seq ( .region [
 oa 51 1 8,ol 52 51 1 false,on 53 52,
ob 54 .gtr (.t 53) (.c (.i .i64 40)),
om 46 54]) ( .cond (.t 46) ( .skip) (
.seq ( .region [
 oa 55 1 9,ol 56 55 1 false,on 57 56,
ob 58 .gtr (.t 57) (.c (.i .i64 16)),
om 46 58]) ( .cond (.t 46) ( .skip) (
.seq ( .region [
 oa 59 1 10,ol 60 59 1 false,on 61 60,
ob 62 .gtr (.t 61) (.c (.i .i64 1)),
om 46 62]) ( .cond (.t 46) ( .skip) (
.seq ( .region [
 oa 63 1 11,ol 64 63 1 false,on 65 64,
ob 66 .gtr (.t 65) (.c (.i .i64 16)),
om 46 66]) ( .cond (.t 46) ( .skip) ( .region [
 oa 67 1 12,ol 68 67 1 false,on 69 68,
ob 70 .gtr (.t 69) (.c (.i .i64 16)),
om 46 70]))))))))))) ( .cond (.t 46) (
.seq ( .region [
 ⟨(some 2),.mv (.c (.i .i64 10)),none⟩]) ( .ret)) ( .skip)))))) (
.seq (
.seq ( .region [
 oa 71 1 7,ol 72 71 1 false,oc 73 170 [(.t 72)],
om 3 73]) (
.seq ( .region [
om 74 3,
ob 75 .neq (.t 74) (.c (.i .i64 0))]) ( .cond (.t 75) (
.seq ( .region [
om 76 3,
om 2 76]) ( .ret)) ( .skip)))) (
.seq (
.seq ( .region [
 oa 77 1 8,ol 78 77 1 false,oc 79 171 [(.t 78)],
om 4 79]) (
.seq ( .region [
om 80 4,
ob 81 .neq (.t 80) (.c (.i .i64 0))]) ( .cond (.t 81) (
.seq ( .region [
om 82 4,
om 2 82]) ( .ret)) ( .skip)))) (
.seq (
.seq ( .region [
 oa 83 1 9,ol 84 83 1 false,on 85 84,⟨(some 86),.mv (.c (.i .i64 0)),none⟩]) ( .block 1 ( .loop fH))) (
.seq (
.seq ( .region [
 oa 101 1 10,ol 102 101 1 false,on 103 102,⟨(some 104),.mv (.c (.i .i64 0)),none⟩]) ( .block 3 ( .loop gv))) (
.seq ( .region [
 ol 114 1 14 true,oc 115 173 [(.t 114)],
om 2 115]) ( .ret))))))),[.tmp 2],false,none⟩
theorem aaB:aC Tryz.prog 113 eL:=codeOk (hs:= []) Tryz.func113 (by kernel_rfl)
def Cb:aE:=⟨45,
.seq ( .region [
 ⟨(some 4),.mv (.c (.i .i64 0)),none⟩,
⟨(some 5),.mv (.c (.i .i64 0)),none⟩]) (
.seq (
.seq ( .region [
om 11 0,⟨(some 12),.nck (.t 11),none⟩,oa 13 12 2,ol 14 13 1 false,
om 15 1,⟨(some 16),.lk (.one .int) (.t 14) (.t 15) (.i .i64 0) true,none⟩,
om 10 16,oe 17 10 0,oe 18 10 1,
om 6 17,
om 7 18]) (
.seq ( .region [
om 19 7]) ( .cond (.t 19) (
.seq ( .region [
om 20 6,
om 4 20,⟨(some 5),.mv (.c (.i .i64 0)),none⟩]) ( .ret)) ( .skip)))) (
.seq ( .region [
om 22 0,
om 23 1,
om 24 0,⟨(some 25),.nck (.t 24),none⟩,oa 26 25 0,ol 27 26 1 false,
om 28 1,oi 29 27 28 5,oa 30 29 1,ol 31 30 4 true,oc 32 97 [(.t 22),(.c (.i .i64 0)),(.t 23),(.t 31)],
om 21 32,oe 33 21 0,oe 34 21 1,
om 8 33,
om 9 34]) (
.seq (
.seq ( .region [
om 35 9,
ob 36 .neq (.t 35) (.c (.i .i64 0))]) ( .cond (.t 36) (
.seq ( .region [
om 37 9,⟨(some 4),.mv (.c (.i .i64 0)),none⟩,
om 5 37]) ( .ret)) ( .skip))) (
.seq ( .region [
om 38 0,⟨(some 39),.nck (.t 38),none⟩,oa 40 39 2,ol 41 40 1 false,
om 42 1,
om 43 8,⟨none,.mu (.one .int) (.t 41) (.t 42) (.t 43),none⟩]) (
.seq ( .region [
om 44 8,
om 4 44,⟨(some 5),.mv (.c (.i .i64 0)),none⟩]) ( .ret)))))),[.tmp 4,.tmp 5],true,none⟩
theorem aaC:aC Tryz.prog 114 Cb:=codeOk (hs:= []) Tryz.func114 (by kernel_rfl)
def Cc:aE:=⟨29,
.seq ( .region [
 ⟨(some 8),.box (.t 3) false,none⟩,
⟨(some 10),.mv (.c (.i .i64 0)),none⟩]) (
.seq ( .region [
om 14 0,
om 15 1,
om 16 2,ol 17 8 4 true,oc 18 97 [(.t 14),(.t 15),(.t 16),(.t 17)],
om 13 18,oe 19 13 0,oe 20 13 1,
om 11 19,
om 12 20]) (
.seq (
.seq ( .region [
om 21 12,
ob 22 .eql (.t 21) (.c (.i .i64 0)),
om 23 22,⟨(some 24),.mv (.t 11),(some (23,true))⟩,
⟨(some 25),.mv (.t 4),(some (23,true))⟩,
⟨(some 26),.bin .neq (.t 24) (.t 25),(some (23,true))⟩,
⟨(some 27),.pick (.t 23) (.t 26) (.c (.b false)),none⟩]) ( .cond (.t 27) (
.seq ( .region [
 ⟨(some 10),.mv (.c (.i .i64 9)),none⟩]) ( .ret)) ( .skip))) (
.seq ( .region [
om 28 12,
om 10 28]) ( .ret)))),[.tmp 10],true,none⟩
theorem aaD:aC Tryz.prog 115 Cc:=codeOk (hs:= []) Tryz.func115 (by kernel_rfl)
def HP:aE:=⟨15,
.seq ( .region [
 ⟨(some 6),.mv (.c (.b false)),none⟩]) (
.seq ( .region [
om 7 0,
om 8 1,
ob 9 .geq (.t 7) (.t 8),
om 10 9,⟨(some 11),.mv (.t 0),(some (10,true))⟩,
⟨(some 12),.mv (.t 2),(some (10,true))⟩,
⟨(some 13),.bin .leq (.t 11) (.t 12),(some (10,true))⟩,
⟨(some 14),.pick (.t 10) (.t 13) (.c (.b false)),none⟩,
om 6 14]) ( .ret)),[.tmp 6],false,none⟩
theorem aaE:aC Tryz.prog 125 HP:=codeOk (hs:= []) Tryz.func125 (by kernel_rfl)
def HQ:aE:=⟨10,
.seq ( .region [
 ⟨(some 2),.mv (.c (.b false)),none⟩]) (
.seq ( .region [
om 3 0,oc 4 182 [(.t 3)],
om 5 4,⟨(some 6),.mv (.t 0),(some (5,true))⟩,
⟨(some 7),.callf 197 [(.t 6)],(some (5,true))⟩,
⟨(some 8),.un .not (.t 7),(some (5,true))⟩,
⟨(some 9),.pick (.t 5) (.t 8) (.c (.b false)),none⟩,
om 2 9]) ( .ret)),[.tmp 2],false,none⟩
theorem aaF:aC Tryz.prog 126 HQ:=codeOk (hs:= []) Tryz.func126 (by kernel_rfl)
def gw:aN:=
.seq (
.seq ( .region [
om 86 9,
om 87 6,
ob 88 .lss (.t 86) (.t 87)]) ( .cond (.t 88) ( .skip) ( .exit 8))) (
.seq ( .block 9 (
.seq ( .draws [([],oa 91 1 12),([],ol 92 91 1 false),([],
om 93 9),([],oi 94 92 93 3),([],oa 95 94 0),([],ol 96 95 1 false),([],oa 97 7 0),([1,5],ol 98 97 1 false),([],
ob 99 .eql (.t 96) (.t 98))]) ( .cond (.t 99) (
.seq ( .region [
 ⟨(some 2),.mv (.c (.i .i64 7)),none⟩]) ( .ret)) ( .skip)))) ( .region [
om 89 9,
ob 90 .add (.t 89) (.c (.i .i64 1)),
om 9 90]))
theorem oC:kV (iJ (.loop gw))=1267573228975774065229522010628:=nr rfl
def gz:aN:=
.seq (
.seq ( .region [
om 70 8,oa 71 1 11,ol 72 71 1 false,on 73 72,
ob 74 .lss (.t 70) (.t 73)]) ( .cond (.t 74) ( .skip) ( .exit 6))) (
.seq ( .block 7 (
.seq ( .draws [([],oa 77 1 11),([],ol 78 77 1 false),([],
om 79 8),([],oi 80 78 79 4),([],oa 81 80 0),([],ol 82 81 1 false),([],oa 83 7 0),([1,5],ol 84 83 1 false),([],
ob 85 .eql (.t 82) (.t 84))]) ( .cond (.t 85) (
.seq ( .region [
 ⟨(some 2),.mv (.c (.i .i64 7)),none⟩]) ( .ret)) ( .skip)))) ( .region [
om 75 8,
ob 76 .add (.t 75) (.c (.i .i64 1)),
om 8 76]))
theorem j4:kV (iJ (.loop gz))=77370071863715549769892100:=nr rfl
def fb:aN:=
.seq (
.seq ( .region [
om 54 6,oa 55 1 12,ol 56 55 1 false,on 57 56,
ob 58 .lss (.t 54) (.t 57)]) ( .cond (.t 58) ( .skip) ( .exit 4))) (
.seq ( .block 5 (
.seq ( .region [
 oa 61 1 12,ol 62 61 1 false,
om 63 6,oi 64 62 63 3,ol 65 64 3 true,⟨(some 7),.alloc [(.s []),(.i .i64 0),(.i .i64 0)] false,none⟩,ot 7 65 3]) (
.seq (
.seq ( .region [
 oa 66 7 0,ol 67 66 1 false,oc 68 126 [(.t 67)],⟨(some 69),.un .not (.t 68),none⟩]) ( .cond (.t 69) (
.seq ( .region [
 ⟨(some 2),.mv (.c (.i .i64 1)),none⟩]) ( .ret)) ( .skip))) (
.seq (
.seq ( .region [
 ⟨(some 8),.mv (.c (.i .i64 0)),none⟩]) ( .block 6 ( .loop gz))) (
.seq (
.seq ( .region [
 ⟨(some 9),.mv (.c (.i .i64 0)),none⟩]) ( .block 8 ( .loop gw))) (
.seq ( .region [
 oa 100 7 2,ol 101 100 1 false,oc 102 125 [(.t 101),(.c (.i .i64 1)),(.c (.i .i64 31))],⟨(some 103),.un .not (.t 102),none⟩,
om 104 103,⟨(some 105),.fa (.t 7) 1,(some (104,false))⟩,
⟨(some 106),.ld (.t 105) 1 false,(some (104,false))⟩,
⟨(some 107),.fa (.t 7) 2,(some (104,false))⟩,
⟨(some 108),.ld (.t 107) 1 false,(some (104,false))⟩,
⟨(some 109),.callf 125 [(.t 106),(.c (.i .i64 1)),(.t 108)],(some (104,false))⟩,
⟨(some 110),.un .not (.t 109),(some (104,false))⟩,
⟨(some 111),.pick (.t 104) (.c (.b true)) (.t 110),none⟩]) ( .cond (.t 111) (
.seq ( .region [
 ⟨(some 2),.mv (.c (.i .i64 5)),none⟩]) ( .ret)) ( .skip)))))))) ( .region [
om 59 6,
ob 60 .add (.t 59) (.c (.i .i64 1)),
om 6 60]))
def gA:aN:=
.seq (
.seq ( .region [
om 26 5,
om 27 3,
ob 28 .lss (.t 26) (.t 27)]) ( .cond (.t 28) ( .skip) ( .exit 2))) (
.seq ( .block 3 (
.seq ( .draws [([],oa 31 1 11),([],ol 32 31 1 false),([],
om 33 5),([],oi 34 32 33 4),([],oa 35 34 0),([],ol 36 35 1 false),([],oa 37 4 0),([1,5],ol 38 37 1 false),([],
ob 39 .eql (.t 36) (.t 38))]) ( .cond (.t 39) (
.seq ( .region [
 ⟨(some 2),.mv (.c (.i .i64 7)),none⟩]) ( .ret)) ( .skip)))) ( .region [
om 29 5,
ob 30 .add (.t 29) (.c (.i .i64 1)),
om 5 30]))
theorem l0:kV (iJ (.loop gA))=1099444518948:=nr rfl
def ee:aN:=
.seq (
.seq ( .region [
om 10 3,oa 11 1 11,ol 12 11 1 false,on 13 12,
ob 14 .lss (.t 10) (.t 13)]) ( .cond (.t 14) ( .skip) ( .exit 0))) (
.seq ( .block 1 (
.seq ( .region [
 oa 17 1 11,ol 18 17 1 false,
om 19 3,oi 20 18 19 4,ol 21 20 4 true,⟨(some 4),.alloc [(.s []),(.s []),(.i .i64 0),(.i .i64 0)] false,none⟩,ot 4 21 4]) (
.seq (
.seq ( .region [
 oa 22 4 0,ol 23 22 1 false,oc 24 126 [(.t 23)],⟨(some 25),.un .not (.t 24),none⟩]) ( .cond (.t 25) (
.seq ( .region [
 ⟨(some 2),.mv (.c (.i .i64 1)),none⟩]) ( .ret)) ( .skip))) (
.seq (
.seq ( .region [
 ⟨(some 5),.mv (.c (.i .i64 0)),none⟩]) ( .block 2 ( .loop gA))) (
.seq (
.seq ( .region [
 oa 40 4 1,ol 41 40 1 false,oc 42 196 [(.t 41)],
ob 43 .eql (.t 42) (.c (.i .i64 0))]) ( .cond (.t 43) (
.seq ( .region [
 ⟨(some 2),.mv (.c (.i .i64 6)),none⟩]) ( .ret)) ( .skip))) (
.seq ( .region [
 oa 44 4 2,ol 45 44 1 false,oc 46 125 [(.t 45),(.c (.i .i64 0)),(.c (.i .i64 599999))],⟨(some 47),.un .not (.t 46),none⟩,
om 48 47,⟨(some 49),.fa (.t 4) 3,(some (48,false))⟩,
⟨(some 50),.ld (.t 49) 1 false,(some (48,false))⟩,
⟨(some 51),.callf 125 [(.t 50),(.c (.i .i64 1)),(.c (.i .i64 31))],(some (48,false))⟩,
⟨(some 52),.un .not (.t 51),(some (48,false))⟩,
⟨(some 53),.pick (.t 48) (.c (.b true)) (.t 52),none⟩]) ( .cond (.t 53) (
.seq ( .region [
 ⟨(some 2),.mv (.c (.i .i64 5)),none⟩]) ( .ret)) ( .skip)))))))) ( .region [
om 15 3,
ob 16 .add (.t 15) (.c (.i .i64 1)),
om 3 16]))
theorem wJ:kV (iJ (.loop ee))=18014398509481020:=nr rfl
def Cd:aE:=⟨112,
.seq ( .region [
 ⟨(some 1),.box (.t 0) false,none⟩,
⟨(some 2),.mv (.c (.i .i64 0)),none⟩]) (
.seq (
.seq ( .region [
 ⟨(some 3),.mv (.c (.i .i64 0)),none⟩]) ( .block 0 ( .loop ee))) (
.seq (
.seq ( .region [
 ⟨(some 6),.mv (.c (.i .i64 0)),none⟩]) ( .block 4 ( .loop fb))) (
.seq ( .region [
 ⟨(some 2),.mv (.c (.i .i64 0)),none⟩]) ( .ret)))),[.tmp 2],false,none⟩
theorem aaG:aC Tryz.prog 127 Cd:=codeOk (hs:= []) Tryz.func127 (by kernel_rfl)
def Vx:aE:=⟨2,
.seq ( .region [
 ⟨(some 0),.mv (.c .nilsl),none⟩]) (
.seq ( .region [
 ⟨(some 1),.bsl [(.s [])] 11 [(0,(.c (.s [108,101,103,115]))),(1,(.c (.s [104,101,97,100,115]))),(2,(.c (.s [116,121,112,101,115]))),(3,(.c (.s [98,108,111,99,107]))),(4,(.c (.s [115,112,97,110]))),(5,(.c (.s [110,105,103,104,116]))),(6,(.c (.s [108,111,110,103,101,115,116]))),(7,(.c (.s [115,104,111,114,116,101,115,116]))),(8,(.c (.s [115,104,105,102,116]))),(9,(.c (.s [115,116,97,114,116]))),(10,(.c (.s [101,110,100])))],none⟩,
om 0 1]) ( .ret)),[.tmp 0],false,none⟩
theorem aaH:aC Tryz.prog 132 Vx:=codeOk (hs:= []) Tryz.func132 (by kernel_rfl)
def HR:aE:=⟨18,
.seq ( .region [
 ⟨(some 2),.mv (.c (.i .i64 0)),none⟩]) (
.seq (
.seq ( .region [
om 3 0]) ( .block 0 (
.seq (
.seq ( .region [
 ob 5 .eql (.t 3) (.c (.s [108,101,103,115])),
om 4 5]) ( .cond (.t 4) ( .skip) (
.seq ( .region [
 ob 6 .eql (.t 3) (.c (.s [104,101,97,100,115])),
om 4 6]) ( .cond (.t 4) ( .skip) ( .region [
 ob 7 .eql (.t 3) (.c (.s [116,121,112,101,115])),
om 4 7]))))) ( .cond (.t 4) (
.seq ( .region [
 ⟨(some 2),.mv (.c (.i .i64 1)),none⟩]) ( .ret)) (
.seq (
.seq ( .region [
 ob 9 .eql (.t 3) (.c (.s [98,108,111,99,107])),
om 8 9]) ( .cond (.t 8) ( .skip) (
.seq ( .region [
 ob 10 .eql (.t 3) (.c (.s [115,112,97,110])),
om 8 10]) ( .cond (.t 8) ( .skip) (
.seq ( .region [
 ob 11 .eql (.t 3) (.c (.s [110,105,103,104,116])),
om 8 11]) ( .cond (.t 8) ( .skip) (
.seq ( .region [
 ob 12 .eql (.t 3) (.c (.s [108,111,110,103,101,115,116])),
om 8 12]) ( .cond (.t 8) ( .skip) (
.seq ( .region [
 ob 13 .eql (.t 3) (.c (.s [115,104,111,114,116,101,115,116])),
om 8 13]) ( .cond (.t 8) ( .skip) ( .region [
 ob 14 .eql (.t 3) (.c (.s [115,104,105,102,116])),
om 8 14]))))))))))) ( .cond (.t 8) (
.seq ( .region [
 ⟨(some 2),.mv (.c (.i .i64 2)),none⟩]) ( .ret)) (
.seq (
.seq ( .region [
 ob 16 .eql (.t 3) (.c (.s [115,116,97,114,116])),
om 15 16]) ( .cond (.t 15) ( .skip) ( .region [
 ob 17 .eql (.t 3) (.c (.s [101,110,100])),
om 15 17]))) ( .cond (.t 15) (
.seq ( .region [
 ⟨(some 2),.mv (.c (.i .i64 3)),none⟩]) ( .ret)) ( .skip))))))))) (
.seq ( .region [
 ⟨(some 2),.mv (.c (.i .i64 0)),none⟩]) ( .ret))),[.tmp 2],false,none⟩
theorem aaI:aC Tryz.prog 133 HR:=codeOk (hs:= []) Tryz.func133 (by kernel_rfl)
def Ce:aE:=⟨30,
.seq ( .region [
 ⟨(some 2),.mv (.c (.i .i64 0)),none⟩]) (
.seq (
.seq ( .region [
om 7 0]) ( .block 0 (
.seq ( .region [
 ob 9 .eql (.t 7) (.c (.s [114,101,115,116])),
om 8 9]) ( .cond (.t 8) (
.seq ( .region [
 ⟨(some 2),.mv (.c (.i .i64 2)),none⟩]) ( .ret)) (
.seq ( .region [
 ob 11 .eql (.t 7) (.c (.s [110,105,103,104,116,115])),
om 10 11]) ( .cond (.t 10) (
.seq ( .region [
 ⟨(some 2),.mv (.c (.i .i64 1)),none⟩]) ( .ret)) (
.seq ( .region [
 ob 13 .eql (.t 7) (.c (.s [104,111,109,101])),
om 12 13]) ( .cond (.t 12) (
.seq ( .region [
 ⟨(some 2),.mv (.c (.i .i64 4)),none⟩]) ( .ret)) ( .skip))))))))) (
.seq (
.seq ( .region [
om 15 0,oc 16 212 [(.t 15),(.c (.s [98,101,102,111,114,101,46]))],
om 14 16,oe 17 14 0,oe 18 14 1,
om 3 17,
om 4 18]) (
.seq ( .region [
om 19 4]) ( .cond (.t 19) (
.seq ( .region [
om 20 3,oc 21 133 [(.t 20)],
om 2 21]) ( .ret)) ( .skip)))) (
.seq (
.seq ( .region [
om 23 0,oc 24 212 [(.t 23),(.c (.s [97,102,116,101,114,46]))],
om 22 24,oe 25 22 0,oe 26 22 1,
om 5 25,
om 6 26]) (
.seq ( .region [
om 27 6]) ( .cond (.t 27) (
.seq ( .region [
om 28 5,oc 29 133 [(.t 28)],
om 2 29]) ( .ret)) ( .skip)))) (
.seq ( .region [
 ⟨(some 2),.mv (.c (.i .i64 0)),none⟩]) ( .ret))))),[.tmp 2],false,none⟩
theorem aaJ:aC Tryz.prog 134 Ce:=codeOk (hs:= []) Tryz.func134 (by kernel_rfl)
end Go.Proofs.YtfenhjpkomldcaaGreat
