/- The codes of functions of the program, as the evaluator reads them; that each is what its compiler makes of the model's function. Conditions: none. -/
import Derived.Test.YtfenhjpkomldcaaGreatEvF
import Derived.Test.YtfenhjpkomldcaaGreatChecked
import Derived.KernelRfl
set_option maxRecDepth 100000
namespace Go.Proofs.YtfenhjpkomldcaaGreat
open Go Go.Ev
def c5:aE:=⟨32,
.seq ( .region [
 ⟨(some 1),.box (.t 0) false,none⟩,
⟨(some 2),.mv (.c (.b false)),none⟩]) (
.seq (
.seq ( .region [
 ol 7 1 14 true,oc 8 23 [(.t 7)],⟨(some 9),.un .not (.t 8),none⟩]) ( .cond (.t 9) (
.seq ( .region [
 oc 10 20 [],
om 2 10]) ( .ret)) ( .skip))) (
.seq ( .region [
 ol 12 1 14 true,oc 13 24 [(.t 12)],
om 11 13,oe 14 11 0,oe 15 11 1,⟨(some 3),.alloc [(.i .i64 0),(.i .i64 0),(.i .i64 0),(.i .i64 0),(.i .i64 0),(.i .i64 0),(.i .i64 0),.nilsl,.nilsl,.nilsl,.nilsl,.nilsl,.nilsl,(.i .i64 0)] false,none⟩,ot 3 14 14,
om 4 15]) (
.seq ( .region [
 ol 17 1 14 true,oc 18 25 [(.t 17)],
om 16 18,oe 19 16 0,oe 20 16 1,⟨(some 5),.alloc [(.i .i64 0),(.i .i64 0),(.i .i64 0),(.i .i64 0),(.i .i64 0),(.i .i64 0),(.i .i64 0),.nilsl,.nilsl,.nilsl,.nilsl,.nilsl,.nilsl,(.i .i64 0)] false,none⟩,ot 5 19 14,
om 6 20]) (
.seq ( .region [
om 21 4,
om 22 6,
ob 23 .eql (.t 21) (.t 22),
om 24 23,⟨(some 25),.ld (.t 3) 14 true,(some (24,true))⟩,
⟨(some 26),.ld (.t 5) 14 true,(some (24,true))⟩,
⟨(some 27),.callf 26 [(.t 25),(.t 26)],(some (24,true))⟩,
⟨(some 28),.pick (.t 24) (.t 27) (.c (.b false)),none⟩,
om 29 28,⟨(some 30),.callf 20 [],(some (29,true))⟩,
⟨(some 31),.pick (.t 29) (.t 30) (.c (.b false)),none⟩,
om 2 31]) ( .ret))))),[.tmp 2],false,none⟩
theorem k5:aC Tryz.prog 5 c5:=codeOk (hs:= []) Tryz.func5 (by kernel_rfl)
def RW:aE:=⟨35,
.seq ( .region [
 ⟨(some 5),.box (.t 2) false,none⟩,
⟨(some 6),.alloc [(.i .i64 0),(.i .i64 0),(.s []),.nilsl] false,none⟩,
⟨(some 7),.mv (.c (.i .i64 0)),none⟩]) (
.seq (
.seq ( .region [
om 13 0,
om 14 1,ol 15 5 4 true,oc 16 52 [(.t 13),(.t 14),(.t 15)],
om 12 16,oe 17 12 0,oe 18 12 1,
om 8 17,
om 9 18]) (
.seq ( .region [
om 19 9,
ob 20 .neq (.t 19) (.c (.i .i64 0))]) ( .cond (.t 20) (
.seq ( .region [
 ⟨(some 21),.build [(.i .i64 0),(.i .i64 0),(.s []),.nilsl] [],none⟩,
om 22 9,ot 6 21 4,
om 7 22]) ( .ret)) ( .skip)))) (
.seq ( .region [
om 23 0,⟨(some 24),.mkmap true,none⟩,oc 25 53 [(.c .nilsl)],⟨(some 26),.build [.nilsl,.nilmp,.nilptr] [(0,1,(.t 23)),(1,1,(.t 24)),(2,1,(.t 25))],none⟩,
⟨(some 10),.alloc [.nilsl,.nilmp,.nilptr] true,none⟩,ot 10 26 3]) (
.seq ( .region [
om 27 1,ol 28 5 4 true,oc 29 54 [(.t 10),(.t 27),(.t 28)],⟨(some 11),.alloc [(.i .i64 0),(.i .i64 0),(.s []),.nilsl] false,none⟩,ot 11 29 4]) (
.seq (
.seq ( .region [
 ol 30 11 4 true,oc 31 55 [(.t 30)],
ob 32 .eql (.t 31) (.c (.i .i64 10))]) ( .cond (.t 32) (
.seq ( .region [
 ⟨(some 33),.build [(.i .i64 0),(.i .i64 0),(.s []),.nilsl] [],none⟩,ot 6 33 4,⟨(some 7),.mv (.c (.i .i64 10)),none⟩]) ( .ret)) ( .skip))) (
.seq ( .region [
 ol 34 11 4 true,ot 6 34 4,⟨(some 7),.mv (.c (.i .i64 0)),none⟩]) ( .ret)))))),[.cell 6 4 true,.tmp 7],false,none⟩
theorem k16:aC Tryz.prog 16 RW:=codeOk (hs:= [24,10]) Tryz.func16 (by kernel_rfl)
def RX:aE:=⟨33,
.seq ( .region [
 ⟨(some 5),.box (.t 2) false,none⟩,
⟨(some 6),.alloc [(.i .i64 0),(.i .i64 0),(.s []),.nilsl] false,none⟩,
⟨(some 7),.mv (.c (.i .i64 0)),none⟩]) (
.seq (
.seq ( .region [
om 12 0,
om 13 1,ol 14 5 4 true,oc 15 56 [(.t 12),(.t 13),(.t 14)],
om 11 15,oe 16 11 0,oe 17 11 1,
om 8 16,
om 9 17]) (
.seq ( .region [
om 18 9,
ob 19 .neq (.t 18) (.c (.i .i64 0))]) ( .cond (.t 19) (
.seq ( .region [
 ⟨(some 20),.build [(.i .i64 0),(.i .i64 0),(.s []),.nilsl] [],none⟩,
om 21 9,ot 6 20 4,
om 7 21]) ( .ret)) ( .skip)))) (
.seq ( .draws [([],
om 22 0),([],oc 23 58 [(.t 22)]),([],
om 24 0),([],
om 25 1),([1],ol 26 5 4 true),([],oc 27 57 [(.t 23),(.t 24),(.t 25),(.t 26)]),([1,4,5],⟨(some 10),.alloc [(.i .i64 0),(.i .i64 0),(.s []),.nilsl] false,none⟩),
([],ot 10 27 4)]) (
.seq (
.seq ( .region [
 ol 28 10 4 true,oc 29 59 [(.t 28)],
ob 30 .neq (.t 29) (.c (.i .i64 0))]) ( .cond (.t 30) (
.seq ( .region [
 ⟨(some 31),.build [(.i .i64 0),(.i .i64 0),(.s []),.nilsl] [],none⟩,ot 6 31 4,⟨(some 7),.mv (.c (.i .i64 10)),none⟩]) ( .ret)) ( .skip))) (
.seq ( .region [
 ol 32 10 4 true,ot 6 32 4,⟨(some 7),.mv (.c (.i .i64 0)),none⟩]) ( .ret))))),[.cell 6 4 true,.tmp 7],false,none⟩
theorem k18:aC Tryz.prog 18 RX:=codeOk (hs:= []) Tryz.func18 (by kernel_rfl)
def c19:aE:=⟨8,
.seq ( .region [
 ⟨(some 2),.box (.t 0) false,none⟩,
⟨(some 3),.box (.t 1) false,none⟩,
⟨(some 4),.mv (.c (.b false)),none⟩]) (
.seq ( .region [
 ol 5 2 4 true,ol 6 3 4 true,oc 7 60 [(.t 5),(.t 6)],
om 4 7]) ( .ret)),[.tmp 4],false,none⟩
theorem k19:aC Tryz.prog 19 c19:=codeOk (hs:= []) Tryz.func19 (by kernel_rfl)
def c20:aE:=⟨44,
.seq ( .region [
 ⟨(some 0),.mv (.c (.b false)),none⟩]) (
.seq ( .region [
 ⟨(some 6),.build [(.i .i64 0),(.i .i64 0),(.s []),.nilsl] [(0,1,(.c (.i .i64 6))),(2,1,(.c (.s [108,101,103,115])))],none⟩,
⟨(some 1),.alloc [(.i .i64 0),(.i .i64 0),(.s []),.nilsl] false,none⟩,ot 1 6 4]) (
.seq ( .draws [([],ol 8 1 4 true),([0],oc 9 21 [(.c (.i .i64 3))]),([0],oc 10 21 [(.c (.i .i64 2))]),([0],⟨(some 11),.bsl [(.i .i64 0),(.i .i64 0),(.s []),.nilsl] 2 [(0,(.t 9)),(1,(.t 10))],none⟩),
([0],oc 12 22 [(.c (.i .i64 9)),(.t 11)]),([],⟨(some 13),.bsl [(.i .i64 0),(.i .i64 0),(.s []),.nilsl] 2 [(0,(.t 8)),(1,(.t 12))],none⟩),
([],oc 14 22 [(.c (.i .i64 10)),(.t 13)]),([],oc 15 16 [(.c .nilsl),(.c (.i .i64 1)),(.t 14)]),([],
om 7 15),([],oe 16 7 0),([],oe 17 7 1),([0,1,2,3,4,5,6,7],⟨(some 2),.alloc [(.i .i64 0),(.i .i64 0),(.s []),.nilsl] false,none⟩),
([],ot 2 16 4),([],
om 3 17)]) (
.seq ( .region [
 oc 19 21 [(.c (.i .i64 2))],oc 20 21 [(.c (.i .i64 5))],⟨(some 21),.bsl [(.i .i64 0),(.i .i64 0),(.s []),.nilsl] 2 [(0,(.t 19)),(1,(.t 20))],none⟩,oc 22 22 [(.c (.i .i64 9)),(.t 21)],oc 23 16 [(.c .nilsl),(.c (.i .i64 1)),(.t 22)],
om 18 23,oe 24 18 0,oe 25 18 1,⟨(some 4),.alloc [(.i .i64 0),(.i .i64 0),(.s []),.nilsl] false,none⟩,ot 4 24 4,
om 5 25]) (
.seq ( .draws [([],
om 26 3),([],
ob 27 .eql (.t 26) (.c (.i .i64 0))),([],
om 28 27),([],⟨(some 29),.mv (.t 5),(some (28,true))⟩),
([],⟨(some 30),.bin .eql (.t 29) (.c (.i .i64 0)),(some (28,true))⟩),
([],⟨(some 31),.pick (.t 28) (.t 30) (.c (.b false)),none⟩),
([],
om 32 31),([],⟨(some 33),.ld (.t 2) 4 true,(some (32,true))⟩),
([7],⟨(some 34),.ld (.t 1) 4 true,(some (32,true))⟩),
([],⟨(some 35),.callf 19 [(.t 33),(.t 34)],(some (32,true))⟩),
([],⟨(some 36),.pick (.t 32) (.t 35) (.c (.b false)),none⟩),
([],
om 37 36),([],⟨(some 38),.ld (.t 4) 4 true,(some (37,true))⟩),
([12],⟨(some 39),.callf 21 [(.c (.i .i64 3))],(some (37,true))⟩),
([12],⟨(some 40),.bsl [(.i .i64 0),(.i .i64 0),(.s []),.nilsl] 1 [(0,(.t 39))],(some (37,true))⟩),
([12],⟨(some 41),.callf 22 [(.c (.i .i64 7)),(.t 40)],(some (37,true))⟩),
([],⟨(some 42),.callf 19 [(.t 38),(.t 41)],(some (37,true))⟩),
([],⟨(some 43),.pick (.t 37) (.t 42) (.c (.b false)),none⟩),
([],
om 0 43)]) ( .ret))))),[.tmp 0],false,none⟩
theorem k20:aC Tryz.prog 20 c20:=codeOk (hs:= []) Tryz.func20 (by kernel_rfl)
def c21:aE:=⟨5,
.seq ( .region [
 ⟨(some 2),.alloc [(.i .i64 0),(.i .i64 0),(.s []),.nilsl] false,none⟩]) (
.seq ( .region [
om 3 0,⟨(some 4),.build [(.i .i64 0),(.i .i64 0),(.s []),.nilsl] [(0,1,(.c (.i .i64 1))),(1,1,(.t 3))],none⟩,ot 2 4 4]) ( .ret)),[.cell 2 4 true],false,none⟩
theorem k21:aC Tryz.prog 21 c21:=codeOk (hs:= []) Tryz.func21 (by kernel_rfl)
def c22:aE:=⟨8,
.seq ( .region [
 ⟨(some 4),.alloc [(.i .i64 0),(.i .i64 0),(.s []),.nilsl] false,none⟩]) (
.seq ( .region [
om 5 0,
om 6 1,⟨(some 7),.build [(.i .i64 0),(.i .i64 0),(.s []),.nilsl] [(0,1,(.t 5)),(3,1,(.t 6))],none⟩,ot 4 7 4]) ( .ret)),[.cell 4 4 true],false,none⟩
theorem k22:aC Tryz.prog 22 c22:=codeOk (hs:= []) Tryz.func22 (by kernel_rfl)
def jA:aN:=
.seq (
.seq ( .region [
om 75 7,oa 76 1 10,ol 77 76 1 false,on 78 77,
ob 79 .lss (.t 75) (.t 78),
om 80 79,⟨(some 81),.mv (.t 3),(some (80,true))⟩,
⟨(some 82),.bin .lss (.t 81) (.c (.i .i64 3000)),(some (80,true))⟩,
⟨(some 83),.pick (.t 80) (.t 82) (.c (.b false)),none⟩]) ( .cond (.t 83) ( .skip) ( .exit 6))) (
.seq ( .block 7 ( .region [
om 86 3,oa 87 1 10,ol 88 87 1 false,
om 89 7,oi 90 88 89 4,ol 91 90 4 true,oc 92 61 [(.t 91)],
ob 93 .add (.t 86) (.t 92),
om 3 93])) ( .region [
om 84 7,
ob 85 .add (.t 84) (.c (.i .i64 1)),
om 7 85]))
def jB:aN:=
.seq (
.seq ( .region [
om 55 6,oa 56 1 9,ol 57 56 1 false,on 58 57,
ob 59 .lss (.t 55) (.t 58),
om 60 59,⟨(some 61),.mv (.t 3),(some (60,true))⟩,
⟨(some 62),.bin .lss (.t 61) (.c (.i .i64 3000)),(some (60,true))⟩,
⟨(some 63),.pick (.t 60) (.t 62) (.c (.b false)),none⟩]) ( .cond (.t 63) ( .skip) ( .exit 4))) (
.seq ( .block 5 ( .region [
om 66 3,oa 67 1 9,ol 68 67 1 false,
om 69 6,oi 70 68 69 5,oa 71 70 1,ol 72 71 4 true,oc 73 61 [(.t 72)],
ob 74 .add (.t 66) (.t 73),
om 3 74])) ( .region [
om 64 6,
ob 65 .add (.t 64) (.c (.i .i64 1)),
om 6 65]))
theorem zN:kV (iJ (.loop jB))=37778895834160142745672:=nr rfl
def jC:aN:=
.seq (
.seq ( .region [
om 35 5,oa 36 1 8,ol 37 36 1 false,on 38 37,
ob 39 .lss (.t 35) (.t 38),
om 40 39,⟨(some 41),.mv (.t 3),(some (40,true))⟩,
⟨(some 42),.bin .lss (.t 41) (.c (.i .i64 3000)),(some (40,true))⟩,
⟨(some 43),.pick (.t 40) (.t 42) (.c (.b false)),none⟩]) ( .cond (.t 43) ( .skip) ( .exit 2))) (
.seq ( .block 3 ( .region [
om 46 3,oa 47 1 8,ol 48 47 1 false,
om 49 5,oi 50 48 49 6,oa 51 50 2,ol 52 51 4 true,oc 53 61 [(.t 52)],
ob 54 .add (.t 46) (.t 53),
om 3 54])) ( .region [
om 44 5,
ob 45 .add (.t 44) (.c (.i .i64 1)),
om 5 45]))
theorem zO:kV (iJ (.loop jC))=36028762659225640:=nr rfl
def jD:aN:=
.seq (
.seq ( .region [
om 15 4,oa 16 1 7,ol 17 16 1 false,on 18 17,
ob 19 .lss (.t 15) (.t 18),
om 20 19,⟨(some 21),.mv (.t 3),(some (20,true))⟩,
⟨(some 22),.bin .lss (.t 21) (.c (.i .i64 3000)),(some (20,true))⟩,
⟨(some 23),.pick (.t 20) (.t 22) (.c (.b false)),none⟩]) ( .cond (.t 23) ( .skip) ( .exit 0))) (
.seq ( .block 1 ( .region [
om 26 3,oa 27 1 7,ol 28 27 1 false,
om 29 4,oi 30 28 29 5,oa 31 30 1,ol 32 31 4 true,oc 33 61 [(.t 32)],
ob 34 .add (.t 26) (.t 33),
om 3 34])) ( .region [
om 24 4,
ob 25 .add (.t 24) (.c (.i .i64 1)),
om 4 25]))
theorem zP:kV (iJ (.loop jD))=34359705624:=nr rfl
def Vp:aE:=⟨96,
.seq ( .region [
 ⟨(some 1),.box (.t 0) false,none⟩,
⟨(some 2),.mv (.c (.b false)),none⟩]) (
.seq ( .region [
 oa 8 1 11,ol 9 8 1 false,on 10 9,oa 11 1 12,ol 12 11 1 false,on 13 12,
ob 14 .add (.t 10) (.t 13),
om 3 14]) (
.seq (
.seq ( .region [
 ⟨(some 4),.mv (.c (.i .i64 0)),none⟩]) ( .block 0 ( .loop jD))) (
.seq (
.seq ( .region [
 ⟨(some 5),.mv (.c (.i .i64 0)),none⟩]) ( .block 2 ( .loop jC))) (
.seq (
.seq ( .region [
 ⟨(some 6),.mv (.c (.i .i64 0)),none⟩]) ( .block 4 ( .loop jB))) (
.seq (
.seq ( .region [
 ⟨(some 7),.mv (.c (.i .i64 0)),none⟩]) ( .block 6 ( .loop jA))) (
.seq ( .region [
om 94 3,
ob 95 .lss (.t 94) (.c (.i .i64 2000)),
om 2 95]) ( .ret))))))),[.tmp 2],false,none⟩
theorem k23:aC Tryz.prog 23 Vp:=codeOk (hs:= []) Tryz.func23 (by kernel_rfl)
def eV:aN:=
.seq ( .region [
 ob 116 .lss (.t 115) (.t 114)]) (
.seq ( .cond (.t 116) ( .skip) ( .exit 4)) (
.seq ( .block 5 (
.seq ( .region [
 oi 117 113 115 4,ol 118 117 4 true,⟨(some 15),.alloc [(.i .i64 0),(.i .i64 0),(.s []),.nilsl] false,none⟩,ot 15 118 4]) (
.seq ( .region [
 oa 120 1 7,ol 121 120 1 false,ol 122 15 4 true,oc 123 16 [(.t 121),(.c (.i .i64 1)),(.t 122)],
om 119 123,oe 124 119 0,oe 125 119 1,⟨(some 16),.alloc [(.i .i64 0),(.i .i64 0),(.s []),.nilsl] false,none⟩,ot 16 124 4,
om 17 125]) (
.seq (
.seq ( .region [
om 126 17,
ob 127 .neq (.t 126) (.c (.i .i64 0))]) ( .cond (.t 127) (
.seq ( .region [
 ⟨(some 128),.build [(.i .i64 0),(.i .i64 0),(.i .i64 0),(.i .i64 0),(.i .i64 0),(.i .i64 0),(.i .i64 0),.nilsl,.nilsl,.nilsl,.nilsl,.nilsl,.nilsl,(.i .i64 0)] [],none⟩,
om 129 17,ot 2 128 14,
om 3 129]) ( .ret)) ( .skip))) ( .region [
 oa 130 5 10,ol 131 130 1 false,ol 132 16 4 true,⟨(some 133),.bsl [(.i .i64 0),(.i .i64 0),(.s []),.nilsl] 1 [(0,(.t 132))],none⟩,
⟨(some 134),.app 4 56 (.t 131) (.t 133) false false,none⟩,oa 135 5 10,ot 135 134 1]))))) ( .region [
 ob 136 .add (.t 115) (.c (.i .i64 1)),
om 115 136])))
theorem zQ:kV (iJ (.loop eV))=174224530325145625014626770761094690734088:=nr rfl
def eB:aN:=
.seq ( .region [
 ob 77 .lss (.t 76) (.t 75)]) (
.seq ( .cond (.t 77) ( .skip) ( .exit 2)) (
.seq ( .block 3 (
.seq ( .region [
 oi 78 74 76 5,ol 79 78 5 true,⟨(some 11),.alloc [(.i .i64 0),(.i .i64 0),(.i .i64 0),(.s []),.nilsl] false,none⟩,ot 11 79 5]) (
.seq ( .region [
 oa 81 1 7,ol 82 81 1 false,oa 83 11 0,ol 84 83 1 false,oa 85 11 1,ol 86 85 4 true,oc 87 16 [(.t 82),(.t 84),(.t 86)],
om 80 87,oe 88 80 0,oe 89 80 1,⟨(some 12),.alloc [(.i .i64 0),(.i .i64 0),(.s []),.nilsl] false,none⟩,ot 12 88 4,
om 13 89]) (
.seq (
.seq ( .region [
om 90 13,
ob 91 .neq (.t 90) (.c (.i .i64 0))]) ( .cond (.t 91) (
.seq ( .region [
 ⟨(some 92),.build [(.i .i64 0),(.i .i64 0),(.i .i64 0),(.i .i64 0),(.i .i64 0),(.i .i64 0),(.i .i64 0),.nilsl,.nilsl,.nilsl,.nilsl,.nilsl,.nilsl,(.i .i64 0)] [],none⟩,
om 93 13,ot 2 92 14,
om 3 93]) ( .ret)) ( .skip))) (
.seq ( .region [
 oa 94 12 0,ol 95 94 1 false,
ob 96 .neq (.t 95) (.c (.i .i64 1)),
om 97 96,⟨(some 98),.fa (.t 12) 1,(some (97,false))⟩,
⟨(some 99),.ld (.t 98) 1 false,(some (97,false))⟩,
⟨(some 100),.bin .neq (.t 99) (.c (.i .i64 0)),(some (97,false))⟩,
⟨(some 101),.pick (.t 97) (.c (.b true)) (.t 100),none⟩]) ( .cond (.t 101) ( .region [
 oa 102 5 9,ol 103 102 1 false,oa 104 11 0,ol 105 104 1 false,ol 106 12 4 true,⟨(some 107),.build [(.i .i64 0),(.i .i64 0),(.i .i64 0),(.s []),.nilsl] [(0,1,(.t 105)),(1,4,(.t 106))],none⟩,
⟨(some 108),.bsl [(.i .i64 0),(.i .i64 0),(.i .i64 0),(.s []),.nilsl] 1 [(0,(.t 107))],none⟩,
⟨(some 109),.app 5 64 (.t 103) (.t 108) false false,none⟩,oa 110 5 9,ot 110 109 1]) ( .skip))))))) ( .region [
 ob 111 .add (.t 76) (.c (.i .i64 1)),
om 76 111])))
theorem lX:kV (iJ (.loop eB))=5192296858459269764804582005815304:=nr rfl
def fu:aN:=
.seq ( .region [
 ob 41 .lss (.t 40) (.t 39)]) (
.seq ( .cond (.t 41) ( .skip) ( .exit 0)) (
.seq ( .block 1 (
.seq ( .region [
 oi 42 38 40 6,ol 43 42 6 true,⟨(some 7),.alloc [(.i .i64 0),(.s []),(.i .i64 0),(.i .i64 0),(.s []),.nilsl] false,none⟩,ot 7 43 6]) (
.seq ( .region [
 oa 45 1 7,ol 46 45 1 false,oa 47 7 0,ol 48 47 1 false,oa 49 7 2,ol 50 49 4 true,oc 51 16 [(.t 46),(.t 48),(.t 50)],
om 44 51,oe 52 44 0,oe 53 44 1,⟨(some 8),.alloc [(.i .i64 0),(.i .i64 0),(.s []),.nilsl] false,none⟩,ot 8 52 4,
om 9 53]) (
.seq (
.seq ( .region [
om 54 9,
ob 55 .neq (.t 54) (.c (.i .i64 0))]) ( .cond (.t 55) (
.seq ( .region [
 ⟨(some 56),.build [(.i .i64 0),(.i .i64 0),(.i .i64 0),(.i .i64 0),(.i .i64 0),(.i .i64 0),(.i .i64 0),.nilsl,.nilsl,.nilsl,.nilsl,.nilsl,.nilsl,(.i .i64 0)] [],none⟩,
om 57 9,ot 2 56 14,
om 3 57]) ( .ret)) ( .skip))) (
.seq ( .region [
 oa 58 8 0,ol 59 58 1 false,
ob 60 .neq (.t 59) (.c (.i .i64 4))]) ( .cond (.t 60) ( .region [
 oa 61 5 8,ol 62 61 1 false,oa 63 7 0,ol 64 63 1 false,oa 65 7 1,ol 66 65 1 false,ol 67 8 4 true,⟨(some 68),.build [(.i .i64 0),(.s []),(.i .i64 0),(.i .i64 0),(.s []),.nilsl] [(0,1,(.t 64)),(1,1,(.t 66)),(2,4,(.t 67))],none⟩,
⟨(some 69),.bsl [(.i .i64 0),(.s []),(.i .i64 0),(.i .i64 0),(.s []),.nilsl] 1 [(0,(.t 68))],none⟩,
⟨(some 70),.app 6 80 (.t 62) (.t 69) false false,none⟩,oa 71 5 8,ot 71 70 1]) ( .skip))))))) ( .region [
 ob 72 .add (.t 40) (.c (.i .i64 1)),
om 40 72])))
theorem eI:kV (iJ (.loop fu))=9444732964639778800520:=nr rfl
def HD:aE:=⟨138,
.seq ( .region [
 ⟨(some 1),.box (.t 0) false,none⟩,
⟨(some 2),.alloc [(.i .i64 0),(.i .i64 0),(.i .i64 0),(.i .i64 0),(.i .i64 0),(.i .i64 0),(.i .i64 0),.nilsl,.nilsl,.nilsl,.nilsl,.nilsl,.nilsl,(.i .i64 0)] false,none⟩,
⟨(some 3),.mv (.c (.i .i64 0)),none⟩]) (
.seq (
.seq ( .region [
 ol 18 1 14 true,oc 19 62 [(.t 18)],
om 4 19]) (
.seq ( .region [
om 20 4,
ob 21 .neq (.t 20) (.c (.i .i64 0))]) ( .cond (.t 21) (
.seq ( .region [
 ⟨(some 22),.build [(.i .i64 0),(.i .i64 0),(.i .i64 0),(.i .i64 0),(.i .i64 0),(.i .i64 0),(.i .i64 0),.nilsl,.nilsl,.nilsl,.nilsl,.nilsl,.nilsl,(.i .i64 0)] [],none⟩,
om 23 4,ot 2 22 14,
om 3 23]) ( .ret)) ( .skip)))) (
.seq ( .region [
 ol 24 1 14 true,⟨(some 5),.alloc [(.i .i64 0),(.i .i64 0),(.i .i64 0),(.i .i64 0),(.i .i64 0),(.i .i64 0),(.i .i64 0),.nilsl,.nilsl,.nilsl,.nilsl,.nilsl,.nilsl,(.i .i64 0)] false,none⟩,ot 5 24 14]) (
.seq ( .region [
 oa 25 5 7,⟨none,.st (.t 25) (.c .nilsl) 1,none⟩,oa 26 5 8,⟨none,.st (.t 26) (.c .nilsl) 1,none⟩,oa 27 5 9,⟨none,.st (.t 27) (.c .nilsl) 1,none⟩,oa 28 5 10,⟨none,.st (.t 28) (.c .nilsl) 1,none⟩]) (
.seq ( .region [
 oa 29 1 11,ol 30 29 1 false,oc 31 63 [(.t 30)],oa 32 5 11,ot 32 31 1]) (
.seq ( .region [
 oa 33 1 12,ol 34 33 1 false,oc 35 64 [(.t 34)],oa 36 5 12,ot 36 35 1]) (
.seq (
.seq ( .region [
 oa 37 1 8,ol 38 37 1 false,on 39 38,⟨(some 40),.mv (.c (.i .i64 0)),none⟩]) ( .block 0 ( .loop fu))) (
.seq (
.seq ( .region [
 oa 73 1 9,ol 74 73 1 false,on 75 74,⟨(some 76),.mv (.c (.i .i64 0)),none⟩]) ( .block 2 ( .loop eB))) (
.seq (
.seq ( .region [
 oa 112 1 10,ol 113 112 1 false,on 114 113,⟨(some 115),.mv (.c (.i .i64 0)),none⟩]) ( .block 4 ( .loop eV))) (
.seq ( .region [
 ol 137 5 14 true,ot 2 137 14,⟨(some 3),.mv (.c (.i .i64 0)),none⟩]) ( .ret)))))))))),[.cell 2 14 true,.tmp 3],false,none⟩
theorem k24:aC Tryz.prog 24 HD:=codeOk (hs:= []) Tryz.func24 (by kernel_rfl)
def eW:aN:=
.seq (
.seq ( .region [
om 112 13,oa 113 1 10,ol 114 113 1 false,on 115 114,
ob 116 .lss (.t 112) (.t 115)]) ( .cond (.t 116) ( .skip) ( .exit 4))) (
.seq ( .block 5 (
.seq ( .draws [([],oa 120 1 7),([],ol 121 120 1 false),([],oa 122 1 10),([1],ol 123 122 1 false),([],
om 124 13),([],oi 125 123 124 4),([1],ol 126 125 4 true),([],oc 127 18 [(.t 121),(.c (.i .i64 1)),(.t 126)]),([],
om 119 127),([],oe 128 119 0),([],oe 129 119 1),([1,3,6,7],⟨(some 14),.alloc [(.i .i64 0),(.i .i64 0),(.s []),.nilsl] false,none⟩),
([],ot 14 128 4),([],
om 15 129)]) (
.seq (
.seq ( .region [
om 130 15,
ob 131 .neq (.t 130) (.c (.i .i64 0))]) ( .cond (.t 131) (
.seq ( .region [
 ⟨(some 132),.build [(.i .i64 0),(.i .i64 0),(.i .i64 0),(.i .i64 0),(.i .i64 0),(.i .i64 0),(.i .i64 0),.nilsl,.nilsl,.nilsl,.nilsl,.nilsl,.nilsl,(.i .i64 0)] [],none⟩,
om 133 15,ot 2 132 14,
om 3 133]) ( .ret)) ( .skip))) ( .region [
 oa 134 5 10,ol 135 134 1 false,ol 136 14 4 true,⟨(some 137),.bsl [(.i .i64 0),(.i .i64 0),(.s []),.nilsl] 1 [(0,(.t 136))],none⟩,
⟨(some 138),.app 4 56 (.t 135) (.t 137) false false,none⟩,oa 139 5 10,ot 139 138 1])))) ( .region [
om 117 13,
ob 118 .add (.t 117) (.c (.i .i64 1)),
om 13 118]))
theorem zR:kV (iJ (.loop eW))=1393796569715867087811154763510026264961032:=nr rfl
def eX:aN:=
.seq (
.seq ( .region [
om 67 10,oa 68 1 9,ol 69 68 1 false,on 70 69,
ob 71 .lss (.t 67) (.t 70)]) ( .cond (.t 71) ( .skip) ( .exit 2))) (
.seq ( .block 3 (
.seq ( .draws [([],oa 75 1 7),([],ol 76 75 1 false),([],oa 77 1 9),([1],ol 78 77 1 false),([],
om 79 10),([],oi 80 78 79 5),([],oa 81 80 0),([1],ol 82 81 1 false),([],oa 83 1 9),([1,3,7],ol 84 83 1 false),([],
om 85 10),([],oi 86 84 85 5),([],oa 87 86 1),([1,3,7],ol 88 87 4 true),([],oc 89 18 [(.t 76),(.t 82),(.t 88)]),([],
om 74 89),([],oe 90 74 0),([],oe 91 74 1),([1,3,7,9,13,14],⟨(some 11),.alloc [(.i .i64 0),(.i .i64 0),(.s []),.nilsl] false,none⟩),
([],ot 11 90 4),([],
om 12 91)]) (
.seq (
.seq ( .region [
om 92 12,
ob 93 .neq (.t 92) (.c (.i .i64 0))]) ( .cond (.t 93) (
.seq ( .region [
 ⟨(some 94),.build [(.i .i64 0),(.i .i64 0),(.i .i64 0),(.i .i64 0),(.i .i64 0),(.i .i64 0),(.i .i64 0),.nilsl,.nilsl,.nilsl,.nilsl,.nilsl,.nilsl,(.i .i64 0)] [],none⟩,
om 95 12,ot 2 94 14,
om 3 95]) ( .ret)) ( .skip))) (
.seq ( .region [
 ol 96 11 4 true,oc 97 65 [(.t 96)],⟨(some 98),.un .not (.t 97),none⟩]) ( .cond (.t 98) ( .draws [([],oa 99 5 9),([],ol 100 99 1 false),([],oa 101 1 9),([1],ol 102 101 1 false),([],
om 103 10),([],oi 104 102 103 5),([],oa 105 104 0),([1],ol 106 105 1 false),([1,3,7],ol 107 11 4 true),([],⟨(some 108),.build [(.i .i64 0),(.i .i64 0),(.i .i64 0),(.s []),.nilsl] [(0,1,(.t 106)),(1,4,(.t 107))],none⟩),
([1],⟨(some 109),.bsl [(.i .i64 0),(.i .i64 0),(.i .i64 0),(.s []),.nilsl] 1 [(0,(.t 108))],none⟩),
([],⟨(some 110),.app 5 64 (.t 100) (.t 109) false false,none⟩),
([],oa 111 5 9),([],ot 111 110 1)]) ( .skip)))))) ( .region [
om 72 10,
ob 73 .add (.t 72) (.c (.i .i64 1)),
om 10 73]))
theorem lY:kV (iJ (.loop eX))=5192296858534680054577906652814344:=nr rfl
def fv:aN:=
.seq (
.seq ( .region [
om 27 6,oa 28 1 8,ol 29 28 1 false,on 30 29,
ob 31 .lss (.t 27) (.t 30)]) ( .cond (.t 31) ( .skip) ( .exit 0))) (
.seq ( .block 1 (
.seq ( .region [
 oa 34 1 8,ol 35 34 1 false,
om 36 6,oi 37 35 36 6,ol 38 37 6 true,⟨(some 7),.alloc [(.i .i64 0),(.s []),(.i .i64 0),(.i .i64 0),(.s []),.nilsl] false,none⟩,ot 7 38 6]) (
.seq ( .region [
 oa 40 1 7,ol 41 40 1 false,oa 42 7 0,ol 43 42 1 false,oa 44 7 2,ol 45 44 4 true,oc 46 18 [(.t 41),(.t 43),(.t 45)],
om 39 46,oe 47 39 0,oe 48 39 1,⟨(some 8),.alloc [(.i .i64 0),(.i .i64 0),(.s []),.nilsl] false,none⟩,ot 8 47 4,
om 9 48]) (
.seq (
.seq ( .region [
om 49 9,
ob 50 .neq (.t 49) (.c (.i .i64 0))]) ( .cond (.t 50) (
.seq ( .region [
 ⟨(some 51),.build [(.i .i64 0),(.i .i64 0),(.i .i64 0),(.i .i64 0),(.i .i64 0),(.i .i64 0),(.i .i64 0),.nilsl,.nilsl,.nilsl,.nilsl,.nilsl,.nilsl,(.i .i64 0)] [],none⟩,
om 52 9,ot 2 51 14,
om 3 52]) ( .ret)) ( .skip))) (
.seq ( .region [
 oa 53 8 0,ol 54 53 1 false,
ob 55 .neq (.t 54) (.c (.i .i64 4))]) ( .cond (.t 55) ( .region [
 oa 56 5 8,ol 57 56 1 false,oa 58 7 0,ol 59 58 1 false,oa 60 7 1,ol 61 60 1 false,ol 62 8 4 true,⟨(some 63),.build [(.i .i64 0),(.s []),(.i .i64 0),(.i .i64 0),(.s []),.nilsl] [(0,1,(.t 59)),(1,1,(.t 61)),(2,4,(.t 62))],none⟩,
⟨(some 64),.bsl [(.i .i64 0),(.s []),(.i .i64 0),(.i .i64 0),(.s []),.nilsl] 1 [(0,(.t 63))],none⟩,
⟨(some 65),.app 6 80 (.t 57) (.t 64) false false,none⟩,oa 66 5 8,ot 66 65 1]) ( .skip))))))) ( .region [
om 32 6,
ob 33 .add (.t 32) (.c (.i .i64 1)),
om 6 33]))
theorem eJ:kV (iJ (.loop fv))=147573952589542196168:=nr rfl
def HE:aE:=⟨141,
.seq ( .region [
 ⟨(some 1),.box (.t 0) false,none⟩,
⟨(some 2),.alloc [(.i .i64 0),(.i .i64 0),(.i .i64 0),(.i .i64 0),(.i .i64 0),(.i .i64 0),(.i .i64 0),.nilsl,.nilsl,.nilsl,.nilsl,.nilsl,.nilsl,(.i .i64 0)] false,none⟩,
⟨(some 3),.mv (.c (.i .i64 0)),none⟩]) (
.seq (
.seq ( .region [
 ol 16 1 14 true,oc 17 40 [(.t 16)],
om 4 17]) (
.seq ( .region [
om 18 4,
ob 19 .neq (.t 18) (.c (.i .i64 0))]) ( .cond (.t 19) (
.seq ( .region [
 ⟨(some 20),.build [(.i .i64 0),(.i .i64 0),(.i .i64 0),(.i .i64 0),(.i .i64 0),(.i .i64 0),(.i .i64 0),.nilsl,.nilsl,.nilsl,.nilsl,.nilsl,.nilsl,(.i .i64 0)] [],none⟩,
om 21 4,ot 2 20 14,
om 3 21]) ( .ret)) ( .skip)))) (
.seq ( .region [
 ol 22 1 14 true,⟨(some 5),.alloc [(.i .i64 0),(.i .i64 0),(.i .i64 0),(.i .i64 0),(.i .i64 0),(.i .i64 0),(.i .i64 0),.nilsl,.nilsl,.nilsl,.nilsl,.nilsl,.nilsl,(.i .i64 0)] false,none⟩,ot 5 22 14]) (
.seq ( .region [
 oa 23 5 7,⟨none,.st (.t 23) (.c .nilsl) 1,none⟩,oa 24 5 8,⟨none,.st (.t 24) (.c .nilsl) 1,none⟩,oa 25 5 9,⟨none,.st (.t 25) (.c .nilsl) 1,none⟩,oa 26 5 10,⟨none,.st (.t 26) (.c .nilsl) 1,none⟩]) (
.seq (
.seq ( .region [
 ⟨(some 6),.mv (.c (.i .i64 0)),none⟩]) ( .block 0 ( .loop fv))) (
.seq (
.seq ( .region [
 ⟨(some 10),.mv (.c (.i .i64 0)),none⟩]) ( .block 2 ( .loop eX))) (
.seq (
.seq ( .region [
 ⟨(some 13),.mv (.c (.i .i64 0)),none⟩]) ( .block 4 ( .loop eW))) (
.seq ( .region [
 ol 140 5 14 true,ot 2 140 14,⟨(some 3),.mv (.c (.i .i64 0)),none⟩]) ( .ret)))))))),[.cell 2 14 true,.tmp 3],false,none⟩
theorem k25:aC Tryz.prog 25 HE:=codeOk (hs:= []) Tryz.func25 (by kernel_rfl)
def mJ:aN:=
.seq (
.seq ( .region [
om 277 10,oa 278 2 12,ol 279 278 1 false,on 280 279,
ob 281 .lss (.t 277) (.t 280)]) ( .cond (.t 281) ( .skip) ( .exit 10))) (
.seq ( .block 11 (
.seq ( .draws [([],oa 284 2 12),([],ol 285 284 1 false),([],
om 286 10),([],oi 287 285 286 3),([],ol 288 287 3 true),([],oa 289 3 12),([1,4],ol 290 289 1 false),([],
om 291 10),([],oi 292 290 291 3),([1,4],ol 293 292 3 true),([],⟨(some 294),.eq true (.flat [.str,.int,.int]) (.t 288) (.t 293),none⟩)]) ( .cond (.t 294) (
.seq ( .region [
 ⟨(some 4),.mv (.c (.b false)),none⟩]) ( .ret)) ( .skip)))) ( .region [
om 282 10,
ob 283 .add (.t 282) (.c (.i .i64 1)),
om 10 283]))
def lI:aN:=
.seq (
.seq ( .region [
om 259 9,oa 260 2 11,ol 261 260 1 false,on 262 261,
ob 263 .lss (.t 259) (.t 262)]) ( .cond (.t 263) ( .skip) ( .exit 8))) (
.seq ( .block 9 (
.seq ( .draws [([],oa 266 2 11),([],ol 267 266 1 false),([],
om 268 9),([],oi 269 267 268 4),([],ol 270 269 4 true),([],oa 271 3 11),([1,4],ol 272 271 1 false),([],
om 273 9),([],oi 274 272 273 4),([1,4],ol 275 274 4 true),([],⟨(some 276),.eq true (.flat [.str,.str,.int,.int]) (.t 270) (.t 275),none⟩)]) ( .cond (.t 276) (
.seq ( .region [
 ⟨(some 4),.mv (.c (.b false)),none⟩]) ( .ret)) ( .skip)))) ( .region [
om 264 9,
ob 265 .add (.t 264) (.c (.i .i64 1)),
om 9 265]))
theorem HF:kV (iJ (.loop lI))=242832685191502235335369349785059793827038028721640115031964235556690972345613943312:=nr rfl
def lJ:aN:=
.seq (
.seq ( .region [
om 240 8,oa 241 2 10,ol 242 241 1 false,on 243 242,
ob 244 .lss (.t 240) (.t 243)]) ( .cond (.t 244) ( .skip) ( .exit 6))) (
.seq ( .block 7 (
.seq ( .draws [([],oa 247 2 10),([],ol 248 247 1 false),([],
om 249 8),([],oi 250 248 249 4),([],ol 251 250 4 true),([],oa 252 3 10),([1,4],ol 253 252 1 false),([],
om 254 8),([],oi 255 253 254 4),([1,4],ol 256 255 4 true),([],oc 257 60 [(.t 251),(.t 256)]),([],⟨(some 258),.un .not (.t 257),none⟩)]) ( .cond (.t 258) (
.seq ( .region [
 ⟨(some 4),.mv (.c (.b false)),none⟩]) ( .ret)) ( .skip)))) ( .region [
om 245 8,
ob 246 .add (.t 245) (.c (.i .i64 1)),
om 8 246]))
theorem HG:kV (iJ (.loop lJ))=926334947051464785004238296772002519907644049841227636696702550457103744499984:=nr rfl
def lK:aN:=
.seq (
.seq ( .region [
om 204 7,oa 205 2 9,ol 206 205 1 false,on 207 206,
ob 208 .lss (.t 204) (.t 207)]) ( .cond (.t 208) ( .skip) ( .exit 4))) (
.seq ( .block 5 (
.seq ( .draws [([],oa 211 2 9),([],ol 212 211 1 false),([],
om 213 7),([],oi 214 212 213 5),([],oa 215 214 0),([],ol 216 215 1 false),([],oa 217 3 9),([1,5],ol 218 217 1 false),([],
om 219 7),([],oi 220 218 219 5),([],oa 221 220 0),([1,5],ol 222 221 1 false),([],
ob 223 .neq (.t 216) (.t 222)),([],
om 224 223),([],⟨(some 225),.fa (.t 2) 9,(some (224,false))⟩),
([],⟨(some 226),.ld (.t 225) 1 false,(some (224,false))⟩),
([],⟨(some 227),.mv (.t 7),(some (224,false))⟩),
([],⟨(some 228),.ia (.t 226) (.t 227) 5,(some (224,false))⟩),
([],⟨(some 229),.fa (.t 228) 1,(some (224,false))⟩),
([],⟨(some 230),.ld (.t 229) 4 true,(some (224,false))⟩),
([],⟨(some 231),.fa (.t 3) 9,(some (224,false))⟩),
([15,19],⟨(some 232),.ld (.t 231) 1 false,(some (224,false))⟩),
([],⟨(some 233),.mv (.t 7),(some (224,false))⟩),
([],⟨(some 234),.ia (.t 232) (.t 233) 5,(some (224,false))⟩),
([],⟨(some 235),.fa (.t 234) 1,(some (224,false))⟩),
([15,19],⟨(some 236),.ld (.t 235) 4 true,(some (224,false))⟩),
([],⟨(some 237),.callf 60 [(.t 230),(.t 236)],(some (224,false))⟩),
([],⟨(some 238),.un .not (.t 237),(some (224,false))⟩),
([],⟨(some 239),.pick (.t 224) (.c (.b true)) (.t 238),none⟩)]) ( .cond (.t 239) (
.seq ( .region [
 ⟨(some 4),.mv (.c (.b false)),none⟩]) ( .ret)) ( .skip)))) ( .region [
om 209 7,
ob 210 .add (.t 209) (.c (.i .i64 1)),
om 7 210]))
theorem HH:kV (iJ (.loop lK))=1766847064752673320875153656334247122350025295235263710221081515927797904:=nr rfl
def lL:aN:=
.seq (
.seq ( .region [
om 153 6,oa 154 2 8,ol 155 154 1 false,on 156 155,
ob 157 .lss (.t 153) (.t 156)]) ( .cond (.t 157) ( .skip) ( .exit 2))) (
.seq ( .block 3 (
.seq ( .draws [([],oa 160 2 8),([],ol 161 160 1 false),([],
om 162 6),([],oi 163 161 162 6),([],oa 164 163 0),([],ol 165 164 1 false),([],oa 166 3 8),([1,5],ol 167 166 1 false),([],
om 168 6),([],oi 169 167 168 6),([],oa 170 169 0),([1,5],ol 171 170 1 false),([],
ob 172 .neq (.t 165) (.t 171)),([],
om 173 172),([],⟨(some 174),.fa (.t 2) 8,(some (173,false))⟩),
([],⟨(some 175),.ld (.t 174) 1 false,(some (173,false))⟩),
([],⟨(some 176),.mv (.t 6),(some (173,false))⟩),
([],⟨(some 177),.ia (.t 175) (.t 176) 6,(some (173,false))⟩),
([],⟨(some 178),.fa (.t 177) 1,(some (173,false))⟩),
([],⟨(some 179),.ld (.t 178) 1 false,(some (173,false))⟩),
([],⟨(some 180),.fa (.t 3) 8,(some (173,false))⟩),
([15,19],⟨(some 181),.ld (.t 180) 1 false,(some (173,false))⟩),
([],⟨(some 182),.mv (.t 6),(some (173,false))⟩),
([],⟨(some 183),.ia (.t 181) (.t 182) 6,(some (173,false))⟩),
([],⟨(some 184),.fa (.t 183) 1,(some (173,false))⟩),
([15,19],⟨(some 185),.ld (.t 184) 1 false,(some (173,false))⟩),
([],⟨(some 186),.bin .neq (.t 179) (.t 185),(some (173,false))⟩),
([],⟨(some 187),.pick (.t 173) (.c (.b true)) (.t 186),none⟩),
([],
om 188 187),([],⟨(some 189),.fa (.t 2) 8,(some (188,false))⟩),
([],⟨(some 190),.ld (.t 189) 1 false,(some (188,false))⟩),
([],⟨(some 191),.mv (.t 6),(some (188,false))⟩),
([],⟨(some 192),.ia (.t 190) (.t 191) 6,(some (188,false))⟩),
([],⟨(some 193),.fa (.t 192) 2,(some (188,false))⟩),
([],⟨(some 194),.ld (.t 193) 4 true,(some (188,false))⟩),
([],⟨(some 195),.fa (.t 3) 8,(some (188,false))⟩),
([30,34],⟨(some 196),.ld (.t 195) 1 false,(some (188,false))⟩),
([],⟨(some 197),.mv (.t 6),(some (188,false))⟩),
([],⟨(some 198),.ia (.t 196) (.t 197) 6,(some (188,false))⟩),
([],⟨(some 199),.fa (.t 198) 2,(some (188,false))⟩),
([30,34],⟨(some 200),.ld (.t 199) 4 true,(some (188,false))⟩),
([],⟨(some 201),.callf 60 [(.t 194),(.t 200)],(some (188,false))⟩),
([],⟨(some 202),.un .not (.t 201),(some (188,false))⟩),
([],⟨(some 203),.pick (.t 188) (.c (.b true)) (.t 202),none⟩)]) ( .cond (.t 203) (
.seq ( .region [
 ⟨(some 4),.mv (.c (.b false)),none⟩]) ( .ret)) ( .skip)))) ( .region [
om 158 6,
ob 159 .add (.t 158) (.c (.i .i64 1)),
om 6 159]))
theorem HI:kV (iJ (.loop lL))=25711008708143832990689851829779553174067492304563594302849104:=nr rfl
def mK:aN:=
.seq (
.seq ( .region [
om 117 5,oa 118 2 7,ol 119 118 1 false,on 120 119,
ob 121 .lss (.t 117) (.t 120)]) ( .cond (.t 121) ( .skip) ( .exit 0))) (
.seq ( .block 1 (
.seq ( .draws [([],oa 124 2 7),([],ol 125 124 1 false),([],
om 126 5),([],oi 127 125 126 5),([],oa 128 127 0),([],ol 129 128 1 false),([],oa 130 3 7),([1,5],ol 131 130 1 false),([],
om 132 5),([],oi 133 131 132 5),([],oa 134 133 0),([1,5],ol 135 134 1 false),([],
ob 136 .neq (.t 129) (.t 135)),([],
om 137 136),([],⟨(some 138),.fa (.t 2) 7,(some (137,false))⟩),
([],⟨(some 139),.ld (.t 138) 1 false,(some (137,false))⟩),
([],⟨(some 140),.mv (.t 5),(some (137,false))⟩),
([],⟨(some 141),.ia (.t 139) (.t 140) 5,(some (137,false))⟩),
([],⟨(some 142),.fa (.t 141) 1,(some (137,false))⟩),
([],⟨(some 143),.ld (.t 142) 4 true,(some (137,false))⟩),
([],⟨(some 144),.fa (.t 3) 7,(some (137,false))⟩),
([15,19],⟨(some 145),.ld (.t 144) 1 false,(some (137,false))⟩),
([],⟨(some 146),.mv (.t 5),(some (137,false))⟩),
([],⟨(some 147),.ia (.t 145) (.t 146) 5,(some (137,false))⟩),
([],⟨(some 148),.fa (.t 147) 1,(some (137,false))⟩),
([15,19],⟨(some 149),.ld (.t 148) 4 true,(some (137,false))⟩),
([],⟨(some 150),.callf 60 [(.t 143),(.t 149)],(some (137,false))⟩),
([],⟨(some 151),.un .not (.t 150),(some (137,false))⟩),
([],⟨(some 152),.pick (.t 137) (.c (.b true)) (.t 151),none⟩)]) ( .cond (.t 152) (
.seq ( .region [
 ⟨(some 4),.mv (.c (.b false)),none⟩]) ( .ret)) ( .skip)))) ( .region [
om 122 5,
ob 123 .add (.t 122) (.c (.i .i64 1)),
om 5 123]))
theorem HJ:kV (iJ (.loop mK))=11417981541481525548993173271482985208526929968:=nr rfl
def Vq:aE:=⟨295,
.seq ( .region [
 ⟨(some 2),.box (.t 0) false,none⟩,
⟨(some 3),.box (.t 1) false,none⟩,
⟨(some 4),.mv (.c (.b false)),none⟩]) (
.seq (
.seq ( .region [
 oa 11 2 0,ol 12 11 1 false,oa 13 3 0,ol 14 13 1 false,
ob 15 .neq (.t 12) (.t 14),
om 16 15,⟨(some 17),.fa (.t 2) 1,(some (16,false))⟩,
⟨(some 18),.ld (.t 17) 1 false,(some (16,false))⟩,
⟨(some 19),.fa (.t 3) 1,(some (16,false))⟩,
⟨(some 20),.ld (.t 19) 1 false,(some (16,false))⟩,
⟨(some 21),.bin .neq (.t 18) (.t 20),(some (16,false))⟩,
⟨(some 22),.pick (.t 16) (.c (.b true)) (.t 21),none⟩,
om 23 22,⟨(some 24),.fa (.t 2) 2,(some (23,false))⟩,
⟨(some 25),.ld (.t 24) 1 false,(some (23,false))⟩,
⟨(some 26),.fa (.t 3) 2,(some (23,false))⟩,
⟨(some 27),.ld (.t 26) 1 false,(some (23,false))⟩,
⟨(some 28),.bin .neq (.t 25) (.t 27),(some (23,false))⟩,
⟨(some 29),.pick (.t 23) (.c (.b true)) (.t 28),none⟩,
om 30 29,⟨(some 31),.fa (.t 2) 3,(some (30,false))⟩,
⟨(some 32),.ld (.t 31) 1 false,(some (30,false))⟩,
⟨(some 33),.fa (.t 3) 3,(some (30,false))⟩,
⟨(some 34),.ld (.t 33) 1 false,(some (30,false))⟩,
⟨(some 35),.bin .neq (.t 32) (.t 34),(some (30,false))⟩,
⟨(some 36),.pick (.t 30) (.c (.b true)) (.t 35),none⟩,
om 37 36,⟨(some 38),.fa (.t 2) 4,(some (37,false))⟩,
⟨(some 39),.ld (.t 38) 1 false,(some (37,false))⟩,
⟨(some 40),.fa (.t 3) 4,(some (37,false))⟩,
⟨(some 41),.ld (.t 40) 1 false,(some (37,false))⟩,
⟨(some 42),.bin .neq (.t 39) (.t 41),(some (37,false))⟩,
⟨(some 43),.pick (.t 37) (.c (.b true)) (.t 42),none⟩,
om 44 43,⟨(some 45),.fa (.t 2) 5,(some (44,false))⟩,
⟨(some 46),.ld (.t 45) 1 false,(some (44,false))⟩,
⟨(some 47),.fa (.t 3) 5,(some (44,false))⟩,
⟨(some 48),.ld (.t 47) 1 false,(some (44,false))⟩,
⟨(some 49),.bin .neq (.t 46) (.t 48),(some (44,false))⟩,
⟨(some 50),.pick (.t 44) (.c (.b true)) (.t 49),none⟩,
om 51 50,⟨(some 52),.fa (.t 2) 6,(some (51,false))⟩,
⟨(some 53),.ld (.t 52) 1 false,(some (51,false))⟩,
⟨(some 54),.fa (.t 3) 6,(some (51,false))⟩,
⟨(some 55),.ld (.t 54) 1 false,(some (51,false))⟩,
⟨(some 56),.bin .neq (.t 53) (.t 55),(some (51,false))⟩,
⟨(some 57),.pick (.t 51) (.c (.b true)) (.t 56),none⟩,
om 58 57,⟨(some 59),.fa (.t 2) 13,(some (58,false))⟩,
⟨(some 60),.ld (.t 59) 1 false,(some (58,false))⟩,
⟨(some 61),.fa (.t 3) 13,(some (58,false))⟩,
⟨(some 62),.ld (.t 61) 1 false,(some (58,false))⟩,
⟨(some 63),.bin .neq (.t 60) (.t 62),(some (58,false))⟩,
⟨(some 64),.pick (.t 58) (.c (.b true)) (.t 63),none⟩]) ( .cond (.t 64) (
.seq ( .region [
 ⟨(some 4),.mv (.c (.b false)),none⟩]) ( .ret)) ( .skip))) (
.seq (
.seq ( .region [
 oa 65 2 7,ol 66 65 1 false,on 67 66,oa 68 3 7,ol 69 68 1 false,on 70 69,
ob 71 .neq (.t 67) (.t 70),
om 72 71,⟨(some 73),.fa (.t 2) 8,(some (72,false))⟩,
⟨(some 74),.ld (.t 73) 1 false,(some (72,false))⟩,
⟨(some 75),.lenV (.t 74),(some (72,false))⟩,
⟨(some 76),.fa (.t 3) 8,(some (72,false))⟩,
⟨(some 77),.ld (.t 76) 1 false,(some (72,false))⟩,
⟨(some 78),.lenV (.t 77),(some (72,false))⟩,
⟨(some 79),.bin .neq (.t 75) (.t 78),(some (72,false))⟩,
⟨(some 80),.pick (.t 72) (.c (.b true)) (.t 79),none⟩,
om 81 80,⟨(some 82),.fa (.t 2) 9,(some (81,false))⟩,
⟨(some 83),.ld (.t 82) 1 false,(some (81,false))⟩,
⟨(some 84),.lenV (.t 83),(some (81,false))⟩,
⟨(some 85),.fa (.t 3) 9,(some (81,false))⟩,
⟨(some 86),.ld (.t 85) 1 false,(some (81,false))⟩,
⟨(some 87),.lenV (.t 86),(some (81,false))⟩,
⟨(some 88),.bin .neq (.t 84) (.t 87),(some (81,false))⟩,
⟨(some 89),.pick (.t 81) (.c (.b true)) (.t 88),none⟩,
om 90 89,⟨(some 91),.fa (.t 2) 10,(some (90,false))⟩,
⟨(some 92),.ld (.t 91) 1 false,(some (90,false))⟩,
⟨(some 93),.lenV (.t 92),(some (90,false))⟩,
⟨(some 94),.fa (.t 3) 10,(some (90,false))⟩,
⟨(some 95),.ld (.t 94) 1 false,(some (90,false))⟩,
⟨(some 96),.lenV (.t 95),(some (90,false))⟩,
⟨(some 97),.bin .neq (.t 93) (.t 96),(some (90,false))⟩,
⟨(some 98),.pick (.t 90) (.c (.b true)) (.t 97),none⟩,
om 99 98,⟨(some 100),.fa (.t 2) 11,(some (99,false))⟩,
⟨(some 101),.ld (.t 100) 1 false,(some (99,false))⟩,
⟨(some 102),.lenV (.t 101),(some (99,false))⟩,
⟨(some 103),.fa (.t 3) 11,(some (99,false))⟩,
⟨(some 104),.ld (.t 103) 1 false,(some (99,false))⟩,
⟨(some 105),.lenV (.t 104),(some (99,false))⟩,
⟨(some 106),.bin .neq (.t 102) (.t 105),(some (99,false))⟩,
⟨(some 107),.pick (.t 99) (.c (.b true)) (.t 106),none⟩,
om 108 107,⟨(some 109),.fa (.t 2) 12,(some (108,false))⟩,
⟨(some 110),.ld (.t 109) 1 false,(some (108,false))⟩,
⟨(some 111),.lenV (.t 110),(some (108,false))⟩,
⟨(some 112),.fa (.t 3) 12,(some (108,false))⟩,
⟨(some 113),.ld (.t 112) 1 false,(some (108,false))⟩,
⟨(some 114),.lenV (.t 113),(some (108,false))⟩,
⟨(some 115),.bin .neq (.t 111) (.t 114),(some (108,false))⟩,
⟨(some 116),.pick (.t 108) (.c (.b true)) (.t 115),none⟩]) ( .cond (.t 116) (
.seq ( .region [
 ⟨(some 4),.mv (.c (.b false)),none⟩]) ( .ret)) ( .skip))) (
.seq (
.seq ( .region [
 ⟨(some 5),.mv (.c (.i .i64 0)),none⟩]) ( .block 0 ( .loop mK))) (
.seq (
.seq ( .region [
 ⟨(some 6),.mv (.c (.i .i64 0)),none⟩]) ( .block 2 ( .loop lL))) (
.seq (
.seq ( .region [
 ⟨(some 7),.mv (.c (.i .i64 0)),none⟩]) ( .block 4 ( .loop lK))) (
.seq (
.seq ( .region [
 ⟨(some 8),.mv (.c (.i .i64 0)),none⟩]) ( .block 6 ( .loop lJ))) (
.seq (
.seq ( .region [
 ⟨(some 9),.mv (.c (.i .i64 0)),none⟩]) ( .block 8 ( .loop lI))) (
.seq (
.seq ( .region [
 ⟨(some 10),.mv (.c (.i .i64 0)),none⟩]) ( .block 10 ( .loop mJ))) (
.seq ( .region [
 ⟨(some 4),.mv (.c (.b true)),none⟩]) ( .ret)))))))))),[.tmp 4],false,none⟩
theorem k26:aC Tryz.prog 26 Vq:=codeOk (hs:= []) Tryz.func26 (by kernel_rfl)
def kj:aN:=
.seq (
.seq ( .region [
om 97 11,oa 98 1 10,ol 99 98 1 false,on 100 99,
ob 101 .lss (.t 97) (.t 100)]) ( .cond (.t 101) ( .skip) ( .exit 6))) (
.seq ( .block 7 (
.seq ( .draws [([],ol 104 1 14 true),([],oa 105 1 10),([0],ol 106 105 1 false),([],
om 107 11),([],oi 108 106 107 4),([0],ol 109 108 4 true),([],oc 110 75 [(.t 104),(.c (.i .i64 1)),(.t 109),(.c (.i .i64 2))]),([],
om 12 110)]) (
.seq ( .region [
om 111 12,
ob 112 .neq (.t 111) (.c (.i .i64 0))]) ( .cond (.t 112) (
.seq ( .region [
om 113 12,
om 2 113]) ( .ret)) ( .skip))))) ( .region [
om 102 11,
ob 103 .add (.t 102) (.c (.i .i64 1)),
om 11 103]))
def jE:aN:=
.seq (
.seq ( .region [
om 73 9,oa 74 1 9,ol 75 74 1 false,on 76 75,
ob 77 .lss (.t 73) (.t 76)]) ( .cond (.t 77) ( .skip) ( .exit 4))) (
.seq ( .block 5 (
.seq ( .draws [([],ol 80 1 14 true),([],oa 81 1 9),([0],ol 82 81 1 false),([],
om 83 9),([],oi 84 82 83 5),([],oa 85 84 0),([0],ol 86 85 1 false),([],oa 87 1 9),([0,2,6],ol 88 87 1 false),([],
om 89 9),([],oi 90 88 89 5),([],oa 91 90 1),([0,2,6],ol 92 91 4 true),([],oc 93 75 [(.t 80),(.t 86),(.t 92),(.c (.i .i64 1))]),([],
om 10 93)]) (
.seq ( .region [
om 94 10,
ob 95 .neq (.t 94) (.c (.i .i64 0))]) ( .cond (.t 95) (
.seq ( .region [
om 96 10,
om 2 96]) ( .ret)) ( .skip))))) ( .region [
om 78 9,
ob 79 .add (.t 78) (.c (.i .i64 1)),
om 9 79]))
theorem zS:kV (iJ (.loop jE))=158456315583795709447797474820:=nr rfl
def jF:aN:=
.seq (
.seq ( .region [
om 49 7,oa 50 1 8,ol 51 50 1 false,on 52 51,
ob 53 .lss (.t 49) (.t 52)]) ( .cond (.t 53) ( .skip) ( .exit 2))) (
.seq ( .block 3 (
.seq ( .draws [([],ol 56 1 14 true),([],oa 57 1 8),([0],ol 58 57 1 false),([],
om 59 7),([],oi 60 58 59 6),([],oa 61 60 0),([0],ol 62 61 1 false),([],oa 63 1 8),([0,2,6],ol 64 63 1 false),([],
om 65 7),([],oi 66 64 65 6),([],oa 67 66 2),([0,2,6],ol 68 67 4 true),([],oc 69 75 [(.t 56),(.t 62),(.t 68),(.c (.i .i64 4))]),([],
om 8 69)]) (
.seq ( .region [
om 70 8,
ob 71 .neq (.t 70) (.c (.i .i64 0))]) ( .cond (.t 71) (
.seq ( .region [
om 72 8,
om 2 72]) ( .ret)) ( .skip))))) ( .region [
om 54 7,
ob 55 .add (.t 54) (.c (.i .i64 1)),
om 7 55]))
theorem tX:kV (iJ (.loop jF))=9444732402789337006468:=nr rfl
def iK:aN:=
.seq (
.seq ( .region [
om 18 4,oa 19 1 7,ol 20 19 1 false,on 21 20,
ob 22 .lss (.t 18) (.t 21)]) ( .cond (.t 22) ( .skip) ( .exit 0))) (
.seq ( .block 1 (
.seq (
.seq ( .region [
 oa 25 1 7,ol 26 25 1 false,
om 27 4,oi 28 26 27 5,oa 29 28 0,ol 30 29 1 false,oc 31 74 [(.t 30)]]) ( .cond (.t 31) (
.seq ( .region [
 ⟨(some 2),.mv (.c (.i .i64 7)),none⟩]) ( .ret)) ( .skip))) (
.seq ( .draws [([],oa 33 1 7),([],ol 34 33 1 false),([],
om 35 4),([],⟨(some 36),.slV 5 (.t 34) none (some (.t 35)) none,none⟩),
([],oa 37 1 7),([1],ol 38 37 1 false),([],
om 39 4),([],oi 40 38 39 5),([],oa 41 40 1),([1],ol 42 41 4 true),([],oc 43 56 [(.t 36),(.c (.i .i64 0)),(.t 42)]),([],
om 32 43),([],oe 44 32 0),([],oe 45 32 1),([],
om 5 44),([],
om 6 45)]) (
.seq ( .region [
om 46 6,
ob 47 .neq (.t 46) (.c (.i .i64 0))]) ( .cond (.t 47) (
.seq ( .region [
om 48 6,
om 2 48]) ( .ret)) ( .skip)))))) ( .region [
om 23 4,
ob 24 .add (.t 23) (.c (.i .i64 1)),
om 4 24]))
theorem pY:kV (iJ (.loop iK))=562949953159284:=nr rfl
def Hw:aE:=⟨114,
.seq ( .region [
 ⟨(some 1),.box (.t 0) false,none⟩,
⟨(some 2),.mv (.c (.i .i64 0)),none⟩]) (
.seq (
.seq ( .region [
 ol 13 1 14 true,oc 14 73 [(.t 13)],
om 3 14]) (
.seq ( .region [
om 15 3,
ob 16 .neq (.t 15) (.c (.i .i64 0))]) ( .cond (.t 16) (
.seq ( .region [
om 17 3,
om 2 17]) ( .ret)) ( .skip)))) (
.seq (
.seq ( .region [
 ⟨(some 4),.mv (.c (.i .i64 0)),none⟩]) ( .block 0 ( .loop iK))) (
.seq (
.seq ( .region [
 ⟨(some 7),.mv (.c (.i .i64 0)),none⟩]) ( .block 2 ( .loop jF))) (
.seq (
.seq ( .region [
 ⟨(some 9),.mv (.c (.i .i64 0)),none⟩]) ( .block 4 ( .loop jE))) (
.seq (
.seq ( .region [
 ⟨(some 11),.mv (.c (.i .i64 0)),none⟩]) ( .block 6 ( .loop kj))) (
.seq ( .region [
 ⟨(some 2),.mv (.c (.i .i64 0)),none⟩]) ( .ret))))))),[.tmp 2],false,none⟩
theorem k40:aC Tryz.prog 40 Hw:=codeOk (hs:= []) Tryz.func40 (by kernel_rfl)
def Vr:aE:=⟨17,
.seq ( .region [
 ⟨(some 5),.box (.t 2) false,none⟩,
⟨(some 6),.mv (.c (.i .i64 0)),none⟩,
⟨(some 7),.mv (.c (.i .i64 0)),none⟩]) (
.seq ( .draws [([],
om 8 0),([],oc 9 96 [(.t 8)]),([],
om 10 1),([],
om 11 0),([],on 12 11),([1],ol 13 5 4 true),([],oc 14 97 [(.t 9),(.t 10),(.t 12),(.t 13)]),([],oe 15 14 0),([],oe 16 14 1),([],
om 6 15),([],
om 7 16)]) ( .ret)),[.tmp 6,.tmp 7],false,none⟩
theorem k52:aC Tryz.prog 52 Vr:=codeOk (hs:= []) Tryz.func52 (by kernel_rfl)
def RY:aN:=
.seq ( .region [
 ob 56 .lss (.t 55) (.t 54)]) (
.seq ( .cond (.t 56) ( .skip) ( .exit 4)) (
.seq ( .block 5 (
.seq ( .region [
om 57 55,oi 58 53 55 1,ol 59 58 1 false,
om 9 57,
om 10 59]) ( .region [
om 60 3,
om 61 8,⟨(some 62),.nck (.t 60),none⟩,oa 63 62 3,⟨(some 64),.iaA (.t 63) (.t 61) 4 1,none⟩,ol 65 64 1 false,
om 66 10,
om 67 9,⟨none,.mu (.one .str) (.t 65) (.t 66) (.t 67),none⟩]))) ( .region [
 ob 68 .add (.t 55) (.c (.i .i64 1)),
om 55 68])))
def RZ:aN:=
.seq ( .region [
 ob 44 .lss (.t 43) (.c (.i .i64 4))]) (
.seq ( .cond (.t 44) ( .skip) ( .exit 2)) (
.seq ( .block 3 (
.seq ( .region [
om 45 43,
om 8 45]) (
.seq ( .region [
om 46 3,
om 47 8,⟨(some 48),.mkmap true,none⟩,
⟨(some 49),.nck (.t 46),none⟩,oa 50 49 3,⟨(some 51),.iaA (.t 50) (.t 47) 4 1,none⟩,ot 51 48 1]) (
.seq ( .region [
om 52 8,oc 53 88 [(.t 52)],on 54 53,⟨(some 55),.mv (.c (.i .i64 0)),none⟩]) ( .block 4 ( .loop RY)))))) ( .region [
 ob 69 .add (.t 43) (.c (.i .i64 1)),
om 43 69])))
def R0:aN:=
.seq ( .region [
 ob 19 .lss (.t 18) (.t 17)]) (
.seq ( .cond (.t 19) ( .skip) ( .exit 0)) (
.seq ( .block 1 (
.seq ( .region [
om 20 18,oi 21 16 18 5,ol 22 21 5 true,⟨(some 5),.alloc [(.s []),(.i .i64 0),(.i .i64 0),(.s []),.nilsl] false,none⟩,
om 4 20,ot 5 22 5]) (
.seq ( .draws [([],
om 24 3),([],⟨(some 25),.nck (.t 24),none⟩),
([],oa 26 25 1),([],ol 27 26 1 false),([],oa 28 5 0),([3],ol 29 28 1 false),([],⟨(some 30),.lk (.one .str) (.t 27) (.t 29) (.i .i64 0) true,none⟩),
([],
om 23 30),([],oe 31 23 0),([],oe 32 23 1),([],
om 6 31),([],
om 7 32)]) (
.seq ( .region [
om 33 7,⟨(some 34),.un .not (.t 33),none⟩]) ( .cond (.t 34) ( .draws [([],
om 35 3),([],⟨(some 36),.nck (.t 35),none⟩),
([],oa 37 36 1),([],ol 38 37 1 false),([],oa 39 5 0),([3],ol 40 39 1 false),([],
om 41 4),([],⟨none,.mu (.one .str) (.t 38) (.t 40) (.t 41),none⟩)]) ( .skip)))))) ( .region [
 ob 42 .add (.t 18) (.c (.i .i64 1)),
om 18 42])))
def c53:aE:=⟨71,
.seq ( .region [
 ⟨(some 2),.mv (.c .nilptr),none⟩]) (
.seq ( .region [
om 11 0,⟨(some 12),.mkmap true,none⟩,
⟨(some 13),.mkmap true,none⟩,
⟨(some 14),.build [.nilsl,.nilmp,.nilmp,.nilmp,.nilmp,.nilmp,.nilmp] [(0,1,(.t 11)),(1,1,(.t 12)),(2,1,(.t 13))],none⟩,
⟨(some 15),.box (.t 14) true,none⟩,
om 3 15]) (
.seq (
.seq ( .region [
om 16 0,on 17 16,⟨(some 18),.mv (.c (.i .i64 0)),none⟩]) ( .block 0 ( .loop R0))) (
.seq (
.seq ( .region [
 ⟨(some 43),.mv (.c (.i .i64 0)),none⟩]) ( .block 2 ( .loop RZ))) (
.seq ( .region [
om 70 3,
om 2 70]) ( .ret))))),[.tmp 2],false,none⟩
theorem k53:aC Tryz.prog 53 c53:=codeOk (hs:= [12,13,15,48]) Tryz.func53 (by kernel_rfl)
def jG:aN:=
.seq ( .region [
 ob 52 .lss (.t 51) (.t 50)]) (
.seq ( .cond (.t 52) ( .skip) ( .exit 0)) (
.seq ( .block 1 (
.seq ( .region [
om 53 51,oi 54 49 51 4,ol 55 54 4 true,⟨(some 11),.alloc [(.i .i64 0),(.i .i64 0),(.s []),.nilsl] false,none⟩,
om 10 53,ot 11 55 4]) ( .draws [([],oa 56 9 3),([],ol 57 56 1 false),([],
om 58 10),([],
om 59 0),([],
om 60 1),([1],ol 61 11 4 true),([1],oc 62 54 [(.t 59),(.t 60),(.t 61)]),([],oi 63 57 58 4),([],ot 63 62 4)]))) ( .region [
 ob 64 .add (.t 51) (.c (.i .i64 1)),
om 51 64])))
theorem zT:kV (iJ (.loop jG))=36891236347605421056:=nr rfl
def PG:aE:=⟨68,
.seq ( .region [
 ⟨(some 5),.box (.t 2) false,none⟩,
⟨(some 6),.alloc [(.i .i64 0),(.i .i64 0),(.s []),.nilsl] false,none⟩]) (
.seq (
.seq ( .region [
 oa 12 5 0,ol 13 12 1 false,
ob 14 .eql (.t 13) (.c (.i .i64 6))]) ( .cond (.t 14) (
.seq (
.seq ( .region [
om 16 1,oa 17 5 2,ol 18 17 1 false,oc 19 89 [(.t 16),(.t 18)],
om 15 19,oe 20 15 0,oe 21 15 1,
om 7 20,
om 8 21]) (
.seq ( .region [
om 22 8,
ob 23 .eql (.t 22) (.c (.i .i64 0))]) ( .cond (.t 23) (
.seq ( .region [
 oa 24 5 2,ol 25 24 1 false,⟨(some 26),.build [(.i .i64 0),(.i .i64 0),(.s []),.nilsl] [(0,1,(.c (.i .i64 6))),(2,1,(.t 25))],none⟩,ot 6 26 4]) ( .ret)) ( .skip)))) (
.seq ( .region [
om 27 0,oa 28 5 2,ol 29 28 1 false,oc 30 99 [(.t 27),(.t 29)],oc 31 98 [(.t 30)],ot 6 31 4]) ( .ret))) ( .skip))) (
.seq (
.seq ( .region [
 oa 32 5 3,ol 33 32 1 false,on 34 33,
ob 35 .eql (.t 34) (.c (.i .i64 0))]) ( .cond (.t 35) (
.seq ( .region [
 oa 36 5 0,ol 37 36 1 false,oa 38 5 1,ol 39 38 1 false,⟨(some 40),.build [(.i .i64 0),(.i .i64 0),(.s []),.nilsl] [(0,1,(.t 37)),(1,1,(.t 39))],none⟩,ot 6 40 4]) ( .ret)) ( .skip))) (
.seq ( .draws [([],oa 41 5 0),([],ol 42 41 1 false),([],oa 43 5 3),([1],ol 44 43 1 false),([],on 45 44),([1],⟨(some 46),.mksl [(.i .i64 0),(.i .i64 0),(.s []),.nilsl] 56 (.t 45) false,none⟩),
([],⟨(some 47),.build [(.i .i64 0),(.i .i64 0),(.s []),.nilsl] [(0,1,(.t 42)),(3,1,(.t 46))],none⟩),
([1,3,5],⟨(some 9),.alloc [(.i .i64 0),(.i .i64 0),(.s []),.nilsl] false,none⟩),
([],ot 9 47 4)]) (
.seq (
.seq ( .region [
 oa 48 5 3,ol 49 48 1 false,on 50 49,⟨(some 51),.mv (.c (.i .i64 0)),none⟩]) ( .block 0 ( .loop jG))) (
.seq ( .region [
om 65 0,ol 66 9 4 true,oc 67 100 [(.t 65),(.t 66)],ot 6 67 4]) ( .ret)))))),[.cell 6 4 true],true,none⟩
theorem k54:aC Tryz.prog 54 PG:=codeOk (hs:= []) Tryz.func54 (by kernel_rfl)
def US:aE:=⟨10,
.seq ( .region [
 ⟨(some 1),.box (.t 0) false,none⟩,
⟨(some 2),.mv (.c (.i .i64 0)),none⟩]) (
.seq ( .region [
 ⟨(some 3),.alloc [(.i .i64 0)] true,none⟩,
⟨none,.st (.t 3) (.c (.i .i64 0)) 1,none⟩]) (
.seq (
.seq ( .region [
 ol 4 1 4 true,oc 5 101 [(.t 4),(.c (.i .i64 1)),(.t 3)],⟨(some 6),.un .not (.t 5),none⟩]) ( .cond (.t 6) (
.seq ( .region [
 ⟨(some 2),.mv (.c (.i .i64 10)),none⟩]) ( .ret)) ( .skip))) (
.seq (
.seq ( .region [
 ol 7 1 4 true,oc 8 102 [(.t 7)],⟨(some 9),.un .not (.t 8),none⟩]) ( .cond (.t 9) (
.seq ( .region [
 ⟨(some 2),.mv (.c (.i .i64 1)),none⟩]) ( .ret)) ( .skip))) (
.seq ( .region [
 ⟨(some 2),.mv (.c (.i .i64 0)),none⟩]) ( .ret))))),[.tmp 2],false,none⟩
theorem k55:aC Tryz.prog 55 US:=codeOk (hs:= [3]) Tryz.func55 (by kernel_rfl)
def UT:aE:=⟨22,
.seq ( .region [
 ⟨(some 5),.box (.t 2) false,none⟩,
⟨(some 6),.mv (.c (.i .i64 0)),none⟩,
⟨(some 7),.mv (.c (.i .i64 0)),none⟩]) (
.seq (
.seq ( .region [
 ol 9 5 4 true,oc 10 59 [(.t 9)],
om 8 10]) (
.seq ( .region [
om 11 8,
ob 12 .neq (.t 11) (.c (.i .i64 0))]) ( .cond (.t 12) (
.seq ( .region [
om 13 8,⟨(some 6),.mv (.c (.i .i64 0)),none⟩,
om 7 13]) ( .ret)) ( .skip)))) (
.seq ( .draws [([],
om 14 0),([],oc 15 104 [(.t 14)]),([],
om 16 0),([],
om 17 1),([1],ol 18 5 4 true),([],oc 19 103 [(.t 15),(.t 16),(.t 17),(.t 18)]),([],oe 20 19 0),([],oe 21 19 1),([],
om 6 20),([],
om 7 21)]) ( .ret))),[.tmp 6,.tmp 7],false,none⟩
theorem k56:aC Tryz.prog 56 UT:=codeOk (hs:= []) Tryz.func56 (by kernel_rfl)
def gG:aN:=
.seq (
.seq ( .region [
om 72 18,oa 73 7 3,ol 74 73 1 false,on 75 74,
ob 76 .lss (.t 72) (.t 75)]) ( .cond (.t 76) ( .skip) ( .exit 0))) (
.seq ( .block 1 (
.seq ( .region [
om 79 0,
om 80 1,
om 81 2,oa 82 7 3,ol 83 82 1 false,
om 84 18,oi 85 83 84 4,ol 86 85 4 true,oc 87 57 [(.t 79),(.t 80),(.t 81),(.t 86)],⟨(some 19),.alloc [(.i .i64 0),(.i .i64 0),(.s []),.nilsl] false,none⟩,ot 19 87 4]) (
.seq ( .region [
 oa 88 16 3,ol 89 88 1 false,ol 90 19 4 true,⟨(some 91),.bsl [(.i .i64 0),(.i .i64 0),(.s []),.nilsl] 1 [(0,(.t 90))],none⟩,
⟨(some 92),.app 4 56 (.t 89) (.t 91) false false,none⟩,oa 93 16 3,ot 93 92 1]) (
.seq ( .region [
 ol 95 19 4 true,oc 96 107 [(.t 95)],
om 94 96,oe 97 94 0,oe 98 94 1,
om 20 97,
om 21 98]) (
.seq ( .region [
om 99 21]) ( .cond (.t 99) ( .region [
om 100 17,
om 101 20,⟨(some 102),.bsl [(.i .i64 0)] 1 [(0,(.t 101))],none⟩,
⟨(some 103),.app 1 8 (.t 100) (.t 102) false false,none⟩,
om 17 103]) ( .skip))))))) ( .region [
om 77 18,
ob 78 .add (.t 77) (.c (.i .i64 1)),
om 18 78]))
theorem tY:kV (iJ (.loop gG))=20282409598929303941077610135552:=nr rfl
def L4:aE:=⟨118,
.seq ( .region [
 ⟨(some 7),.box (.t 3) false,none⟩,
⟨(some 8),.alloc [(.i .i64 0),(.i .i64 0),(.s []),.nilsl] false,none⟩]) (
.seq (
.seq ( .region [
 oa 22 7 0,ol 23 22 1 false,
ob 24 .eql (.t 23) (.c (.i .i64 6))]) ( .cond (.t 24) (
.seq (
.seq ( .region [
om 26 2,oa 27 7 2,ol 28 27 1 false,oc 29 85 [(.t 26),(.t 28)],
om 25 29,oe 30 25 0,oe 31 25 1,
om 9 30,
om 10 31]) (
.seq ( .region [
om 32 10,
ob 33 .eql (.t 32) (.c (.i .i64 0))]) ( .cond (.t 33) (
.seq ( .region [
 ol 34 7 4 true,ot 8 34 4]) ( .ret)) ( .skip)))) (
.seq ( .region [
om 35 1,oa 36 7 2,ol 37 36 1 false,oc 38 105 [(.t 35),(.t 37)],
om 11 38]) (
.seq ( .draws [([],
om 40 1),([],
om 41 11),([],⟨(some 42),.slV 5 (.t 40) none (some (.t 41)) none,none⟩),
([],
om 43 1),([],
om 44 11),([],oi 45 43 44 5),([],oa 46 45 1),([],ol 47 46 4 true),([],oc 48 56 [(.t 42),(.c (.i .i64 0)),(.t 47)]),([],
om 39 48),([],oe 49 39 0),([],oe 50 39 1),([],
om 12 49),([],
om 13 50)]) (
.seq ( .region [
om 51 12,
om 52 0,
om 53 11,oi 54 52 53 1,ol 55 54 1 false,oc 56 106 [(.t 51),(.t 55)],ot 8 56 4]) ( .ret))))) ( .skip))) (
.seq (
.seq ( .region [
 oa 57 7 3,ol 58 57 1 false,on 59 58,
ob 60 .eql (.t 59) (.c (.i .i64 0))]) ( .cond (.t 60) (
.seq ( .region [
 ol 61 7 4 true,ot 8 61 4]) ( .ret)) ( .skip))) (
.seq ( .region [
om 63 1,
om 64 2,ol 65 7 4 true,oc 66 56 [(.t 63),(.t 64),(.t 65)],
om 62 66,oe 67 62 0,oe 68 62 1,
om 14 67,
om 15 68]) (
.seq ( .region [
 oa 69 7 0,ol 70 69 1 false,⟨(some 71),.build [(.i .i64 0),(.i .i64 0),(.s []),.nilsl] [(0,1,(.t 70))],none⟩,
⟨(some 16),.alloc [(.i .i64 0),(.i .i64 0),(.s []),.nilsl] false,none⟩,ot 16 71 4]) (
.seq ( .region [
 ⟨(some 17),.mv (.c .nilsl),none⟩]) (
.seq (
.seq ( .region [
 ⟨(some 18),.mv (.c (.i .i64 0)),none⟩]) ( .block 0 ( .loop gG))) (
.seq (
.seq ( .region [
om 104 17,on 105 104,oa 106 16 3,ol 107 106 1 false,on 108 107,
ob 109 .eql (.t 105) (.t 108)]) ( .cond (.t 109) (
.seq ( .region [
om 110 14,oa 111 16 0,ol 112 111 1 false,
om 113 17,oc 114 108 [(.t 112),(.c (.i .i64 0)),(.t 113)],oc 115 106 [(.t 110),(.t 114)],ot 8 115 4]) ( .ret)) ( .skip))) (
.seq ( .region [
 ol 116 16 4 true,oc 117 109 [(.t 116)],ot 8 117 4]) ( .ret))))))))),[.cell 8 4 true],false,none⟩
theorem k57:aC Tryz.prog 57 L4:=codeOk (hs:= []) Tryz.func57 (by kernel_rfl)
def kl:aN:=
.seq (
.seq ( .region [
om 8 4,
om 9 0,on 10 9,
ob 11 .lss (.t 8) (.t 10)]) ( .cond (.t 11) ( .skip) ( .exit 0))) (
.seq ( .block 1 (
.seq ( .region [
 ⟨(some 5),.mv (.c (.i .i64 0)),none⟩]) (
.seq (
.seq ( .draws [([],
om 15 0),([],
om 16 4),([],⟨(some 17),.slV 5 (.t 15) none (some (.t 16)) none,none⟩),
([],
om 18 0),([],
om 19 4),([],oi 20 18 19 5),([],oa 21 20 1),([],ol 22 21 4 true),([],oc 23 56 [(.t 17),(.c (.i .i64 0)),(.t 22)]),([],
om 14 23),([],oe 24 14 0),([],oe 25 14 1),([],
om 6 24),([],
om 7 25)]) (
.seq ( .region [
om 26 7,
ob 27 .eql (.t 26) (.c (.i .i64 0))]) ( .cond (.t 27) ( .draws [([],
om 28 3),([],
om 29 0),([],
om 30 4),([],⟨(some 31),.slV 5 (.t 29) none (some (.t 30)) none,none⟩),
([],
om 32 0),([],
om 33 4),([],oi 34 32 33 5),([],oa 35 34 1),([],ol 36 35 4 true),([],oc 37 110 [(.t 28),(.t 31),(.c (.i .i64 0)),(.c .nilsl),(.t 36)]),([],
om 5 37)]) ( .skip)))) ( .region [
om 38 3,
om 39 5,⟨(some 40),.bsl [(.i .i64 0)] 1 [(0,(.t 39))],none⟩,
⟨(some 41),.app 1 8 (.t 38) (.t 40) false false,none⟩,
om 3 41])))) ( .region [
om 12 4,
ob 13 .add (.t 12) (.c (.i .i64 1)),
om 4 13]))
def Vs:aE:=⟨43,
.seq ( .region [
 ⟨(some 2),.mv (.c .nilsl),none⟩]) (
.seq ( .region [
 ⟨(some 3),.mv (.c .nilsl),none⟩]) (
.seq (
.seq ( .region [
 ⟨(some 4),.mv (.c (.i .i64 0)),none⟩]) ( .block 0 ( .loop kl))) (
.seq ( .region [
om 42 3,
om 2 42]) ( .ret)))),[.tmp 2],false,none⟩
theorem k58:aC Tryz.prog 58 Vs:=codeOk (hs:= []) Tryz.func58 (by kernel_rfl)
def R1:aE:=⟨19,
.seq ( .region [
 ⟨(some 1),.box (.t 0) false,none⟩,
⟨(some 2),.mv (.c (.i .i64 0)),none⟩]) (
.seq ( .region [
 ol 6 1 4 true,oc 7 111 [(.t 6)],
om 5 7,oe 8 5 0,oe 9 5 1,
om 3 8,
om 4 9]) (
.seq (
.seq ( .region [
om 10 3,
ob 11 .gtr (.t 10) (.c (.i .i64 200)),
om 12 11,⟨(some 13),.mv (.t 4),(some (12,false))⟩,
⟨(some 14),.bin .gtr (.t 13) (.c (.i .i64 16)),(some (12,false))⟩,
⟨(some 15),.pick (.t 12) (.c (.b true)) (.t 14),none⟩]) ( .cond (.t 15) (
.seq ( .region [
 ⟨(some 2),.mv (.c (.i .i64 10)),none⟩]) ( .ret)) ( .skip))) (
.seq (
.seq ( .region [
 ol 16 1 4 true,oc 17 112 [(.t 16)],⟨(some 18),.un .not (.t 17),none⟩]) ( .cond (.t 18) (
.seq ( .region [
 ⟨(some 2),.mv (.c (.i .i64 1)),none⟩]) ( .ret)) ( .skip))) (
.seq ( .region [
 ⟨(some 2),.mv (.c (.i .i64 0)),none⟩]) ( .ret))))),[.tmp 2],false,none⟩
theorem k59:aC Tryz.prog 59 R1:=codeOk (hs:= []) Tryz.func59 (by kernel_rfl)
def nP:aN:=
.seq (
.seq ( .region [
om 34 5,oa 35 2 3,ol 36 35 1 false,on 37 36,
ob 38 .lss (.t 34) (.t 37)]) ( .cond (.t 38) ( .skip) ( .exit 0))) (
.seq ( .block 1 (
.seq ( .draws [([],oa 41 2 3),([],ol 42 41 1 false),([],
om 43 5),([],oi 44 42 43 4),([],ol 45 44 4 true),([],oa 46 3 3),([1,4],ol 47 46 1 false),([],
om 48 5),([],oi 49 47 48 4),([1,4],ol 50 49 4 true),([],oc 51 60 [(.t 45),(.t 50)]),([],⟨(some 52),.un .not (.t 51),none⟩)]) ( .cond (.t 52) (
.seq ( .region [
 ⟨(some 4),.mv (.c (.b false)),none⟩]) ( .ret)) ( .skip)))) ( .region [
om 39 5,
ob 40 .add (.t 39) (.c (.i .i64 1)),
om 5 40]))
def Vt:aE:=⟨53,
.seq ( .region [
 ⟨(some 2),.box (.t 0) false,none⟩,
⟨(some 3),.box (.t 1) false,none⟩,
⟨(some 4),.mv (.c (.b false)),none⟩]) (
.seq (
.seq ( .region [
 oa 6 2 0,ol 7 6 1 false,oa 8 3 0,ol 9 8 1 false,
ob 10 .neq (.t 7) (.t 9),
om 11 10,⟨(some 12),.fa (.t 2) 1,(some (11,false))⟩,
⟨(some 13),.ld (.t 12) 1 false,(some (11,false))⟩,
⟨(some 14),.fa (.t 3) 1,(some (11,false))⟩,
⟨(some 15),.ld (.t 14) 1 false,(some (11,false))⟩,
⟨(some 16),.bin .neq (.t 13) (.t 15),(some (11,false))⟩,
⟨(some 17),.pick (.t 11) (.c (.b true)) (.t 16),none⟩,
om 18 17,⟨(some 19),.fa (.t 2) 2,(some (18,false))⟩,
⟨(some 20),.ld (.t 19) 1 false,(some (18,false))⟩,
⟨(some 21),.fa (.t 3) 2,(some (18,false))⟩,
⟨(some 22),.ld (.t 21) 1 false,(some (18,false))⟩,
⟨(some 23),.bin .neq (.t 20) (.t 22),(some (18,false))⟩,
⟨(some 24),.pick (.t 18) (.c (.b true)) (.t 23),none⟩,
om 25 24,⟨(some 26),.fa (.t 2) 3,(some (25,false))⟩,
⟨(some 27),.ld (.t 26) 1 false,(some (25,false))⟩,
⟨(some 28),.lenV (.t 27),(some (25,false))⟩,
⟨(some 29),.fa (.t 3) 3,(some (25,false))⟩,
⟨(some 30),.ld (.t 29) 1 false,(some (25,false))⟩,
⟨(some 31),.lenV (.t 30),(some (25,false))⟩,
⟨(some 32),.bin .neq (.t 28) (.t 31),(some (25,false))⟩,
⟨(some 33),.pick (.t 25) (.c (.b true)) (.t 32),none⟩]) ( .cond (.t 33) (
.seq ( .region [
 ⟨(some 4),.mv (.c (.b false)),none⟩]) ( .ret)) ( .skip))) (
.seq (
.seq ( .region [
 ⟨(some 5),.mv (.c (.i .i64 0)),none⟩]) ( .block 0 ( .loop nP))) (
.seq ( .region [
 ⟨(some 4),.mv (.c (.b true)),none⟩]) ( .ret)))),[.tmp 4],false,none⟩
theorem k60:aC Tryz.prog 60 Vt:=codeOk (hs:= []) Tryz.func60 (by kernel_rfl)
def ko:aN:=
.seq (
.seq ( .region [
om 5 4,oa 6 1 3,ol 7 6 1 false,on 8 7,
ob 9 .lss (.t 5) (.t 8),
om 10 9,⟨(some 11),.mv (.t 3),(some (10,true))⟩,
⟨(some 12),.bin .lss (.t 11) (.c (.i .i64 1000)),(some (10,true))⟩,
⟨(some 13),.pick (.t 10) (.t 12) (.c (.b false)),none⟩]) ( .cond (.t 13) ( .skip) ( .exit 0))) (
.seq ( .block 1 ( .region [
om 16 3,oa 17 1 3,ol 18 17 1 false,
om 19 4,oi 20 18 19 4,ol 21 20 4 true,oc 22 61 [(.t 21)],
ob 23 .add (.t 16) (.t 22),
om 3 23])) ( .region [
om 14 4,
ob 15 .add (.t 14) (.c (.i .i64 1)),
om 4 15]))
def Vu:aE:=⟨25,
.seq ( .region [
 ⟨(some 1),.box (.t 0) false,none⟩,
⟨(some 2),.mv (.c (.i .i64 0)),none⟩]) (
.seq ( .region [
 ⟨(some 3),.mv (.c (.i .i64 1)),none⟩]) (
.seq (
.seq ( .region [
 ⟨(some 4),.mv (.c (.i .i64 0)),none⟩]) ( .block 0 ( .loop ko))) (
.seq ( .region [
om 24 3,
om 2 24]) ( .ret)))),[.tmp 2],false,none⟩
theorem k61:aC Tryz.prog 61 Vu:=codeOk (hs:= []) Tryz.func61 (by kernel_rfl)
def kq:aN:=
.seq ( .region [
 ob 104 .lss (.t 103) (.t 102)]) (
.seq ( .cond (.t 104) ( .skip) ( .exit 8)) (
.seq ( .block 9 (
.seq ( .region [
 oi 105 101 103 4,ol 106 105 4 true,⟨(some 20),.alloc [(.i .i64 0),(.i .i64 0),(.s []),.nilsl] false,none⟩,ot 20 106 4]) (
.seq ( .region [
om 107 4,
om 108 12,ol 109 20 4 true,oc 110 115 [(.t 107),(.c (.i .i64 1)),(.t 108),(.t 109),(.c (.i .i64 2))],
om 21 110]) (
.seq ( .region [
om 111 21,
ob 112 .neq (.t 111) (.c (.i .i64 0))]) ( .cond (.t 112) (
.seq ( .region [
om 113 21,
om 2 113]) ( .ret)) ( .skip)))))) ( .region [
 ob 114 .add (.t 103) (.c (.i .i64 1)),
om 103 114])))
def jH:aN:=
.seq ( .region [
 ob 86 .lss (.t 85) (.t 84)]) (
.seq ( .cond (.t 86) ( .skip) ( .exit 6)) (
.seq ( .block 7 (
.seq ( .region [
 oi 87 83 85 5,ol 88 87 5 true,⟨(some 17),.alloc [(.i .i64 0),(.i .i64 0),(.i .i64 0),(.s []),.nilsl] false,none⟩,ot 17 88 5]) (
.seq ( .region [
om 89 4,oa 90 17 0,ol 91 90 1 false,
om 92 12,oa 93 17 1,ol 94 93 4 true,oc 95 115 [(.t 89),(.t 91),(.t 92),(.t 94),(.c (.i .i64 1))],
om 18 95]) (
.seq ( .region [
om 96 18,
ob 97 .neq (.t 96) (.c (.i .i64 0))]) ( .cond (.t 97) (
.seq ( .region [
om 98 18,
om 2 98]) ( .ret)) ( .skip)))))) ( .region [
 ob 99 .add (.t 85) (.c (.i .i64 1)),
om 85 99])))
theorem zU:kV (iJ (.loop jH))=1267611914602001733363113000964:=nr rfl
def jI:aN:=
.seq ( .region [
 ob 68 .lss (.t 67) (.t 66)]) (
.seq ( .cond (.t 68) ( .skip) ( .exit 4)) (
.seq ( .block 5 (
.seq ( .region [
 oi 69 65 67 6,ol 70 69 6 true,⟨(some 14),.alloc [(.i .i64 0),(.s []),(.i .i64 0),(.i .i64 0),(.s []),.nilsl] false,none⟩,ot 14 70 6]) (
.seq ( .region [
om 71 4,oa 72 14 0,ol 73 72 1 false,
om 74 12,oa 75 14 2,ol 76 75 4 true,oc 77 115 [(.t 71),(.t 73),(.t 74),(.t 76),(.c (.i .i64 4))],
om 15 77]) (
.seq ( .region [
om 78 15,
ob 79 .neq (.t 78) (.c (.i .i64 0))]) ( .cond (.t 79) (
.seq ( .region [
om 80 15,
om 2 80]) ( .ret)) ( .skip)))))) ( .region [
 ob 81 .add (.t 67) (.c (.i .i64 1)),
om 67 81])))
theorem tZ:kV (iJ (.loop jI))=4835555704505927022460932:=nr rfl
def jJ:aN:=
.seq (
.seq ( .region [
om 38 7,
ob 39 .leq (.t 38) (.c (.i .i64 3))]) ( .cond (.t 39) ( .skip) ( .exit 2))) (
.seq ( .block 3 (
.seq ( .region [
om 43 7,oa 44 6 0,ol 45 44 1 false,oc 46 89 [(.t 43),(.t 45)],
om 42 46,oe 47 42 0,oe 48 42 1,
om 8 47,
om 9 48]) (
.seq ( .region [
om 49 9,
ob 50 .eql (.t 49) (.c (.i .i64 0))]) ( .cond (.t 50) (
.seq ( .region [
 ⟨(some 2),.mv (.c (.i .i64 7)),none⟩]) ( .ret)) ( .skip))))) ( .region [
om 40 7,
ob 41 .add (.t 40) (.c (.i .i64 1)),
om 7 41]))
theorem ua:kV (iJ (.loop jJ))=2251524935779204:=nr rfl
def iL:aN:=
.seq ( .region [
 ob 34 .lss (.t 33) (.t 32)]) (
.seq ( .cond (.t 34) ( .skip) ( .exit 0)) (
.seq ( .block 1 (
.seq ( .region [
om 35 33,oi 36 31 33 5,ol 37 36 5 true,⟨(some 6),.alloc [(.s []),(.i .i64 0),(.i .i64 0),(.s []),.nilsl] false,none⟩,
om 5 35,ot 6 37 5]) (
.seq (
.seq ( .region [
 ⟨(some 7),.mv (.c (.i .i64 1)),none⟩]) ( .block 2 ( .loop jJ))) (
.seq ( .region [
om 52 4,
om 53 5,oc 54 114 [(.t 52),(.t 53)],
om 51 54,oe 55 51 0,oe 56 51 1,
om 10 55,
om 11 56]) (
.seq ( .region [
om 57 11,
ob 58 .neq (.t 57) (.c (.i .i64 0))]) ( .cond (.t 58) (
.seq ( .region [
om 59 11,
om 2 59]) ( .ret)) ( .skip))))))) ( .region [
 ob 60 .add (.t 33) (.c (.i .i64 1)),
om 33 60])))
theorem pZ:kV (iJ (.loop iL))=2305843000623763428:=nr rfl
def Hx:aE:=⟨115,
.seq ( .region [
 ⟨(some 1),.box (.t 0) false,none⟩,
⟨(some 2),.mv (.c (.i .i64 0)),none⟩]) (
.seq (
.seq ( .region [
 ol 22 1 14 true,oc 23 113 [(.t 22)],
om 3 23]) (
.seq ( .region [
om 24 3,
ob 25 .neq (.t 24) (.c (.i .i64 0))]) ( .cond (.t 25) (
.seq ( .region [
om 26 3,
om 2 26]) ( .ret)) ( .skip)))) (
.seq ( .region [
 oa 27 1 7,ol 28 27 1 false,oc 29 96 [(.t 28)],
om 4 29]) (
.seq (
.seq ( .region [
 oa 30 1 7,ol 31 30 1 false,on 32 31,⟨(some 33),.mv (.c (.i .i64 0)),none⟩]) ( .block 0 ( .loop iL))) (
.seq ( .region [
 oa 61 1 7,ol 62 61 1 false,on 63 62,
om 12 63]) (
.seq (
.seq ( .region [
 oa 64 1 8,ol 65 64 1 false,on 66 65,⟨(some 67),.mv (.c (.i .i64 0)),none⟩]) ( .block 4 ( .loop jI))) (
.seq (
.seq ( .region [
 oa 82 1 9,ol 83 82 1 false,on 84 83,⟨(some 85),.mv (.c (.i .i64 0)),none⟩]) ( .block 6 ( .loop jH))) (
.seq (
.seq ( .region [
 oa 100 1 10,ol 101 100 1 false,on 102 101,⟨(some 103),.mv (.c (.i .i64 0)),none⟩]) ( .block 8 ( .loop kq))) (
.seq ( .region [
 ⟨(some 2),.mv (.c (.i .i64 0)),none⟩]) ( .ret))))))))),[.tmp 2],false,none⟩
theorem k62:aC Tryz.prog 62 Hx:=codeOk (hs:= []) Tryz.func62 (by kernel_rfl)
def R2:aE:=⟨8,
.seq ( .region [
 ⟨(some 2),.mv (.c .nilsl),none⟩]) (
.seq (
.seq ( .region [
om 3 0,⟨(some 4),.eq false .sl (.t 3) (.c .nilsl),none⟩]) ( .cond (.t 4) (
.seq ( .region [
 ⟨(some 2),.mv (.c .nilsl),none⟩]) ( .ret)) ( .skip))) (
.seq ( .region [
 ⟨(some 5),.bsl [(.s []),(.s []),(.i .i64 0),(.i .i64 0)] 0 [],none⟩,
om 6 0,⟨(some 7),.app 4 48 (.t 5) (.t 6) false false,none⟩,
om 2 7]) ( .ret))),[.tmp 2],false,none⟩
theorem k63:aC Tryz.prog 63 R2:=codeOk (hs:= []) Tryz.func63 (by kernel_rfl)
def R3:aE:=⟨8,
.seq ( .region [
 ⟨(some 2),.mv (.c .nilsl),none⟩]) (
.seq (
.seq ( .region [
om 3 0,⟨(some 4),.eq false .sl (.t 3) (.c .nilsl),none⟩]) ( .cond (.t 4) (
.seq ( .region [
 ⟨(some 2),.mv (.c .nilsl),none⟩]) ( .ret)) ( .skip))) (
.seq ( .region [
 ⟨(some 5),.bsl [(.s []),(.i .i64 0),(.i .i64 0)] 0 [],none⟩,
om 6 0,⟨(some 7),.app 3 32 (.t 5) (.t 6) false false,none⟩,
om 2 7]) ( .ret))),[.tmp 2],false,none⟩
theorem k64:aC Tryz.prog 64 R3:=codeOk (hs:= []) Tryz.func64 (by kernel_rfl)
def R4:aE:=⟨16,
.seq ( .region [
 ⟨(some 1),.box (.t 0) false,none⟩,
⟨(some 2),.mv (.c (.b false)),none⟩]) (
.seq ( .region [
 oa 3 1 0,ol 4 3 1 false,
ob 5 .eql (.t 4) (.c (.i .i64 1)),
om 6 5,⟨(some 7),.fa (.t 1) 0,(some (6,false))⟩,
⟨(some 8),.ld (.t 7) 1 false,(some (6,false))⟩,
⟨(some 9),.bin .eql (.t 8) (.c (.i .i64 2)),(some (6,false))⟩,
⟨(some 10),.pick (.t 6) (.c (.b true)) (.t 9),none⟩,
om 11 10,⟨(some 12),.fa (.t 1) 1,(some (11,true))⟩,
⟨(some 13),.ld (.t 12) 1 false,(some (11,true))⟩,
⟨(some 14),.bin .eql (.t 13) (.c (.i .i64 0)),(some (11,true))⟩,
⟨(some 15),.pick (.t 11) (.t 14) (.c (.b false)),none⟩,
om 2 15]) ( .ret)),[.tmp 2],false,none⟩
theorem k65:aC Tryz.prog 65 R4:=codeOk (hs:= []) Tryz.func65 (by kernel_rfl)
def jK:aN:=
.seq (
.seq ( .region [
om 217 12,oa 218 1 10,ol 219 218 1 false,on 220 219,
ob 221 .lss (.t 217) (.t 220)]) ( .cond (.t 221) ( .skip) ( .exit 10))) (
.seq ( .block 11 (
.seq ( .region [
 oa 224 1 10,ol 225 224 1 false,
om 226 12,oi 227 225 226 4,ol 228 227 4 true,oc 229 59 [(.t 228)],
om 13 229]) (
.seq ( .region [
om 230 13,
ob 231 .neq (.t 230) (.c (.i .i64 0))]) ( .cond (.t 231) (
.seq ( .region [
om 232 13,
om 2 232]) ( .ret)) ( .skip))))) ( .region [
om 222 12,
ob 223 .add (.t 222) (.c (.i .i64 1)),
om 12 223]))
theorem HK:kV (iJ (.loop jK))=13803282068997790460496115888498683564037580154149972012102539825655812:=nr rfl
def iM:aN:=
.seq (
.seq ( .region [
om 192 10,oa 193 1 9,ol 194 193 1 false,on 195 194,
ob 196 .lss (.t 192) (.t 195)]) ( .cond (.t 196) ( .skip) ( .exit 8))) (
.seq ( .block 9 (
.seq (
.seq ( .region [
 oa 199 1 9,ol 200 199 1 false,
om 201 10,oi 202 200 201 5,oa 203 202 0,ol 204 203 1 false,oc 205 125 [(.t 204),(.c (.i .i64 1)),(.c (.i .i64 3))],⟨(some 206),.un .not (.t 205),none⟩]) ( .cond (.t 206) (
.seq ( .region [
 ⟨(some 2),.mv (.c (.i .i64 1)),none⟩]) ( .ret)) ( .skip))) (
.seq ( .region [
 oa 207 1 9,ol 208 207 1 false,
om 209 10,oi 210 208 209 5,oa 211 210 1,ol 212 211 4 true,oc 213 59 [(.t 212)],
om 11 213]) (
.seq ( .region [
om 214 11,
ob 215 .neq (.t 214) (.c (.i .i64 0))]) ( .cond (.t 215) (
.seq ( .region [
om 216 11,
om 2 216]) ( .ret)) ( .skip)))))) ( .region [
om 197 10,
ob 198 .add (.t 197) (.c (.i .i64 1)),
om 10 198]))
theorem zV:kV (iJ (.loop iM))=210624577060012638009155291531551441430123774698742778044587445252:=nr rfl
def iN:aN:=
.seq (
.seq ( .region [
om 161 8,
om 162 6,
ob 163 .lss (.t 161) (.t 162)]) ( .cond (.t 163) ( .skip) ( .exit 6))) (
.seq ( .block 7 (
.seq ( .draws [([],oa 166 1 8),([],ol 167 166 1 false),([],
om 168 8),([],oi 169 167 168 6),([],oa 170 169 0),([],ol 171 170 1 false),([],oa 172 7 0),([1,5],ol 173 172 1 false),([],
ob 174 .eql (.t 171) (.t 173)),([],
om 175 174),([],⟨(some 176),.fa (.t 1) 8,(some (175,true))⟩),
([],⟨(some 177),.ld (.t 176) 1 false,(some (175,true))⟩),
([],⟨(some 178),.mv (.t 8),(some (175,true))⟩),
([],⟨(some 179),.ia (.t 177) (.t 178) 6,(some (175,true))⟩),
([],⟨(some 180),.fa (.t 179) 1,(some (175,true))⟩),
([],⟨(some 181),.ld (.t 180) 1 false,(some (175,true))⟩),
([],⟨(some 182),.fa (.t 7) 1,(some (175,true))⟩),
([11,15],⟨(some 183),.ld (.t 182) 1 false,(some (175,true))⟩),
([],⟨(some 184),.bin .eql (.t 181) (.t 183),(some (175,true))⟩),
([],⟨(some 185),.pick (.t 175) (.t 184) (.c (.b false)),none⟩)]) ( .cond (.t 185) (
.seq ( .region [
 ⟨(some 2),.mv (.c (.i .i64 7)),none⟩]) ( .ret)) ( .skip)))) ( .region [
om 164 8,
ob 165 .add (.t 164) (.c (.i .i64 1)),
om 8 165]))
theorem ub:kV (iJ (.loop iN))=98079711692413612273128373330250122319033264507885453572:=nr rfl
def gH:aN:=
.seq (
.seq ( .region [
om 139 6,oa 140 1 8,ol 141 140 1 false,on 142 141,
ob 143 .lss (.t 139) (.t 142)]) ( .cond (.t 143) ( .skip) ( .exit 4))) (
.seq ( .block 5 (
.seq ( .region [
 oa 146 1 8,ol 147 146 1 false,
om 148 6,oi 149 147 148 6,ol 150 149 6 true,⟨(some 7),.alloc [(.i .i64 0),(.s []),(.i .i64 0),(.i .i64 0),(.s []),.nilsl] false,none⟩,ot 7 150 6]) (
.seq (
.seq ( .region [
 oa 151 7 0,ol 152 151 1 false,oc 153 125 [(.t 152),(.c (.i .i64 1)),(.c (.i .i64 3))],⟨(some 154),.un .not (.t 153),none⟩,
om 155 154,⟨(some 156),.fa (.t 7) 1,(some (155,false))⟩,
⟨(some 157),.ld (.t 156) 1 false,(some (155,false))⟩,
⟨(some 158),.callf 126 [(.t 157)],(some (155,false))⟩,
⟨(some 159),.un .not (.t 158),(some (155,false))⟩,
⟨(some 160),.pick (.t 155) (.c (.b true)) (.t 159),none⟩]) ( .cond (.t 160) (
.seq ( .region [
 ⟨(some 2),.mv (.c (.i .i64 1)),none⟩]) ( .ret)) ( .skip))) (
.seq (
.seq ( .region [
 ⟨(some 8),.mv (.c (.i .i64 0)),none⟩]) ( .block 6 ( .loop iN))) (
.seq ( .region [
 oa 186 7 2,ol 187 186 4 true,oc 188 59 [(.t 187)],
om 9 188]) (
.seq ( .region [
om 189 9,
ob 190 .neq (.t 189) (.c (.i .i64 0))]) ( .cond (.t 190) (
.seq ( .region [
om 191 9,
om 2 191]) ( .ret)) ( .skip)))))))) ( .region [
om 144 6,
ob 145 .add (.t 144) (.c (.i .i64 1)),
om 6 145]))
theorem uc:kV (iJ (.loop gH))=6277101735386680066937501969125693243111159424202737451972:=nr rfl
def jL:aN:=
.seq (
.seq ( .region [
om 111 4,
om 112 3,
ob 113 .lss (.t 111) (.t 112)]) ( .cond (.t 113) ( .skip) ( .exit 2))) (
.seq ( .block 3 (
.seq ( .draws [([],oa 116 1 7),([],ol 117 116 1 false),([],
om 118 4),([],oi 119 117 118 5),([],oa 120 119 0),([],ol 121 120 1 false),([],oa 122 1 7),([1,5],ol 123 122 1 false),([],
om 124 3),([],oi 125 123 124 5),([],oa 126 125 0),([1,5],ol 127 126 1 false),([],
ob 128 .eql (.t 121) (.t 127))]) ( .cond (.t 128) (
.seq ( .region [
 ⟨(some 2),.mv (.c (.i .i64 7)),none⟩]) ( .ret)) ( .skip)))) ( .region [
om 114 4,
ob 115 .add (.t 114) (.c (.i .i64 1)),
om 4 115]))
theorem ue:kV (iJ (.loop jL))=680562137693447659512934949615371812884:=nr rfl
def gV:aN:=
.seq (
.seq ( .region [
om 96 3,oa 97 1 7,ol 98 97 1 false,on 99 98,
ob 100 .lss (.t 96) (.t 99)]) ( .cond (.t 100) ( .skip) ( .exit 0))) (
.seq ( .block 1 (
.seq (
.seq ( .region [
 oa 103 1 7,ol 104 103 1 false,
om 105 3,oi 106 104 105 5,oa 107 106 0,ol 108 107 1 false,oc 109 126 [(.t 108)],⟨(some 110),.un .not (.t 109),none⟩]) ( .cond (.t 110) (
.seq ( .region [
 ⟨(some 2),.mv (.c (.i .i64 1)),none⟩]) ( .ret)) ( .skip))) (
.seq (
.seq ( .region [
 ⟨(some 4),.mv (.c (.i .i64 0)),none⟩]) ( .block 2 ( .loop jL))) (
.seq ( .region [
 oa 129 1 7,ol 130 129 1 false,
om 131 3,oi 132 130 131 5,oa 133 132 1,ol 134 133 4 true,oc 135 59 [(.t 134)],
om 5 135]) (
.seq ( .region [
om 136 5,
ob 137 .neq (.t 136) (.c (.i .i64 0))]) ( .cond (.t 137) (
.seq ( .region [
om 138 5,
om 2 138]) ( .ret)) ( .skip))))))) ( .region [
om 101 3,
ob 102 .add (.t 101) (.c (.i .i64 1)),
om 3 102]))
theorem qa:kV (iJ (.loop gV))=696898287454002745010476931682667753111612:=nr rfl
def nn:aE:=⟨235,
.seq ( .region [
 ⟨(some 1),.box (.t 0) false,none⟩,
⟨(some 2),.mv (.c (.i .i64 0)),none⟩]) (
.seq (
.seq ( .region [
 oa 14 1 0,ol 15 14 1 false,oc 16 125 [(.t 15),(.c (.i .i64 0)),(.c (.i .i64 1440))],⟨(some 17),.un .not (.t 16),none⟩,
om 18 17,⟨(some 19),.fa (.t 1) 1,(some (18,false))⟩,
⟨(some 20),.ld (.t 19) 1 false,(some (18,false))⟩,
⟨(some 21),.callf 125 [(.t 20),(.c (.i .i64 0)),(.c (.i .i64 1440))],(some (18,false))⟩,
⟨(some 22),.un .not (.t 21),(some (18,false))⟩,
⟨(some 23),.pick (.t 18) (.c (.b true)) (.t 22),none⟩,
om 24 23,⟨(some 25),.fa (.t 1) 2,(some (24,false))⟩,
⟨(some 26),.ld (.t 25) 1 false,(some (24,false))⟩,
⟨(some 27),.callf 125 [(.t 26),(.c (.i .i64 0)),(.c (.i .i64 1440))],(some (24,false))⟩,
⟨(some 28),.un .not (.t 27),(some (24,false))⟩,
⟨(some 29),.pick (.t 24) (.c (.b true)) (.t 28),none⟩,
om 30 29,⟨(some 31),.fa (.t 1) 3,(some (30,false))⟩,
⟨(some 32),.ld (.t 31) 1 false,(some (30,false))⟩,
⟨(some 33),.fa (.t 1) 2,(some (30,false))⟩,
⟨(some 34),.ld (.t 33) 1 false,(some (30,false))⟩,
⟨(some 35),.callf 125 [(.t 32),(.t 34),(.c (.i .i64 1440))],(some (30,false))⟩,
⟨(some 36),.un .not (.t 35),(some (30,false))⟩,
⟨(some 37),.pick (.t 30) (.c (.b true)) (.t 36),none⟩,
om 38 37,⟨(some 39),.fa (.t 1) 4,(some (38,false))⟩,
⟨(some 40),.ld (.t 39) 1 false,(some (38,false))⟩,
⟨(some 41),.callf 125 [(.t 40),(.c (.i .i64 0)),(.c (.i .i64 10080))],(some (38,false))⟩,
⟨(some 42),.un .not (.t 41),(some (38,false))⟩,
⟨(some 43),.pick (.t 38) (.c (.b true)) (.t 42),none⟩,
om 44 43,⟨(some 45),.fa (.t 1) 5,(some (44,false))⟩,
⟨(some 46),.ld (.t 45) 1 false,(some (44,false))⟩,
⟨(some 47),.callf 125 [(.t 46),(.c (.i .i64 0)),(.c (.i .i64 1439))],(some (44,false))⟩,
⟨(some 48),.un .not (.t 47),(some (44,false))⟩,
⟨(some 49),.pick (.t 44) (.c (.b true)) (.t 48),none⟩,
om 50 49,⟨(some 51),.fa (.t 1) 6,(some (50,false))⟩,
⟨(some 52),.ld (.t 51) 1 false,(some (50,false))⟩,
⟨(some 53),.callf 125 [(.t 52),(.c (.i .i64 0)),(.c (.i .i64 1439))],(some (50,false))⟩,
⟨(some 54),.un .not (.t 53),(some (50,false))⟩,
⟨(some 55),.pick (.t 50) (.c (.b true)) (.t 54),none⟩,
om 56 55,⟨(some 57),.fa (.t 1) 13,(some (56,false))⟩,
⟨(some 58),.ld (.t 57) 1 false,(some (56,false))⟩,
⟨(some 59),.callf 125 [(.t 58),(.c (.i .i64 0)),(.c (.i .i64 599999))],(some (56,false))⟩,
⟨(some 60),.un .not (.t 59),(some (56,false))⟩,
⟨(some 61),.pick (.t 56) (.c (.b true)) (.t 60),none⟩]) ( .cond (.t 61) (
.seq ( .region [
 ⟨(some 2),.mv (.c (.i .i64 5)),none⟩]) ( .ret)) ( .skip))) (
.seq (
.seq ( .region [
 oa 62 1 7,ol 63 62 1 false,on 64 63,
ob 65 .gtr (.t 64) (.c (.i .i64 32)),
om 66 65,⟨(some 67),.fa (.t 1) 8,(some (66,false))⟩,
⟨(some 68),.ld (.t 67) 1 false,(some (66,false))⟩,
⟨(some 69),.lenV (.t 68),(some (66,false))⟩,
⟨(some 70),.bin .gtr (.t 69) (.c (.i .i64 40)),(some (66,false))⟩,
⟨(some 71),.pick (.t 66) (.c (.b true)) (.t 70),none⟩,
om 72 71,⟨(some 73),.fa (.t 1) 9,(some (72,false))⟩,
⟨(some 74),.ld (.t 73) 1 false,(some (72,false))⟩,
⟨(some 75),.lenV (.t 74),(some (72,false))⟩,
⟨(some 76),.bin .gtr (.t 75) (.c (.i .i64 16)),(some (72,false))⟩,
⟨(some 77),.pick (.t 72) (.c (.b true)) (.t 76),none⟩,
om 78 77,⟨(some 79),.fa (.t 1) 10,(some (78,false))⟩,
⟨(some 80),.ld (.t 79) 1 false,(some (78,false))⟩,
⟨(some 81),.lenV (.t 80),(some (78,false))⟩,
⟨(some 82),.bin .gtr (.t 81) (.c (.i .i64 1)),(some (78,false))⟩,
⟨(some 83),.pick (.t 78) (.c (.b true)) (.t 82),none⟩,
om 84 83,⟨(some 85),.fa (.t 1) 11,(some (84,false))⟩,
⟨(some 86),.ld (.t 85) 1 false,(some (84,false))⟩,
⟨(some 87),.lenV (.t 86),(some (84,false))⟩,
⟨(some 88),.bin .gtr (.t 87) (.c (.i .i64 16)),(some (84,false))⟩,
⟨(some 89),.pick (.t 84) (.c (.b true)) (.t 88),none⟩,
om 90 89,⟨(some 91),.fa (.t 1) 12,(some (90,false))⟩,
⟨(some 92),.ld (.t 91) 1 false,(some (90,false))⟩,
⟨(some 93),.lenV (.t 92),(some (90,false))⟩,
⟨(some 94),.bin .gtr (.t 93) (.c (.i .i64 16)),(some (90,false))⟩,
⟨(some 95),.pick (.t 90) (.c (.b true)) (.t 94),none⟩]) ( .cond (.t 95) (
.seq ( .region [
 ⟨(some 2),.mv (.c (.i .i64 10)),none⟩]) ( .ret)) ( .skip))) (
.seq (
.seq ( .region [
 ⟨(some 3),.mv (.c (.i .i64 0)),none⟩]) ( .block 0 ( .loop gV))) (
.seq (
.seq ( .region [
 ⟨(some 6),.mv (.c (.i .i64 0)),none⟩]) ( .block 4 ( .loop gH))) (
.seq (
.seq ( .region [
 ⟨(some 10),.mv (.c (.i .i64 0)),none⟩]) ( .block 8 ( .loop iM))) (
.seq (
.seq ( .region [
 ⟨(some 12),.mv (.c (.i .i64 0)),none⟩]) ( .block 10 ( .loop jK))) (
.seq ( .region [
 ol 233 1 14 true,oc 234 127 [(.t 233)],
om 2 234]) ( .ret)))))))),[.tmp 2],false,none⟩
theorem k73:aC Tryz.prog 73 nn:=codeOk (hs:= []) Tryz.func73 (by kernel_rfl)
def kr:aN:=
.seq (
.seq ( .region [
om 6 3,
ob 7 .leq (.t 6) (.c (.i .i64 3))]) ( .cond (.t 7) ( .skip) ( .exit 0))) (
.seq ( .block 1 (
.seq ( .region [
om 11 3,
om 12 0,oc 13 85 [(.t 11),(.t 12)],
om 10 13,oe 14 10 0,oe 15 10 1,
om 4 14,
om 5 15]) (
.seq ( .region [
om 16 5,
ob 17 .eql (.t 16) (.c (.i .i64 0))]) ( .cond (.t 17) (
.seq ( .region [
 ⟨(some 2),.mv (.c (.b true)),none⟩]) ( .ret)) ( .skip))))) ( .region [
om 8 3,
ob 9 .add (.t 8) (.c (.i .i64 1)),
om 3 9]))
def UU:aE:=⟨18,
.seq ( .region [
 ⟨(some 2),.mv (.c (.b false)),none⟩]) (
.seq (
.seq ( .region [
 ⟨(some 3),.mv (.c (.i .i64 1)),none⟩]) ( .block 0 ( .loop kr))) (
.seq ( .region [
 ⟨(some 2),.mv (.c (.b false)),none⟩]) ( .ret))),[.tmp 2],false,none⟩
theorem k74:aC Tryz.prog 74 UU:=codeOk (hs:= []) Tryz.func74 (by kernel_rfl)
def R5:aE:=⟨27,
.seq ( .region [
 ⟨(some 4),.box (.t 0) false,none⟩,
⟨(some 6),.box (.t 2) false,none⟩,
⟨(some 8),.mv (.c (.i .i64 0)),none⟩]) (
.seq ( .region [
 oa 12 4 7,ol 13 12 1 false,
om 14 1,ol 15 6 4 true,oc 16 56 [(.t 13),(.t 14),(.t 15)],
om 11 16,oe 17 11 0,oe 18 11 1,
om 9 17,
om 10 18]) (
.seq (
.seq ( .region [
om 19 10,
ob 20 .eql (.t 19) (.c (.i .i64 0)),
om 21 20,⟨(some 22),.mv (.t 9),(some (21,true))⟩,
⟨(some 23),.mv (.t 3),(some (21,true))⟩,
⟨(some 24),.bin .neq (.t 22) (.t 23),(some (21,true))⟩,
⟨(some 25),.pick (.t 21) (.t 24) (.c (.b false)),none⟩]) ( .cond (.t 25) (
.seq ( .region [
 ⟨(some 8),.mv (.c (.i .i64 9)),none⟩]) ( .ret)) ( .skip))) (
.seq ( .region [
om 26 10,
om 8 26]) ( .ret)))),[.tmp 8],false,none⟩
theorem k75:aC Tryz.prog 75 R5:=codeOk (hs:= []) Tryz.func75 (by kernel_rfl)
def R6:aN:=
.seq (
.seq ( .region [
om 29 6,
om 30 4,on 31 30,
ob 32 .lss (.t 29) (.t 31)]) ( .cond (.t 32) ( .skip) ( .exit 3))) (
.seq ( .block 4 ( .region [
om 35 3,
om 36 4,
om 37 6,oi 38 36 37 1,ol 39 38 1 false,
ob 40 .add (.c (.s [97,102,116,101,114,46])) (.t 39),⟨(some 41),.bsl [(.s [])] 1 [(0,(.t 40))],none⟩,
⟨(some 42),.app 1 16 (.t 35) (.t 41) false false,none⟩,
om 3 42])) ( .region [
om 33 6,
ob 34 .add (.t 33) (.c (.i .i64 1)),
om 6 34]))
def R7:aN:=
.seq (
.seq ( .region [
om 15 5,
om 16 4,on 17 16,
ob 18 .lss (.t 15) (.t 17)]) ( .cond (.t 18) ( .skip) ( .exit 1))) (
.seq ( .block 2 ( .region [
om 21 3,
om 22 4,
om 23 5,oi 24 22 23 1,ol 25 24 1 false,
ob 26 .add (.c (.s [98,101,102,111,114,101,46])) (.t 25),⟨(some 27),.bsl [(.s [])] 1 [(0,(.t 26))],none⟩,
⟨(some 28),.app 1 16 (.t 21) (.t 27) false false,none⟩,
om 3 28])) ( .region [
om 19 5,
ob 20 .add (.t 19) (.c (.i .i64 1)),
om 5 20]))
def Vv:aE:=⟨47,
.seq ( .region [
 ⟨(some 2),.mv (.c .nilsl),none⟩]) (
.seq (
.seq ( .region [
om 7 0]) ( .block 0 (
.seq ( .region [
 ob 9 .eql (.t 7) (.c (.i .i64 1)),
om 8 9]) ( .cond (.t 8) (
.seq ( .region [
 oc 10 132 [],
om 2 10]) ( .ret)) (
.seq ( .region [
 ob 12 .eql (.t 7) (.c (.i .i64 2)),
om 11 12]) ( .cond (.t 11) (
.seq ( .region [
 ⟨(some 13),.bsl [(.s [])] 3 [(0,(.c (.s [114,101,115,116]))),(1,(.c (.s [110,105,103,104,116,115]))),(2,(.c (.s [104,111,109,101])))],none⟩,
om 3 13]) (
.seq ( .region [
 oc 14 132 [],
om 4 14]) (
.seq (
.seq ( .region [
 ⟨(some 5),.mv (.c (.i .i64 0)),none⟩]) ( .block 1 ( .loop R7))) (
.seq (
.seq ( .region [
 ⟨(some 6),.mv (.c (.i .i64 0)),none⟩]) ( .block 3 ( .loop R6))) (
.seq ( .region [
om 43 3,
om 2 43]) ( .ret)))))) (
.seq ( .region [
 ob 45 .eql (.t 7) (.c (.i .i64 3)),
om 44 45]) ( .cond (.t 44) (
.seq ( .region [
 ⟨(some 46),.bsl [(.s [])] 7 [(0,(.c (.s [100,117,116,105,101,115]))),(1,(.c (.s [108,101,103,115]))),(2,(.c (.s [104,101,97,100,115]))),(3,(.c (.s [100,97,121,115]))),(4,(.c (.s [98,108,111,99,107]))),(5,(.c (.s [115,112,97,110]))),(6,(.c (.s [99,114,101,100,105,116])))],none⟩,
om 2 46]) ( .ret)) ( .skip))))))))) (
.seq ( .region [
 ⟨(some 2),.mv (.c .nilsl),none⟩]) ( .ret))),[.tmp 2],false,none⟩
theorem k84:aC Tryz.prog 84 Vv:=codeOk (hs:= []) Tryz.func84 (by kernel_rfl)
def nQ:aN:=
.seq (
.seq ( .region [
om 44 7,
om 45 6,on 46 45,
ob 47 .lss (.t 44) (.t 46)]) ( .cond (.t 47) ( .skip) ( .exit 0))) (
.seq ( .block 1 (
.seq (
.seq ( .region [
om 50 6,
om 51 7,oi 52 50 51 1,ol 53 52 1 false,
om 54 1,
ob 55 .neq (.t 53) (.t 54)]) ( .cond (.t 55) ( .exit 1) ( .skip))) (
.seq (
.seq ( .region [
om 56 1]) ( .block 2 (
.seq (
.seq ( .region [
 ob 58 .eql (.t 56) (.c (.s [108,101,103,115])),
om 57 58]) ( .cond (.t 57) ( .skip) (
.seq ( .region [
 ob 59 .eql (.t 56) (.c (.s [104,101,97,100,115])),
om 57 59]) ( .cond (.t 57) ( .skip) (
.seq ( .region [
 ob 60 .eql (.t 56) (.c (.s [116,121,112,101,115])),
om 57 60]) ( .cond (.t 57) ( .skip) (
.seq ( .region [
 ob 61 .eql (.t 56) (.c (.s [110,105,103,104,116,115])),
om 57 61]) ( .cond (.t 57) ( .skip) (
.seq ( .region [
 ob 62 .eql (.t 56) (.c (.s [100,117,116,105,101,115])),
om 57 62]) ( .cond (.t 57) ( .skip) ( .region [
 ob 63 .eql (.t 56) (.c (.s [100,97,121,115])),
om 57 63]))))))))))) ( .cond (.t 57) (
.seq ( .region [
 ⟨(some 4),.mv (.c (.i .i64 1)),none⟩,
⟨(some 5),.mv (.c (.i .i64 0)),none⟩]) ( .ret)) (
.seq (
.seq ( .region [
 ob 65 .eql (.t 56) (.c (.s [115,116,97,114,116])),
om 64 65]) ( .cond (.t 64) ( .skip) ( .region [
 ob 66 .eql (.t 56) (.c (.s [101,110,100])),
om 64 66]))) ( .cond (.t 64) (
.seq ( .region [
 ⟨(some 4),.mv (.c (.i .i64 3)),none⟩,
⟨(some 5),.mv (.c (.i .i64 0)),none⟩]) ( .ret)) (
.seq ( .region [
 ob 68 .eql (.t 56) (.c (.s [104,111,109,101])),
om 67 68]) ( .cond (.t 67) (
.seq ( .region [
 ⟨(some 4),.mv (.c (.i .i64 4)),none⟩,
⟨(some 5),.mv (.c (.i .i64 0)),none⟩]) ( .ret)) ( .skip))))))))) (
.seq ( .region [
 ⟨(some 4),.mv (.c (.i .i64 2)),none⟩,
⟨(some 5),.mv (.c (.i .i64 0)),none⟩]) ( .ret))))) ( .region [
om 48 7,
ob 49 .add (.t 48) (.c (.i .i64 1)),
om 7 49]))
def zy:aE:=⟨69,
.seq ( .region [
 ⟨(some 4),.mv (.c (.i .i64 0)),none⟩,
⟨(some 5),.mv (.c (.i .i64 0)),none⟩]) (
.seq (
.seq ( .region [
om 8 0,
ob 9 .eql (.t 8) (.c (.i .i64 2)),
om 10 9,⟨(some 11),.mv (.t 1),(some (10,true))⟩,
⟨(some 12),.lenS (.t 11),(some (10,true))⟩,
⟨(some 13),.bin .gtr (.t 12) (.c (.i .i64 7)),(some (10,true))⟩,
⟨(some 14),.pick (.t 10) (.t 13) (.c (.b false)),none⟩,
om 15 14,⟨(some 16),.mv (.t 1),(some (15,true))⟩,
⟨(some 17),.slS (.t 16) none (some (.c (.i .i64 7))),(some (15,true))⟩,
⟨(some 18),.bin .eql (.t 17) (.c (.s [98,101,102,111,114,101,46])),(some (15,true))⟩,
⟨(some 19),.pick (.t 15) (.t 18) (.c (.b false)),none⟩]) ( .cond (.t 19) (
.seq ( .region [
om 20 1,⟨(some 21),.slS (.t 20) (some (.c (.i .i64 7))) none,none⟩,oc 22 85 [(.c (.i .i64 1)),(.t 21)],oe 23 22 0,oe 24 22 1,
om 4 23,
om 5 24]) ( .ret)) ( .skip))) (
.seq (
.seq ( .region [
om 25 0,
ob 26 .eql (.t 25) (.c (.i .i64 2)),
om 27 26,⟨(some 28),.mv (.t 1),(some (27,true))⟩,
⟨(some 29),.lenS (.t 28),(some (27,true))⟩,
⟨(some 30),.bin .gtr (.t 29) (.c (.i .i64 6)),(some (27,true))⟩,
⟨(some 31),.pick (.t 27) (.t 30) (.c (.b false)),none⟩,
om 32 31,⟨(some 33),.mv (.t 1),(some (32,true))⟩,
⟨(some 34),.slS (.t 33) none (some (.c (.i .i64 6))),(some (32,true))⟩,
⟨(some 35),.bin .eql (.t 34) (.c (.s [97,102,116,101,114,46])),(some (32,true))⟩,
⟨(some 36),.pick (.t 32) (.t 35) (.c (.b false)),none⟩]) ( .cond (.t 36) (
.seq ( .region [
om 37 1,⟨(some 38),.slS (.t 37) (some (.c (.i .i64 6))) none,none⟩,oc 39 85 [(.c (.i .i64 1)),(.t 38)],oe 40 39 0,oe 41 39 1,
om 4 40,
om 5 41]) ( .ret)) ( .skip))) (
.seq ( .region [
om 42 0,oc 43 84 [(.t 42)],
om 6 43]) (
.seq (
.seq ( .region [
 ⟨(some 7),.mv (.c (.i .i64 0)),none⟩]) ( .block 0 ( .loop nQ))) (
.seq ( .region [
 ⟨(some 4),.mv (.c (.i .i64 0)),none⟩,
⟨(some 5),.mv (.c (.i .i64 6)),none⟩]) ( .ret)))))),[.tmp 4,.tmp 5],false,none⟩
theorem k85:aC Tryz.prog 85 zy:=codeOk (hs:= []) Tryz.func85 (by kernel_rfl)
end Go.Proofs.YtfenhjpkomldcaaGreat
