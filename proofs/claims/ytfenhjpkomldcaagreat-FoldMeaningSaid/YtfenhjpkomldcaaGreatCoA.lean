/- The codes of functions of the program, as the evaluator reads them; that each is what its compiler makes of the model's function. Conditions: none. -/
import Derived.Test.YtfenhjpkomldcaaGreatEvF
import Derived.Test.YtfenhjpkomldcaaGreatChecked
import Derived.KernelRfl
set_option maxRecDepth 100000
namespace Go.Proofs.YtfenhjpkomldcaaGreat
open Go Go.Ev
def c14_L1:ACode:=
.seq (
.seq ( .region [
om 105 24,
om 106 20,on 107 106,
ob 108 .lss (.t 105) (.t 107)]) ( .cond (.t 108) ( .skip) ( .exit 2))) (
.seq ( .block 3 ( .draws [([],
om 111 23),([],
om 112 111),([],⟨(some 113),.mv (.t 20),(some (112,false))⟩),
([],⟨(some 114),.mv (.t 24),(some (112,false))⟩),
([],⟨(some 115),.ia (.t 113) (.t 114) 1,(some (112,false))⟩),
([],⟨(some 116),.ld (.t 115) 1 false,(some (112,false))⟩),
([],⟨(some 117),.mv (.t 21),(some (112,false))⟩),
([],⟨(some 118),.mv (.t 22),(some (112,false))⟩),
([],⟨(some 119),.ia (.t 117) (.t 118) 1,(some (112,false))⟩),
([5],⟨(some 120),.ld (.t 119) 1 false,(some (112,false))⟩),
([],⟨(some 121),.bin .eql (.t 116) (.t 120),(some (112,false))⟩),
([],⟨(some 122),.pick (.t 112) (.c (.b true)) (.t 121),none⟩),
([],
om 23 122)])) ( .region [
om 109 24,
ob 110 .add (.t 109) (.c (.i .i64 1)),
om 24 110]))
theorem c14_L1_w:wrM (wrC (.loop c14_L1))=10633783401460119679889608587765350400:=nr rfl
def c14_L2:ACode:=
.seq (
.seq ( .region [
om 99 22,
om 100 21,on 101 100,
ob 102 .lss (.t 99) (.t 101)]) ( .cond (.t 102) ( .skip) ( .exit 0))) (
.seq ( .block 1 (
.seq ( .region [
 ⟨(some 23),.mv (.c (.b false)),none⟩]) (
.seq (
.seq ( .region [
 ⟨(some 24),.mv (.c (.i .i64 0)),none⟩]) ( .block 2 ( .loop c14_L1))) (
.seq ( .region [
om 123 23,⟨(some 124),.un .not (.t 123),none⟩]) ( .cond (.t 124) (
.seq ( .region [
 ⟨(some 8),.mv (.c (.b false)),none⟩]) ( .ret)) ( .skip)))))) ( .region [
om 103 22,
ob 104 .add (.t 103) (.c (.i .i64 1)),
om 22 104]))
def c14:AFunc:=⟨126,
.seq ( .region [
 ⟨(some 8),.mv (.c (.b false)),none⟩]) (
.seq ( .region [
om 25 2,
ob 26 .and (.t 25) (.c (.i .i64 255)),
ob 27 .rem (.t 26) (.c (.i .i64 3)),
ob 28 .add (.c (.i .i64 1)) (.t 27),
om 2 28]) (
.seq ( .region [
 oc 29 17 [],
om 9 29]) (
.seq ( .region [
om 30 0,
om 31 2,
om 32 3,
ob 33 .and (.t 32) (.c (.i .i64 3)),
ob 34 .add (.c (.i .i64 1)) (.t 33),oc 35 15 [(.t 30),(.t 31),(.t 34)],⟨(some 10),.alloc [(.i .i64 0),(.i .i64 0),(.s []),.nilsl] false,none⟩,ot 10 35 4]) (
.seq ( .region [
om 36 1,
om 37 2,oc 38 49 [(.t 36),(.t 37)],
om 11 38]) (
.seq ( .region [
om 40 9,
om 41 2,ol 42 10 4 true,oc 43 16 [(.t 40),(.t 41),(.t 42)],
om 39 43,oe 44 39 0,oe 45 39 1,⟨(some 12),.alloc [(.i .i64 0),(.i .i64 0),(.s []),.nilsl] false,none⟩,ot 12 44 4,
om 13 45]) (
.seq (
.seq ( .region [
om 46 13,
ob 47 .neq (.t 46) (.c (.i .i64 0))]) ( .cond (.t 47) (
.seq ( .region [
om 48 13,
ob 49 .eql (.t 48) (.c (.i .i64 10)),
om 50 49,⟨(some 51),.callf 20 [],(some (50,true))⟩,
⟨(some 52),.pick (.t 50) (.t 51) (.c (.b false)),none⟩,
om 8 52]) ( .ret)) ( .skip))) (
.seq ( .region [
om 54 9,
om 55 2,
om 56 11,ol 57 10 4 true,oc 58 50 [(.t 54),(.t 55),(.t 56),(.t 57)],
om 53 58,oe 59 53 0,oe 60 53 1,⟨(some 14),.alloc [(.i .i64 0),(.i .i64 0)] false,none⟩,ot 14 59 2,
om 15 60]) (
.seq ( .region [
om 62 2,
om 63 11,ol 64 12 4 true,oc 65 50 [(.c .nilsl),(.t 62),(.t 63),(.t 64)],
om 61 65,oe 66 61 0,oe 67 61 1,⟨(some 16),.alloc [(.i .i64 0),(.i .i64 0)] false,none⟩,ot 16 66 2,
om 17 67]) (
.seq ( .region [
om 69 2,ol 70 12 4 true,oc 71 16 [(.c .nilsl),(.t 69),(.t 70)],
om 68 71,oe 72 68 0,oe 73 68 1,⟨(some 18),.alloc [(.i .i64 0),(.i .i64 0),(.s []),.nilsl] false,none⟩,ot 18 72 4,
om 19 73]) (
.seq (
.seq ( .region [
om 74 15,
ob 75 .neq (.t 74) (.c (.i .i64 0)),
om 76 75,⟨(some 77),.mv (.t 17),(some (76,false))⟩,
⟨(some 78),.bin .neq (.t 77) (.c (.i .i64 0)),(some (76,false))⟩,
⟨(some 79),.pick (.t 76) (.c (.b true)) (.t 78),none⟩,
om 80 79,⟨(some 81),.ld (.t 14) 2 true,(some (80,false))⟩,
⟨(some 82),.ld (.t 16) 2 true,(some (80,false))⟩,
⟨(some 83),.eq true (.flat [.int,.int]) (.t 81) (.t 82),(some (80,false))⟩,
⟨(some 84),.pick (.t 80) (.c (.b true)) (.t 83),none⟩,
om 85 84,⟨(some 86),.mv (.t 19),(some (85,false))⟩,
⟨(some 87),.bin .neq (.t 86) (.c (.i .i64 0)),(some (85,false))⟩,
⟨(some 88),.pick (.t 85) (.c (.b true)) (.t 87),none⟩,
om 89 88,⟨(some 90),.ld (.t 12) 4 true,(some (89,false))⟩,
⟨(some 91),.ld (.t 18) 4 true,(some (89,false))⟩,
⟨(some 92),.callf 19 [(.t 90),(.t 91)],(some (89,false))⟩,
⟨(some 93),.un .not (.t 92),(some (89,false))⟩,
⟨(some 94),.pick (.t 89) (.c (.b true)) (.t 93),none⟩]) ( .cond (.t 94) (
.seq ( .region [
 ⟨(some 8),.mv (.c (.b false)),none⟩]) ( .ret)) ( .skip))) (
.seq ( .draws [([],ol 95 10 4 true),([],oc 96 47 [(.t 95)]),([0,1],ol 97 12 4 true),([],oc 98 47 [(.t 97)]),([],
om 20 96),([],
om 21 98)]) (
.seq (
.seq ( .region [
 ⟨(some 22),.mv (.c (.i .i64 0)),none⟩]) ( .block 0 ( .loop c14_L2))) (
.seq ( .region [
 oc 125 20 [],
om 8 125]) ( .ret)))))))))))))),[.tmp 8],false,none⟩
theorem k14:CodeOk Tryz.prog 14 c14:=codeOk (hs:= []) Tryz.func14 (by kernel_rfl)
def c15:AFunc:=⟨15,
.seq ( .region [
 ⟨(some 6),.alloc [(.i .i64 0),(.i .i64 0),(.s []),.nilsl] false,none⟩]) (
.seq ( .region [
om 8 0,⟨(some 9),.build [.nilsl,(.i .i64 0)] [(0,1,(.t 8))],none⟩,
⟨(some 10),.box (.t 9) true,none⟩,
om 7 10]) (
.seq ( .region [
om 11 7,
om 12 1,
om 13 2,oc 14 51 [(.t 11),(.t 12),(.t 13),(.c (.i .i64 4))],ot 6 14 4]) ( .ret))),[.cell 6 4 true],false,none⟩
theorem k15:CodeOk Tryz.prog 15 c15:=codeOk (hs:= [10]) Tryz.func15 (by kernel_rfl)
def c16:AFunc:=⟨35,
.seq ( .region [
 ⟨(some 5),.box (.t 2) false,none⟩,
⟨(some 6),.alloc [(.i .i64 0),(.i .i64 0),(.s []),.nilsl] false,none⟩,
⟨(some 7),.mv (.c (.i .i64 0)),none⟩]) (
.seq (
.seq ( .region [
om 13 0,
om 14 1,ol 15 5 4 true,oc 16 52 [(.t 13),(.t 14),(.t 15)],
om 12 16,oe 17 12 0,oe 18 12 1,
om 8 17,
om 9 18]) (
.seq ( .region [
om 19 9,
ob 20 .neq (.t 19) (.c (.i .i64 0))]) ( .cond (.t 20) (
.seq ( .region [
 ⟨(some 21),.build [(.i .i64 0),(.i .i64 0),(.s []),.nilsl] [],none⟩,
om 22 9,ot 6 21 4,
om 7 22]) ( .ret)) ( .skip)))) (
.seq ( .region [
om 23 0,⟨(some 24),.mkmap true,none⟩,oc 25 53 [(.c .nilsl)],⟨(some 26),.build [.nilsl,.nilmp,.nilptr] [(0,1,(.t 23)),(1,1,(.t 24)),(2,1,(.t 25))],none⟩,
⟨(some 10),.alloc [.nilsl,.nilmp,.nilptr] true,none⟩,ot 10 26 3]) (
.seq ( .region [
om 27 1,ol 28 5 4 true,oc 29 54 [(.t 10),(.t 27),(.t 28)],⟨(some 11),.alloc [(.i .i64 0),(.i .i64 0),(.s []),.nilsl] false,none⟩,ot 11 29 4]) (
.seq (
.seq ( .region [
 ol 30 11 4 true,oc 31 55 [(.t 30)],
ob 32 .eql (.t 31) (.c (.i .i64 10))]) ( .cond (.t 32) (
.seq ( .region [
 ⟨(some 33),.build [(.i .i64 0),(.i .i64 0),(.s []),.nilsl] [],none⟩,ot 6 33 4,⟨(some 7),.mv (.c (.i .i64 10)),none⟩]) ( .ret)) ( .skip))) (
.seq ( .region [
 ol 34 11 4 true,ot 6 34 4,⟨(some 7),.mv (.c (.i .i64 0)),none⟩]) ( .ret)))))),[.cell 6 4 true,.tmp 7],false,none⟩
theorem k16:CodeOk Tryz.prog 16 c16:=codeOk (hs:= [24,10]) Tryz.func16 (by kernel_rfl)
def c17:AFunc:=⟨9,
.seq ( .region [
 ⟨(some 0),.mv (.c .nilsl),none⟩]) (
.seq ( .region [
 ⟨(some 1),.build [(.i .i64 0),(.i .i64 0),(.s []),.nilsl] [(0,1,(.c (.i .i64 1))),(1,1,(.c (.i .i64 2)))],none⟩,
⟨(some 2),.build [(.s []),(.i .i64 0),(.i .i64 0),(.s []),.nilsl] [(0,1,(.c (.s [116,119,111]))),(1,4,(.t 1))],none⟩,
⟨(some 3),.build [(.i .i64 0),(.i .i64 0),(.s []),.nilsl] [(0,1,(.c (.i .i64 6))),(2,1,(.c (.s [116,119,111])))],none⟩,
⟨(some 4),.build [(.i .i64 0),(.i .i64 0),(.s []),.nilsl] [(0,1,(.c (.i .i64 2))),(1,1,(.c (.i .i64 45)))],none⟩,
⟨(some 5),.bsl [(.i .i64 0),(.i .i64 0),(.s []),.nilsl] 2 [(0,(.t 3)),(1,(.t 4))],none⟩,
⟨(some 6),.build [(.i .i64 0),(.i .i64 0),(.s []),.nilsl] [(0,1,(.c (.i .i64 10))),(3,1,(.t 5))],none⟩,
⟨(some 7),.build [(.s []),(.i .i64 0),(.i .i64 0),(.s []),.nilsl] [(0,1,(.c (.s [115,104,105,102,116,95,116,105,109,101]))),(1,4,(.t 6))],none⟩,
⟨(some 8),.bsl [(.s []),(.i .i64 0),(.i .i64 0),(.s []),.nilsl] 2 [(0,(.t 2)),(1,(.t 7))],none⟩,
om 0 8]) ( .ret)),[.tmp 0],false,none⟩
theorem k17:CodeOk Tryz.prog 17 c17:=codeOk (hs:= []) Tryz.func17 (by kernel_rfl)
def c19:AFunc:=⟨8,
.seq ( .region [
 ⟨(some 2),.box (.t 0) false,none⟩,
⟨(some 3),.box (.t 1) false,none⟩,
⟨(some 4),.mv (.c (.b false)),none⟩]) (
.seq ( .region [
 ol 5 2 4 true,ol 6 3 4 true,oc 7 60 [(.t 5),(.t 6)],
om 4 7]) ( .ret)),[.tmp 4],false,none⟩
theorem k19:CodeOk Tryz.prog 19 c19:=codeOk (hs:= []) Tryz.func19 (by kernel_rfl)
def c20:AFunc:=⟨44,
.seq ( .region [
 ⟨(some 0),.mv (.c (.b false)),none⟩]) (
.seq ( .region [
 ⟨(some 6),.build [(.i .i64 0),(.i .i64 0),(.s []),.nilsl] [(0,1,(.c (.i .i64 6))),(2,1,(.c (.s [108,101,103,115])))],none⟩,
⟨(some 1),.alloc [(.i .i64 0),(.i .i64 0),(.s []),.nilsl] false,none⟩,ot 1 6 4]) (
.seq ( .draws [([],ol 8 1 4 true),([0],oc 9 21 [(.c (.i .i64 3))]),([0],oc 10 21 [(.c (.i .i64 2))]),([0],⟨(some 11),.bsl [(.i .i64 0),(.i .i64 0),(.s []),.nilsl] 2 [(0,(.t 9)),(1,(.t 10))],none⟩),
([0],oc 12 22 [(.c (.i .i64 9)),(.t 11)]),([],⟨(some 13),.bsl [(.i .i64 0),(.i .i64 0),(.s []),.nilsl] 2 [(0,(.t 8)),(1,(.t 12))],none⟩),
([],oc 14 22 [(.c (.i .i64 10)),(.t 13)]),([],oc 15 16 [(.c .nilsl),(.c (.i .i64 1)),(.t 14)]),([],
om 7 15),([],oe 16 7 0),([],oe 17 7 1),([0,1,2,3,4,5,6,7],⟨(some 2),.alloc [(.i .i64 0),(.i .i64 0),(.s []),.nilsl] false,none⟩),
([],ot 2 16 4),([],
om 3 17)]) (
.seq ( .region [
 oc 19 21 [(.c (.i .i64 2))],oc 20 21 [(.c (.i .i64 5))],⟨(some 21),.bsl [(.i .i64 0),(.i .i64 0),(.s []),.nilsl] 2 [(0,(.t 19)),(1,(.t 20))],none⟩,oc 22 22 [(.c (.i .i64 9)),(.t 21)],oc 23 16 [(.c .nilsl),(.c (.i .i64 1)),(.t 22)],
om 18 23,oe 24 18 0,oe 25 18 1,⟨(some 4),.alloc [(.i .i64 0),(.i .i64 0),(.s []),.nilsl] false,none⟩,ot 4 24 4,
om 5 25]) (
.seq ( .draws [([],
om 26 3),([],
ob 27 .eql (.t 26) (.c (.i .i64 0))),([],
om 28 27),([],⟨(some 29),.mv (.t 5),(some (28,true))⟩),
([],⟨(some 30),.bin .eql (.t 29) (.c (.i .i64 0)),(some (28,true))⟩),
([],⟨(some 31),.pick (.t 28) (.t 30) (.c (.b false)),none⟩),
([],
om 32 31),([],⟨(some 33),.ld (.t 2) 4 true,(some (32,true))⟩),
([7],⟨(some 34),.ld (.t 1) 4 true,(some (32,true))⟩),
([],⟨(some 35),.callf 19 [(.t 33),(.t 34)],(some (32,true))⟩),
([],⟨(some 36),.pick (.t 32) (.t 35) (.c (.b false)),none⟩),
([],
om 37 36),([],⟨(some 38),.ld (.t 4) 4 true,(some (37,true))⟩),
([12],⟨(some 39),.callf 21 [(.c (.i .i64 3))],(some (37,true))⟩),
([12],⟨(some 40),.bsl [(.i .i64 0),(.i .i64 0),(.s []),.nilsl] 1 [(0,(.t 39))],(some (37,true))⟩),
([12],⟨(some 41),.callf 22 [(.c (.i .i64 7)),(.t 40)],(some (37,true))⟩),
([],⟨(some 42),.callf 19 [(.t 38),(.t 41)],(some (37,true))⟩),
([],⟨(some 43),.pick (.t 37) (.t 42) (.c (.b false)),none⟩),
([],
om 0 43)]) ( .ret))))),[.tmp 0],false,none⟩
theorem k20:CodeOk Tryz.prog 20 c20:=codeOk (hs:= []) Tryz.func20 (by kernel_rfl)
def c21:AFunc:=⟨5,
.seq ( .region [
 ⟨(some 2),.alloc [(.i .i64 0),(.i .i64 0),(.s []),.nilsl] false,none⟩]) (
.seq ( .region [
om 3 0,⟨(some 4),.build [(.i .i64 0),(.i .i64 0),(.s []),.nilsl] [(0,1,(.c (.i .i64 1))),(1,1,(.t 3))],none⟩,ot 2 4 4]) ( .ret)),[.cell 2 4 true],false,none⟩
theorem k21:CodeOk Tryz.prog 21 c21:=codeOk (hs:= []) Tryz.func21 (by kernel_rfl)
def c22:AFunc:=⟨8,
.seq ( .region [
 ⟨(some 4),.alloc [(.i .i64 0),(.i .i64 0),(.s []),.nilsl] false,none⟩]) (
.seq ( .region [
om 5 0,
om 6 1,⟨(some 7),.build [(.i .i64 0),(.i .i64 0),(.s []),.nilsl] [(0,1,(.t 5)),(3,1,(.t 6))],none⟩,ot 4 7 4]) ( .ret)),[.cell 4 4 true],false,none⟩
theorem k22:CodeOk Tryz.prog 22 c22:=codeOk (hs:= []) Tryz.func22 (by kernel_rfl)
def c47:AFunc:=⟨10,
.seq ( .region [
 ⟨(some 1),.box (.t 0) false,none⟩,
⟨(some 2),.mv (.c .nilsl),none⟩]) (
.seq ( .region [
 ⟨(some 3),.alloc [.nilsl] true,none⟩]) (
.seq ( .region [
 ol 4 1 4 true,oc 5 80 [(.t 4),(.t 3)]]) (
.seq ( .region [
 ol 6 3 1 false,oc 7 81 [(.t 6)]]) (
.seq ( .region [
 ol 8 3 1 false,oc 9 82 [(.t 8)],
om 2 9]) ( .ret))))),[.tmp 2],false,none⟩
theorem k47:CodeOk Tryz.prog 47 c47:=codeOk (hs:= [3]) Tryz.func47 (by kernel_rfl)
def c49_L1:ACode:=
.seq (
.seq ( .region [
om 13 7,
om 14 6,on 15 14,
ob 16 .lss (.t 13) (.t 15)]) ( .cond (.t 16) ( .skip) ( .exit 0))) (
.seq ( .block 1 (
.seq ( .region [
om 20 1,
om 21 6,
om 22 7,oi 23 21 22 1,ol 24 23 1 false,oc 25 85 [(.t 20),(.t 24)],
om 19 25,oe 26 19 0,oe 27 19 1,
om 8 26,
om 9 27]) (
.seq ( .region [
om 28 0,
om 29 7,oc 30 86 [(.t 28),(.t 29)],
om 10 30]) (
.seq (
.seq ( .region [
om 31 8]) ( .block 2 (
.seq ( .region [
 ob 35 .eql (.t 31) (.c (.i .i64 1)),
om 34 35]) ( .cond (.t 34) ( .region [
om 36 10,
ob 37 .rem (.t 36) (.c (.i .i64 7)),
om 10 37]) (
.seq ( .region [
 ob 39 .eql (.t 31) (.c (.i .i64 2)),
om 38 39]) ( .cond (.t 38) ( .region [
om 40 10,
ob 41 .rem (.t 40) (.c (.i .i64 900)),
om 10 41]) (
.seq ( .region [
 ob 43 .eql (.t 31) (.c (.i .i64 3)),
om 42 43]) ( .cond (.t 42) ( .region [
om 44 10,
ob 45 .rem (.t 44) (.c (.i .i64 1440)),
om 10 45]) ( .region [
om 32 10,
ob 33 .rem (.t 32) (.c (.i .i64 2)),
om 10 33]))))))))) ( .region [
om 46 5,
om 47 6,
om 48 7,oi 49 47 48 1,ol 50 49 1 false,
om 51 10,⟨(some 52),.build [(.s []),(.i .i64 0)] [(0,1,(.t 50)),(1,1,(.t 51))],none⟩,
⟨(some 53),.bsl [(.s []),(.i .i64 0)] 1 [(0,(.t 52))],none⟩,
⟨(some 54),.app 2 24 (.t 46) (.t 53) false false,none⟩,
om 5 54]))))) ( .region [
om 17 7,
ob 18 .add (.t 17) (.c (.i .i64 1)),
om 7 18]))
def c49:AFunc:=⟨56,
.seq ( .region [
 ⟨(some 4),.mv (.c .nilsl),none⟩]) (
.seq ( .region [
 ⟨(some 5),.mv (.c .nilsl),none⟩]) (
.seq ( .region [
om 11 1,oc 12 84 [(.t 11)],
om 6 12]) (
.seq (
.seq ( .region [
 ⟨(some 7),.mv (.c (.i .i64 0)),none⟩]) ( .block 0 ( .loop c49_L1))) (
.seq ( .region [
om 55 5,
om 4 55]) ( .ret))))),[.tmp 4],false,none⟩
theorem k49:CodeOk Tryz.prog 49 c49:=codeOk (hs:= []) Tryz.func49 (by kernel_rfl)
def c50_L1:ACode:=
.seq ( .region [
 ob 71 .lss (.t 70) (.t 69)]) (
.seq ( .cond (.t 71) ( .skip) ( .exit 2)) (
.seq ( .block 3 (
.seq ( .region [
om 72 70,oi 73 68 70 1,ol 74 73 1 false,
om 19 72,
om 20 74]) (
.seq ( .region [
om 76 1,
om 77 20,oc 78 89 [(.t 76),(.t 77)],
om 75 78,oe 79 75 0,oe 80 75 1,
om 21 79,
om 22 80]) ( .region [
om 81 18,
om 82 19,
om 83 21,
om 84 12,
om 85 20,⟨(some 86),.lk (.one .str) (.t 84) (.t 85) (.i .i64 0) false,none⟩,oc 87 90 [(.t 83),(.t 86)],oi 88 81 82 1,ot 88 87 1])))) ( .region [
 ob 89 .add (.t 70) (.c (.i .i64 1)),
om 70 89])))
theorem c50_L1_w:wrM (wrC (.loop c50_L1))=1237938858693759557495685120:=nr rfl
def c50_L2:ACode:=
.seq ( .region [
 ob 39 .lss (.t 38) (.t 37)]) (
.seq ( .cond (.t 39) ( .skip) ( .exit 0)) (
.seq ( .block 1 (
.seq ( .region [
 oi 40 36 38 2,ol 41 40 2 true,⟨(some 14),.alloc [(.s []),(.i .i64 0)] false,none⟩,ot 14 41 2]) (
.seq ( .region [
om 43 12,oa 44 14 0,ol 45 44 1 false,⟨(some 46),.lk (.one .str) (.t 43) (.t 45) (.i .i64 0) true,none⟩,
om 42 46,oe 47 42 0,oe 48 42 1,
om 15 47,
om 16 48]) (
.seq ( .region [
om 49 16,⟨(some 50),.un .not (.t 49),none⟩]) ( .cond (.t 50) ( .region [
om 51 12,oa 52 14 0,ol 53 52 1 false,oa 54 14 1,ol 55 54 1 false,⟨none,.mu (.one .str) (.t 51) (.t 53) (.t 55),none⟩]) ( .skip)))))) ( .region [
 ob 56 .add (.t 38) (.c (.i .i64 1)),
om 38 56])))
theorem c50_L2_w:wrM (wrC (.loop c50_L2))=144114913198063616:=nr rfl
def c50:AFunc:=⟨99,
.seq ( .region [
 ⟨(some 7),.box (.t 3) false,none⟩,
⟨(some 8),.alloc [(.i .i64 0),(.i .i64 0)] false,none⟩,
⟨(some 9),.mv (.c (.i .i64 0)),none⟩]) (
.seq ( .region [
om 25 0,
om 26 1,ol 27 7 4 true,oc 28 52 [(.t 25),(.t 26),(.t 27)],
om 24 28,oe 29 24 0,oe 30 24 1,
om 10 29,
om 11 30]) (
.seq (
.seq ( .region [
om 31 11,
ob 32 .neq (.t 31) (.c (.i .i64 0))]) ( .cond (.t 32) (
.seq ( .region [
 ⟨(some 33),.build [(.i .i64 0),(.i .i64 0)] [],none⟩,
om 34 11,ot 8 33 2,
om 9 34]) ( .ret)) ( .skip))) (
.seq ( .region [
 ⟨(some 35),.mkmap false,none⟩,
om 12 35]) (
.seq (
.seq ( .region [
om 36 2,on 37 36,⟨(some 38),.mv (.c (.i .i64 0)),none⟩]) ( .block 0 ( .loop c50_L2))) (
.seq (
.seq ( .region [
om 57 1,
om 58 12,ol 59 7 4 true,oc 60 87 [(.t 57),(.t 58),(.t 59)],⟨(some 61),.un .not (.t 60),none⟩]) ( .cond (.t 61) (
.seq ( .region [
 ⟨(some 62),.build [(.i .i64 0),(.i .i64 0)] [],none⟩,ot 8 62 2,⟨(some 9),.mv (.c (.i .i64 6)),none⟩]) ( .ret)) ( .skip))) (
.seq ( .region [
om 63 1,oc 64 88 [(.t 63)],
om 17 64]) (
.seq ( .region [
om 65 17,on 66 65,⟨(some 67),.mksl [(.i .i64 0)] 8 (.t 66) false,none⟩,
om 18 67]) (
.seq (
.seq ( .region [
om 68 17,on 69 68,⟨(some 70),.mv (.c (.i .i64 0)),none⟩]) ( .block 2 ( .loop c50_L1))) (
.seq ( .draws [([],
om 90 0),([],oc 91 53 [(.t 90)]),([],
om 92 1),([1],ol 93 7 4 true),([],oc 94 91 [(.t 91),(.t 92),(.t 93)]),([1,3,4],⟨(some 23),.alloc [(.i .i64 0),(.i .i64 0),.nilsl] false,none⟩),
([],ot 23 94 3)]) (
.seq ( .region [
om 95 10,
om 96 18,oc 97 92 [(.t 23),(.t 96)],⟨(some 98),.build [(.i .i64 0),(.i .i64 0)] [(0,1,(.t 95)),(1,1,(.t 97))],none⟩,ot 8 98 2,⟨(some 9),.mv (.c (.i .i64 0)),none⟩]) ( .ret))))))))))),[.cell 8 2 true,.tmp 9],false,none⟩
theorem k50:CodeOk Tryz.prog 50 c50:=codeOk (hs:= []) Tryz.func50 (by kernel_rfl)
def c51:AFunc:=⟨285,
.seq ( .region [
 ⟨(some 8),.alloc [(.i .i64 0),(.i .i64 0),(.s []),.nilsl] false,none⟩]) (
.seq (
.seq ( .region [
om 11 3,
ob 12 .leq (.t 11) (.c (.i .i64 1)),
om 13 12,⟨(some 14),.mv (.t 0),(some (13,false))⟩,
⟨(some 15),.callf 93 [(.t 14),(.c (.i .i64 5))],(some (13,false))⟩,
⟨(some 16),.bin .eql (.t 15) (.c (.i .i64 0)),(some (13,false))⟩,
⟨(some 17),.pick (.t 13) (.c (.b true)) (.t 16),none⟩]) ( .cond (.t 17) (
.seq ( .region [
om 18 0,
om 19 1,
om 20 2,oc 21 94 [(.t 18),(.t 19),(.t 20)],ot 8 21 4]) ( .ret)) ( .skip))) (
.seq ( .region [
om 22 3,
ob 23 .sub (.t 22) (.c (.i .i64 1)),
om 9 23]) (
.seq (
.seq ( .region [
om 24 0,oc 25 93 [(.t 24),(.c (.i .i64 6))],
ob 26 .eql (.t 25) (.c (.i .i64 0))]) ( .cond (.t 26) (
.seq ( .region [
om 27 0,
om 28 1,
om 29 9,oc 30 51 [(.t 27),(.t 28),(.c (.i .i64 4)),(.t 29)],
om 31 0,
om 32 1,
om 33 2,
om 34 9,oc 35 51 [(.t 31),(.t 32),(.t 33),(.t 34)],
om 36 0,
om 37 1,
om 38 2,
om 39 9,oc 40 51 [(.t 36),(.t 37),(.t 38),(.t 39)],⟨(some 41),.bsl [(.i .i64 0),(.i .i64 0),(.s []),.nilsl] 3 [(0,(.t 30)),(1,(.t 35)),(2,(.t 40))],none⟩,oc 42 95 [(.c (.i .i64 14)),(.t 41)],ot 8 42 4]) ( .ret)) ( .skip))) (
.seq (
.seq ( .region [
om 43 2]) ( .block 0 (
.seq (
.seq ( .region [
 ob 45 .eql (.t 43) (.c (.i .i64 1)),
om 44 45]) ( .cond (.t 44) ( .skip) ( .region [
 ob 46 .eql (.t 43) (.c (.i .i64 2)),
om 44 46]))) ( .cond (.t 44) (
.seq (
.seq ( .region [
om 47 0,oc 48 93 [(.t 47),(.c (.i .i64 9))]]) ( .block 1 (
.seq ( .region [
 ob 50 .eql (.t 48) (.c (.i .i64 0)),
om 49 50]) ( .cond (.t 49) (
.seq ( .region [
om 51 0,
om 52 1,
om 53 2,
om 54 9,oc 55 51 [(.t 51),(.t 52),(.t 53),(.t 54)],⟨(some 56),.bsl [(.i .i64 0),(.i .i64 0),(.s []),.nilsl] 1 [(0,(.t 55))],none⟩,oc 57 95 [(.c (.i .i64 7)),(.t 56)],ot 8 57 4]) ( .ret)) (
.seq (
.seq ( .region [
 ob 59 .eql (.t 48) (.c (.i .i64 1)),
om 58 59]) ( .cond (.t 58) ( .skip) ( .region [
 ob 60 .eql (.t 48) (.c (.i .i64 2)),
om 58 60]))) ( .cond (.t 58) (
.seq ( .region [
om 61 0,
om 62 1,
om 63 2,
om 64 9,oc 65 51 [(.t 61),(.t 62),(.t 63),(.t 64)],
om 66 0,
om 67 1,
om 68 2,
om 69 9,oc 70 51 [(.t 66),(.t 67),(.t 68),(.t 69)],⟨(some 71),.bsl [(.i .i64 0),(.i .i64 0),(.s []),.nilsl] 2 [(0,(.t 65)),(1,(.t 70))],none⟩,oc 72 95 [(.c (.i .i64 8)),(.t 71)],ot 8 72 4]) ( .ret)) (
.seq ( .region [
 ob 74 .eql (.t 48) (.c (.i .i64 3)),
om 73 74]) ( .cond (.t 73) (
.seq ( .region [
om 75 0,
om 76 1,
om 77 2,
om 78 9,oc 79 51 [(.t 75),(.t 76),(.t 77),(.t 78)],
om 80 0,
om 81 1,
om 82 2,
om 83 9,oc 84 51 [(.t 80),(.t 81),(.t 82),(.t 83)],⟨(some 85),.bsl [(.i .i64 0),(.i .i64 0),(.s []),.nilsl] 2 [(0,(.t 79)),(1,(.t 84))],none⟩,oc 86 95 [(.c (.i .i64 9)),(.t 85)],ot 8 86 4]) ( .ret)) (
.seq ( .region [
 ob 88 .eql (.t 48) (.c (.i .i64 4)),
om 87 88]) ( .cond (.t 87) (
.seq ( .region [
om 89 0,
om 90 1,
om 91 9,oc 92 51 [(.t 89),(.t 90),(.c (.i .i64 1)),(.t 91)],
om 93 0,
om 94 1,
om 95 2,
om 96 9,oc 97 51 [(.t 93),(.t 94),(.t 95),(.t 96)],⟨(some 98),.bsl [(.i .i64 0),(.i .i64 0),(.s []),.nilsl] 2 [(0,(.t 92)),(1,(.t 97))],none⟩,oc 99 95 [(.c (.i .i64 10)),(.t 98)],ot 8 99 4]) ( .ret)) (
.seq ( .region [
 ob 101 .eql (.t 48) (.c (.i .i64 5)),
om 100 101]) ( .cond (.t 100) (
.seq ( .region [
om 102 0,
om 103 1,
om 104 2,
om 105 9,oc 106 51 [(.t 102),(.t 103),(.t 104),(.t 105)],
om 107 0,
om 108 1,
om 109 9,oc 110 51 [(.t 107),(.t 108),(.c (.i .i64 1)),(.t 109)],⟨(some 111),.bsl [(.i .i64 0),(.i .i64 0),(.s []),.nilsl] 2 [(0,(.t 106)),(1,(.t 110))],none⟩,oc 112 95 [(.c (.i .i64 11)),(.t 111)],ot 8 112 4]) ( .ret)) (
.seq ( .region [
 ob 114 .eql (.t 48) (.c (.i .i64 6)),
om 113 114]) ( .cond (.t 113) (
.seq ( .region [
om 115 0,
om 116 1,
om 117 2,
om 118 9,oc 119 51 [(.t 115),(.t 116),(.t 117),(.t 118)],
om 120 0,
om 121 1,
om 122 2,
om 123 9,oc 124 51 [(.t 120),(.t 121),(.t 122),(.t 123)],⟨(some 125),.bsl [(.i .i64 0),(.i .i64 0),(.s []),.nilsl] 2 [(0,(.t 119)),(1,(.t 124))],none⟩,oc 126 95 [(.c (.i .i64 12)),(.t 125)],ot 8 126 4]) ( .ret)) (
.seq ( .region [
 ob 128 .eql (.t 48) (.c (.i .i64 7)),
om 127 128]) ( .cond (.t 127) (
.seq ( .region [
om 129 0,
om 130 1,
om 131 2,
om 132 9,oc 133 51 [(.t 129),(.t 130),(.t 131),(.t 132)],
om 134 0,
om 135 1,
om 136 2,
om 137 9,oc 138 51 [(.t 134),(.t 135),(.t 136),(.t 137)],
om 139 0,
om 140 1,
om 141 2,oc 142 51 [(.t 139),(.t 140),(.t 141),(.c (.i .i64 1))],⟨(some 143),.bsl [(.i .i64 0),(.i .i64 0),(.s []),.nilsl] 3 [(0,(.t 133)),(1,(.t 138)),(2,(.t 142))],none⟩,oc 144 95 [(.c (.i .i64 13)),(.t 143)],ot 8 144 4]) ( .ret)) ( .skip))))))))))))))))) (
.seq (
.seq ( .region [
om 145 2,
ob 146 .eql (.t 145) (.c (.i .i64 1))]) ( .cond (.t 146) (
.seq ( .region [
om 147 0,
om 148 1,
om 149 9,oc 150 51 [(.t 147),(.t 148),(.c (.i .i64 2)),(.t 149)],
om 151 0,
om 152 1,
om 153 9,oc 154 51 [(.t 151),(.t 152),(.c (.i .i64 2)),(.t 153)],⟨(some 155),.bsl [(.i .i64 0),(.i .i64 0),(.s []),.nilsl] 2 [(0,(.t 150)),(1,(.t 154))],none⟩,oc 156 95 [(.c (.i .i64 11)),(.t 155)],ot 8 156 4]) ( .ret)) ( .skip))) (
.seq ( .region [
om 157 0,
om 158 1,
om 159 9,oc 160 51 [(.t 157),(.t 158),(.c (.i .i64 2)),(.t 159)],
om 161 0,
om 162 1,
om 163 9,oc 164 51 [(.t 161),(.t 162),(.c (.i .i64 1)),(.t 163)],⟨(some 165),.bsl [(.i .i64 0),(.i .i64 0),(.s []),.nilsl] 2 [(0,(.t 160)),(1,(.t 164))],none⟩,oc 166 95 [(.c (.i .i64 10)),(.t 165)],ot 8 166 4]) ( .ret)))) (
.seq ( .region [
 ob 168 .eql (.t 43) (.c (.i .i64 4)),
om 167 168]) ( .cond (.t 167) (
.seq ( .region [
 ⟨(some 169),.bsl [(.i .i64 0)] 2 [(0,(.c (.i .i64 1))),(1,(.c (.i .i64 2)))],none⟩,
om 170 0,oc 171 93 [(.t 170),(.c (.i .i64 2))],oi 172 169 171 1,ol 173 172 1 false,
om 10 173]) (
.seq (
.seq ( .region [
om 174 0,oc 175 93 [(.t 174),(.c (.i .i64 8))]]) ( .block 2 (
.seq ( .region [
 ob 177 .eql (.t 175) (.c (.i .i64 0)),
om 176 177]) ( .cond (.t 176) (
.seq ( .region [
om 178 0,
om 179 1,
om 180 2,
om 181 9,oc 182 51 [(.t 178),(.t 179),(.t 180),(.t 181)],⟨(some 183),.bsl [(.i .i64 0),(.i .i64 0),(.s []),.nilsl] 1 [(0,(.t 182))],none⟩,oc 184 95 [(.c (.i .i64 19)),(.t 183)],ot 8 184 4]) ( .ret)) (
.seq ( .region [
 ob 186 .eql (.t 175) (.c (.i .i64 1)),
om 185 186]) ( .cond (.t 185) (
.seq ( .region [
om 187 0,
om 188 1,
om 189 2,
om 190 9,oc 191 51 [(.t 187),(.t 188),(.t 189),(.t 190)],
om 192 0,
om 193 1,
om 194 2,
om 195 9,oc 196 51 [(.t 192),(.t 193),(.t 194),(.t 195)],⟨(some 197),.bsl [(.i .i64 0),(.i .i64 0),(.s []),.nilsl] 2 [(0,(.t 191)),(1,(.t 196))],none⟩,oc 198 95 [(.c (.i .i64 20)),(.t 197)],ot 8 198 4]) ( .ret)) (
.seq ( .region [
 ob 200 .eql (.t 175) (.c (.i .i64 2)),
om 199 200]) ( .cond (.t 199) (
.seq ( .region [
om 201 0,
om 202 1,
om 203 2,
om 204 9,oc 205 51 [(.t 201),(.t 202),(.t 203),(.t 204)],
om 206 0,
om 207 1,
om 208 2,
om 209 9,oc 210 51 [(.t 206),(.t 207),(.t 208),(.t 209)],⟨(some 211),.bsl [(.i .i64 0),(.i .i64 0),(.s []),.nilsl] 2 [(0,(.t 205)),(1,(.t 210))],none⟩,oc 212 95 [(.c (.i .i64 21)),(.t 211)],ot 8 212 4]) ( .ret)) (
.seq ( .region [
 ob 214 .eql (.t 175) (.c (.i .i64 3)),
om 213 214]) ( .cond (.t 213) (
.seq ( .region [
om 215 0,
om 216 1,
om 217 2,
om 218 9,oc 219 51 [(.t 215),(.t 216),(.t 217),(.t 218)],
om 220 0,
om 221 1,
om 222 2,
om 223 9,oc 224 51 [(.t 220),(.t 221),(.t 222),(.t 223)],⟨(some 225),.bsl [(.i .i64 0),(.i .i64 0),(.s []),.nilsl] 2 [(0,(.t 219)),(1,(.t 224))],none⟩,oc 226 95 [(.c (.i .i64 22)),(.t 225)],ot 8 226 4]) ( .ret)) (
.seq ( .region [
 ob 228 .eql (.t 175) (.c (.i .i64 4)),
om 227 228]) ( .cond (.t 227) (
.seq ( .region [
om 229 0,
om 230 1,
om 231 10,
om 232 9,oc 233 51 [(.t 229),(.t 230),(.t 231),(.t 232)],
om 234 0,
om 235 1,
om 236 10,
om 237 9,oc 238 51 [(.t 234),(.t 235),(.t 236),(.t 237)],⟨(some 239),.bsl [(.i .i64 0),(.i .i64 0),(.s []),.nilsl] 2 [(0,(.t 233)),(1,(.t 238))],none⟩,oc 240 95 [(.c (.i .i64 16)),(.t 239)],ot 8 240 4]) ( .ret)) (
.seq ( .region [
 ob 242 .eql (.t 175) (.c (.i .i64 5)),
om 241 242]) ( .cond (.t 241) (
.seq ( .region [
om 243 0,
om 244 1,
om 245 10,
om 246 9,oc 247 51 [(.t 243),(.t 244),(.t 245),(.t 246)],
om 248 0,
om 249 1,
om 250 10,
om 251 9,oc 252 51 [(.t 248),(.t 249),(.t 250),(.t 251)],⟨(some 253),.bsl [(.i .i64 0),(.i .i64 0),(.s []),.nilsl] 2 [(0,(.t 247)),(1,(.t 252))],none⟩,oc 254 95 [(.c (.i .i64 18)),(.t 253)],ot 8 254 4]) ( .ret)) (
.seq ( .region [
 ob 256 .eql (.t 175) (.c (.i .i64 6)),
om 255 256]) ( .cond (.t 255) (
.seq ( .region [
om 257 0,
om 258 1,
om 259 9,oc 260 51 [(.t 257),(.t 258),(.c (.i .i64 3)),(.t 259)],
om 261 0,
om 262 1,oc 263 94 [(.t 261),(.t 262),(.c (.i .i64 3))],
om 264 0,
om 265 1,oc 266 94 [(.t 264),(.t 265),(.c (.i .i64 3))],⟨(some 267),.bsl [(.i .i64 0),(.i .i64 0),(.s []),.nilsl] 3 [(0,(.t 260)),(1,(.t 263)),(2,(.t 266))],none⟩,oc 268 95 [(.c (.i .i64 15)),(.t 267)],ot 8 268 4]) ( .ret)) ( .skip))))))))))))))))) (
.seq ( .region [
om 269 0,
om 270 1,
om 271 10,
om 272 9,oc 273 51 [(.t 269),(.t 270),(.t 271),(.t 272)],
om 274 0,
om 275 1,
om 276 10,
om 277 9,oc 278 51 [(.t 274),(.t 275),(.t 276),(.t 277)],⟨(some 279),.bsl [(.i .i64 0),(.i .i64 0),(.s []),.nilsl] 2 [(0,(.t 273)),(1,(.t 278))],none⟩,oc 280 95 [(.c (.i .i64 17)),(.t 279)],ot 8 280 4]) ( .ret)))) ( .skip))))))) (
.seq ( .region [
om 281 0,
om 282 1,
om 283 2,oc 284 94 [(.t 281),(.t 282),(.t 283)],ot 8 284 4]) ( .ret)))))),[.cell 8 4 true],true,none⟩
theorem k51:CodeOk Tryz.prog 51 c51:=codeOk (hs:= []) Tryz.func51 (by kernel_rfl)
def c52:AFunc:=⟨17,
.seq ( .region [
 ⟨(some 5),.box (.t 2) false,none⟩,
⟨(some 6),.mv (.c (.i .i64 0)),none⟩,
⟨(some 7),.mv (.c (.i .i64 0)),none⟩]) (
.seq ( .draws [([],
om 8 0),([],oc 9 96 [(.t 8)]),([],
om 10 1),([],
om 11 0),([],on 12 11),([1],ol 13 5 4 true),([],oc 14 97 [(.t 9),(.t 10),(.t 12),(.t 13)]),([],oe 15 14 0),([],oe 16 14 1),([],
om 6 15),([],
om 7 16)]) ( .ret)),[.tmp 6,.tmp 7],false,none⟩
theorem k52:CodeOk Tryz.prog 52 c52:=codeOk (hs:= []) Tryz.func52 (by kernel_rfl)
def c53_L1:ACode:=
.seq ( .region [
 ob 56 .lss (.t 55) (.t 54)]) (
.seq ( .cond (.t 56) ( .skip) ( .exit 4)) (
.seq ( .block 5 (
.seq ( .region [
om 57 55,oi 58 53 55 1,ol 59 58 1 false,
om 9 57,
om 10 59]) ( .region [
om 60 3,
om 61 8,⟨(some 62),.nck (.t 60),none⟩,oa 63 62 3,⟨(some 64),.iaA (.t 63) (.t 61) 4 1,none⟩,ol 65 64 1 false,
om 66 10,
om 67 9,⟨none,.mu (.one .str) (.t 65) (.t 66) (.t 67),none⟩]))) ( .region [
 ob 68 .add (.t 55) (.c (.i .i64 1)),
om 55 68])))
theorem c53_L1_w:wrM (wrC (.loop c53_L1))=590259781561686689280:=nr rfl
def c53_L2:ACode:=
.seq ( .region [
 ob 44 .lss (.t 43) (.c (.i .i64 4))]) (
.seq ( .cond (.t 44) ( .skip) ( .exit 2)) (
.seq ( .block 3 (
.seq ( .region [
om 45 43,
om 8 45]) (
.seq ( .region [
om 46 3,
om 47 8,⟨(some 48),.mkmap true,none⟩,
⟨(some 49),.nck (.t 46),none⟩,oa 50 49 3,⟨(some 51),.iaA (.t 50) (.t 47) 4 1,none⟩,ot 51 48 1]) (
.seq ( .region [
om 52 8,oc 53 88 [(.t 52)],on 54 53,⟨(some 55),.mv (.c (.i .i64 0)),none⟩]) ( .block 4 ( .loop c53_L1)))))) ( .region [
 ob 69 .add (.t 43) (.c (.i .i64 1)),
om 43 69])))
theorem c53_L2_w:wrM (wrC (.loop c53_L2))=1180591611921318283008:=nr rfl
def c53_L3:ACode:=
.seq ( .region [
 ob 19 .lss (.t 18) (.t 17)]) (
.seq ( .cond (.t 19) ( .skip) ( .exit 0)) (
.seq ( .block 1 (
.seq ( .region [
om 20 18,oi 21 16 18 5,ol 22 21 5 true,⟨(some 5),.alloc [(.s []),(.i .i64 0),(.i .i64 0),(.s []),.nilsl] false,none⟩,
om 4 20,ot 5 22 5]) (
.seq ( .draws [([],
om 24 3),([],⟨(some 25),.nck (.t 24),none⟩),
([],oa 26 25 1),([],ol 27 26 1 false),([],oa 28 5 0),([3],ol 29 28 1 false),([],⟨(some 30),.lk (.one .str) (.t 27) (.t 29) (.i .i64 0) true,none⟩),
([],
om 23 30),([],oe 31 23 0),([],oe 32 23 1),([],
om 6 31),([],
om 7 32)]) (
.seq ( .region [
om 33 7,⟨(some 34),.un .not (.t 33),none⟩]) ( .cond (.t 34) ( .draws [([],
om 35 3),([],⟨(some 36),.nck (.t 35),none⟩),
([],oa 37 36 1),([],ol 38 37 1 false),([],oa 39 5 0),([3],ol 40 39 1 false),([],
om 41 4),([],⟨none,.mu (.one .str) (.t 38) (.t 40) (.t 41),none⟩)]) ( .skip)))))) ( .region [
 ob 42 .add (.t 18) (.c (.i .i64 1)),
om 18 42])))
theorem c53_L3_w:wrM (wrC (.loop c53_L3))=8796092760304:=nr rfl
def c53:AFunc:=⟨71,
.seq ( .region [
 ⟨(some 2),.mv (.c .nilptr),none⟩]) (
.seq ( .region [
om 11 0,⟨(some 12),.mkmap true,none⟩,
⟨(some 13),.mkmap true,none⟩,
⟨(some 14),.build [.nilsl,.nilmp,.nilmp,.nilmp,.nilmp,.nilmp,.nilmp] [(0,1,(.t 11)),(1,1,(.t 12)),(2,1,(.t 13))],none⟩,
⟨(some 15),.box (.t 14) true,none⟩,
om 3 15]) (
.seq (
.seq ( .region [
om 16 0,on 17 16,⟨(some 18),.mv (.c (.i .i64 0)),none⟩]) ( .block 0 ( .loop c53_L3))) (
.seq (
.seq ( .region [
 ⟨(some 43),.mv (.c (.i .i64 0)),none⟩]) ( .block 2 ( .loop c53_L2))) (
.seq ( .region [
om 70 3,
om 2 70]) ( .ret))))),[.tmp 2],true,none⟩
theorem k53:CodeOk Tryz.prog 53 c53:=codeOk (hs:= [12,13,15,48]) Tryz.func53 (by kernel_rfl)
def c54_L1:ACode:=
.seq ( .region [
 ob 52 .lss (.t 51) (.t 50)]) (
.seq ( .cond (.t 52) ( .skip) ( .exit 0)) (
.seq ( .block 1 (
.seq ( .region [
om 53 51,oi 54 49 51 4,ol 55 54 4 true,⟨(some 11),.alloc [(.i .i64 0),(.i .i64 0),(.s []),.nilsl] false,none⟩,
om 10 53,ot 11 55 4]) ( .draws [([],oa 56 9 3),([],ol 57 56 1 false),([],
om 58 10),([],
om 59 0),([],
om 60 1),([1],ol 61 11 4 true),([1],oc 62 54 [(.t 59),(.t 60),(.t 61)]),([],oi 63 57 58 4),([],ot 63 62 4)]))) ( .region [
 ob 64 .add (.t 51) (.c (.i .i64 1)),
om 51 64])))
theorem c54_L1_w:wrM (wrC (.loop c54_L1))=36891236347605421056:=nr rfl
def c54:AFunc:=⟨68,
.seq ( .region [
 ⟨(some 5),.box (.t 2) false,none⟩,
⟨(some 6),.alloc [(.i .i64 0),(.i .i64 0),(.s []),.nilsl] false,none⟩]) (
.seq (
.seq ( .region [
 oa 12 5 0,ol 13 12 1 false,
ob 14 .eql (.t 13) (.c (.i .i64 6))]) ( .cond (.t 14) (
.seq (
.seq ( .region [
om 16 1,oa 17 5 2,ol 18 17 1 false,oc 19 89 [(.t 16),(.t 18)],
om 15 19,oe 20 15 0,oe 21 15 1,
om 7 20,
om 8 21]) (
.seq ( .region [
om 22 8,
ob 23 .eql (.t 22) (.c (.i .i64 0))]) ( .cond (.t 23) (
.seq ( .region [
 oa 24 5 2,ol 25 24 1 false,⟨(some 26),.build [(.i .i64 0),(.i .i64 0),(.s []),.nilsl] [(0,1,(.c (.i .i64 6))),(2,1,(.t 25))],none⟩,ot 6 26 4]) ( .ret)) ( .skip)))) (
.seq ( .region [
om 27 0,oa 28 5 2,ol 29 28 1 false,oc 30 99 [(.t 27),(.t 29)],oc 31 98 [(.t 30)],ot 6 31 4]) ( .ret))) ( .skip))) (
.seq (
.seq ( .region [
 oa 32 5 3,ol 33 32 1 false,on 34 33,
ob 35 .eql (.t 34) (.c (.i .i64 0))]) ( .cond (.t 35) (
.seq ( .region [
 oa 36 5 0,ol 37 36 1 false,oa 38 5 1,ol 39 38 1 false,⟨(some 40),.build [(.i .i64 0),(.i .i64 0),(.s []),.nilsl] [(0,1,(.t 37)),(1,1,(.t 39))],none⟩,ot 6 40 4]) ( .ret)) ( .skip))) (
.seq ( .draws [([],oa 41 5 0),([],ol 42 41 1 false),([],oa 43 5 3),([1],ol 44 43 1 false),([],on 45 44),([1],⟨(some 46),.mksl [(.i .i64 0),(.i .i64 0),(.s []),.nilsl] 56 (.t 45) false,none⟩),
([],⟨(some 47),.build [(.i .i64 0),(.i .i64 0),(.s []),.nilsl] [(0,1,(.t 42)),(3,1,(.t 46))],none⟩),
([1,3,5],⟨(some 9),.alloc [(.i .i64 0),(.i .i64 0),(.s []),.nilsl] false,none⟩),
([],ot 9 47 4)]) (
.seq (
.seq ( .region [
 oa 48 5 3,ol 49 48 1 false,on 50 49,⟨(some 51),.mv (.c (.i .i64 0)),none⟩]) ( .block 0 ( .loop c54_L1))) (
.seq ( .region [
om 65 0,ol 66 9 4 true,oc 67 100 [(.t 65),(.t 66)],ot 6 67 4]) ( .ret)))))),[.cell 6 4 true],true,none⟩
theorem k54:CodeOk Tryz.prog 54 c54:=codeOk (hs:= []) Tryz.func54 (by kernel_rfl)
def c55:AFunc:=⟨10,
.seq ( .region [
 ⟨(some 1),.box (.t 0) false,none⟩,
⟨(some 2),.mv (.c (.i .i64 0)),none⟩]) (
.seq ( .region [
 ⟨(some 3),.alloc [(.i .i64 0)] true,none⟩,
⟨none,.st (.t 3) (.c (.i .i64 0)) 1,none⟩]) (
.seq (
.seq ( .region [
 ol 4 1 4 true,oc 5 101 [(.t 4),(.c (.i .i64 1)),(.t 3)],⟨(some 6),.un .not (.t 5),none⟩]) ( .cond (.t 6) (
.seq ( .region [
 ⟨(some 2),.mv (.c (.i .i64 10)),none⟩]) ( .ret)) ( .skip))) (
.seq (
.seq ( .region [
 ol 7 1 4 true,oc 8 102 [(.t 7)],⟨(some 9),.un .not (.t 8),none⟩]) ( .cond (.t 9) (
.seq ( .region [
 ⟨(some 2),.mv (.c (.i .i64 1)),none⟩]) ( .ret)) ( .skip))) (
.seq ( .region [
 ⟨(some 2),.mv (.c (.i .i64 0)),none⟩]) ( .ret))))),[.tmp 2],false,none⟩
theorem k55:CodeOk Tryz.prog 55 c55:=codeOk (hs:= [3]) Tryz.func55 (by kernel_rfl)
def c60_L1:ACode:=
.seq (
.seq ( .region [
om 34 5,oa 35 2 3,ol 36 35 1 false,on 37 36,
ob 38 .lss (.t 34) (.t 37)]) ( .cond (.t 38) ( .skip) ( .exit 0))) (
.seq ( .block 1 (
.seq ( .draws [([],oa 41 2 3),([],ol 42 41 1 false),([],
om 43 5),([],oi 44 42 43 4),([],ol 45 44 4 true),([],oa 46 3 3),([1,4],ol 47 46 1 false),([],
om 48 5),([],oi 49 47 48 4),([1,4],ol 50 49 4 true),([],oc 51 60 [(.t 45),(.t 50)]),([],⟨(some 52),.un .not (.t 51),none⟩)]) ( .cond (.t 52) (
.seq ( .region [
 ⟨(some 4),.mv (.c (.b false)),none⟩]) ( .ret)) ( .skip)))) ( .region [
om 39 5,
ob 40 .add (.t 39) (.c (.i .i64 1)),
om 5 40]))
def c60:AFunc:=⟨53,
.seq ( .region [
 ⟨(some 2),.box (.t 0) false,none⟩,
⟨(some 3),.box (.t 1) false,none⟩,
⟨(some 4),.mv (.c (.b false)),none⟩]) (
.seq (
.seq ( .region [
 oa 6 2 0,ol 7 6 1 false,oa 8 3 0,ol 9 8 1 false,
ob 10 .neq (.t 7) (.t 9),
om 11 10,⟨(some 12),.fa (.t 2) 1,(some (11,false))⟩,
⟨(some 13),.ld (.t 12) 1 false,(some (11,false))⟩,
⟨(some 14),.fa (.t 3) 1,(some (11,false))⟩,
⟨(some 15),.ld (.t 14) 1 false,(some (11,false))⟩,
⟨(some 16),.bin .neq (.t 13) (.t 15),(some (11,false))⟩,
⟨(some 17),.pick (.t 11) (.c (.b true)) (.t 16),none⟩,
om 18 17,⟨(some 19),.fa (.t 2) 2,(some (18,false))⟩,
⟨(some 20),.ld (.t 19) 1 false,(some (18,false))⟩,
⟨(some 21),.fa (.t 3) 2,(some (18,false))⟩,
⟨(some 22),.ld (.t 21) 1 false,(some (18,false))⟩,
⟨(some 23),.bin .neq (.t 20) (.t 22),(some (18,false))⟩,
⟨(some 24),.pick (.t 18) (.c (.b true)) (.t 23),none⟩,
om 25 24,⟨(some 26),.fa (.t 2) 3,(some (25,false))⟩,
⟨(some 27),.ld (.t 26) 1 false,(some (25,false))⟩,
⟨(some 28),.lenV (.t 27),(some (25,false))⟩,
⟨(some 29),.fa (.t 3) 3,(some (25,false))⟩,
⟨(some 30),.ld (.t 29) 1 false,(some (25,false))⟩,
⟨(some 31),.lenV (.t 30),(some (25,false))⟩,
⟨(some 32),.bin .neq (.t 28) (.t 31),(some (25,false))⟩,
⟨(some 33),.pick (.t 25) (.c (.b true)) (.t 32),none⟩]) ( .cond (.t 33) (
.seq ( .region [
 ⟨(some 4),.mv (.c (.b false)),none⟩]) ( .ret)) ( .skip))) (
.seq (
.seq ( .region [
 ⟨(some 5),.mv (.c (.i .i64 0)),none⟩]) ( .block 0 ( .loop c60_L1))) (
.seq ( .region [
 ⟨(some 4),.mv (.c (.b true)),none⟩]) ( .ret)))),[.tmp 4],false,none⟩
theorem k60:CodeOk Tryz.prog 60 c60:=codeOk (hs:= []) Tryz.func60 (by kernel_rfl)
def c80_L1:ACode:=
.seq ( .region [
 ob 22 .lss (.t 21) (.t 20)]) (
.seq ( .cond (.t 22) ( .skip) ( .exit 0)) (
.seq ( .block 1 (
.seq ( .region [
 oi 23 19 21 4,ol 24 23 4 true,⟨(some 5),.alloc [(.i .i64 0),(.i .i64 0),(.s []),.nilsl] false,none⟩,ot 5 24 4]) ( .region [
 ol 25 5 4 true,
om 26 1,oc 27 80 [(.t 25),(.t 26)]]))) ( .region [
 ob 28 .add (.t 21) (.c (.i .i64 1)),
om 21 28])))
def c80:AFunc:=⟨29,
.seq ( .region [
 ⟨(some 2),.box (.t 0) false,none⟩]) (
.seq (
.seq ( .region [
 oa 6 2 0,ol 7 6 1 false,
ob 8 .eql (.t 7) (.c (.i .i64 6))]) ( .cond (.t 8) ( .draws [([],
om 9 1),([],
om 10 1),([],⟨(some 11),.nck (.t 10),none⟩),
([],ol 12 11 1 false),([],oa 13 2 2),([3],ol 14 13 1 false),([3],⟨(some 15),.bsl [(.s [])] 1 [(0,(.t 14))],none⟩),
([],⟨(some 16),.app 1 16 (.t 12) (.t 15) true false,none⟩),
([],⟨(some 17),.nck (.t 9),none⟩),
([],ot 17 16 1)]) ( .skip))) (
.seq ( .region [
 oa 18 2 3,ol 19 18 1 false,on 20 19,⟨(some 21),.mv (.c (.i .i64 0)),none⟩]) ( .block 0 ( .loop c80_L1)))),[],true,none⟩
theorem k80:CodeOk Tryz.prog 80 c80:=codeOk (hs:= [16]) Tryz.func80 (by kernel_rfl)
def c84_L1:ACode:=
.seq (
.seq ( .region [
om 29 6,
om 30 4,on 31 30,
ob 32 .lss (.t 29) (.t 31)]) ( .cond (.t 32) ( .skip) ( .exit 3))) (
.seq ( .block 4 ( .region [
om 35 3,
om 36 4,
om 37 6,oi 38 36 37 1,ol 39 38 1 false,
ob 40 .add (.c (.s [97,102,116,101,114,46])) (.t 39),⟨(some 41),.bsl [(.s [])] 1 [(0,(.t 40))],none⟩,
⟨(some 42),.app 1 16 (.t 35) (.t 41) false false,none⟩,
om 3 42])) ( .region [
om 33 6,
ob 34 .add (.t 33) (.c (.i .i64 1)),
om 6 34]))
def c84_L2:ACode:=
.seq (
.seq ( .region [
om 15 5,
om 16 4,on 17 16,
ob 18 .lss (.t 15) (.t 17)]) ( .cond (.t 18) ( .skip) ( .exit 1))) (
.seq ( .block 2 ( .region [
om 21 3,
om 22 4,
om 23 5,oi 24 22 23 1,ol 25 24 1 false,
ob 26 .add (.c (.s [98,101,102,111,114,101,46])) (.t 25),⟨(some 27),.bsl [(.s [])] 1 [(0,(.t 26))],none⟩,
⟨(some 28),.app 1 16 (.t 21) (.t 27) false false,none⟩,
om 3 28])) ( .region [
om 19 5,
ob 20 .add (.t 19) (.c (.i .i64 1)),
om 5 20]))
def c84:AFunc:=⟨47,
.seq ( .region [
 ⟨(some 2),.mv (.c .nilsl),none⟩]) (
.seq (
.seq ( .region [
om 7 0]) ( .block 0 (
.seq ( .region [
 ob 9 .eql (.t 7) (.c (.i .i64 1)),
om 8 9]) ( .cond (.t 8) (
.seq ( .region [
 oc 10 132 [],
om 2 10]) ( .ret)) (
.seq ( .region [
 ob 12 .eql (.t 7) (.c (.i .i64 2)),
om 11 12]) ( .cond (.t 11) (
.seq ( .region [
 ⟨(some 13),.bsl [(.s [])] 3 [(0,(.c (.s [114,101,115,116]))),(1,(.c (.s [110,105,103,104,116,115]))),(2,(.c (.s [104,111,109,101])))],none⟩,
om 3 13]) (
.seq ( .region [
 oc 14 132 [],
om 4 14]) (
.seq (
.seq ( .region [
 ⟨(some 5),.mv (.c (.i .i64 0)),none⟩]) ( .block 1 ( .loop c84_L2))) (
.seq (
.seq ( .region [
 ⟨(some 6),.mv (.c (.i .i64 0)),none⟩]) ( .block 3 ( .loop c84_L1))) (
.seq ( .region [
om 43 3,
om 2 43]) ( .ret)))))) (
.seq ( .region [
 ob 45 .eql (.t 7) (.c (.i .i64 3)),
om 44 45]) ( .cond (.t 44) (
.seq ( .region [
 ⟨(some 46),.bsl [(.s [])] 7 [(0,(.c (.s [100,117,116,105,101,115]))),(1,(.c (.s [108,101,103,115]))),(2,(.c (.s [104,101,97,100,115]))),(3,(.c (.s [100,97,121,115]))),(4,(.c (.s [98,108,111,99,107]))),(5,(.c (.s [115,112,97,110]))),(6,(.c (.s [99,114,101,100,105,116])))],none⟩,
om 2 46]) ( .ret)) ( .skip))))))))) (
.seq ( .region [
 ⟨(some 2),.mv (.c .nilsl),none⟩]) ( .ret))),[.tmp 2],false,none⟩
theorem k84:CodeOk Tryz.prog 84 c84:=codeOk (hs:= []) Tryz.func84 (by kernel_rfl)
def c85_L1:ACode:=
.seq (
.seq ( .region [
om 44 7,
om 45 6,on 46 45,
ob 47 .lss (.t 44) (.t 46)]) ( .cond (.t 47) ( .skip) ( .exit 0))) (
.seq ( .block 1 (
.seq (
.seq ( .region [
om 50 6,
om 51 7,oi 52 50 51 1,ol 53 52 1 false,
om 54 1,
ob 55 .neq (.t 53) (.t 54)]) ( .cond (.t 55) ( .exit 1) ( .skip))) (
.seq (
.seq ( .region [
om 56 1]) ( .block 2 (
.seq (
.seq ( .region [
 ob 58 .eql (.t 56) (.c (.s [108,101,103,115])),
om 57 58]) ( .cond (.t 57) ( .skip) (
.seq ( .region [
 ob 59 .eql (.t 56) (.c (.s [104,101,97,100,115])),
om 57 59]) ( .cond (.t 57) ( .skip) (
.seq ( .region [
 ob 60 .eql (.t 56) (.c (.s [116,121,112,101,115])),
om 57 60]) ( .cond (.t 57) ( .skip) (
.seq ( .region [
 ob 61 .eql (.t 56) (.c (.s [110,105,103,104,116,115])),
om 57 61]) ( .cond (.t 57) ( .skip) (
.seq ( .region [
 ob 62 .eql (.t 56) (.c (.s [100,117,116,105,101,115])),
om 57 62]) ( .cond (.t 57) ( .skip) ( .region [
 ob 63 .eql (.t 56) (.c (.s [100,97,121,115])),
om 57 63]))))))))))) ( .cond (.t 57) (
.seq ( .region [
 ⟨(some 4),.mv (.c (.i .i64 1)),none⟩,
⟨(some 5),.mv (.c (.i .i64 0)),none⟩]) ( .ret)) (
.seq (
.seq ( .region [
 ob 65 .eql (.t 56) (.c (.s [115,116,97,114,116])),
om 64 65]) ( .cond (.t 64) ( .skip) ( .region [
 ob 66 .eql (.t 56) (.c (.s [101,110,100])),
om 64 66]))) ( .cond (.t 64) (
.seq ( .region [
 ⟨(some 4),.mv (.c (.i .i64 3)),none⟩,
⟨(some 5),.mv (.c (.i .i64 0)),none⟩]) ( .ret)) (
.seq ( .region [
 ob 68 .eql (.t 56) (.c (.s [104,111,109,101])),
om 67 68]) ( .cond (.t 67) (
.seq ( .region [
 ⟨(some 4),.mv (.c (.i .i64 4)),none⟩,
⟨(some 5),.mv (.c (.i .i64 0)),none⟩]) ( .ret)) ( .skip))))))))) (
.seq ( .region [
 ⟨(some 4),.mv (.c (.i .i64 2)),none⟩,
⟨(some 5),.mv (.c (.i .i64 0)),none⟩]) ( .ret))))) ( .region [
om 48 7,
ob 49 .add (.t 48) (.c (.i .i64 1)),
om 7 49]))
def c85:AFunc:=⟨69,
.seq ( .region [
 ⟨(some 4),.mv (.c (.i .i64 0)),none⟩,
⟨(some 5),.mv (.c (.i .i64 0)),none⟩]) (
.seq (
.seq ( .region [
om 8 0,
ob 9 .eql (.t 8) (.c (.i .i64 2)),
om 10 9,⟨(some 11),.mv (.t 1),(some (10,true))⟩,
⟨(some 12),.lenS (.t 11),(some (10,true))⟩,
⟨(some 13),.bin .gtr (.t 12) (.c (.i .i64 7)),(some (10,true))⟩,
⟨(some 14),.pick (.t 10) (.t 13) (.c (.b false)),none⟩,
om 15 14,⟨(some 16),.mv (.t 1),(some (15,true))⟩,
⟨(some 17),.slS (.t 16) none (some (.c (.i .i64 7))),(some (15,true))⟩,
⟨(some 18),.bin .eql (.t 17) (.c (.s [98,101,102,111,114,101,46])),(some (15,true))⟩,
⟨(some 19),.pick (.t 15) (.t 18) (.c (.b false)),none⟩]) ( .cond (.t 19) (
.seq ( .region [
om 20 1,⟨(some 21),.slS (.t 20) (some (.c (.i .i64 7))) none,none⟩,oc 22 85 [(.c (.i .i64 1)),(.t 21)],oe 23 22 0,oe 24 22 1,
om 4 23,
om 5 24]) ( .ret)) ( .skip))) (
.seq (
.seq ( .region [
om 25 0,
ob 26 .eql (.t 25) (.c (.i .i64 2)),
om 27 26,⟨(some 28),.mv (.t 1),(some (27,true))⟩,
⟨(some 29),.lenS (.t 28),(some (27,true))⟩,
⟨(some 30),.bin .gtr (.t 29) (.c (.i .i64 6)),(some (27,true))⟩,
⟨(some 31),.pick (.t 27) (.t 30) (.c (.b false)),none⟩,
om 32 31,⟨(some 33),.mv (.t 1),(some (32,true))⟩,
⟨(some 34),.slS (.t 33) none (some (.c (.i .i64 6))),(some (32,true))⟩,
⟨(some 35),.bin .eql (.t 34) (.c (.s [97,102,116,101,114,46])),(some (32,true))⟩,
⟨(some 36),.pick (.t 32) (.t 35) (.c (.b false)),none⟩]) ( .cond (.t 36) (
.seq ( .region [
om 37 1,⟨(some 38),.slS (.t 37) (some (.c (.i .i64 6))) none,none⟩,oc 39 85 [(.c (.i .i64 1)),(.t 38)],oe 40 39 0,oe 41 39 1,
om 4 40,
om 5 41]) ( .ret)) ( .skip))) (
.seq ( .region [
om 42 0,oc 43 84 [(.t 42)],
om 6 43]) (
.seq (
.seq ( .region [
 ⟨(some 7),.mv (.c (.i .i64 0)),none⟩]) ( .block 0 ( .loop c85_L1))) (
.seq ( .region [
 ⟨(some 4),.mv (.c (.i .i64 0)),none⟩,
⟨(some 5),.mv (.c (.i .i64 6)),none⟩]) ( .ret)))))),[.tmp 4,.tmp 5],false,none⟩
theorem k85:CodeOk Tryz.prog 85 c85:=codeOk (hs:= []) Tryz.func85 (by kernel_rfl)
end Go.Proofs.YtfenhjpkomldcaaGreat
