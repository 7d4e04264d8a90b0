/- The codes of functions of the program, as the evaluator reads them; that each is what its compiler makes of the model's function. Conditions: none. -/
import Derived.Test.YtfenhjpkomldcaaGreatEvF
import Derived.Test.YtfenhjpkomldcaaGreatChecked
import Derived.KernelRfl
set_option maxRecDepth 100000
namespace Go.Proofs.YtfenhjpkomldcaaGreat
open Go Go.Ev
def Q1:aC:=⟨52,
.seq ( .region [
 ⟨(some 5),.box (.t 2) false,none⟩,
⟨(some 6),.mv (.c (.b false)),none⟩]) (
.seq (
.seq ( .region [
om 11 0,oc 12 44 [(.t 11)],⟨(some 13),.un .not (.t 12),none⟩,
om 14 13,⟨(some 15),.ld (.t 5) 4 true,(some (14,false))⟩,
⟨(some 16),.callf 45 [(.t 15)],(some (14,false))⟩,
⟨(some 17),.un .not (.t 16),(some (14,false))⟩,
⟨(some 18),.pick (.t 14) (.c (.b true)) (.t 17),none⟩]) ( .cond (.t 18) (
.seq ( .region [
 oc 19 20 [],
om 6 19]) ( .ret)) ( .skip))) (
.seq ( .region [
om 21 0,
om 22 1,ol 23 5 4 true,oc 24 16 [(.t 21),(.t 22),(.t 23)],
om 20 24,oe 25 20 0,oe 26 20 1,⟨(some 7),.alloc [(.i .i64 0),(.i .i64 0),(.s []),.nilsl] false,none⟩,ot 7 25 4,
om 8 26]) (
.seq ( .region [
om 28 0,
om 29 1,ol 30 5 4 true,oc 31 18 [(.t 28),(.t 29),(.t 30)],
om 27 31,oe 32 27 0,oe 33 27 1,⟨(some 9),.alloc [(.i .i64 0),(.i .i64 0),(.s []),.nilsl] false,none⟩,ot 9 32 4,
om 10 33]) (
.seq ( .draws [([],
om 34 8),([],
om 35 10),([],
ob 36 .eql (.t 34) (.t 35)),([],
om 37 36),([],⟨(some 38),.ld (.t 7) 4 true,(some (37,true))⟩),
([4],⟨(some 39),.ld (.t 9) 4 true,(some (37,true))⟩),
([],⟨(some 40),.callf 19 [(.t 38),(.t 39)],(some (37,true))⟩),
([],⟨(some 41),.pick (.t 37) (.t 40) (.c (.b false)),none⟩),
([],
om 42 41),([],⟨(some 43),.ld (.t 5) 4 true,(some (42,true))⟩),
([],⟨(some 44),.callf 47 [(.t 43)],(some (42,true))⟩),
([9,10],⟨(some 45),.ld (.t 5) 4 true,(some (42,true))⟩),
([],⟨(some 46),.callf 48 [(.t 45)],(some (42,true))⟩),
([],⟨(some 47),.callf 46 [(.t 44),(.t 46)],(some (42,true))⟩),
([],⟨(some 48),.pick (.t 42) (.t 47) (.c (.b false)),none⟩),
([],
om 49 48),([],⟨(some 50),.callf 20 [],(some (49,true))⟩),
([],⟨(some 51),.pick (.t 49) (.t 50) (.c (.b false)),none⟩),
([],
om 6 51)]) ( .ret))))),[.tmp 6],false,none⟩
theorem k13:az Tryz.prog 13 Q1:=codeOk (hs:= []) Tryz.func13 (by kernel_rfl)
def Og:aC:=⟨35,
.seq ( .region [
 ⟨(some 5),.box (.t 2) false,none⟩,
⟨(some 6),.alloc [(.i .i64 0),(.i .i64 0),(.s []),.nilsl] false,none⟩,
⟨(some 7),.mv (.c (.i .i64 0)),none⟩]) (
.seq (
.seq ( .region [
om 13 0,
om 14 1,ol 15 5 4 true,oc 16 52 [(.t 13),(.t 14),(.t 15)],
om 12 16,oe 17 12 0,oe 18 12 1,
om 8 17,
om 9 18]) (
.seq ( .region [
om 19 9,
ob 20 .neq (.t 19) (.c (.i .i64 0))]) ( .cond (.t 20) (
.seq ( .region [
 ⟨(some 21),.build [(.i .i64 0),(.i .i64 0),(.s []),.nilsl] [],none⟩,
om 22 9,ot 6 21 4,
om 7 22]) ( .ret)) ( .skip)))) (
.seq ( .region [
om 23 0,⟨(some 24),.mkmap true,none⟩,oc 25 53 [(.c .nilsl)],⟨(some 26),.build [.nilsl,.nilmp,.nilptr] [(0,1,(.t 23)),(1,1,(.t 24)),(2,1,(.t 25))],none⟩,
⟨(some 10),.alloc [.nilsl,.nilmp,.nilptr] true,none⟩,ot 10 26 3]) (
.seq ( .region [
om 27 1,ol 28 5 4 true,oc 29 54 [(.t 10),(.t 27),(.t 28)],⟨(some 11),.alloc [(.i .i64 0),(.i .i64 0),(.s []),.nilsl] false,none⟩,ot 11 29 4]) (
.seq (
.seq ( .region [
 ol 30 11 4 true,oc 31 55 [(.t 30)],
ob 32 .eql (.t 31) (.c (.i .i64 10))]) ( .cond (.t 32) (
.seq ( .region [
 ⟨(some 33),.build [(.i .i64 0),(.i .i64 0),(.s []),.nilsl] [],none⟩,ot 6 33 4,⟨(some 7),.mv (.c (.i .i64 10)),none⟩]) ( .ret)) ( .skip))) (
.seq ( .region [
 ol 34 11 4 true,ot 6 34 4,⟨(some 7),.mv (.c (.i .i64 0)),none⟩]) ( .ret)))))),[.cell 6 4 true,.tmp 7],false,none⟩
theorem k16:az Tryz.prog 16 Og:=codeOk (hs:= [24,10]) Tryz.func16 (by kernel_rfl)
def Oh:aC:=⟨33,
.seq ( .region [
 ⟨(some 5),.box (.t 2) false,none⟩,
⟨(some 6),.alloc [(.i .i64 0),(.i .i64 0),(.s []),.nilsl] false,none⟩,
⟨(some 7),.mv (.c (.i .i64 0)),none⟩]) (
.seq (
.seq ( .region [
om 12 0,
om 13 1,ol 14 5 4 true,oc 15 56 [(.t 12),(.t 13),(.t 14)],
om 11 15,oe 16 11 0,oe 17 11 1,
om 8 16,
om 9 17]) (
.seq ( .region [
om 18 9,
ob 19 .neq (.t 18) (.c (.i .i64 0))]) ( .cond (.t 19) (
.seq ( .region [
 ⟨(some 20),.build [(.i .i64 0),(.i .i64 0),(.s []),.nilsl] [],none⟩,
om 21 9,ot 6 20 4,
om 7 21]) ( .ret)) ( .skip)))) (
.seq ( .draws [([],
om 22 0),([],oc 23 58 [(.t 22)]),([],
om 24 0),([],
om 25 1),([1],ol 26 5 4 true),([],oc 27 57 [(.t 23),(.t 24),(.t 25),(.t 26)]),([1,4,5],⟨(some 10),.alloc [(.i .i64 0),(.i .i64 0),(.s []),.nilsl] false,none⟩),
([],ot 10 27 4)]) (
.seq (
.seq ( .region [
 ol 28 10 4 true,oc 29 59 [(.t 28)],
ob 30 .neq (.t 29) (.c (.i .i64 0))]) ( .cond (.t 30) (
.seq ( .region [
 ⟨(some 31),.build [(.i .i64 0),(.i .i64 0),(.s []),.nilsl] [],none⟩,ot 6 31 4,⟨(some 7),.mv (.c (.i .i64 10)),none⟩]) ( .ret)) ( .skip))) (
.seq ( .region [
 ol 32 10 4 true,ot 6 32 4,⟨(some 7),.mv (.c (.i .i64 0)),none⟩]) ( .ret))))),[.cell 6 4 true,.tmp 7],false,none⟩
theorem k18:az Tryz.prog 18 Oh:=codeOk (hs:= []) Tryz.func18 (by kernel_rfl)
def Rq:aC:=⟨8,
.seq ( .region [
 ⟨(some 2),.box (.t 0) false,none⟩,
⟨(some 3),.box (.t 1) false,none⟩,
⟨(some 4),.mv (.c (.b false)),none⟩]) (
.seq ( .region [
 ol 5 2 4 true,ol 6 3 4 true,oc 7 60 [(.t 5),(.t 6)],
om 4 7]) ( .ret)),[.tmp 4],false,none⟩
theorem k19:az Tryz.prog 19 Rq:=codeOk (hs:= []) Tryz.func19 (by kernel_rfl)
def Wy:aC:=⟨44,
.seq ( .region [
 ⟨(some 0),.mv (.c (.b false)),none⟩]) (
.seq ( .region [
 ⟨(some 6),.build [(.i .i64 0),(.i .i64 0),(.s []),.nilsl] [(0,1,(.c (.i .i64 6))),(2,1,(.c (.s [108,101,103,115])))],none⟩,
⟨(some 1),.alloc [(.i .i64 0),(.i .i64 0),(.s []),.nilsl] false,none⟩,ot 1 6 4]) (
.seq ( .draws [([],ol 8 1 4 true),([0],oc 9 21 [(.c (.i .i64 3))]),([0],oc 10 21 [(.c (.i .i64 2))]),([0],⟨(some 11),.bsl [(.i .i64 0),(.i .i64 0),(.s []),.nilsl] 2 [(0,(.t 9)),(1,(.t 10))],none⟩),
([0],oc 12 22 [(.c (.i .i64 9)),(.t 11)]),([],⟨(some 13),.bsl [(.i .i64 0),(.i .i64 0),(.s []),.nilsl] 2 [(0,(.t 8)),(1,(.t 12))],none⟩),
([],oc 14 22 [(.c (.i .i64 10)),(.t 13)]),([],oc 15 16 [(.c .nilsl),(.c (.i .i64 1)),(.t 14)]),([],
om 7 15),([],oe 16 7 0),([],oe 17 7 1),([0,1,2,3,4,5,6,7],⟨(some 2),.alloc [(.i .i64 0),(.i .i64 0),(.s []),.nilsl] false,none⟩),
([],ot 2 16 4),([],
om 3 17)]) (
.seq ( .region [
 oc 19 21 [(.c (.i .i64 2))],oc 20 21 [(.c (.i .i64 5))],⟨(some 21),.bsl [(.i .i64 0),(.i .i64 0),(.s []),.nilsl] 2 [(0,(.t 19)),(1,(.t 20))],none⟩,oc 22 22 [(.c (.i .i64 9)),(.t 21)],oc 23 16 [(.c .nilsl),(.c (.i .i64 1)),(.t 22)],
om 18 23,oe 24 18 0,oe 25 18 1,⟨(some 4),.alloc [(.i .i64 0),(.i .i64 0),(.s []),.nilsl] false,none⟩,ot 4 24 4,
om 5 25]) (
.seq ( .draws [([],
om 26 3),([],
ob 27 .eql (.t 26) (.c (.i .i64 0))),([],
om 28 27),([],⟨(some 29),.mv (.t 5),(some (28,true))⟩),
([],⟨(some 30),.bin .eql (.t 29) (.c (.i .i64 0)),(some (28,true))⟩),
([],⟨(some 31),.pick (.t 28) (.t 30) (.c (.b false)),none⟩),
([],
om 32 31),([],⟨(some 33),.ld (.t 2) 4 true,(some (32,true))⟩),
([7],⟨(some 34),.ld (.t 1) 4 true,(some (32,true))⟩),
([],⟨(some 35),.callf 19 [(.t 33),(.t 34)],(some (32,true))⟩),
([],⟨(some 36),.pick (.t 32) (.t 35) (.c (.b false)),none⟩),
([],
om 37 36),([],⟨(some 38),.ld (.t 4) 4 true,(some (37,true))⟩),
([12],⟨(some 39),.callf 21 [(.c (.i .i64 3))],(some (37,true))⟩),
([12],⟨(some 40),.bsl [(.i .i64 0),(.i .i64 0),(.s []),.nilsl] 1 [(0,(.t 39))],(some (37,true))⟩),
([12],⟨(some 41),.callf 22 [(.c (.i .i64 7)),(.t 40)],(some (37,true))⟩),
([],⟨(some 42),.callf 19 [(.t 38),(.t 41)],(some (37,true))⟩),
([],⟨(some 43),.pick (.t 37) (.t 42) (.c (.b false)),none⟩),
([],
om 0 43)]) ( .ret))))),[.tmp 0],false,none⟩
theorem k20:az Tryz.prog 20 Wy:=codeOk (hs:= []) Tryz.func20 (by kernel_rfl)
def Z6:aC:=⟨5,
.seq ( .region [
 ⟨(some 2),.alloc [(.i .i64 0),(.i .i64 0),(.s []),.nilsl] false,none⟩]) (
.seq ( .region [
om 3 0,⟨(some 4),.build [(.i .i64 0),(.i .i64 0),(.s []),.nilsl] [(0,1,(.c (.i .i64 1))),(1,1,(.t 3))],none⟩,ot 2 4 4]) ( .ret)),[.cell 2 4 true],false,none⟩
theorem k21:az Tryz.prog 21 Z6:=codeOk (hs:= []) Tryz.func21 (by kernel_rfl)
def Z7:aC:=⟨8,
.seq ( .region [
 ⟨(some 4),.alloc [(.i .i64 0),(.i .i64 0),(.s []),.nilsl] false,none⟩]) (
.seq ( .region [
om 5 0,
om 6 1,⟨(some 7),.build [(.i .i64 0),(.i .i64 0),(.s []),.nilsl] [(0,1,(.t 5)),(3,1,(.t 6))],none⟩,ot 4 7 4]) ( .ret)),[.cell 4 4 true],false,none⟩
theorem k22:az Tryz.prog 22 Z7:=codeOk (hs:= []) Tryz.func22 (by kernel_rfl)
def iM:ba:=
.seq (
.seq ( .region [
om 5 4,
om 6 0,on 7 6,
ob 8 .lss (.t 5) (.t 7),
om 9 8,⟨(some 10),.mv (.t 3),(some (9,true))⟩,
⟨(some 11),.bin .lss (.t 10) (.c (.i .i64 1000)),(some (9,true))⟩,
⟨(some 12),.pick (.t 9) (.t 11) (.c (.b false)),none⟩]) ( .cond (.t 12) ( .skip) ( .exit 0))) (
.seq ( .block 1 ( .region [
om 15 3,
om 16 0,
om 17 4,oi 18 16 17 5,oa 19 18 1,ol 20 19 4 true,oc 21 61 [(.t 20)],
ob 22 .add (.t 15) (.t 21),
om 3 22])) ( .region [
om 13 4,
ob 14 .add (.t 13) (.c (.i .i64 1)),
om 4 14]))
def Rr:aC:=⟨25,
.seq ( .region [
 ⟨(some 2),.mv (.c (.b false)),none⟩]) (
.seq ( .region [
 ⟨(some 3),.mv (.c (.i .i64 0)),none⟩]) (
.seq (
.seq ( .region [
 ⟨(some 4),.mv (.c (.i .i64 0)),none⟩]) ( .block 0 ( .loop iM))) (
.seq ( .region [
om 23 3,
ob 24 .lss (.t 23) (.c (.i .i64 500)),
om 2 24]) ( .ret)))),[.tmp 2],false,none⟩
theorem k44:az Tryz.prog 44 Rr:=codeOk (hs:= []) Tryz.func44 (by kernel_rfl)
def Rs:aC:=⟨6,
.seq ( .region [
 ⟨(some 1),.box (.t 0) false,none⟩,
⟨(some 2),.mv (.c (.b false)),none⟩]) (
.seq ( .region [
 ol 3 1 4 true,oc 4 61 [(.t 3)],
ob 5 .lss (.t 4) (.c (.i .i64 400)),
om 2 5]) ( .ret)),[.tmp 2],false,none⟩
theorem k45:az Tryz.prog 45 Rs:=codeOk (hs:= []) Tryz.func45 (by kernel_rfl)
def ls:ba:=
.seq (
.seq ( .region [
om 11 5,
om 12 0,on 13 12,
ob 14 .lss (.t 11) (.t 13)]) ( .cond (.t 14) ( .skip) ( .exit 0))) (
.seq ( .block 1 (
.seq ( .draws [([],
om 17 0),([],
om 18 5),([],oi 19 17 18 1),([],ol 20 19 1 false),([],
om 21 1),([],
om 22 5),([],oi 23 21 22 1),([3],ol 24 23 1 false),([],
ob 25 .neq (.t 20) (.t 24))]) ( .cond (.t 25) (
.seq ( .region [
 ⟨(some 4),.mv (.c (.b false)),none⟩]) ( .ret)) ( .skip)))) ( .region [
om 15 5,
ob 16 .add (.t 15) (.c (.i .i64 1)),
om 5 16]))
def Rt:aC:=⟨26,
.seq ( .region [
 ⟨(some 4),.mv (.c (.b false)),none⟩]) (
.seq (
.seq ( .region [
om 6 0,on 7 6,
om 8 1,on 9 8,
ob 10 .neq (.t 7) (.t 9)]) ( .cond (.t 10) (
.seq ( .region [
 ⟨(some 4),.mv (.c (.b false)),none⟩]) ( .ret)) ( .skip))) (
.seq (
.seq ( .region [
 ⟨(some 5),.mv (.c (.i .i64 0)),none⟩]) ( .block 0 ( .loop ls))) (
.seq ( .region [
 ⟨(some 4),.mv (.c (.b true)),none⟩]) ( .ret)))),[.tmp 4],false,none⟩
theorem k46:az Tryz.prog 46 Rt:=codeOk (hs:= []) Tryz.func46 (by kernel_rfl)
def Q2:aC:=⟨10,
.seq ( .region [
 ⟨(some 1),.box (.t 0) false,none⟩,
⟨(some 2),.mv (.c .nilsl),none⟩]) (
.seq ( .region [
 ⟨(some 3),.alloc [.nilsl] true,none⟩]) (
.seq ( .region [
 ol 4 1 4 true,oc 5 80 [(.t 4),(.t 3)]]) (
.seq ( .region [
 ol 6 3 1 false,oc 7 81 [(.t 6)]]) (
.seq ( .region [
 ol 8 3 1 false,oc 9 82 [(.t 8)],
om 2 9]) ( .ret))))),[.tmp 2],false,none⟩
theorem k47:az Tryz.prog 47 Q2:=codeOk (hs:= [3]) Tryz.func47 (by kernel_rfl)
def Rv:aC:=⟨5,
.seq ( .region [
 ⟨(some 1),.box (.t 0) false,none⟩,
⟨(some 2),.mv (.c .nilsl),none⟩]) (
.seq ( .region [
 ol 3 1 4 true,oc 4 83 [(.c .nilsl),(.t 3)],
om 2 4]) ( .ret)),[.tmp 2],false,none⟩
theorem k48:az Tryz.prog 48 Rv:=codeOk (hs:= []) Tryz.func48 (by kernel_rfl)
def Rw:aC:=⟨17,
.seq ( .region [
 ⟨(some 5),.box (.t 2) false,none⟩,
⟨(some 6),.mv (.c (.i .i64 0)),none⟩,
⟨(some 7),.mv (.c (.i .i64 0)),none⟩]) (
.seq ( .draws [([],
om 8 0),([],oc 9 96 [(.t 8)]),([],
om 10 1),([],
om 11 0),([],on 12 11),([1],ol 13 5 4 true),([],oc 14 97 [(.t 9),(.t 10),(.t 12),(.t 13)]),([],oe 15 14 0),([],oe 16 14 1),([],
om 6 15),([],
om 7 16)]) ( .ret)),[.tmp 6,.tmp 7],false,none⟩
theorem k52:az Tryz.prog 52 Rw:=codeOk (hs:= []) Tryz.func52 (by kernel_rfl)
def Oi:ba:=
.seq ( .region [
 ob 56 .lss (.t 55) (.t 54)]) (
.seq ( .cond (.t 56) ( .skip) ( .exit 4)) (
.seq ( .block 5 (
.seq ( .region [
om 57 55,oi 58 53 55 1,ol 59 58 1 false,
om 9 57,
om 10 59]) ( .region [
om 60 3,
om 61 8,⟨(some 62),.nck (.t 60),none⟩,oa 63 62 3,⟨(some 64),.iaA (.t 63) (.t 61) 4 1,none⟩,ol 65 64 1 false,
om 66 10,
om 67 9,⟨none,.mu (.one .str) (.t 65) (.t 66) (.t 67),none⟩]))) ( .region [
 ob 68 .add (.t 55) (.c (.i .i64 1)),
om 55 68])))
def Oj:ba:=
.seq ( .region [
 ob 44 .lss (.t 43) (.c (.i .i64 4))]) (
.seq ( .cond (.t 44) ( .skip) ( .exit 2)) (
.seq ( .block 3 (
.seq ( .region [
om 45 43,
om 8 45]) (
.seq ( .region [
om 46 3,
om 47 8,⟨(some 48),.mkmap true,none⟩,
⟨(some 49),.nck (.t 46),none⟩,oa 50 49 3,⟨(some 51),.iaA (.t 50) (.t 47) 4 1,none⟩,ot 51 48 1]) (
.seq ( .region [
om 52 8,oc 53 88 [(.t 52)],on 54 53,⟨(some 55),.mv (.c (.i .i64 0)),none⟩]) ( .block 4 ( .loop Oi)))))) ( .region [
 ob 69 .add (.t 43) (.c (.i .i64 1)),
om 43 69])))
def Ol:ba:=
.seq ( .region [
 ob 19 .lss (.t 18) (.t 17)]) (
.seq ( .cond (.t 19) ( .skip) ( .exit 0)) (
.seq ( .block 1 (
.seq ( .region [
om 20 18,oi 21 16 18 5,ol 22 21 5 true,⟨(some 5),.alloc [(.s []),(.i .i64 0),(.i .i64 0),(.s []),.nilsl] false,none⟩,
om 4 20,ot 5 22 5]) (
.seq ( .draws [([],
om 24 3),([],⟨(some 25),.nck (.t 24),none⟩),
([],oa 26 25 1),([],ol 27 26 1 false),([],oa 28 5 0),([3],ol 29 28 1 false),([],⟨(some 30),.lk (.one .str) (.t 27) (.t 29) (.i .i64 0) true,none⟩),
([],
om 23 30),([],oe 31 23 0),([],oe 32 23 1),([],
om 6 31),([],
om 7 32)]) (
.seq ( .region [
om 33 7,⟨(some 34),.un .not (.t 33),none⟩]) ( .cond (.t 34) ( .draws [([],
om 35 3),([],⟨(some 36),.nck (.t 35),none⟩),
([],oa 37 36 1),([],ol 38 37 1 false),([],oa 39 5 0),([3],ol 40 39 1 false),([],
om 41 4),([],⟨none,.mu (.one .str) (.t 38) (.t 40) (.t 41),none⟩)]) ( .skip)))))) ( .region [
 ob 42 .add (.t 18) (.c (.i .i64 1)),
om 18 42])))
def Wz:aC:=⟨71,
.seq ( .region [
 ⟨(some 2),.mv (.c .nilptr),none⟩]) (
.seq ( .region [
om 11 0,⟨(some 12),.mkmap true,none⟩,
⟨(some 13),.mkmap true,none⟩,
⟨(some 14),.build [.nilsl,.nilmp,.nilmp,.nilmp,.nilmp,.nilmp,.nilmp] [(0,1,(.t 11)),(1,1,(.t 12)),(2,1,(.t 13))],none⟩,
⟨(some 15),.box (.t 14) true,none⟩,
om 3 15]) (
.seq (
.seq ( .region [
om 16 0,on 17 16,⟨(some 18),.mv (.c (.i .i64 0)),none⟩]) ( .block 0 ( .loop Ol))) (
.seq (
.seq ( .region [
 ⟨(some 43),.mv (.c (.i .i64 0)),none⟩]) ( .block 2 ( .loop Oj))) (
.seq ( .region [
om 70 3,
om 2 70]) ( .ret))))),[.tmp 2],false,none⟩
theorem k53:az Tryz.prog 53 Wz:=codeOk (hs:= [12,13,15,48]) Tryz.func53 (by kernel_rfl)
def g8:ba:=
.seq ( .region [
 ob 52 .lss (.t 51) (.t 50)]) (
.seq ( .cond (.t 52) ( .skip) ( .exit 0)) (
.seq ( .block 1 (
.seq ( .region [
om 53 51,oi 54 49 51 4,ol 55 54 4 true,⟨(some 11),.alloc [(.i .i64 0),(.i .i64 0),(.s []),.nilsl] false,none⟩,
om 10 53,ot 11 55 4]) ( .draws [([],oa 56 9 3),([],ol 57 56 1 false),([],
om 58 10),([],
om 59 0),([],
om 60 1),([1],ol 61 11 4 true),([1],oc 62 54 [(.t 59),(.t 60),(.t 61)]),([],oi 63 57 58 4),([],ot 63 62 4)]))) ( .region [
 ob 64 .add (.t 51) (.c (.i .i64 1)),
om 51 64])))
theorem wD:Cf (sJ (.loop g8))=36891236347605421056:=nr rfl
def L3:aC:=⟨68,
.seq ( .region [
 ⟨(some 5),.box (.t 2) false,none⟩,
⟨(some 6),.alloc [(.i .i64 0),(.i .i64 0),(.s []),.nilsl] false,none⟩]) (
.seq (
.seq ( .region [
 oa 12 5 0,ol 13 12 1 false,
ob 14 .eql (.t 13) (.c (.i .i64 6))]) ( .cond (.t 14) (
.seq (
.seq ( .region [
om 16 1,oa 17 5 2,ol 18 17 1 false,oc 19 89 [(.t 16),(.t 18)],
om 15 19,oe 20 15 0,oe 21 15 1,
om 7 20,
om 8 21]) (
.seq ( .region [
om 22 8,
ob 23 .eql (.t 22) (.c (.i .i64 0))]) ( .cond (.t 23) (
.seq ( .region [
 oa 24 5 2,ol 25 24 1 false,⟨(some 26),.build [(.i .i64 0),(.i .i64 0),(.s []),.nilsl] [(0,1,(.c (.i .i64 6))),(2,1,(.t 25))],none⟩,ot 6 26 4]) ( .ret)) ( .skip)))) (
.seq ( .region [
om 27 0,oa 28 5 2,ol 29 28 1 false,oc 30 99 [(.t 27),(.t 29)],oc 31 98 [(.t 30)],ot 6 31 4]) ( .ret))) ( .skip))) (
.seq (
.seq ( .region [
 oa 32 5 3,ol 33 32 1 false,on 34 33,
ob 35 .eql (.t 34) (.c (.i .i64 0))]) ( .cond (.t 35) (
.seq ( .region [
 oa 36 5 0,ol 37 36 1 false,oa 38 5 1,ol 39 38 1 false,⟨(some 40),.build [(.i .i64 0),(.i .i64 0),(.s []),.nilsl] [(0,1,(.t 37)),(1,1,(.t 39))],none⟩,ot 6 40 4]) ( .ret)) ( .skip))) (
.seq ( .draws [([],oa 41 5 0),([],ol 42 41 1 false),([],oa 43 5 3),([1],ol 44 43 1 false),([],on 45 44),([1],⟨(some 46),.mksl [(.i .i64 0),(.i .i64 0),(.s []),.nilsl] 56 (.t 45) false,none⟩),
([],⟨(some 47),.build [(.i .i64 0),(.i .i64 0),(.s []),.nilsl] [(0,1,(.t 42)),(3,1,(.t 46))],none⟩),
([1,3,5],⟨(some 9),.alloc [(.i .i64 0),(.i .i64 0),(.s []),.nilsl] false,none⟩),
([],ot 9 47 4)]) (
.seq (
.seq ( .region [
 oa 48 5 3,ol 49 48 1 false,on 50 49,⟨(some 51),.mv (.c (.i .i64 0)),none⟩]) ( .block 0 ( .loop g8))) (
.seq ( .region [
om 65 0,ol 66 9 4 true,oc 67 100 [(.t 65),(.t 66)],ot 6 67 4]) ( .ret)))))),[.cell 6 4 true],true,none⟩
theorem k54:az Tryz.prog 54 L3:=codeOk (hs:= []) Tryz.func54 (by kernel_rfl)
def Q3:aC:=⟨10,
.seq ( .region [
 ⟨(some 1),.box (.t 0) false,none⟩,
⟨(some 2),.mv (.c (.i .i64 0)),none⟩]) (
.seq ( .region [
 ⟨(some 3),.alloc [(.i .i64 0)] true,none⟩,
⟨none,.st (.t 3) (.c (.i .i64 0)) 1,none⟩]) (
.seq (
.seq ( .region [
 ol 4 1 4 true,oc 5 101 [(.t 4),(.c (.i .i64 1)),(.t 3)],⟨(some 6),.un .not (.t 5),none⟩]) ( .cond (.t 6) (
.seq ( .region [
 ⟨(some 2),.mv (.c (.i .i64 10)),none⟩]) ( .ret)) ( .skip))) (
.seq (
.seq ( .region [
 ol 7 1 4 true,oc 8 102 [(.t 7)],⟨(some 9),.un .not (.t 8),none⟩]) ( .cond (.t 9) (
.seq ( .region [
 ⟨(some 2),.mv (.c (.i .i64 1)),none⟩]) ( .ret)) ( .skip))) (
.seq ( .region [
 ⟨(some 2),.mv (.c (.i .i64 0)),none⟩]) ( .ret))))),[.tmp 2],false,none⟩
theorem k55:az Tryz.prog 55 Q3:=codeOk (hs:= [3]) Tryz.func55 (by kernel_rfl)
def Q4:aC:=⟨22,
.seq ( .region [
 ⟨(some 5),.box (.t 2) false,none⟩,
⟨(some 6),.mv (.c (.i .i64 0)),none⟩,
⟨(some 7),.mv (.c (.i .i64 0)),none⟩]) (
.seq (
.seq ( .region [
 ol 9 5 4 true,oc 10 59 [(.t 9)],
om 8 10]) (
.seq ( .region [
om 11 8,
ob 12 .neq (.t 11) (.c (.i .i64 0))]) ( .cond (.t 12) (
.seq ( .region [
om 13 8,⟨(some 6),.mv (.c (.i .i64 0)),none⟩,
om 7 13]) ( .ret)) ( .skip)))) (
.seq ( .draws [([],
om 14 0),([],oc 15 104 [(.t 14)]),([],
om 16 0),([],
om 17 1),([1],ol 18 5 4 true),([],oc 19 103 [(.t 15),(.t 16),(.t 17),(.t 18)]),([],oe 20 19 0),([],oe 21 19 1),([],
om 6 20),([],
om 7 21)]) ( .ret))),[.tmp 6,.tmp 7],false,none⟩
theorem k56:az Tryz.prog 56 Q4:=codeOk (hs:= []) Tryz.func56 (by kernel_rfl)
def fw:ba:=
.seq (
.seq ( .region [
om 72 18,oa 73 7 3,ol 74 73 1 false,on 75 74,
ob 76 .lss (.t 72) (.t 75)]) ( .cond (.t 76) ( .skip) ( .exit 0))) (
.seq ( .block 1 (
.seq ( .region [
om 79 0,
om 80 1,
om 81 2,oa 82 7 3,ol 83 82 1 false,
om 84 18,oi 85 83 84 4,ol 86 85 4 true,oc 87 57 [(.t 79),(.t 80),(.t 81),(.t 86)],⟨(some 19),.alloc [(.i .i64 0),(.i .i64 0),(.s []),.nilsl] false,none⟩,ot 19 87 4]) (
.seq ( .region [
 oa 88 16 3,ol 89 88 1 false,ol 90 19 4 true,⟨(some 91),.bsl [(.i .i64 0),(.i .i64 0),(.s []),.nilsl] 1 [(0,(.t 90))],none⟩,
⟨(some 92),.app 4 56 (.t 89) (.t 91) false false,none⟩,oa 93 16 3,ot 93 92 1]) (
.seq ( .region [
 ol 95 19 4 true,oc 96 107 [(.t 95)],
om 94 96,oe 97 94 0,oe 98 94 1,
om 20 97,
om 21 98]) (
.seq ( .region [
om 99 21]) ( .cond (.t 99) ( .region [
om 100 17,
om 101 20,⟨(some 102),.bsl [(.i .i64 0)] 1 [(0,(.t 101))],none⟩,
⟨(some 103),.app 1 8 (.t 100) (.t 102) false false,none⟩,
om 17 103]) ( .skip))))))) ( .region [
om 77 18,
ob 78 .add (.t 77) (.c (.i .i64 1)),
om 18 78]))
theorem qS:Cf (sJ (.loop fw))=20282409598929303941077610135552:=nr rfl
def IN:aC:=⟨118,
.seq ( .region [
 ⟨(some 7),.box (.t 3) false,none⟩,
⟨(some 8),.alloc [(.i .i64 0),(.i .i64 0),(.s []),.nilsl] false,none⟩]) (
.seq (
.seq ( .region [
 oa 22 7 0,ol 23 22 1 false,
ob 24 .eql (.t 23) (.c (.i .i64 6))]) ( .cond (.t 24) (
.seq (
.seq ( .region [
om 26 2,oa 27 7 2,ol 28 27 1 false,oc 29 85 [(.t 26),(.t 28)],
om 25 29,oe 30 25 0,oe 31 25 1,
om 9 30,
om 10 31]) (
.seq ( .region [
om 32 10,
ob 33 .eql (.t 32) (.c (.i .i64 0))]) ( .cond (.t 33) (
.seq ( .region [
 ol 34 7 4 true,ot 8 34 4]) ( .ret)) ( .skip)))) (
.seq ( .region [
om 35 1,oa 36 7 2,ol 37 36 1 false,oc 38 105 [(.t 35),(.t 37)],
om 11 38]) (
.seq ( .draws [([],
om 40 1),([],
om 41 11),([],⟨(some 42),.slV 5 (.t 40) none (some (.t 41)) none,none⟩),
([],
om 43 1),([],
om 44 11),([],oi 45 43 44 5),([],oa 46 45 1),([],ol 47 46 4 true),([],oc 48 56 [(.t 42),(.c (.i .i64 0)),(.t 47)]),([],
om 39 48),([],oe 49 39 0),([],oe 50 39 1),([],
om 12 49),([],
om 13 50)]) (
.seq ( .region [
om 51 12,
om 52 0,
om 53 11,oi 54 52 53 1,ol 55 54 1 false,oc 56 106 [(.t 51),(.t 55)],ot 8 56 4]) ( .ret))))) ( .skip))) (
.seq (
.seq ( .region [
 oa 57 7 3,ol 58 57 1 false,on 59 58,
ob 60 .eql (.t 59) (.c (.i .i64 0))]) ( .cond (.t 60) (
.seq ( .region [
 ol 61 7 4 true,ot 8 61 4]) ( .ret)) ( .skip))) (
.seq ( .region [
om 63 1,
om 64 2,ol 65 7 4 true,oc 66 56 [(.t 63),(.t 64),(.t 65)],
om 62 66,oe 67 62 0,oe 68 62 1,
om 14 67,
om 15 68]) (
.seq ( .region [
 oa 69 7 0,ol 70 69 1 false,⟨(some 71),.build [(.i .i64 0),(.i .i64 0),(.s []),.nilsl] [(0,1,(.t 70))],none⟩,
⟨(some 16),.alloc [(.i .i64 0),(.i .i64 0),(.s []),.nilsl] false,none⟩,ot 16 71 4]) (
.seq ( .region [
 ⟨(some 17),.mv (.c .nilsl),none⟩]) (
.seq (
.seq ( .region [
 ⟨(some 18),.mv (.c (.i .i64 0)),none⟩]) ( .block 0 ( .loop fw))) (
.seq (
.seq ( .region [
om 104 17,on 105 104,oa 106 16 3,ol 107 106 1 false,on 108 107,
ob 109 .eql (.t 105) (.t 108)]) ( .cond (.t 109) (
.seq ( .region [
om 110 14,oa 111 16 0,ol 112 111 1 false,
om 113 17,oc 114 108 [(.t 112),(.c (.i .i64 0)),(.t 113)],oc 115 106 [(.t 110),(.t 114)],ot 8 115 4]) ( .ret)) ( .skip))) (
.seq ( .region [
 ol 116 16 4 true,oc 117 109 [(.t 116)],ot 8 117 4]) ( .ret))))))))),[.cell 8 4 true],false,none⟩
theorem k57:az Tryz.prog 57 IN:=codeOk (hs:= []) Tryz.func57 (by kernel_rfl)
def iN:ba:=
.seq (
.seq ( .region [
om 8 4,
om 9 0,on 10 9,
ob 11 .lss (.t 8) (.t 10)]) ( .cond (.t 11) ( .skip) ( .exit 0))) (
.seq ( .block 1 (
.seq ( .region [
 ⟨(some 5),.mv (.c (.i .i64 0)),none⟩]) (
.seq (
.seq ( .draws [([],
om 15 0),([],
om 16 4),([],⟨(some 17),.slV 5 (.t 15) none (some (.t 16)) none,none⟩),
([],
om 18 0),([],
om 19 4),([],oi 20 18 19 5),([],oa 21 20 1),([],ol 22 21 4 true),([],oc 23 56 [(.t 17),(.c (.i .i64 0)),(.t 22)]),([],
om 14 23),([],oe 24 14 0),([],oe 25 14 1),([],
om 6 24),([],
om 7 25)]) (
.seq ( .region [
om 26 7,
ob 27 .eql (.t 26) (.c (.i .i64 0))]) ( .cond (.t 27) ( .draws [([],
om 28 3),([],
om 29 0),([],
om 30 4),([],⟨(some 31),.slV 5 (.t 29) none (some (.t 30)) none,none⟩),
([],
om 32 0),([],
om 33 4),([],oi 34 32 33 5),([],oa 35 34 1),([],ol 36 35 4 true),([],oc 37 110 [(.t 28),(.t 31),(.c (.i .i64 0)),(.c .nilsl),(.t 36)]),([],
om 5 37)]) ( .skip)))) ( .region [
om 38 3,
om 39 5,⟨(some 40),.bsl [(.i .i64 0)] 1 [(0,(.t 39))],none⟩,
⟨(some 41),.app 1 8 (.t 38) (.t 40) false false,none⟩,
om 3 41])))) ( .region [
om 12 4,
ob 13 .add (.t 12) (.c (.i .i64 1)),
om 4 13]))
def Rx:aC:=⟨43,
.seq ( .region [
 ⟨(some 2),.mv (.c .nilsl),none⟩]) (
.seq ( .region [
 ⟨(some 3),.mv (.c .nilsl),none⟩]) (
.seq (
.seq ( .region [
 ⟨(some 4),.mv (.c (.i .i64 0)),none⟩]) ( .block 0 ( .loop iN))) (
.seq ( .region [
om 42 3,
om 2 42]) ( .ret)))),[.tmp 2],false,none⟩
theorem k58:az Tryz.prog 58 Rx:=codeOk (hs:= []) Tryz.func58 (by kernel_rfl)
def Om:aC:=⟨19,
.seq ( .region [
 ⟨(some 1),.box (.t 0) false,none⟩,
⟨(some 2),.mv (.c (.i .i64 0)),none⟩]) (
.seq ( .region [
 ol 6 1 4 true,oc 7 111 [(.t 6)],
om 5 7,oe 8 5 0,oe 9 5 1,
om 3 8,
om 4 9]) (
.seq (
.seq ( .region [
om 10 3,
ob 11 .gtr (.t 10) (.c (.i .i64 200)),
om 12 11,⟨(some 13),.mv (.t 4),(some (12,false))⟩,
⟨(some 14),.bin .gtr (.t 13) (.c (.i .i64 16)),(some (12,false))⟩,
⟨(some 15),.pick (.t 12) (.c (.b true)) (.t 14),none⟩]) ( .cond (.t 15) (
.seq ( .region [
 ⟨(some 2),.mv (.c (.i .i64 10)),none⟩]) ( .ret)) ( .skip))) (
.seq (
.seq ( .region [
 ol 16 1 4 true,oc 17 112 [(.t 16)],⟨(some 18),.un .not (.t 17),none⟩]) ( .cond (.t 18) (
.seq ( .region [
 ⟨(some 2),.mv (.c (.i .i64 1)),none⟩]) ( .ret)) ( .skip))) (
.seq ( .region [
 ⟨(some 2),.mv (.c (.i .i64 0)),none⟩]) ( .ret))))),[.tmp 2],false,none⟩
theorem k59:az Tryz.prog 59 Om:=codeOk (hs:= []) Tryz.func59 (by kernel_rfl)
def lu:ba:=
.seq (
.seq ( .region [
om 34 5,oa 35 2 3,ol 36 35 1 false,on 37 36,
ob 38 .lss (.t 34) (.t 37)]) ( .cond (.t 38) ( .skip) ( .exit 0))) (
.seq ( .block 1 (
.seq ( .draws [([],oa 41 2 3),([],ol 42 41 1 false),([],
om 43 5),([],oi 44 42 43 4),([],ol 45 44 4 true),([],oa 46 3 3),([1,4],ol 47 46 1 false),([],
om 48 5),([],oi 49 47 48 4),([1,4],ol 50 49 4 true),([],oc 51 60 [(.t 45),(.t 50)]),([],⟨(some 52),.un .not (.t 51),none⟩)]) ( .cond (.t 52) (
.seq ( .region [
 ⟨(some 4),.mv (.c (.b false)),none⟩]) ( .ret)) ( .skip)))) ( .region [
om 39 5,
ob 40 .add (.t 39) (.c (.i .i64 1)),
om 5 40]))
def Ry:aC:=⟨53,
.seq ( .region [
 ⟨(some 2),.box (.t 0) false,none⟩,
⟨(some 3),.box (.t 1) false,none⟩,
⟨(some 4),.mv (.c (.b false)),none⟩]) (
.seq (
.seq ( .region [
 oa 6 2 0,ol 7 6 1 false,oa 8 3 0,ol 9 8 1 false,
ob 10 .neq (.t 7) (.t 9),
om 11 10,⟨(some 12),.fa (.t 2) 1,(some (11,false))⟩,
⟨(some 13),.ld (.t 12) 1 false,(some (11,false))⟩,
⟨(some 14),.fa (.t 3) 1,(some (11,false))⟩,
⟨(some 15),.ld (.t 14) 1 false,(some (11,false))⟩,
⟨(some 16),.bin .neq (.t 13) (.t 15),(some (11,false))⟩,
⟨(some 17),.pick (.t 11) (.c (.b true)) (.t 16),none⟩,
om 18 17,⟨(some 19),.fa (.t 2) 2,(some (18,false))⟩,
⟨(some 20),.ld (.t 19) 1 false,(some (18,false))⟩,
⟨(some 21),.fa (.t 3) 2,(some (18,false))⟩,
⟨(some 22),.ld (.t 21) 1 false,(some (18,false))⟩,
⟨(some 23),.bin .neq (.t 20) (.t 22),(some (18,false))⟩,
⟨(some 24),.pick (.t 18) (.c (.b true)) (.t 23),none⟩,
om 25 24,⟨(some 26),.fa (.t 2) 3,(some (25,false))⟩,
⟨(some 27),.ld (.t 26) 1 false,(some (25,false))⟩,
⟨(some 28),.lenV (.t 27),(some (25,false))⟩,
⟨(some 29),.fa (.t 3) 3,(some (25,false))⟩,
⟨(some 30),.ld (.t 29) 1 false,(some (25,false))⟩,
⟨(some 31),.lenV (.t 30),(some (25,false))⟩,
⟨(some 32),.bin .neq (.t 28) (.t 31),(some (25,false))⟩,
⟨(some 33),.pick (.t 25) (.c (.b true)) (.t 32),none⟩]) ( .cond (.t 33) (
.seq ( .region [
 ⟨(some 4),.mv (.c (.b false)),none⟩]) ( .ret)) ( .skip))) (
.seq (
.seq ( .region [
 ⟨(some 5),.mv (.c (.i .i64 0)),none⟩]) ( .block 0 ( .loop lu))) (
.seq ( .region [
 ⟨(some 4),.mv (.c (.b true)),none⟩]) ( .ret)))),[.tmp 4],false,none⟩
theorem k60:az Tryz.prog 60 Ry:=codeOk (hs:= []) Tryz.func60 (by kernel_rfl)
def iO:ba:=
.seq (
.seq ( .region [
om 5 4,oa 6 1 3,ol 7 6 1 false,on 8 7,
ob 9 .lss (.t 5) (.t 8),
om 10 9,⟨(some 11),.mv (.t 3),(some (10,true))⟩,
⟨(some 12),.bin .lss (.t 11) (.c (.i .i64 1000)),(some (10,true))⟩,
⟨(some 13),.pick (.t 10) (.t 12) (.c (.b false)),none⟩]) ( .cond (.t 13) ( .skip) ( .exit 0))) (
.seq ( .block 1 ( .region [
om 16 3,oa 17 1 3,ol 18 17 1 false,
om 19 4,oi 20 18 19 4,ol 21 20 4 true,oc 22 61 [(.t 21)],
ob 23 .add (.t 16) (.t 22),
om 3 23])) ( .region [
om 14 4,
ob 15 .add (.t 14) (.c (.i .i64 1)),
om 4 15]))
def Rz:aC:=⟨25,
.seq ( .region [
 ⟨(some 1),.box (.t 0) false,none⟩,
⟨(some 2),.mv (.c (.i .i64 0)),none⟩]) (
.seq ( .region [
 ⟨(some 3),.mv (.c (.i .i64 1)),none⟩]) (
.seq (
.seq ( .region [
 ⟨(some 4),.mv (.c (.i .i64 0)),none⟩]) ( .block 0 ( .loop iO))) (
.seq ( .region [
om 24 3,
om 2 24]) ( .ret)))),[.tmp 2],false,none⟩
theorem k61:az Tryz.prog 61 Rz:=codeOk (hs:= []) Tryz.func61 (by kernel_rfl)
def On:aC:=⟨16,
.seq ( .region [
 ⟨(some 1),.box (.t 0) false,none⟩,
⟨(some 2),.mv (.c (.b false)),none⟩]) (
.seq ( .region [
 oa 3 1 0,ol 4 3 1 false,
ob 5 .eql (.t 4) (.c (.i .i64 1)),
om 6 5,⟨(some 7),.fa (.t 1) 0,(some (6,false))⟩,
⟨(some 8),.ld (.t 7) 1 false,(some (6,false))⟩,
⟨(some 9),.bin .eql (.t 8) (.c (.i .i64 2)),(some (6,false))⟩,
⟨(some 10),.pick (.t 6) (.c (.b true)) (.t 9),none⟩,
om 11 10,⟨(some 12),.fa (.t 1) 1,(some (11,true))⟩,
⟨(some 13),.ld (.t 12) 1 false,(some (11,true))⟩,
⟨(some 14),.bin .eql (.t 13) (.c (.i .i64 0)),(some (11,true))⟩,
⟨(some 15),.pick (.t 11) (.t 14) (.c (.b false)),none⟩,
om 2 15]) ( .ret)),[.tmp 2],false,none⟩
theorem k65:az Tryz.prog 65 On:=codeOk (hs:= []) Tryz.func65 (by kernel_rfl)
def lv:ba:=
.seq ( .region [
 ob 22 .lss (.t 21) (.t 20)]) (
.seq ( .cond (.t 22) ( .skip) ( .exit 0)) (
.seq ( .block 1 (
.seq ( .region [
 oi 23 19 21 4,ol 24 23 4 true,⟨(some 5),.alloc [(.i .i64 0),(.i .i64 0),(.s []),.nilsl] false,none⟩,ot 5 24 4]) ( .region [
 ol 25 5 4 true,
om 26 1,oc 27 80 [(.t 25),(.t 26)]]))) ( .region [
 ob 28 .add (.t 21) (.c (.i .i64 1)),
om 21 28])))
def Oo:aC:=⟨29,
.seq ( .region [
 ⟨(some 2),.box (.t 0) false,none⟩]) (
.seq (
.seq ( .region [
 oa 6 2 0,ol 7 6 1 false,
ob 8 .eql (.t 7) (.c (.i .i64 6))]) ( .cond (.t 8) ( .draws [([],
om 9 1),([],
om 10 1),([],⟨(some 11),.nck (.t 10),none⟩),
([],ol 12 11 1 false),([],oa 13 2 2),([3],ol 14 13 1 false),([3],⟨(some 15),.bsl [(.s [])] 1 [(0,(.t 14))],none⟩),
([],⟨(some 16),.app 1 16 (.t 12) (.t 15) true false,none⟩),
([],⟨(some 17),.nck (.t 9),none⟩),
([],ot 17 16 1)]) ( .skip))) (
.seq ( .region [
 oa 18 2 3,ol 19 18 1 false,on 20 19,⟨(some 21),.mv (.c (.i .i64 0)),none⟩]) ( .block 0 ( .loop lv)))),[],true,none⟩
theorem k80:az Tryz.prog 80 Oo:=codeOk (hs:= [16]) Tryz.func80 (by kernel_rfl)
def jF:ba:=
.seq (
.seq ( .region [
om 50 6,oa 51 3 3,ol 52 51 1 false,on 53 52,
ob 54 .lss (.t 50) (.t 53)]) ( .cond (.t 54) ( .skip) ( .exit 2))) (
.seq ( .block 3 ( .region [
om 57 0,oa 58 3 3,ol 59 58 1 false,
om 60 6,oi 61 59 60 4,ol 62 61 4 true,oc 63 83 [(.t 57),(.t 62)],
om 0 63])) ( .region [
om 55 6,
ob 56 .add (.t 55) (.c (.i .i64 1)),
om 6 56]))
def hJ:ba:=
.seq (
.seq ( .draws [([],
om 10 5),([],
om 11 0),([],on 12 11),([],
ob 13 .lss (.t 10) (.t 12)),([],
om 14 13),([],⟨(some 15),.mv (.t 0),(some (14,true))⟩),
([],⟨(some 16),.mv (.t 5),(some (14,true))⟩),
([],⟨(some 17),.ia (.t 15) (.t 16) 1,(some (14,true))⟩),
([],⟨(some 18),.ld (.t 17) 1 false,(some (14,true))⟩),
([],⟨(some 19),.fa (.t 3) 2,(some (14,true))⟩),
([8],⟨(some 20),.ld (.t 19) 1 false,(some (14,true))⟩),
([],⟨(some 21),.bin .lss (.t 18) (.t 20),(some (14,true))⟩),
([],⟨(some 22),.pick (.t 14) (.t 21) (.c (.b false)),none⟩)]) ( .cond (.t 22) ( .skip) ( .exit 0))) ( .block 1 ( .region [
om 23 5,
ob 24 .add (.t 23) (.c (.i .i64 1)),
om 5 24]))
theorem dW:Cf (sJ (.loop hJ))=33553440:=nr rfl
def El:aC:=⟨65,
.seq ( .region [
 ⟨(some 3),.box (.t 1) false,none⟩,
⟨(some 4),.mv (.c .nilsl),none⟩]) (
.seq (
.seq ( .region [
 oa 7 3 0,ol 8 7 1 false,
ob 9 .eql (.t 8) (.c (.i .i64 6))]) ( .cond (.t 9) (
.seq ( .region [
 ⟨(some 5),.mv (.c (.i .i64 0)),none⟩]) (
.seq ( .block 0 ( .loop hJ)) (
.seq ( .draws [([],
om 25 5),([],
om 26 0),([],on 27 26),([],
ob 28 .eql (.t 25) (.t 27)),([],
om 29 28),([],⟨(some 30),.mv (.t 0),(some (29,false))⟩),
([],⟨(some 31),.mv (.t 5),(some (29,false))⟩),
([],⟨(some 32),.ia (.t 30) (.t 31) 1,(some (29,false))⟩),
([],⟨(some 33),.ld (.t 32) 1 false,(some (29,false))⟩),
([],⟨(some 34),.fa (.t 3) 2,(some (29,false))⟩),
([8],⟨(some 35),.ld (.t 34) 1 false,(some (29,false))⟩),
([],⟨(some 36),.bin .neq (.t 33) (.t 35),(some (29,false))⟩),
([],⟨(some 37),.pick (.t 29) (.c (.b true)) (.t 36),none⟩)]) ( .cond (.t 37) ( .draws [([],
om 38 0),([],
om 39 5),([],⟨(some 40),.slV 1 (.t 38) none (some (.t 39)) none,none⟩),
([],⟨(some 41),.app 1 16 (.c .nilsl) (.t 40) false false,none⟩),
([],oa 42 3 2),([3],ol 43 42 1 false),([3],⟨(some 44),.bsl [(.s [])] 1 [(0,(.t 43))],none⟩),
([],⟨(some 45),.app 1 16 (.t 41) (.t 44) false false,none⟩),
([],
om 46 0),([],
om 47 5),([],⟨(some 48),.slV 1 (.t 46) (some (.t 47)) none none,none⟩),
([],⟨(some 49),.app 1 16 (.t 45) (.t 48) false false,none⟩),
([],
om 0 49)]) ( .skip))))) ( .skip))) (
.seq (
.seq ( .region [
 ⟨(some 6),.mv (.c (.i .i64 0)),none⟩]) ( .block 2 ( .loop jF))) (
.seq ( .region [
om 64 0,
om 4 64]) ( .ret)))),[.tmp 4],false,none⟩
theorem k83:az Tryz.prog 83 El:=codeOk (hs:= []) Tryz.func83 (by kernel_rfl)
def Oq:ba:=
.seq (
.seq ( .region [
om 29 6,
om 30 4,on 31 30,
ob 32 .lss (.t 29) (.t 31)]) ( .cond (.t 32) ( .skip) ( .exit 3))) (
.seq ( .block 4 ( .region [
om 35 3,
om 36 4,
om 37 6,oi 38 36 37 1,ol 39 38 1 false,
ob 40 .add (.c (.s [97,102,116,101,114,46])) (.t 39),⟨(some 41),.bsl [(.s [])] 1 [(0,(.t 40))],none⟩,
⟨(some 42),.app 1 16 (.t 35) (.t 41) false false,none⟩,
om 3 42])) ( .region [
om 33 6,
ob 34 .add (.t 33) (.c (.i .i64 1)),
om 6 34]))
def Ot:ba:=
.seq (
.seq ( .region [
om 15 5,
om 16 4,on 17 16,
ob 18 .lss (.t 15) (.t 17)]) ( .cond (.t 18) ( .skip) ( .exit 1))) (
.seq ( .block 2 ( .region [
om 21 3,
om 22 4,
om 23 5,oi 24 22 23 1,ol 25 24 1 false,
ob 26 .add (.c (.s [98,101,102,111,114,101,46])) (.t 25),⟨(some 27),.bsl [(.s [])] 1 [(0,(.t 26))],none⟩,
⟨(some 28),.app 1 16 (.t 21) (.t 27) false false,none⟩,
om 3 28])) ( .region [
om 19 5,
ob 20 .add (.t 19) (.c (.i .i64 1)),
om 5 20]))
def RA:aC:=⟨47,
.seq ( .region [
 ⟨(some 2),.mv (.c .nilsl),none⟩]) (
.seq (
.seq ( .region [
om 7 0]) ( .block 0 (
.seq ( .region [
 ob 9 .eql (.t 7) (.c (.i .i64 1)),
om 8 9]) ( .cond (.t 8) (
.seq ( .region [
 oc 10 132 [],
om 2 10]) ( .ret)) (
.seq ( .region [
 ob 12 .eql (.t 7) (.c (.i .i64 2)),
om 11 12]) ( .cond (.t 11) (
.seq ( .region [
 ⟨(some 13),.bsl [(.s [])] 3 [(0,(.c (.s [114,101,115,116]))),(1,(.c (.s [110,105,103,104,116,115]))),(2,(.c (.s [104,111,109,101])))],none⟩,
om 3 13]) (
.seq ( .region [
 oc 14 132 [],
om 4 14]) (
.seq (
.seq ( .region [
 ⟨(some 5),.mv (.c (.i .i64 0)),none⟩]) ( .block 1 ( .loop Ot))) (
.seq (
.seq ( .region [
 ⟨(some 6),.mv (.c (.i .i64 0)),none⟩]) ( .block 3 ( .loop Oq))) (
.seq ( .region [
om 43 3,
om 2 43]) ( .ret)))))) (
.seq ( .region [
 ob 45 .eql (.t 7) (.c (.i .i64 3)),
om 44 45]) ( .cond (.t 44) (
.seq ( .region [
 ⟨(some 46),.bsl [(.s [])] 7 [(0,(.c (.s [100,117,116,105,101,115]))),(1,(.c (.s [108,101,103,115]))),(2,(.c (.s [104,101,97,100,115]))),(3,(.c (.s [100,97,121,115]))),(4,(.c (.s [98,108,111,99,107]))),(5,(.c (.s [115,112,97,110]))),(6,(.c (.s [99,114,101,100,105,116])))],none⟩,
om 2 46]) ( .ret)) ( .skip))))))))) (
.seq ( .region [
 ⟨(some 2),.mv (.c .nilsl),none⟩]) ( .ret))),[.tmp 2],false,none⟩
theorem k84:az Tryz.prog 84 RA:=codeOk (hs:= []) Tryz.func84 (by kernel_rfl)
def lz:ba:=
.seq (
.seq ( .region [
om 44 7,
om 45 6,on 46 45,
ob 47 .lss (.t 44) (.t 46)]) ( .cond (.t 47) ( .skip) ( .exit 0))) (
.seq ( .block 1 (
.seq (
.seq ( .region [
om 50 6,
om 51 7,oi 52 50 51 1,ol 53 52 1 false,
om 54 1,
ob 55 .neq (.t 53) (.t 54)]) ( .cond (.t 55) ( .exit 1) ( .skip))) (
.seq (
.seq ( .region [
om 56 1]) ( .block 2 (
.seq (
.seq ( .region [
 ob 58 .eql (.t 56) (.c (.s [108,101,103,115])),
om 57 58]) ( .cond (.t 57) ( .skip) (
.seq ( .region [
 ob 59 .eql (.t 56) (.c (.s [104,101,97,100,115])),
om 57 59]) ( .cond (.t 57) ( .skip) (
.seq ( .region [
 ob 60 .eql (.t 56) (.c (.s [116,121,112,101,115])),
om 57 60]) ( .cond (.t 57) ( .skip) (
.seq ( .region [
 ob 61 .eql (.t 56) (.c (.s [110,105,103,104,116,115])),
om 57 61]) ( .cond (.t 57) ( .skip) (
.seq ( .region [
 ob 62 .eql (.t 56) (.c (.s [100,117,116,105,101,115])),
om 57 62]) ( .cond (.t 57) ( .skip) ( .region [
 ob 63 .eql (.t 56) (.c (.s [100,97,121,115])),
om 57 63]))))))))))) ( .cond (.t 57) (
.seq ( .region [
 ⟨(some 4),.mv (.c (.i .i64 1)),none⟩,
⟨(some 5),.mv (.c (.i .i64 0)),none⟩]) ( .ret)) (
.seq (
.seq ( .region [
 ob 65 .eql (.t 56) (.c (.s [115,116,97,114,116])),
om 64 65]) ( .cond (.t 64) ( .skip) ( .region [
 ob 66 .eql (.t 56) (.c (.s [101,110,100])),
om 64 66]))) ( .cond (.t 64) (
.seq ( .region [
 ⟨(some 4),.mv (.c (.i .i64 3)),none⟩,
⟨(some 5),.mv (.c (.i .i64 0)),none⟩]) ( .ret)) (
.seq ( .region [
 ob 68 .eql (.t 56) (.c (.s [104,111,109,101])),
om 67 68]) ( .cond (.t 67) (
.seq ( .region [
 ⟨(some 4),.mv (.c (.i .i64 4)),none⟩,
⟨(some 5),.mv (.c (.i .i64 0)),none⟩]) ( .ret)) ( .skip))))))))) (
.seq ( .region [
 ⟨(some 4),.mv (.c (.i .i64 2)),none⟩,
⟨(some 5),.mv (.c (.i .i64 0)),none⟩]) ( .ret))))) ( .region [
om 48 7,
ob 49 .add (.t 48) (.c (.i .i64 1)),
om 7 49]))
def wq:aC:=⟨69,
.seq ( .region [
 ⟨(some 4),.mv (.c (.i .i64 0)),none⟩,
⟨(some 5),.mv (.c (.i .i64 0)),none⟩]) (
.seq (
.seq ( .region [
om 8 0,
ob 9 .eql (.t 8) (.c (.i .i64 2)),
om 10 9,⟨(some 11),.mv (.t 1),(some (10,true))⟩,
⟨(some 12),.lenS (.t 11),(some (10,true))⟩,
⟨(some 13),.bin .gtr (.t 12) (.c (.i .i64 7)),(some (10,true))⟩,
⟨(some 14),.pick (.t 10) (.t 13) (.c (.b false)),none⟩,
om 15 14,⟨(some 16),.mv (.t 1),(some (15,true))⟩,
⟨(some 17),.slS (.t 16) none (some (.c (.i .i64 7))),(some (15,true))⟩,
⟨(some 18),.bin .eql (.t 17) (.c (.s [98,101,102,111,114,101,46])),(some (15,true))⟩,
⟨(some 19),.pick (.t 15) (.t 18) (.c (.b false)),none⟩]) ( .cond (.t 19) (
.seq ( .region [
om 20 1,⟨(some 21),.slS (.t 20) (some (.c (.i .i64 7))) none,none⟩,oc 22 85 [(.c (.i .i64 1)),(.t 21)],oe 23 22 0,oe 24 22 1,
om 4 23,
om 5 24]) ( .ret)) ( .skip))) (
.seq (
.seq ( .region [
om 25 0,
ob 26 .eql (.t 25) (.c (.i .i64 2)),
om 27 26,⟨(some 28),.mv (.t 1),(some (27,true))⟩,
⟨(some 29),.lenS (.t 28),(some (27,true))⟩,
⟨(some 30),.bin .gtr (.t 29) (.c (.i .i64 6)),(some (27,true))⟩,
⟨(some 31),.pick (.t 27) (.t 30) (.c (.b false)),none⟩,
om 32 31,⟨(some 33),.mv (.t 1),(some (32,true))⟩,
⟨(some 34),.slS (.t 33) none (some (.c (.i .i64 6))),(some (32,true))⟩,
⟨(some 35),.bin .eql (.t 34) (.c (.s [97,102,116,101,114,46])),(some (32,true))⟩,
⟨(some 36),.pick (.t 32) (.t 35) (.c (.b false)),none⟩]) ( .cond (.t 36) (
.seq ( .region [
om 37 1,⟨(some 38),.slS (.t 37) (some (.c (.i .i64 6))) none,none⟩,oc 39 85 [(.c (.i .i64 1)),(.t 38)],oe 40 39 0,oe 41 39 1,
om 4 40,
om 5 41]) ( .ret)) ( .skip))) (
.seq ( .region [
om 42 0,oc 43 84 [(.t 42)],
om 6 43]) (
.seq (
.seq ( .region [
 ⟨(some 7),.mv (.c (.i .i64 0)),none⟩]) ( .block 0 ( .loop lz))) (
.seq ( .region [
 ⟨(some 4),.mv (.c (.i .i64 0)),none⟩,
⟨(some 5),.mv (.c (.i .i64 6)),none⟩]) ( .ret)))))),[.tmp 4,.tmp 5],false,none⟩
theorem k85:az Tryz.prog 85 wq:=codeOk (hs:= []) Tryz.func85 (by kernel_rfl)
def Ou:ba:=
.seq ( .region [
 ob 24 .lss (.t 23) (.t 22)]) (
.seq ( .cond (.t 24) ( .skip) ( .exit 3)) (
.seq ( .block 4 (
.seq ( .region [
 oi 25 21 23 1,ol 26 25 1 false,
om 7 26]) ( .region [
om 27 3,
om 28 5,
om 29 7,
ob 30 .add (.t 28) (.t 29),⟨(some 31),.bsl [(.s [])] 1 [(0,(.t 30))],none⟩,
⟨(some 32),.app 1 16 (.t 27) (.t 31) false false,none⟩,
om 3 32]))) ( .region [
 ob 33 .add (.t 23) (.c (.i .i64 1)),
om 23 33])))
def Ov:ba:=
.seq ( .region [
 ob 18 .lss (.t 17) (.t 16)]) (
.seq ( .cond (.t 18) ( .skip) ( .exit 1)) (
.seq ( .block 2 (
.seq ( .region [
 oi 19 15 17 1,ol 20 19 1 false,
om 5 20]) (
.seq ( .region [
 oc 21 88 [(.c (.i .i64 1))],on 22 21,⟨(some 23),.mv (.c (.i .i64 0)),none⟩]) ( .block 3 ( .loop Ou))))) ( .region [
 ob 34 .add (.t 17) (.c (.i .i64 1)),
om 17 34])))
def Z8:aC:=⟨39,
.seq ( .region [
 ⟨(some 2),.mv (.c .nilsl),none⟩]) (
.seq (
.seq ( .region [
om 8 0]) ( .block 0 (
.seq ( .region [
 ob 10 .eql (.t 8) (.c (.i .i64 1)),
om 9 10]) ( .cond (.t 9) (
.seq ( .region [
 ⟨(some 11),.bsl [(.s [])] 11 [(0,(.c (.s [108,101,103,115]))),(1,(.c (.s [104,101,97,100,115]))),(2,(.c (.s [116,121,112,101,115]))),(3,(.c (.s [98,108,111,99,107]))),(4,(.c (.s [115,112,97,110]))),(5,(.c (.s [110,105,103,104,116]))),(6,(.c (.s [108,111,110,103,101,115,116]))),(7,(.c (.s [115,104,111,114,116,101,115,116]))),(8,(.c (.s [115,104,105,102,116]))),(9,(.c (.s [115,116,97,114,116]))),(10,(.c (.s [101,110,100])))],none⟩,
om 2 11]) ( .ret)) (
.seq ( .region [
 ob 13 .eql (.t 8) (.c (.i .i64 2)),
om 12 13]) ( .cond (.t 12) (
.seq ( .region [
 ⟨(some 14),.bsl [(.s [])] 3 [(0,(.c (.s [114,101,115,116]))),(1,(.c (.s [110,105,103,104,116,115]))),(2,(.c (.s [104,111,109,101])))],none⟩,
om 3 14]) (
.seq (
.seq ( .region [
 ⟨(some 15),.bsl [(.s [])] 2 [(0,(.c (.s [98,101,102,111,114,101,46]))),(1,(.c (.s [97,102,116,101,114,46])))],none⟩,on 16 15,⟨(some 17),.mv (.c (.i .i64 0)),none⟩]) ( .block 1 ( .loop Ov))) (
.seq ( .region [
om 35 3,
om 2 35]) ( .ret)))) (
.seq ( .region [
 ob 37 .eql (.t 8) (.c (.i .i64 3)),
om 36 37]) ( .cond (.t 36) (
.seq ( .region [
 ⟨(some 38),.bsl [(.s [])] 7 [(0,(.c (.s [100,117,116,105,101,115]))),(1,(.c (.s [108,101,103,115]))),(2,(.c (.s [104,101,97,100,115]))),(3,(.c (.s [100,97,121,115]))),(4,(.c (.s [98,108,111,99,107]))),(5,(.c (.s [115,112,97,110]))),(6,(.c (.s [99,114,101,100,105,116])))],none⟩,
om 2 38]) ( .ret)) ( .skip))))))))) (
.seq ( .region [
 ⟨(some 2),.mv (.c .nilsl),none⟩]) ( .ret))),[.tmp 2],false,none⟩
theorem k88:az Tryz.prog 88 Z8:=codeOk (hs:= []) Tryz.func88 (by kernel_rfl)
def L4:aC:=⟨23,
.seq ( .region [
 ⟨(some 4),.mv (.c (.i .i64 0)),none⟩,
⟨(some 5),.mv (.c (.i .i64 0)),none⟩]) (
.seq ( .region [
 ⟨(some 6),.mv (.c (.i .i64 0)),none⟩]) (
.seq (
.seq ( .region [
om 7 0]) ( .block 0 (
.seq ( .region [
 ob 9 .eql (.t 7) (.c (.i .i64 1)),
om 8 9]) ( .cond (.t 8) ( .region [
om 10 1,oc 11 133 [(.t 10)],
om 6 11]) (
.seq ( .region [
 ob 13 .eql (.t 7) (.c (.i .i64 2)),
om 12 13]) ( .cond (.t 12) ( .region [
om 14 1,oc 15 134 [(.t 14)],
om 6 15]) (
.seq ( .region [
 ob 17 .eql (.t 7) (.c (.i .i64 3)),
om 16 17]) ( .cond (.t 16) ( .region [
om 18 1,oc 19 135 [(.t 18)],
om 6 19]) ( .skip))))))))) (
.seq (
.seq ( .region [
om 20 6,
ob 21 .eql (.t 20) (.c (.i .i64 0))]) ( .cond (.t 21) (
.seq ( .region [
 ⟨(some 4),.mv (.c (.i .i64 0)),none⟩,
⟨(some 5),.mv (.c (.i .i64 6)),none⟩]) ( .ret)) ( .skip))) (
.seq ( .region [
om 22 6,
om 4 22,⟨(some 5),.mv (.c (.i .i64 0)),none⟩]) ( .ret))))),[.tmp 4,.tmp 5],false,none⟩
theorem k89:az Tryz.prog 89 L4:=codeOk (hs:= []) Tryz.func89 (by kernel_rfl)
def hZ:ba:=
.seq ( .region [
 ob 66 .lss (.t 65) (.t 64)]) (
.seq ( .cond (.t 66) ( .skip) ( .exit 1)) (
.seq ( .block 2 (
.seq ( .region [
om 67 65,oi 68 63 65 4,ol 69 68 4 true,⟨(some 11),.alloc [(.i .i64 0),(.i .i64 0),(.s []),.nilsl] false,none⟩,
om 10 67,ot 11 69 4]) ( .draws [([],oa 70 9 2),([],ol 71 70 1 false),([],
om 72 10),([],
om 73 0),([],
om 74 1),([1],ol 75 11 4 true),([1],oc 76 91 [(.t 73),(.t 74),(.t 75)]),([],oi 77 71 72 3),([],ot 77 76 3)]))) ( .region [
 ob 78 .add (.t 65) (.c (.i .i64 1)),
om 65 78])))
theorem Em:Cf (sJ (.loop hZ))=604426016319167168252928:=nr rfl
def IA:aC:=⟨80,
.seq ( .region [
 ⟨(some 5),.box (.t 2) false,none⟩,
⟨(some 6),.alloc [(.i .i64 0),(.i .i64 0),.nilsl] false,none⟩]) (
.seq (
.seq ( .region [
 oa 12 5 0,ol 13 12 1 false]) ( .block 0 (
.seq (
.seq ( .region [
 ob 15 .eql (.t 13) (.c (.i .i64 1)),
om 14 15]) ( .cond (.t 14) ( .skip) (
.seq ( .region [
 ob 16 .eql (.t 13) (.c (.i .i64 2)),
om 14 16]) ( .cond (.t 14) ( .skip) ( .region [
 ob 17 .eql (.t 13) (.c (.i .i64 3)),
om 14 17]))))) ( .cond (.t 14) (
.seq ( .region [
 oa 18 5 1,ol 19 18 1 false,⟨(some 20),.build [(.i .i64 0),(.i .i64 0),.nilsl] [(0,1,(.c (.i .i64 1))),(1,1,(.t 19))],none⟩,ot 6 20 3]) ( .ret)) (
.seq ( .region [
 ob 22 .eql (.t 13) (.c (.i .i64 4)),
om 21 22]) ( .cond (.t 21) (
.seq ( .region [
 ⟨(some 23),.build [(.i .i64 0),(.i .i64 0),.nilsl] [(0,1,(.c (.i .i64 1))),(1,1,(.c (.i .i64 1)))],none⟩,ot 6 23 3]) ( .ret)) (
.seq ( .region [
 ob 25 .eql (.t 13) (.c (.i .i64 5)),
om 24 25]) ( .cond (.t 24) (
.seq ( .region [
 ⟨(some 26),.build [(.i .i64 0),(.i .i64 0),.nilsl] [(0,1,(.c (.i .i64 1)))],none⟩,ot 6 26 3]) ( .ret)) (
.seq ( .region [
 ob 28 .eql (.t 13) (.c (.i .i64 6)),
om 27 28]) ( .cond (.t 27) (
.seq (
.seq ( .region [
om 29 1,
ob 30 .geq (.t 29) (.c (.i .i64 0)),
om 31 30,⟨(some 32),.mv (.t 1),(some (31,true))⟩,
⟨(some 33),.bin .lss (.t 32) (.c (.i .i64 4)),(some (31,true))⟩,
⟨(some 34),.pick (.t 31) (.t 33) (.c (.b false)),none⟩]) ( .cond (.t 34) (
.seq ( .draws [([],
om 36 0),([],
om 37 1),([],⟨(some 38),.nck (.t 36),none⟩),
([],oa 39 38 3),([],⟨(some 40),.iaA (.t 39) (.t 37) 4 1,none⟩),
([],ol 41 40 1 false),([],oa 42 5 2),([5],ol 43 42 1 false),([],⟨(some 44),.lk (.one .str) (.t 41) (.t 43) (.i .i64 0) true,none⟩),
([],
om 35 44),([],oe 45 35 0),([],oe 46 35 1),([],
om 7 45),([],
om 8 46)]) (
.seq ( .region [
om 47 8]) ( .cond (.t 47) (
.seq ( .region [
om 48 7,⟨(some 49),.build [(.i .i64 0),(.i .i64 0),.nilsl] [(0,1,(.c (.i .i64 6))),(1,1,(.t 48))],none⟩,ot 6 49 3]) ( .ret)) ( .skip)))) ( .skip))) (
.seq ( .region [
om 50 0,oa 51 5 2,ol 52 51 1 false,oc 53 138 [(.t 50),(.t 52)],⟨(some 54),.build [(.i .i64 0),(.i .i64 0),.nilsl] [(0,1,(.c (.i .i64 1))),(1,1,(.t 53))],none⟩,ot 6 54 3]) ( .ret))) ( .skip))))))))))) (
.seq ( .draws [([],oa 55 5 0),([],ol 56 55 1 false),([],oa 57 5 3),([1],ol 58 57 1 false),([],on 59 58),([1],⟨(some 60),.mksl [(.i .i64 0),(.i .i64 0),.nilsl] 40 (.t 59) false,none⟩),
([],⟨(some 61),.build [(.i .i64 0),(.i .i64 0),.nilsl] [(0,1,(.t 56)),(2,1,(.t 60))],none⟩),
([1,3,5],⟨(some 9),.alloc [(.i .i64 0),(.i .i64 0),.nilsl] false,none⟩),
([],ot 9 61 3)]) (
.seq (
.seq ( .region [
 oa 62 5 3,ol 63 62 1 false,on 64 63,⟨(some 65),.mv (.c (.i .i64 0)),none⟩]) ( .block 1 ( .loop hZ))) (
.seq ( .region [
 ol 79 9 3 true,ot 6 79 3]) ( .ret))))),[.cell 6 3 true],false,none⟩
theorem k91:az Tryz.prog 91 IA:=codeOk (hs:= []) Tryz.func91 (by kernel_rfl)
def iP:ba:=
.seq (
.seq ( .region [
om 61 6,
om 62 0,⟨(some 63),.nck (.t 62),none⟩,oa 64 63 2,ol 65 64 1 false,on 66 65,
ob 67 .lss (.t 61) (.t 66)]) ( .cond (.t 67) ( .skip) ( .exit 1))) (
.seq ( .block 2 (
.seq ( .region [
om 70 0,⟨(some 71),.nck (.t 70),none⟩,oa 72 71 2,ol 73 72 1 false,
om 74 6,oi 75 73 74 3,
om 76 1,oc 77 92 [(.t 75),(.t 76)],
om 7 77]) (
.seq ( .region [
om 78 0,⟨(some 79),.nck (.t 78),none⟩,oa 80 79 0,ol 81 80 1 false,
ob 82 .eql (.t 81) (.c (.i .i64 12))]) ( .cond (.t 82) ( .region [
om 83 5,
om 84 7,⟨(some 85),.mm false [(.t 83),(.t 84)],none⟩,
om 5 85]) ( .region [
om 86 5,
om 87 7,⟨(some 88),.mm true [(.t 86),(.t 87)],none⟩,
om 5 88]))))) ( .region [
om 68 6,
ob 69 .add (.t 68) (.c (.i .i64 1)),
om 6 69]))
def tl:aC:=⟨155,
.seq ( .region [
 ⟨(some 4),.mv (.c (.i .i64 0)),none⟩]) (
.seq (
.seq ( .region [
om 8 0,⟨(some 9),.nck (.t 8),none⟩,oa 10 9 0,ol 11 10 1 false]) ( .block 0 (
.seq ( .region [
 ob 13 .eql (.t 11) (.c (.i .i64 1)),
om 12 13]) ( .cond (.t 12) (
.seq ( .region [
om 14 0,⟨(some 15),.nck (.t 14),none⟩,oa 16 15 1,ol 17 16 1 false,
om 4 17]) ( .ret)) (
.seq ( .region [
 ob 19 .eql (.t 11) (.c (.i .i64 6)),
om 18 19]) ( .cond (.t 18) (
.seq ( .region [
om 20 1,
om 21 0,⟨(some 22),.nck (.t 21),none⟩,oa 23 22 1,ol 24 23 1 false,oi 25 20 24 1,ol 26 25 1 false,
om 4 26]) ( .ret)) (
.seq ( .region [
 ob 28 .eql (.t 11) (.c (.i .i64 14)),
om 27 28]) ( .cond (.t 27) (
.seq (
.seq ( .region [
om 29 0,⟨(some 30),.nck (.t 29),none⟩,oa 31 30 2,ol 32 31 1 false,⟨(some 33),.ia (.t 32) (.c (.i .i64 0)) 3,none⟩,
om 34 1,oc 35 92 [(.t 33),(.t 34)],
ob 36 .neq (.t 35) (.c (.i .i64 0))]) ( .cond (.t 36) (
.seq ( .region [
om 37 0,⟨(some 38),.nck (.t 37),none⟩,oa 39 38 2,ol 40 39 1 false,⟨(some 41),.ia (.t 40) (.c (.i .i64 1)) 3,none⟩,
om 42 1,oc 43 92 [(.t 41),(.t 42)],
om 4 43]) ( .ret)) ( .skip))) (
.seq ( .region [
om 44 0,⟨(some 45),.nck (.t 44),none⟩,oa 46 45 2,ol 47 46 1 false,⟨(some 48),.ia (.t 47) (.c (.i .i64 2)) 3,none⟩,
om 49 1,oc 50 92 [(.t 48),(.t 49)],
om 4 50]) ( .ret))) (
.seq (
.seq ( .region [
 ob 52 .eql (.t 11) (.c (.i .i64 12)),
om 51 52]) ( .cond (.t 51) ( .skip) ( .region [
 ob 53 .eql (.t 11) (.c (.i .i64 13)),
om 51 53]))) ( .cond (.t 51) (
.seq ( .region [
om 54 0,⟨(some 55),.nck (.t 54),none⟩,oa 56 55 2,ol 57 56 1 false,⟨(some 58),.ia (.t 57) (.c (.i .i64 0)) 3,none⟩,
om 59 1,oc 60 92 [(.t 58),(.t 59)],
om 5 60]) (
.seq (
.seq ( .region [
 ⟨(some 6),.mv (.c (.i .i64 1)),none⟩]) ( .block 1 ( .loop iP))) (
.seq ( .region [
om 89 5,
om 4 89]) ( .ret)))) (
.seq ( .region [
 ob 91 .eql (.t 11) (.c (.i .i64 15)),
om 90 91]) ( .cond (.t 90) (
.seq ( .draws [([],
om 92 0),([],⟨(some 93),.nck (.t 92),none⟩),
([],oa 94 93 2),([],ol 95 94 1 false),([],⟨(some 96),.ia (.t 95) (.c (.i .i64 0)) 3,none⟩),
([],
om 97 1),([],oc 98 92 [(.t 96),(.t 97)]),([],
om 99 0),([],⟨(some 100),.nck (.t 99),none⟩),
([],oa 101 100 2),([3,6],ol 102 101 1 false),([],⟨(some 103),.ia (.t 102) (.c (.i .i64 1)) 3,none⟩),
([],
om 104 1),([],oc 105 92 [(.t 103),(.t 104)]),([],
om 106 0),([],⟨(some 107),.nck (.t 106),none⟩),
([],oa 108 107 2),([3,6,10,13],ol 109 108 1 false),([],⟨(some 110),.ia (.t 109) (.c (.i .i64 2)) 3,none⟩),
([],
om 111 1),([],oc 112 92 [(.t 110),(.t 111)]),([],oc 113 139 [(.t 98),(.t 105),(.t 112)]),([],oc 114 136 [(.t 113)]),([],
om 4 114)]) ( .ret)) (
.seq ( .region [
 ob 116 .eql (.t 11) (.c (.i .i64 7)),
om 115 116]) ( .cond (.t 115) (
.seq ( .region [
om 117 0,⟨(some 118),.nck (.t 117),none⟩,oa 119 118 2,ol 120 119 1 false,⟨(some 121),.ia (.t 120) (.c (.i .i64 0)) 3,none⟩,
om 122 1,oc 123 92 [(.t 121),(.t 122)],⟨(some 124),.un .neg (.t 123),none⟩,oc 125 140 [(.c (.i .i64 0)),(.t 124)],
om 4 125]) ( .ret)) (
.seq ( .region [
 ob 127 .eql (.t 11) (.c (.i .i64 19)),
om 126 127]) ( .cond (.t 126) (
.seq ( .region [
om 128 0,⟨(some 129),.nck (.t 128),none⟩,oa 130 129 2,ol 131 130 1 false,⟨(some 132),.ia (.t 131) (.c (.i .i64 0)) 3,none⟩,
om 133 1,oc 134 92 [(.t 132),(.t 133)],
ob 135 .sub (.c (.i .i64 1)) (.t 134),
om 4 135]) ( .ret)) ( .skip))))))))))))))))) (
.seq ( .draws [([],
om 136 0),([],⟨(some 137),.nck (.t 136),none⟩),
([],oa 138 137 0),([],ol 139 138 1 false),([],
om 140 0),([],⟨(some 141),.nck (.t 140),none⟩),
([],oa 142 141 2),([3],ol 143 142 1 false),([],⟨(some 144),.ia (.t 143) (.c (.i .i64 0)) 3,none⟩),
([],
om 145 1),([3],oc 146 92 [(.t 144),(.t 145)]),([],
om 147 0),([],⟨(some 148),.nck (.t 147),none⟩),
([],oa 149 148 2),([3,7,10],ol 150 149 1 false),([],⟨(some 151),.ia (.t 150) (.c (.i .i64 1)) 3,none⟩),
([],
om 152 1),([3],oc 153 92 [(.t 151),(.t 152)]),([],oc 154 141 [(.t 139),(.t 146),(.t 153)]),([],
om 4 154)]) ( .ret))),[.tmp 4],false,none⟩
theorem k92:az Tryz.prog 92 tl:=codeOk (hs:= []) Tryz.func92 (by kernel_rfl)
def jG:ba:=
.seq ( .region [
 ob 16 .lss (.t 15) (.t 14)]) (
.seq ( .cond (.t 16) ( .skip) ( .exit 0)) (
.seq ( .block 1 (
.seq ( .region [
om 17 15,oi 18 13 15 5,ol 19 18 5 true,⟨(some 5),.alloc [(.s []),(.i .i64 0),(.i .i64 0),(.s []),.nilsl] false,none⟩,
om 4 17,ot 5 19 5]) (
.seq ( .draws [([],
om 21 3),([],⟨(some 22),.nck (.t 21),none⟩),
([],oa 23 22 1),([],ol 24 23 1 false),([],oa 25 5 0),([3],ol 26 25 1 false),([],⟨(some 27),.lk (.one .str) (.t 24) (.t 26) (.i .i64 0) true,none⟩),
([],
om 20 27),([],oe 28 20 0),([],oe 29 20 1),([],
om 6 28),([],
om 7 29)]) (
.seq ( .region [
om 30 7,⟨(some 31),.un .not (.t 30),none⟩]) ( .cond (.t 31) ( .draws [([],
om 32 3),([],⟨(some 33),.nck (.t 32),none⟩),
([],oa 34 33 1),([],ol 35 34 1 false),([],oa 36 5 0),([3],ol 37 36 1 false),([],
om 38 4),([],⟨none,.mu (.one .str) (.t 35) (.t 37) (.t 38),none⟩)]) ( .skip)))))) ( .region [
 ob 39 .add (.t 15) (.c (.i .i64 1)),
om 15 39])))
theorem En:Cf (sJ (.loop jG))=1099511595248:=nr rfl
def RB:aC:=⟨41,
.seq ( .region [
 ⟨(some 2),.mv (.c .nilptr),none⟩]) (
.seq ( .region [
om 8 0,⟨(some 9),.mkmap true,none⟩,
⟨(some 10),.mkmap true,none⟩,
⟨(some 11),.build [.nilsl,.nilmp,.nilmp] [(0,1,(.t 8)),(1,1,(.t 9)),(2,1,(.t 10))],none⟩,
⟨(some 12),.box (.t 11) true,none⟩,
om 3 12]) (
.seq (
.seq ( .region [
om 13 0,on 14 13,⟨(some 15),.mv (.c (.i .i64 0)),none⟩]) ( .block 0 ( .loop jG))) (
.seq ( .region [
om 40 3,
om 2 40]) ( .ret)))),[.tmp 2],true,none⟩
theorem k96:az Tryz.prog 96 RB:=codeOk (hs:= [9,10,12]) Tryz.func96 (by kernel_rfl)
def Q5:aC:=⟨23,
.seq ( .region [
 ⟨(some 7),.box (.t 3) false,none⟩,
⟨(some 8),.mv (.c (.i .i64 0)),none⟩,
⟨(some 9),.mv (.c (.i .i64 0)),none⟩]) (
.seq (
.seq ( .region [
 ol 11 7 4 true,oc 12 55 [(.t 11)],
om 10 12]) (
.seq ( .region [
om 13 10,
ob 14 .neq (.t 13) (.c (.i .i64 0))]) ( .cond (.t 14) (
.seq ( .region [
om 15 10,⟨(some 8),.mv (.c (.i .i64 0)),none⟩,
om 9 15]) ( .ret)) ( .skip)))) (
.seq ( .region [
om 16 0,
om 17 1,
om 18 2,ol 19 7 4 true,oc 20 142 [(.t 16),(.t 17),(.t 18),(.t 19)],oe 21 20 0,oe 22 20 1,
om 8 21,
om 9 22]) ( .ret))),[.tmp 8,.tmp 9],true,none⟩
theorem k97:az Tryz.prog 97 Q5:=codeOk (hs:= []) Tryz.func97 (by kernel_rfl)
def y8:ba:=
.seq ( .region [
 ob 12 .lss (.t 11) (.t 10)]) (
.seq ( .cond (.t 12) ( .skip) ( .exit 0)) (
.seq ( .block 1 (
.seq ( .region [
om 13 11,
om 3 13]) ( .draws [([],oa 14 1 3),([],ol 15 14 1 false),([],
om 16 3),([],oa 17 1 3),([1],ol 18 17 1 false),([],
om 19 3),([],oi 20 18 19 4),([1],ol 21 20 4 true),([1],oc 22 98 [(.t 21)]),([],oi 23 15 16 4),([],ot 23 22 4)]))) ( .region [
 ob 24 .add (.t 11) (.c (.i .i64 1)),
om 11 24])))
def Ow:aC:=⟨26,
.seq ( .region [
 ⟨(some 1),.box (.t 0) false,none⟩,
⟨(some 2),.alloc [(.i .i64 0),(.i .i64 0),(.s []),.nilsl] false,none⟩]) (
.seq ( .region [
 oa 4 1 3,ol 5 4 1 false,oc 6 143 [(.t 5)],oa 7 1 3,ot 7 6 1]) (
.seq (
.seq ( .region [
 oa 8 1 3,ol 9 8 1 false,on 10 9,⟨(some 11),.mv (.c (.i .i64 0)),none⟩]) ( .block 0 ( .loop y8))) (
.seq ( .region [
 ol 25 1 4 true,ot 2 25 4]) ( .ret)))),[.cell 2 4 true],false,none⟩
theorem k98:az Tryz.prog 98 Ow:=codeOk (hs:= []) Tryz.func98 (by kernel_rfl)
def Q6:aC:=⟨46,
.seq ( .region [
 ⟨(some 3),.box (.t 1) false,none⟩,
⟨(some 4),.alloc [(.i .i64 0),(.i .i64 0),(.s []),.nilsl] false,none⟩]) (
.seq (
.seq ( .draws [([],
om 10 0),([],⟨(some 11),.nck (.t 10),none⟩),
([],oa 12 11 1),([],ol 13 12 1 false),([3],ol 14 3 1 false),([],⟨(some 15),.lk (.one .str) (.t 13) (.t 14) (.agg [(.i .i64 0),(.i .i64 0),(.s []),.nilsl]) true,none⟩),
([],
om 9 15),([],oe 16 9 0),([],oe 17 9 1),([3,4,5],⟨(some 5),.alloc [(.i .i64 0),(.i .i64 0),(.s []),.nilsl] false,none⟩),
([],ot 5 16 4),([],
om 6 17)]) (
.seq ( .region [
om 18 6]) ( .cond (.t 18) (
.seq ( .region [
 ol 19 5 4 true,ot 4 19 4]) ( .ret)) ( .skip)))) (
.seq ( .region [
om 20 0,⟨(some 21),.nck (.t 20),none⟩,oa 22 21 0,ol 23 22 1 false,⟨(some 24),.mkfn 145 [] [(.t 3)],none⟩,oc 25 144 [(.t 23),(.t 24)],
om 7 25]) (
.seq (
.seq ( .region [
om 26 7,
ob 27 .lss (.t 26) (.c (.i .i64 0))]) ( .cond (.t 27) (
.seq ( .region [
 ⟨(some 28),.build [(.i .i64 0),(.i .i64 0),(.s []),.nilsl] [(0,1,(.c (.i .i64 5)))],none⟩,ot 4 28 4]) ( .ret)) ( .skip))) (
.seq ( .region [
om 29 0,
om 30 0,⟨(some 31),.nck (.t 30),none⟩,oa 32 31 0,ol 33 32 1 false,
om 34 7,oi 35 33 34 5,oa 36 35 1,ol 37 36 4 true,oc 38 54 [(.t 29),(.c (.i .i64 0)),(.t 37)],⟨(some 8),.alloc [(.i .i64 0),(.i .i64 0),(.s []),.nilsl] false,none⟩,ot 8 38 4]) (
.seq ( .draws [([],
om 39 0),([],⟨(some 40),.nck (.t 39),none⟩),
([],oa 41 40 1),([],ol 42 41 1 false),([3],ol 43 3 1 false),([3,4],ol 44 8 4 true),([],⟨none,.mu (.one .str) (.t 42) (.t 43) (.t 44),none⟩)]) (
.seq ( .region [
 ol 45 8 4 true,ot 4 45 4]) ( .ret))))))),[.cell 4 4 true],true,none⟩
theorem k99:az Tryz.prog 99 Q6:=codeOk (hs:= []) Tryz.func99 (by kernel_rfl)
def gf:aC:=⟨86,
.seq ( .region [
 ⟨(some 3),.box (.t 1) false,none⟩,
⟨(some 4),.alloc [(.i .i64 0),(.i .i64 0),(.s []),.nilsl] false,none⟩]) (
.seq (
.seq ( .region [
 oa 6 3 3,ol 7 6 1 false,oc 8 146 [(.t 7),(.c (.fn 147 [] []))],⟨(some 9),.un .not (.t 8),none⟩]) ( .cond (.t 9) (
.seq ( .draws [([],
om 10 0),([],⟨(some 11),.nck (.t 10),none⟩),
([],oa 12 11 2),([],ol 13 12 1 false),([3],ol 14 3 4 true),([],oc 15 91 [(.t 13),(.c (.i .i64 0)),(.t 14)]),([3,4,5],⟨(some 5),.alloc [(.i .i64 0),(.i .i64 0),.nilsl] false,none⟩),
([],ot 5 15 3)]) (
.seq ( .region [
 ol 16 3 4 true,oc 17 149 [(.t 16)],oc 18 92 [(.t 5),(.c .nilsl)],oc 19 148 [(.t 17),(.t 18)],ot 4 19 4]) ( .ret))) ( .skip))) (
.seq (
.seq ( .region [
 oa 20 3 0,ol 21 20 1 false]) ( .block 0 (
.seq ( .region [
 ob 23 .eql (.t 21) (.c (.i .i64 19)),
om 22 23]) ( .cond (.t 22) (
.seq ( .region [
 oa 24 3 3,ol 25 24 1 false,⟨(some 26),.ia (.t 25) (.c (.i .i64 0)) 4,none⟩,oa 27 26 0,ol 28 27 1 false,
ob 29 .eql (.t 28) (.c (.i .i64 19))]) ( .cond (.t 29) (
.seq ( .region [
 oa 30 3 3,ol 31 30 1 false,⟨(some 32),.ia (.t 31) (.c (.i .i64 0)) 4,none⟩,oa 33 32 3,ol 34 33 1 false,⟨(some 35),.ia (.t 34) (.c (.i .i64 0)) 4,none⟩,ol 36 35 4 true,ot 4 36 4]) ( .ret)) ( .skip))) (
.seq (
.seq ( .region [
 ob 38 .eql (.t 21) (.c (.i .i64 20)),
om 37 38]) ( .cond (.t 37) ( .skip) ( .region [
 ob 39 .eql (.t 21) (.c (.i .i64 21)),
om 37 39]))) ( .cond (.t 37) (
.seq ( .region [
 ol 40 3 4 true,oc 41 150 [(.t 40)],ot 4 41 4]) ( .ret)) (
.seq ( .region [
 ob 43 .eql (.t 21) (.c (.i .i64 22)),
om 42 43]) ( .cond (.t 42) (
.seq ( .region [
om 44 0,ol 45 3 4 true,oc 46 151 [(.t 44),(.t 45)],ot 4 46 4]) ( .ret)) (
.seq ( .region [
 ob 48 .eql (.t 21) (.c (.i .i64 14)),
om 47 48]) ( .cond (.t 47) (
.seq (
.seq ( .region [
 oa 49 3 3,ol 50 49 1 false,⟨(some 51),.ia (.t 50) (.c (.i .i64 0)) 4,none⟩,oa 52 51 0,ol 53 52 1 false,
ob 54 .eql (.t 53) (.c (.i .i64 4))]) ( .cond (.t 54) (
.seq ( .region [
 oa 55 3 3,ol 56 55 1 false,⟨(some 57),.ia (.t 56) (.c (.i .i64 1)) 4,none⟩,ol 58 57 4 true,ot 4 58 4]) ( .ret)) ( .skip))) (
.seq ( .region [
 oa 59 3 3,ol 60 59 1 false,⟨(some 61),.ia (.t 60) (.c (.i .i64 0)) 4,none⟩,oa 62 61 0,ol 63 62 1 false,
ob 64 .eql (.t 63) (.c (.i .i64 5))]) ( .cond (.t 64) (
.seq ( .region [
 oa 65 3 3,ol 66 65 1 false,⟨(some 67),.ia (.t 66) (.c (.i .i64 2)) 4,none⟩,ol 68 67 4 true,ot 4 68 4]) ( .ret)) ( .skip)))) (
.seq ( .region [
 ob 70 .eql (.t 21) (.c (.i .i64 8)),
om 69 70]) ( .cond (.t 69) (
.seq ( .region [
 ol 71 3 4 true,oc 72 152 [(.t 71),(.c (.fn 153 [] [])),(.c (.b true))],ot 4 72 4]) ( .ret)) (
.seq ( .region [
 ob 74 .eql (.t 21) (.c (.i .i64 9)),
om 73 74]) ( .cond (.t 73) (
.seq ( .region [
 ol 75 3 4 true,oc 76 152 [(.t 75),(.c (.fn 153 [] [])),(.c (.b false))],ot 4 76 4]) ( .ret)) (
.seq ( .region [
 ob 78 .eql (.t 21) (.c (.i .i64 10)),
om 77 78]) ( .cond (.t 77) (
.seq ( .region [
 ol 79 3 4 true,oc 80 152 [(.t 79),(.c (.fn 154 [] [])),(.c (.b true))],ot 4 80 4]) ( .ret)) (
.seq ( .region [
 ob 82 .eql (.t 21) (.c (.i .i64 11)),
om 81 82]) ( .cond (.t 81) (
.seq ( .region [
 ol 83 3 4 true,oc 84 152 [(.t 83),(.c (.fn 154 [] [])),(.c (.b false))],ot 4 84 4]) ( .ret)) ( .skip))))))))))))))))))) (
.seq ( .region [
 ol 85 3 4 true,ot 4 85 4]) ( .ret)))),[.cell 4 4 true],true,none⟩
theorem WA:az Tryz.prog 100 gf:=codeOk (hs:= []) Tryz.func100 (by kernel_rfl)
end Go.Proofs.YtfenhjpkomldcaaGreat
