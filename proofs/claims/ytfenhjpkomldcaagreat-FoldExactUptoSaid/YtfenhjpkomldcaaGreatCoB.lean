/- The codes of functions of the program, as the evaluator reads them; that each is what its compiler makes of the model's function. Conditions: none. -/
import Derived.Test.YtfenhjpkomldcaaGreatEvF
import Derived.Test.YtfenhjpkomldcaaGreatChecked
import Derived.KernelRfl
set_option maxRecDepth 100000
namespace Go.Proofs.YtfenhjpkomldcaaGreat
open Go Go.Ev
def fH:ba:=
.seq ( .region [
 ob 26 .lss (.t 25) (.t 24)]) (
.seq ( .cond (.t 26) ( .skip) ( .exit 0)) (
.seq ( .block 1 (
.seq ( .region [
 oi 27 23 25 4,ol 28 27 4 true,⟨(some 8),.alloc [(.i .i64 0),(.i .i64 0),(.s []),.nilsl] false,none⟩,ot 8 28 4]) (
.seq ( .region [
 ol 29 8 4 true,
om 30 1,
ob 31 .add (.t 30) (.c (.i .i64 1)),
om 32 2,oc 33 101 [(.t 29),(.t 31),(.t 32)],⟨(some 34),.un .not (.t 33),none⟩]) ( .cond (.t 34) (
.seq ( .region [
 ⟨(some 6),.mv (.c (.b false)),none⟩]) ( .ret)) ( .skip))))) ( .region [
 ob 35 .add (.t 25) (.c (.i .i64 1)),
om 25 35])))
def wE:aC:=⟨36,
.seq ( .region [
 ⟨(some 3),.box (.t 0) false,none⟩,
⟨(some 6),.mv (.c (.b false)),none⟩]) (
.seq ( .region [
om 9 2,⟨(some 10),.nck (.t 9),none⟩,ol 11 10 1 false,
ob 12 .add (.t 11) (.c (.i .i64 1)),⟨(some 13),.nck (.t 9),none⟩,ot 13 12 1]) (
.seq (
.seq ( .region [
om 14 2,⟨(some 15),.nck (.t 14),none⟩,ol 16 15 1 false,
ob 17 .gtr (.t 16) (.c (.i .i64 200)),
om 18 17,⟨(some 19),.mv (.t 1),(some (18,false))⟩,
⟨(some 20),.bin .gtr (.t 19) (.c (.i .i64 16)),(some (18,false))⟩,
⟨(some 21),.pick (.t 18) (.c (.b true)) (.t 20),none⟩]) ( .cond (.t 21) (
.seq ( .region [
 ⟨(some 6),.mv (.c (.b false)),none⟩]) ( .ret)) ( .skip))) (
.seq (
.seq ( .region [
 oa 22 3 3,ol 23 22 1 false,on 24 23,⟨(some 25),.mv (.c (.i .i64 0)),none⟩]) ( .block 0 ( .loop fH))) (
.seq ( .region [
 ⟨(some 6),.mv (.c (.b true)),none⟩]) ( .ret))))),[.tmp 6],true,none⟩
theorem WB:az Tryz.prog 101 wE:=codeOk (hs:= []) Tryz.func101 (by kernel_rfl)
def gC:ba:=
.seq ( .region [
 ob 62 .lss (.t 61) (.t 60)]) (
.seq ( .cond (.t 62) ( .skip) ( .exit 1)) (
.seq ( .block 2 (
.seq ( .region [
 oi 63 59 61 4,ol 64 63 4 true,⟨(some 4),.alloc [(.i .i64 0),(.i .i64 0),(.s []),.nilsl] false,none⟩,ot 4 64 4]) (
.seq ( .region [
 ol 65 4 4 true,oc 66 102 [(.t 65)],⟨(some 67),.un .not (.t 66),none⟩]) ( .cond (.t 67) (
.seq ( .region [
 ⟨(some 2),.mv (.c (.b false)),none⟩]) ( .ret)) ( .skip))))) ( .region [
 ob 68 .add (.t 61) (.c (.i .i64 1)),
om 61 68])))
def iC:aC:=⟨69,
.seq ( .region [
 ⟨(some 1),.box (.t 0) false,none⟩,
⟨(some 2),.mv (.c (.b false)),none⟩]) (
.seq (
.seq ( .region [
 oa 5 1 0,ol 6 5 1 false,
ob 7 .lss (.t 6) (.c (.i .i64 1)),
om 8 7,⟨(some 9),.fa (.t 1) 0,(some (8,false))⟩,
⟨(some 10),.ld (.t 9) 1 false,(some (8,false))⟩,
⟨(some 11),.bin .gtr (.t 10) (.c (.i .i64 22)),(some (8,false))⟩,
⟨(some 12),.pick (.t 8) (.c (.b true)) (.t 11),none⟩,
om 13 12,⟨(some 14),.fa (.t 1) 0,(some (13,false))⟩,
⟨(some 15),.ld (.t 14) 1 false,(some (13,false))⟩,
⟨(some 16),.fa (.t 1) 3,(some (13,false))⟩,
⟨(some 17),.ld (.t 16) 1 false,(some (13,false))⟩,
⟨(some 18),.lenV (.t 17),(some (13,false))⟩,
⟨(some 19),.callf 155 [(.t 15),(.t 18)],(some (13,false))⟩,
⟨(some 20),.un .not (.t 19),(some (13,false))⟩,
⟨(some 21),.pick (.t 13) (.c (.b true)) (.t 20),none⟩]) ( .cond (.t 21) (
.seq ( .region [
 ⟨(some 2),.mv (.c (.b false)),none⟩]) ( .ret)) ( .skip))) (
.seq (
.seq ( .region [
 oa 22 1 0,ol 23 22 1 false]) ( .block 0 (
.seq (
.seq ( .region [
 ob 28 .eql (.t 23) (.c (.i .i64 1)),
om 27 28]) ( .cond (.t 27) ( .skip) ( .region [
 ob 29 .eql (.t 23) (.c (.i .i64 2)),
om 27 29]))) ( .cond (.t 27) (
.seq ( .region [
 oa 30 1 1,ol 31 30 1 false,
ob 32 .lss (.t 31) (.c (.i .i64 0)),
om 33 32,⟨(some 34),.fa (.t 1) 1,(some (33,false))⟩,
⟨(some 35),.ld (.t 34) 1 false,(some (33,false))⟩,
⟨(some 36),.bin .gtr (.t 35) (.c (.i .i64 1099511627776)),(some (33,false))⟩,
⟨(some 37),.pick (.t 33) (.c (.b true)) (.t 36),none⟩]) ( .cond (.t 37) (
.seq ( .region [
 ⟨(some 2),.mv (.c (.b false)),none⟩]) ( .ret)) ( .skip))) (
.seq ( .region [
 ob 39 .eql (.t 23) (.c (.i .i64 3)),
om 38 39]) ( .cond (.t 38) (
.seq ( .region [
 oa 40 1 1,ol 41 40 1 false,
ob 42 .lss (.t 41) (.c (.i .i64 0)),
om 43 42,⟨(some 44),.fa (.t 1) 1,(some (43,false))⟩,
⟨(some 45),.ld (.t 44) 1 false,(some (43,false))⟩,
⟨(some 46),.bin .gtr (.t 45) (.c (.i .i64 1439)),(some (43,false))⟩,
⟨(some 47),.pick (.t 43) (.c (.b true)) (.t 46),none⟩]) ( .cond (.t 47) (
.seq ( .region [
 ⟨(some 2),.mv (.c (.b false)),none⟩]) ( .ret)) ( .skip))) (
.seq ( .region [
 oa 24 1 1,ol 25 24 1 false,
ob 26 .neq (.t 25) (.c (.i .i64 0))]) ( .cond (.t 26) (
.seq ( .region [
 ⟨(some 2),.mv (.c (.b false)),none⟩]) ( .ret)) ( .skip))))))))) (
.seq (
.seq ( .region [
 oa 48 1 0,ol 49 48 1 false,
ob 50 .eql (.t 49) (.c (.i .i64 6))]) ( .cond (.t 50) (
.seq ( .region [
 oa 51 1 2,ol 52 51 1 false,oc 53 156 [(.t 52)],⟨(some 54),.un .not (.t 53),none⟩]) ( .cond (.t 54) (
.seq ( .region [
 ⟨(some 2),.mv (.c (.b false)),none⟩]) ( .ret)) ( .skip))) (
.seq ( .region [
 oa 55 1 2,ol 56 55 1 false,
ob 57 .neq (.t 56) (.c (.s []))]) ( .cond (.t 57) (
.seq ( .region [
 ⟨(some 2),.mv (.c (.b false)),none⟩]) ( .ret)) ( .skip))))) (
.seq (
.seq ( .region [
 oa 58 1 3,ol 59 58 1 false,on 60 59,⟨(some 61),.mv (.c (.i .i64 0)),none⟩]) ( .block 1 ( .loop gC))) (
.seq ( .region [
 ⟨(some 2),.mv (.c (.b true)),none⟩]) ( .ret)))))),[.tmp 2],false,none⟩
theorem WC:az Tryz.prog 102 iC:=codeOk (hs:= []) Tryz.func102 (by kernel_rfl)
def dI:ba:=
.seq (
.seq ( .region [
om 18 11,oa 19 7 3,ol 20 19 1 false,on 21 20,
ob 22 .lss (.t 18) (.t 21)]) ( .cond (.t 22) ( .skip) ( .exit 0))) (
.seq ( .block 1 (
.seq ( .draws [([],ol 26 4 2 true),([],
om 27 1),([],
om 28 2),([],oa 29 7 3),([0],ol 30 29 1 false),([],
om 31 11),([],oi 32 30 31 4),([0],ol 33 32 4 true),([],oc 34 103 [(.t 26),(.t 27),(.t 28),(.t 33)]),([],
om 25 34),([],oe 35 25 0),([],oe 36 25 1),([],
om 12 35),([],
om 13 36)]) (
.seq (
.seq ( .region [
om 37 13,
ob 38 .neq (.t 37) (.c (.i .i64 0))]) ( .cond (.t 38) (
.seq ( .region [
om 39 13,⟨(some 8),.mv (.c (.i .i64 0)),none⟩,
om 9 39]) ( .ret)) ( .skip))) ( .region [
om 40 10,
om 41 12,⟨(some 42),.bsl [(.i .i64 0)] 1 [(0,(.t 41))],none⟩,
⟨(some 43),.app 1 8 (.t 40) (.t 42) false false,none⟩,
om 10 43])))) ( .region [
om 23 11,
ob 24 .add (.t 23) (.c (.i .i64 1)),
om 11 24]))
theorem jP:Cf (sJ (.loop dI))=17592185798400:=nr rfl
def sT:aC:=⟨80,
.seq ( .region [
 ⟨(some 4),.box (.t 0) false,none⟩,
⟨(some 7),.box (.t 3) false,none⟩,
⟨(some 8),.mv (.c (.i .i64 0)),none⟩,
⟨(some 9),.mv (.c (.i .i64 0)),none⟩]) (
.seq ( .region [
 ⟨(some 10),.mv (.c .nilsl),none⟩]) (
.seq (
.seq ( .region [
 ⟨(some 11),.mv (.c (.i .i64 0)),none⟩]) ( .block 0 ( .loop dI))) (
.seq (
.seq ( .region [
 oa 44 7 0,ol 45 44 1 false,
ob 46 .eql (.t 45) (.c (.i .i64 6))]) ( .cond (.t 46) (
.seq (
.seq ( .region [
om 48 2,oa 49 7 2,ol 50 49 1 false,oc 51 85 [(.t 48),(.t 50)],
om 47 51,oe 52 47 0,oe 53 47 1,
om 14 52,
om 15 53]) (
.seq ( .region [
om 54 15,
ob 55 .eql (.t 54) (.c (.i .i64 0))]) ( .cond (.t 55) (
.seq ( .region [
om 56 14,
om 8 56,⟨(some 9),.mv (.c (.i .i64 0)),none⟩]) ( .ret)) ( .skip)))) (
.seq ( .region [
om 57 1,oa 58 7 2,ol 59 58 1 false,oc 60 105 [(.t 57),(.t 59)],
om 16 60]) (
.seq (
.seq ( .region [
om 61 16,
ob 62 .lss (.t 61) (.c (.i .i64 0))]) ( .cond (.t 62) (
.seq ( .region [
 ⟨(some 8),.mv (.c (.i .i64 0)),none⟩,
⟨(some 9),.mv (.c (.i .i64 6)),none⟩]) ( .ret)) ( .skip))) (
.seq ( .draws [([],oa 63 4 0),([],ol 64 63 1 false),([],
om 65 16),([],oi 66 64 65 1),([],ol 67 66 1 false),([],oa 68 4 1),([1,4],ol 69 68 1 false),([],
om 70 16),([],oi 71 69 70 1),([1,4],ol 72 71 1 false),([],
om 8 67),([],
om 9 72)]) ( .ret))))) ( .skip))) (
.seq ( .region [
 oa 73 7 0,ol 74 73 1 false,
om 75 10,oc 76 157 [(.t 74),(.t 75)],
om 17 76]) (
.seq (
.seq ( .region [
om 77 17,
ob 78 .eql (.t 77) (.c (.i .i64 0))]) ( .cond (.t 78) (
.seq ( .region [
 ⟨(some 8),.mv (.c (.i .i64 0)),none⟩,
⟨(some 9),.mv (.c (.i .i64 9)),none⟩]) ( .ret)) ( .skip))) (
.seq ( .region [
om 79 17,
om 8 79,⟨(some 9),.mv (.c (.i .i64 0)),none⟩]) ( .ret))))))),[.tmp 8,.tmp 9],false,none⟩
theorem WD:az Tryz.prog 103 sT:=codeOk (hs:= []) Tryz.func103 (by kernel_rfl)
def eh:ba:=
.seq (
.seq ( .region [
om 7 4,
om 8 0,on 9 8,
ob 10 .lss (.t 7) (.t 9)]) ( .cond (.t 10) ( .skip) ( .exit 0))) (
.seq ( .block 1 (
.seq ( .region [
om 13 0,
om 14 4,oi 15 13 14 5,oa 16 15 1,ol 17 16 4 true,oc 18 59 [(.t 17)],⟨(some 5),.mv (.c (.i .i64 0)),none⟩,
om 6 18]) (
.seq (
.seq ( .region [
om 19 6,
ob 20 .eql (.t 19) (.c (.i .i64 0))]) ( .cond (.t 20) ( .draws [([],ol 22 3 2 true),([],
om 23 0),([],
om 24 4),([],⟨(some 25),.slV 5 (.t 23) none (some (.t 24)) none,none⟩),
([],
om 26 0),([],
om 27 4),([],oi 28 26 27 5),([],oa 29 28 1),([0],ol 30 29 4 true),([],oc 31 103 [(.t 22),(.t 25),(.c (.i .i64 0)),(.t 30)]),([],
om 21 31),([],oe 32 21 0),([],oe 33 21 1),([],
om 5 32),([],
om 6 33)]) ( .skip))) ( .draws [([],oa 34 3 0),([],ol 35 34 1 false),([],
om 36 5),([1],⟨(some 37),.bsl [(.i .i64 0)] 1 [(0,(.t 36))],none⟩),
([],⟨(some 38),.app 1 8 (.t 35) (.t 37) false false,none⟩),
([],oa 39 3 1),([1,3,4],ol 40 39 1 false),([],
om 41 6),([1,3,4,6],⟨(some 42),.bsl [(.i .i64 0)] 1 [(0,(.t 41))],none⟩),
([],⟨(some 43),.app 1 8 (.t 40) (.t 42) false false,none⟩),
([],oa 44 3 0),([],ot 44 38 1),([],oa 45 3 1),([],ot 45 43 1)])))) ( .region [
om 11 4,
ob 12 .add (.t 11) (.c (.i .i64 1)),
om 4 12]))
theorem Cg:Cf (sJ (.loop eh))=70368744177648:=nr rfl
def Eo:aC:=⟨47,
.seq ( .region [
 ⟨(some 2),.alloc [.nilsl,.nilsl] false,none⟩]) (
.seq ( .region [
 ⟨(some 3),.alloc [.nilsl,.nilsl] false,none⟩]) (
.seq (
.seq ( .region [
 ⟨(some 4),.mv (.c (.i .i64 0)),none⟩]) ( .block 0 ( .loop eh))) (
.seq ( .region [
 ol 46 3 2 true,ot 2 46 2]) ( .ret)))),[.cell 2 2 true],false,none⟩
theorem WE:az Tryz.prog 104 Eo:=codeOk (hs:= []) Tryz.func104 (by kernel_rfl)
def fI:ba:=
.seq (
.seq ( .region [
om 6 5,
om 7 0,on 8 7,
ob 9 .lss (.t 6) (.t 8)]) ( .cond (.t 9) ( .skip) ( .exit 0))) (
.seq ( .block 1 (
.seq ( .region [
om 12 0,
om 13 5,oi 14 12 13 5,oa 15 14 0,ol 16 15 1 false,
om 17 1,
ob 18 .eql (.t 16) (.t 17)]) ( .cond (.t 18) (
.seq ( .region [
om 19 5,
om 4 19]) ( .ret)) ( .skip)))) ( .region [
om 10 5,
ob 11 .add (.t 10) (.c (.i .i64 1)),
om 5 11]))
def Ch:aC:=⟨20,
.seq ( .region [
 ⟨(some 4),.mv (.c (.i .i64 0)),none⟩]) (
.seq (
.seq ( .region [
 ⟨(some 5),.mv (.c (.i .i64 0)),none⟩]) ( .block 0 ( .loop fI))) (
.seq ( .region [
 ⟨(some 4),.mv (.c (.i .i64 (-1))),none⟩]) ( .ret))),[.tmp 4],false,none⟩
theorem WG:az Tryz.prog 105 Ch:=codeOk (hs:= []) Tryz.func105 (by kernel_rfl)
def qT:aC:=⟨30,
.seq ( .region [
 ⟨(some 4),.alloc [(.i .i64 0),(.i .i64 0),(.s []),.nilsl] false,none⟩]) (
.seq ( .region [
 ⟨(some 5),.mv (.c (.i .i64 1)),none⟩]) (
.seq (
.seq ( .region [
om 6 0]) ( .block 0 (
.seq ( .region [
 ob 8 .eql (.t 6) (.c (.i .i64 2)),
om 7 8]) ( .cond (.t 7) ( .region [
 ⟨(some 5),.mv (.c (.i .i64 2)),none⟩]) (
.seq ( .region [
 ob 10 .eql (.t 6) (.c (.i .i64 3)),
om 9 10]) ( .cond (.t 9) (
.seq ( .region [
om 11 1,⟨(some 12),.build [(.i .i64 0),(.i .i64 0),(.s []),.nilsl] [(0,1,(.c (.i .i64 3))),(1,1,(.t 11))],none⟩,ot 4 12 4]) ( .ret)) (
.seq ( .region [
 ob 14 .eql (.t 6) (.c (.i .i64 4)),
om 13 14]) ( .cond (.t 13) (
.seq (
.seq ( .region [
om 15 1,
ob 16 .eql (.t 15) (.c (.i .i64 1))]) ( .cond (.t 16) (
.seq ( .region [
 ⟨(some 17),.build [(.i .i64 0),(.i .i64 0),(.s []),.nilsl] [(0,1,(.c (.i .i64 4)))],none⟩,ot 4 17 4]) ( .ret)) ( .skip))) (
.seq ( .region [
 ⟨(some 18),.build [(.i .i64 0),(.i .i64 0),(.s []),.nilsl] [(0,1,(.c (.i .i64 5)))],none⟩,ot 4 18 4]) ( .ret))) ( .skip))))))))) (
.seq (
.seq ( .region [
om 19 1,
ob 20 .lss (.t 19) (.c (.i .i64 0))]) ( .cond (.t 20) (
.seq ( .region [
om 21 5,
om 22 1,⟨(some 23),.un .neg (.t 22),none⟩,
⟨(some 24),.build [(.i .i64 0),(.i .i64 0),(.s []),.nilsl] [(0,1,(.t 21)),(1,1,(.t 23))],none⟩,
⟨(some 25),.bsl [(.i .i64 0),(.i .i64 0),(.s []),.nilsl] 1 [(0,(.t 24))],none⟩,
⟨(some 26),.build [(.i .i64 0),(.i .i64 0),(.s []),.nilsl] [(0,1,(.c (.i .i64 7))),(3,1,(.t 25))],none⟩,ot 4 26 4]) ( .ret)) ( .skip))) (
.seq ( .region [
om 27 5,
om 28 1,⟨(some 29),.build [(.i .i64 0),(.i .i64 0),(.s []),.nilsl] [(0,1,(.t 27)),(1,1,(.t 28))],none⟩,ot 4 29 4]) ( .ret))))),[.cell 4 4 true],false,none⟩
theorem WH:az Tryz.prog 106 qT:=codeOk (hs:= []) Tryz.func106 (by kernel_rfl)
def ql:aC:=⟨38,
.seq ( .region [
 ⟨(some 1),.box (.t 0) false,none⟩,
⟨(some 2),.mv (.c (.i .i64 0)),none⟩,
⟨(some 3),.mv (.c (.b false)),none⟩]) (
.seq (
.seq ( .region [
 oa 4 1 0,ol 5 4 1 false]) ( .block 0 (
.seq (
.seq ( .region [
 ob 7 .eql (.t 5) (.c (.i .i64 1)),
om 6 7]) ( .cond (.t 6) ( .skip) (
.seq ( .region [
 ob 8 .eql (.t 5) (.c (.i .i64 2)),
om 6 8]) ( .cond (.t 6) ( .skip) ( .region [
 ob 9 .eql (.t 5) (.c (.i .i64 3)),
om 6 9]))))) ( .cond (.t 6) (
.seq ( .region [
 oa 10 1 1,ol 11 10 1 false,
om 2 11,⟨(some 3),.mv (.c (.b true)),none⟩]) ( .ret)) (
.seq ( .region [
 ob 13 .eql (.t 5) (.c (.i .i64 4)),
om 12 13]) ( .cond (.t 12) (
.seq ( .region [
 ⟨(some 2),.mv (.c (.i .i64 1)),none⟩,
⟨(some 3),.mv (.c (.b true)),none⟩]) ( .ret)) (
.seq ( .region [
 ob 15 .eql (.t 5) (.c (.i .i64 5)),
om 14 15]) ( .cond (.t 14) (
.seq ( .region [
 ⟨(some 2),.mv (.c (.i .i64 0)),none⟩,
⟨(some 3),.mv (.c (.b true)),none⟩]) ( .ret)) (
.seq ( .region [
 ob 17 .eql (.t 5) (.c (.i .i64 7)),
om 16 17]) ( .cond (.t 16) (
.seq ( .region [
 oa 18 1 3,ol 19 18 1 false,⟨(some 20),.ia (.t 19) (.c (.i .i64 0)) 4,none⟩,oa 21 20 0,ol 22 21 1 false,
ob 23 .eql (.t 22) (.c (.i .i64 1)),
om 24 23,⟨(some 25),.fa (.t 1) 3,(some (24,false))⟩,
⟨(some 26),.ld (.t 25) 1 false,(some (24,false))⟩,
⟨(some 27),.ia (.t 26) (.c (.i .i64 0)) 4,(some (24,false))⟩,
⟨(some 28),.fa (.t 27) 0,(some (24,false))⟩,
⟨(some 29),.ld (.t 28) 1 false,(some (24,false))⟩,
⟨(some 30),.bin .eql (.t 29) (.c (.i .i64 2)),(some (24,false))⟩,
⟨(some 31),.pick (.t 24) (.c (.b true)) (.t 30),none⟩]) ( .cond (.t 31) (
.seq ( .region [
 oa 32 1 3,ol 33 32 1 false,⟨(some 34),.ia (.t 33) (.c (.i .i64 0)) 4,none⟩,oa 35 34 1,ol 36 35 1 false,⟨(some 37),.un .neg (.t 36),none⟩,
om 2 37,⟨(some 3),.mv (.c (.b true)),none⟩]) ( .ret)) ( .skip))) ( .skip))))))))))) (
.seq ( .region [
 ⟨(some 2),.mv (.c (.i .i64 0)),none⟩,
⟨(some 3),.mv (.c (.b false)),none⟩]) ( .ret))),[.tmp 2,.tmp 3],false,none⟩
theorem WI:az Tryz.prog 107 ql:=codeOk (hs:= []) Tryz.func107 (by kernel_rfl)
def eK:ba:=
.seq (
.seq ( .region [
om 69 8,
om 70 2,on 71 70,
ob 72 .lss (.t 69) (.t 71)]) ( .cond (.t 72) ( .skip) ( .exit 1))) (
.seq ( .block 2 (
.seq ( .region [
om 75 0,
ob 76 .eql (.t 75) (.c (.i .i64 12)),
om 77 2,
om 78 8,oi 79 77 78 1,ol 80 79 1 false,
om 81 7,
ob 82 .lss (.t 80) (.t 81),⟨(some 83),.eq false (.one .bool) (.t 76) (.t 82),none⟩]) ( .cond (.t 83) ( .region [
om 84 2,
om 85 8,oi 86 84 85 1,ol 87 86 1 false,
om 7 87]) ( .skip)))) ( .region [
om 73 8,
ob 74 .add (.t 73) (.c (.i .i64 1)),
om 8 74]))
def gM:aC:=⟨176,
.seq ( .region [
 ⟨(some 6),.mv (.c (.i .i64 0)),none⟩]) (
.seq (
.seq ( .region [
om 9 0]) ( .block 0 (
.seq (
.seq ( .region [
 ob 11 .eql (.t 9) (.c (.i .i64 1)),
om 10 11]) ( .cond (.t 10) ( .skip) (
.seq ( .region [
 ob 12 .eql (.t 9) (.c (.i .i64 2)),
om 10 12]) ( .cond (.t 10) ( .skip) ( .region [
 ob 13 .eql (.t 9) (.c (.i .i64 3)),
om 10 13]))))) ( .cond (.t 10) (
.seq ( .region [
om 14 1,
om 6 14]) ( .ret)) (
.seq ( .region [
 ob 16 .eql (.t 9) (.c (.i .i64 4)),
om 15 16]) ( .cond (.t 15) (
.seq ( .region [
 ⟨(some 6),.mv (.c (.i .i64 1)),none⟩]) ( .ret)) (
.seq ( .region [
 ob 18 .eql (.t 9) (.c (.i .i64 5)),
om 17 18]) ( .cond (.t 17) (
.seq ( .region [
 ⟨(some 6),.mv (.c (.i .i64 0)),none⟩]) ( .ret)) (
.seq ( .region [
 ob 20 .eql (.t 9) (.c (.i .i64 7)),
om 19 20]) ( .cond (.t 19) (
.seq ( .region [
om 21 2,⟨(some 22),.ia (.t 21) (.c (.i .i64 0)) 1,none⟩,ol 23 22 1 false,⟨(some 24),.un .neg (.t 23),none⟩,oc 25 158 [(.c (.i .i64 0)),(.t 24)],
om 6 25]) ( .ret)) (
.seq ( .region [
 ob 27 .eql (.t 9) (.c (.i .i64 8)),
om 26 27]) ( .cond (.t 26) (
.seq ( .draws [([],
om 28 2),([],⟨(some 29),.ia (.t 28) (.c (.i .i64 0)) 1,none⟩),
([],ol 30 29 1 false),([],
om 31 2),([],⟨(some 32),.ia (.t 31) (.c (.i .i64 1)) 1,none⟩),
([2],ol 33 32 1 false),([],oc 34 158 [(.t 30),(.t 33)]),([],
om 6 34)]) ( .ret)) (
.seq ( .region [
 ob 36 .eql (.t 9) (.c (.i .i64 9)),
om 35 36]) ( .cond (.t 35) (
.seq ( .draws [([],
om 37 2),([],⟨(some 38),.ia (.t 37) (.c (.i .i64 0)) 1,none⟩),
([],ol 39 38 1 false),([],
om 40 2),([],⟨(some 41),.ia (.t 40) (.c (.i .i64 1)) 1,none⟩),
([2],ol 42 41 1 false),([],⟨(some 43),.un .neg (.t 42),none⟩),
([],oc 44 158 [(.t 39),(.t 43)]),([],
om 6 44)]) ( .ret)) (
.seq ( .region [
 ob 46 .eql (.t 9) (.c (.i .i64 10)),
om 45 46]) ( .cond (.t 45) (
.seq ( .draws [([],
om 47 2),([],⟨(some 48),.ia (.t 47) (.c (.i .i64 0)) 1,none⟩),
([],ol 49 48 1 false),([],
om 50 2),([],⟨(some 51),.ia (.t 50) (.c (.i .i64 1)) 1,none⟩),
([2],ol 52 51 1 false),([],oc 53 159 [(.t 49),(.t 52)]),([],
om 6 53)]) ( .ret)) (
.seq ( .region [
 ob 55 .eql (.t 9) (.c (.i .i64 11)),
om 54 55]) ( .cond (.t 54) (
.seq ( .draws [([],
om 56 2),([],⟨(some 57),.ia (.t 56) (.c (.i .i64 0)) 1,none⟩),
([],ol 58 57 1 false),([],
om 59 2),([],⟨(some 60),.ia (.t 59) (.c (.i .i64 1)) 1,none⟩),
([2],ol 61 60 1 false),([],oc 62 160 [(.t 58),(.t 61)]),([],
om 6 62)]) ( .ret)) (
.seq (
.seq ( .region [
 ob 64 .eql (.t 9) (.c (.i .i64 12)),
om 63 64]) ( .cond (.t 63) ( .skip) ( .region [
 ob 65 .eql (.t 9) (.c (.i .i64 13)),
om 63 65]))) ( .cond (.t 63) (
.seq ( .region [
om 66 2,⟨(some 67),.ia (.t 66) (.c (.i .i64 0)) 1,none⟩,ol 68 67 1 false,
om 7 68]) (
.seq (
.seq ( .region [
 ⟨(some 8),.mv (.c (.i .i64 1)),none⟩]) ( .block 1 ( .loop eK))) (
.seq ( .region [
om 88 7,
om 6 88]) ( .ret)))) (
.seq ( .region [
 ob 90 .eql (.t 9) (.c (.i .i64 14)),
om 89 90]) ( .cond (.t 89) (
.seq (
.seq ( .region [
om 91 2,⟨(some 92),.ia (.t 91) (.c (.i .i64 0)) 1,none⟩,ol 93 92 1 false,
ob 94 .eql (.t 93) (.c (.i .i64 1))]) ( .cond (.t 94) (
.seq ( .region [
om 95 2,⟨(some 96),.ia (.t 95) (.c (.i .i64 1)) 1,none⟩,ol 97 96 1 false,
om 6 97]) ( .ret)) ( .skip))) (
.seq ( .region [
om 98 2,⟨(some 99),.ia (.t 98) (.c (.i .i64 2)) 1,none⟩,ol 100 99 1 false,
om 6 100]) ( .ret))) (
.seq ( .region [
 ob 102 .eql (.t 9) (.c (.i .i64 15)),
om 101 102]) ( .cond (.t 101) (
.seq ( .draws [([],
om 103 2),([],⟨(some 104),.ia (.t 103) (.c (.i .i64 0)) 1,none⟩),
([],ol 105 104 1 false),([],
om 106 2),([],⟨(some 107),.ia (.t 106) (.c (.i .i64 1)) 1,none⟩),
([2],ol 108 107 1 false),([],
om 109 2),([],⟨(some 110),.ia (.t 109) (.c (.i .i64 2)) 1,none⟩),
([2,5],ol 111 110 1 false),([],oc 112 162 [(.t 105),(.t 108),(.t 111)]),([],oc 113 161 [(.t 112)]),([],
om 6 113)]) ( .ret)) (
.seq ( .region [
 ob 115 .eql (.t 9) (.c (.i .i64 16)),
om 114 115]) ( .cond (.t 114) (
.seq ( .draws [([],
om 116 2),([],⟨(some 117),.ia (.t 116) (.c (.i .i64 0)) 1,none⟩),
([],ol 118 117 1 false),([],
om 119 2),([],⟨(some 120),.ia (.t 119) (.c (.i .i64 1)) 1,none⟩),
([2],ol 121 120 1 false),([],
ob 122 .lss (.t 118) (.t 121)),([],oc 123 161 [(.t 122)]),([],
om 6 123)]) ( .ret)) (
.seq ( .region [
 ob 125 .eql (.t 9) (.c (.i .i64 17)),
om 124 125]) ( .cond (.t 124) (
.seq ( .draws [([],
om 126 2),([],⟨(some 127),.ia (.t 126) (.c (.i .i64 0)) 1,none⟩),
([],ol 128 127 1 false),([],
om 129 2),([],⟨(some 130),.ia (.t 129) (.c (.i .i64 1)) 1,none⟩),
([2],ol 131 130 1 false),([],
ob 132 .leq (.t 128) (.t 131)),([],oc 133 161 [(.t 132)]),([],
om 6 133)]) ( .ret)) (
.seq ( .region [
 ob 135 .eql (.t 9) (.c (.i .i64 18)),
om 134 135]) ( .cond (.t 134) (
.seq ( .draws [([],
om 136 2),([],⟨(some 137),.ia (.t 136) (.c (.i .i64 0)) 1,none⟩),
([],ol 138 137 1 false),([],
om 139 2),([],⟨(some 140),.ia (.t 139) (.c (.i .i64 1)) 1,none⟩),
([2],ol 141 140 1 false),([],
ob 142 .eql (.t 138) (.t 141)),([],oc 143 161 [(.t 142)]),([],
om 6 143)]) ( .ret)) (
.seq ( .region [
 ob 145 .eql (.t 9) (.c (.i .i64 19)),
om 144 145]) ( .cond (.t 144) (
.seq ( .region [
om 146 2,⟨(some 147),.ia (.t 146) (.c (.i .i64 0)) 1,none⟩,ol 148 147 1 false,
ob 149 .sub (.c (.i .i64 1)) (.t 148),
om 6 149]) ( .ret)) (
.seq ( .region [
 ob 151 .eql (.t 9) (.c (.i .i64 20)),
om 150 151]) ( .cond (.t 150) (
.seq ( .draws [([],
om 152 2),([],⟨(some 153),.ia (.t 152) (.c (.i .i64 0)) 1,none⟩),
([],ol 154 153 1 false),([],
om 155 2),([],⟨(some 156),.ia (.t 155) (.c (.i .i64 1)) 1,none⟩),
([2],ol 157 156 1 false),([],⟨(some 158),.mm false [(.t 154),(.t 157)],none⟩),
([],
om 6 158)]) ( .ret)) (
.seq ( .region [
 ob 160 .eql (.t 9) (.c (.i .i64 21)),
om 159 160]) ( .cond (.t 159) (
.seq ( .draws [([],
om 161 2),([],⟨(some 162),.ia (.t 161) (.c (.i .i64 0)) 1,none⟩),
([],ol 163 162 1 false),([],
om 164 2),([],⟨(some 165),.ia (.t 164) (.c (.i .i64 1)) 1,none⟩),
([2],ol 166 165 1 false),([],⟨(some 167),.mm true [(.t 163),(.t 166)],none⟩),
([],
om 6 167)]) ( .ret)) ( .skip))))))))))))))))))))))))))))))))))))) (
.seq ( .draws [([],
om 168 2),([],⟨(some 169),.ia (.t 168) (.c (.i .i64 0)) 1,none⟩),
([],ol 170 169 1 false),([],
ob 171 .sub (.c (.i .i64 1)) (.t 170)),([],
om 172 2),([],⟨(some 173),.ia (.t 172) (.c (.i .i64 1)) 1,none⟩),
([2],ol 174 173 1 false),([],⟨(some 175),.mm true [(.t 171),(.t 174)],none⟩),
([],
om 6 175)]) ( .ret))),[.tmp 6],false,none⟩
theorem WJ:az Tryz.prog 108 gM:=codeOk (hs:= []) Tryz.func108 (by kernel_rfl)
def dX:aC:=⟨190,
.seq ( .region [
 ⟨(some 1),.box (.t 0) false,none⟩,
⟨(some 2),.alloc [(.i .i64 0),(.i .i64 0),(.s []),.nilsl] false,none⟩]) (
.seq ( .region [
 oa 6 1 3,ol 7 6 1 false,
om 3 7]) (
.seq ( .region [
 ⟨(some 8),.build [(.i .i64 0),(.i .i64 0),(.s []),.nilsl] [(0,1,(.c (.i .i64 4)))],none⟩,
⟨(some 9),.build [(.i .i64 0),(.i .i64 0),(.s []),.nilsl] [(0,1,(.c (.i .i64 5)))],none⟩,
⟨(some 4),.alloc [(.i .i64 0),(.i .i64 0),(.s []),.nilsl] false,none⟩,
⟨(some 5),.alloc [(.i .i64 0),(.i .i64 0),(.s []),.nilsl] false,none⟩,ot 4 8 4,ot 5 9 4]) (
.seq (
.seq ( .region [
 oa 10 1 0,ol 11 10 1 false]) ( .block 0 (
.seq ( .region [
 ob 13 .eql (.t 11) (.c (.i .i64 19)),
om 12 13]) ( .cond (.t 12) (
.seq ( .region [
om 14 3,⟨(some 15),.ia (.t 14) (.c (.i .i64 0)) 4,none⟩,oa 16 15 0,ol 17 16 1 false,
ob 18 .eql (.t 17) (.c (.i .i64 19))]) ( .cond (.t 18) (
.seq ( .region [
om 19 3,⟨(some 20),.ia (.t 19) (.c (.i .i64 0)) 4,none⟩,oa 21 20 3,ol 22 21 1 false,⟨(some 23),.ia (.t 22) (.c (.i .i64 0)) 4,none⟩,ol 24 23 4 true,ot 2 24 4]) ( .ret)) ( .skip))) (
.seq ( .region [
 ob 26 .eql (.t 11) (.c (.i .i64 20)),
om 25 26]) ( .cond (.t 25) (
.seq (
.seq ( .region [
om 27 3,⟨(some 28),.ia (.t 27) (.c (.i .i64 0)) 4,none⟩,oa 29 28 0,ol 30 29 1 false,
ob 31 .eql (.t 30) (.c (.i .i64 5)),
om 32 31,⟨(some 33),.mv (.t 3),(some (32,false))⟩,
⟨(some 34),.ia (.t 33) (.c (.i .i64 1)) 4,(some (32,false))⟩,
⟨(some 35),.fa (.t 34) 0,(some (32,false))⟩,
⟨(some 36),.ld (.t 35) 1 false,(some (32,false))⟩,
⟨(some 37),.bin .eql (.t 36) (.c (.i .i64 5)),(some (32,false))⟩,
⟨(some 38),.pick (.t 32) (.c (.b true)) (.t 37),none⟩]) ( .cond (.t 38) (
.seq ( .region [
 ol 39 5 4 true,ot 2 39 4]) ( .ret)) ( .skip))) (
.seq (
.seq ( .region [
om 40 3,⟨(some 41),.ia (.t 40) (.c (.i .i64 0)) 4,none⟩,oa 42 41 0,ol 43 42 1 false,
ob 44 .eql (.t 43) (.c (.i .i64 4))]) ( .cond (.t 44) (
.seq ( .region [
om 45 3,⟨(some 46),.ia (.t 45) (.c (.i .i64 1)) 4,none⟩,ol 47 46 4 true,ot 2 47 4]) ( .ret)) ( .skip))) (
.seq ( .region [
om 48 3,⟨(some 49),.ia (.t 48) (.c (.i .i64 1)) 4,none⟩,oa 50 49 0,ol 51 50 1 false,
ob 52 .eql (.t 51) (.c (.i .i64 4))]) ( .cond (.t 52) (
.seq ( .region [
om 53 3,⟨(some 54),.ia (.t 53) (.c (.i .i64 0)) 4,none⟩,ol 55 54 4 true,ot 2 55 4]) ( .ret)) ( .skip))))) (
.seq ( .region [
 ob 57 .eql (.t 11) (.c (.i .i64 21)),
om 56 57]) ( .cond (.t 56) (
.seq (
.seq ( .region [
om 58 3,⟨(some 59),.ia (.t 58) (.c (.i .i64 0)) 4,none⟩,oa 60 59 0,ol 61 60 1 false,
ob 62 .eql (.t 61) (.c (.i .i64 4)),
om 63 62,⟨(some 64),.mv (.t 3),(some (63,false))⟩,
⟨(some 65),.ia (.t 64) (.c (.i .i64 1)) 4,(some (63,false))⟩,
⟨(some 66),.fa (.t 65) 0,(some (63,false))⟩,
⟨(some 67),.ld (.t 66) 1 false,(some (63,false))⟩,
⟨(some 68),.bin .eql (.t 67) (.c (.i .i64 4)),(some (63,false))⟩,
⟨(some 69),.pick (.t 63) (.c (.b true)) (.t 68),none⟩]) ( .cond (.t 69) (
.seq ( .region [
 ol 70 4 4 true,ot 2 70 4]) ( .ret)) ( .skip))) (
.seq (
.seq ( .region [
om 71 3,⟨(some 72),.ia (.t 71) (.c (.i .i64 0)) 4,none⟩,oa 73 72 0,ol 74 73 1 false,
ob 75 .eql (.t 74) (.c (.i .i64 5))]) ( .cond (.t 75) (
.seq ( .region [
om 76 3,⟨(some 77),.ia (.t 76) (.c (.i .i64 1)) 4,none⟩,ol 78 77 4 true,ot 2 78 4]) ( .ret)) ( .skip))) (
.seq ( .region [
om 79 3,⟨(some 80),.ia (.t 79) (.c (.i .i64 1)) 4,none⟩,oa 81 80 0,ol 82 81 1 false,
ob 83 .eql (.t 82) (.c (.i .i64 5))]) ( .cond (.t 83) (
.seq ( .region [
om 84 3,⟨(some 85),.ia (.t 84) (.c (.i .i64 0)) 4,none⟩,ol 86 85 4 true,ot 2 86 4]) ( .ret)) ( .skip))))) (
.seq ( .region [
 ob 88 .eql (.t 11) (.c (.i .i64 22)),
om 87 88]) ( .cond (.t 87) (
.seq (
.seq ( .region [
om 89 3,⟨(some 90),.ia (.t 89) (.c (.i .i64 0)) 4,none⟩,oa 91 90 0,ol 92 91 1 false,
ob 93 .eql (.t 92) (.c (.i .i64 5)),
om 94 93,⟨(some 95),.mv (.t 3),(some (94,false))⟩,
⟨(some 96),.ia (.t 95) (.c (.i .i64 1)) 4,(some (94,false))⟩,
⟨(some 97),.fa (.t 96) 0,(some (94,false))⟩,
⟨(some 98),.ld (.t 97) 1 false,(some (94,false))⟩,
⟨(some 99),.bin .eql (.t 98) (.c (.i .i64 4)),(some (94,false))⟩,
⟨(some 100),.pick (.t 94) (.c (.b true)) (.t 99),none⟩]) ( .cond (.t 100) (
.seq ( .region [
 ol 101 4 4 true,ot 2 101 4]) ( .ret)) ( .skip))) (
.seq (
.seq ( .region [
om 102 3,⟨(some 103),.ia (.t 102) (.c (.i .i64 0)) 4,none⟩,oa 104 103 0,ol 105 104 1 false,
ob 106 .eql (.t 105) (.c (.i .i64 4))]) ( .cond (.t 106) (
.seq ( .region [
om 107 3,⟨(some 108),.ia (.t 107) (.c (.i .i64 1)) 4,none⟩,ol 109 108 4 true,ot 2 109 4]) ( .ret)) ( .skip))) (
.seq ( .region [
om 110 3,⟨(some 111),.ia (.t 110) (.c (.i .i64 1)) 4,none⟩,oa 112 111 0,ol 113 112 1 false,
ob 114 .eql (.t 113) (.c (.i .i64 5))]) ( .cond (.t 114) (
.seq ( .region [
om 115 3,⟨(some 116),.ia (.t 115) (.c (.i .i64 0)) 4,none⟩,ol 117 116 4 true,⟨(some 118),.bsl [(.i .i64 0),(.i .i64 0),(.s []),.nilsl] 1 [(0,(.t 117))],none⟩,
⟨(some 119),.build [(.i .i64 0),(.i .i64 0),(.s []),.nilsl] [(0,1,(.c (.i .i64 19))),(3,1,(.t 118))],none⟩,oc 120 109 [(.t 119)],ot 2 120 4]) ( .ret)) ( .skip))))) (
.seq ( .region [
 ob 122 .eql (.t 11) (.c (.i .i64 14)),
om 121 122]) ( .cond (.t 121) (
.seq (
.seq ( .region [
om 123 3,⟨(some 124),.ia (.t 123) (.c (.i .i64 0)) 4,none⟩,oa 125 124 0,ol 126 125 1 false,
ob 127 .eql (.t 126) (.c (.i .i64 4))]) ( .cond (.t 127) (
.seq ( .region [
om 128 3,⟨(some 129),.ia (.t 128) (.c (.i .i64 1)) 4,none⟩,ol 130 129 4 true,ot 2 130 4]) ( .ret)) ( .skip))) (
.seq ( .region [
om 131 3,⟨(some 132),.ia (.t 131) (.c (.i .i64 0)) 4,none⟩,oa 133 132 0,ol 134 133 1 false,
ob 135 .eql (.t 134) (.c (.i .i64 5))]) ( .cond (.t 135) (
.seq ( .region [
om 136 3,⟨(some 137),.ia (.t 136) (.c (.i .i64 2)) 4,none⟩,ol 138 137 4 true,ot 2 138 4]) ( .ret)) ( .skip)))) (
.seq ( .region [
 ob 140 .eql (.t 11) (.c (.i .i64 8)),
om 139 140]) ( .cond (.t 139) (
.seq (
.seq ( .region [
om 141 3,⟨(some 142),.ia (.t 141) (.c (.i .i64 1)) 4,none⟩,ol 143 142 4 true,oc 144 65 [(.t 143)]]) ( .cond (.t 144) (
.seq ( .region [
om 145 3,⟨(some 146),.ia (.t 145) (.c (.i .i64 0)) 4,none⟩,ol 147 146 4 true,ot 2 147 4]) ( .ret)) ( .skip))) (
.seq ( .region [
om 148 3,⟨(some 149),.ia (.t 148) (.c (.i .i64 0)) 4,none⟩,ol 150 149 4 true,oc 151 65 [(.t 150)]]) ( .cond (.t 151) (
.seq ( .region [
om 152 3,⟨(some 153),.ia (.t 152) (.c (.i .i64 1)) 4,none⟩,ol 154 153 4 true,ot 2 154 4]) ( .ret)) ( .skip)))) (
.seq ( .region [
 ob 156 .eql (.t 11) (.c (.i .i64 9)),
om 155 156]) ( .cond (.t 155) (
.seq ( .region [
om 157 3,⟨(some 158),.ia (.t 157) (.c (.i .i64 1)) 4,none⟩,ol 159 158 4 true,oc 160 65 [(.t 159)]]) ( .cond (.t 160) (
.seq ( .region [
om 161 3,⟨(some 162),.ia (.t 161) (.c (.i .i64 0)) 4,none⟩,ol 163 162 4 true,ot 2 163 4]) ( .ret)) ( .skip))) (
.seq ( .region [
 ob 165 .eql (.t 11) (.c (.i .i64 10)),
om 164 165]) ( .cond (.t 164) (
.seq (
.seq ( .region [
om 166 3,⟨(some 167),.ia (.t 166) (.c (.i .i64 1)) 4,none⟩,ol 168 167 4 true,oc 169 163 [(.t 168)]]) ( .cond (.t 169) (
.seq ( .region [
om 170 3,⟨(some 171),.ia (.t 170) (.c (.i .i64 0)) 4,none⟩,ol 172 171 4 true,ot 2 172 4]) ( .ret)) ( .skip))) (
.seq ( .region [
om 173 3,⟨(some 174),.ia (.t 173) (.c (.i .i64 0)) 4,none⟩,ol 175 174 4 true,oc 176 163 [(.t 175)]]) ( .cond (.t 176) (
.seq ( .region [
om 177 3,⟨(some 178),.ia (.t 177) (.c (.i .i64 1)) 4,none⟩,ol 179 178 4 true,ot 2 179 4]) ( .ret)) ( .skip)))) (
.seq ( .region [
 ob 181 .eql (.t 11) (.c (.i .i64 11)),
om 180 181]) ( .cond (.t 180) (
.seq ( .region [
om 182 3,⟨(some 183),.ia (.t 182) (.c (.i .i64 1)) 4,none⟩,ol 184 183 4 true,oc 185 163 [(.t 184)]]) ( .cond (.t 185) (
.seq ( .region [
om 186 3,⟨(some 187),.ia (.t 186) (.c (.i .i64 0)) 4,none⟩,ol 188 187 4 true,ot 2 188 4]) ( .ret)) ( .skip))) ( .skip))))))))))))))))))))) (
.seq ( .region [
 ol 189 1 4 true,ot 2 189 4]) ( .ret))))),[.cell 2 4 true],false,none⟩
theorem WK:az Tryz.prog 109 dX:=codeOk (hs:= []) Tryz.func109 (by kernel_rfl)
def fq:ba:=
.seq (
.seq ( .region [
om 44 14,oa 45 9 3,ol 46 45 1 false,on 47 46,
ob 48 .lss (.t 44) (.t 47)]) ( .cond (.t 48) ( .skip) ( .exit 0))) (
.seq ( .block 1 ( .region [
om 51 13,
om 52 0,
om 53 1,
om 54 2,
om 55 3,oa 56 9 3,ol 57 56 1 false,
om 58 14,oi 59 57 58 4,ol 60 59 4 true,oc 61 110 [(.t 52),(.t 53),(.t 54),(.t 55),(.t 60)],⟨(some 62),.bsl [(.i .i64 0)] 1 [(0,(.t 61))],none⟩,
⟨(some 63),.app 1 8 (.t 51) (.t 62) false false,none⟩,
om 13 63])) ( .region [
om 49 14,
ob 50 .add (.t 49) (.c (.i .i64 1)),
om 14 50]))
theorem tm:Cf (sJ (.loop fq))=18446726481523531776:=nr rfl
def y9:aC:=⟨70,
.seq ( .region [
 ⟨(some 9),.box (.t 4) false,none⟩,
⟨(some 10),.mv (.c (.i .i64 0)),none⟩]) (
.seq (
.seq ( .region [
 oa 15 9 0,ol 16 15 1 false,
ob 17 .eql (.t 16) (.c (.i .i64 6))]) ( .cond (.t 17) (
.seq (
.seq ( .region [
om 19 2,oa 20 9 2,ol 21 20 1 false,oc 22 85 [(.t 19),(.t 21)],
om 18 22,oe 23 18 0,oe 24 18 1,
om 11 23,
om 12 24]) (
.seq ( .region [
om 25 12,
ob 26 .eql (.t 25) (.c (.i .i64 0))]) ( .cond (.t 26) (
.seq ( .region [
om 27 11,
om 28 3,
om 29 3,oa 30 9 2,ol 31 30 1 false,oc 32 165 [(.t 29),(.t 31)],oi 33 28 32 2,oa 34 33 1,ol 35 34 1 false,oc 36 164 [(.t 27),(.t 35)],
om 10 36]) ( .ret)) ( .skip)))) (
.seq ( .region [
om 37 0,
om 38 1,oa 39 9 2,ol 40 39 1 false,oc 41 105 [(.t 38),(.t 40)],oi 42 37 41 1,ol 43 42 1 false,
om 10 43]) ( .ret))) ( .skip))) (
.seq ( .region [
 ⟨(some 13),.mv (.c .nilsl),none⟩]) (
.seq (
.seq ( .region [
 ⟨(some 14),.mv (.c (.i .i64 0)),none⟩]) ( .block 0 ( .loop fq))) (
.seq ( .region [
 oa 64 9 0,ol 65 64 1 false,oa 66 9 1,ol 67 66 1 false,
om 68 13,oc 69 108 [(.t 65),(.t 67),(.t 68)],
om 10 69]) ( .ret))))),[.tmp 10],false,none⟩
theorem WL:az Tryz.prog 110 y9:=codeOk (hs:= []) Tryz.func110 (by kernel_rfl)
def Ep:aC:=⟨8,
.seq ( .region [
 ⟨(some 1),.box (.t 0) false,none⟩,
⟨(some 2),.mv (.c (.i .i64 0)),none⟩,
⟨(some 3),.mv (.c (.i .i64 0)),none⟩]) (
.seq ( .region [
 ol 4 1 4 true,oc 5 166 [(.t 4),(.c (.i .i64 1))],oe 6 5 0,oe 7 5 1,
om 2 6,
om 3 7]) ( .ret)),[.tmp 2,.tmp 3],false,none⟩
theorem WM:az Tryz.prog 111 Ep:=codeOk (hs:= []) Tryz.func111 (by kernel_rfl)
def gD:ba:=
.seq (
.seq ( .region [
om 70 6,oa 71 1 3,ol 72 71 1 false,on 73 72,
ob 74 .lss (.t 70) (.t 73)]) ( .cond (.t 74) ( .skip) ( .exit 1))) (
.seq ( .block 2 (
.seq ( .region [
 oa 77 1 3,ol 78 77 1 false,
om 79 6,oi 80 78 79 4,ol 81 80 4 true,oc 82 112 [(.t 81)],⟨(some 83),.un .not (.t 82),none⟩]) ( .cond (.t 83) (
.seq ( .region [
 ⟨(some 2),.mv (.c (.b false)),none⟩]) ( .ret)) ( .skip)))) ( .region [
om 75 6,
ob 76 .add (.t 75) (.c (.i .i64 1)),
om 6 76]))
def gN:aC:=⟨84,
.seq ( .region [
 ⟨(some 1),.box (.t 0) false,none⟩,
⟨(some 2),.mv (.c (.b false)),none⟩]) (
.seq (
.seq ( .region [
 oa 7 1 0,ol 8 7 1 false,
ob 9 .lss (.t 8) (.c (.i .i64 1)),
om 10 9,⟨(some 11),.fa (.t 1) 0,(some (10,false))⟩,
⟨(some 12),.ld (.t 11) 1 false,(some (10,false))⟩,
⟨(some 13),.bin .gtr (.t 12) (.c (.i .i64 22)),(some (10,false))⟩,
⟨(some 14),.pick (.t 10) (.c (.b true)) (.t 13),none⟩]) ( .cond (.t 14) (
.seq ( .region [
 ⟨(some 2),.mv (.c (.b false)),none⟩]) ( .ret)) ( .skip))) (
.seq ( .region [
 oa 16 1 0,ol 17 16 1 false,oc 18 167 [(.t 17)],
om 15 18,oe 19 15 0,oe 20 15 1,
om 3 19,
om 4 20]) (
.seq (
.seq ( .region [
 oa 21 1 3,ol 22 21 1 false,on 23 22,
om 24 3,
ob 25 .lss (.t 23) (.t 24),
om 26 25,⟨(some 27),.fa (.t 1) 3,(some (26,false))⟩,
⟨(some 28),.ld (.t 27) 1 false,(some (26,false))⟩,
⟨(some 29),.lenV (.t 28),(some (26,false))⟩,
⟨(some 30),.mv (.t 4),(some (26,false))⟩,
⟨(some 31),.bin .gtr (.t 29) (.t 30),(some (26,false))⟩,
⟨(some 32),.pick (.t 26) (.c (.b true)) (.t 31),none⟩]) ( .cond (.t 32) (
.seq ( .region [
 ⟨(some 2),.mv (.c (.b false)),none⟩]) ( .ret)) ( .skip))) (
.seq ( .region [
 ⟨(some 5),.mv (.c (.i .i64 0)),none⟩]) (
.seq (
.seq ( .region [
 oa 33 1 0,ol 34 33 1 false]) ( .block 0 (
.seq (
.seq ( .region [
 ob 36 .eql (.t 34) (.c (.i .i64 1)),
om 35 36]) ( .cond (.t 35) ( .skip) ( .region [
 ob 37 .eql (.t 34) (.c (.i .i64 2)),
om 35 37]))) ( .cond (.t 35) ( .region [
 ⟨(some 5),.mv (.c (.i .i64 1099511627776)),none⟩]) (
.seq ( .region [
 ob 39 .eql (.t 34) (.c (.i .i64 3)),
om 38 39]) ( .cond (.t 38) ( .region [
 ⟨(some 5),.mv (.c (.i .i64 1439)),none⟩]) ( .skip))))))) (
.seq (
.seq ( .region [
 oa 40 1 1,ol 41 40 1 false,
ob 42 .lss (.t 41) (.c (.i .i64 0)),
om 43 42,⟨(some 44),.fa (.t 1) 1,(some (43,false))⟩,
⟨(some 45),.ld (.t 44) 1 false,(some (43,false))⟩,
⟨(some 46),.mv (.t 5),(some (43,false))⟩,
⟨(some 47),.bin .gtr (.t 45) (.t 46),(some (43,false))⟩,
⟨(some 48),.pick (.t 43) (.c (.b true)) (.t 47),none⟩,
om 49 48,⟨(some 50),.fa (.t 1) 0,(some (49,false))⟩,
⟨(some 51),.ld (.t 50) 1 false,(some (49,false))⟩,
⟨(some 52),.bin .eql (.t 51) (.c (.i .i64 6)),(some (49,false))⟩,
⟨(some 53),.mv (.t 52),(some (49,false))⟩,
⟨(some 54),.fa (.t 1) 2,(some (53,true))⟩,
⟨(some 55),.ld (.t 54) 1 false,(some (53,true))⟩,
⟨(some 56),.callf 168 [(.t 55)],(some (53,true))⟩,
⟨(some 57),.un .not (.t 56),(some (53,true))⟩,
⟨(some 58),.pick (.t 53) (.t 57) (.c (.b false)),(some (49,false))⟩,
⟨(some 59),.pick (.t 49) (.c (.b true)) (.t 58),none⟩,
om 60 59,⟨(some 61),.fa (.t 1) 0,(some (60,false))⟩,
⟨(some 62),.ld (.t 61) 1 false,(some (60,false))⟩,
⟨(some 63),.bin .neq (.t 62) (.c (.i .i64 6)),(some (60,false))⟩,
⟨(some 64),.mv (.t 63),(some (60,false))⟩,
⟨(some 65),.fa (.t 1) 2,(some (64,true))⟩,
⟨(some 66),.ld (.t 65) 1 false,(some (64,true))⟩,
⟨(some 67),.bin .neq (.t 66) (.c (.s [])),(some (64,true))⟩,
⟨(some 68),.pick (.t 64) (.t 67) (.c (.b false)),(some (60,false))⟩,
⟨(some 69),.pick (.t 60) (.c (.b true)) (.t 68),none⟩]) ( .cond (.t 69) (
.seq ( .region [
 ⟨(some 2),.mv (.c (.b false)),none⟩]) ( .ret)) ( .skip))) (
.seq (
.seq ( .region [
 ⟨(some 6),.mv (.c (.i .i64 0)),none⟩]) ( .block 1 ( .loop gD))) (
.seq ( .region [
 ⟨(some 2),.mv (.c (.b true)),none⟩]) ( .ret))))))))),[.tmp 2],false,none⟩
theorem WN:az Tryz.prog 112 gN:=codeOk (hs:= []) Tryz.func112 (by kernel_rfl)
def za:aC:=⟨45,
.seq ( .region [
 ⟨(some 4),.mv (.c (.i .i64 0)),none⟩,
⟨(some 5),.mv (.c (.i .i64 0)),none⟩]) (
.seq (
.seq ( .region [
om 11 0,⟨(some 12),.nck (.t 11),none⟩,oa 13 12 2,ol 14 13 1 false,
om 15 1,⟨(some 16),.lk (.one .int) (.t 14) (.t 15) (.i .i64 0) true,none⟩,
om 10 16,oe 17 10 0,oe 18 10 1,
om 6 17,
om 7 18]) (
.seq ( .region [
om 19 7]) ( .cond (.t 19) (
.seq ( .region [
om 20 6,
om 4 20,⟨(some 5),.mv (.c (.i .i64 0)),none⟩]) ( .ret)) ( .skip)))) (
.seq ( .region [
om 22 0,
om 23 1,
om 24 0,⟨(some 25),.nck (.t 24),none⟩,oa 26 25 0,ol 27 26 1 false,
om 28 1,oi 29 27 28 5,oa 30 29 1,ol 31 30 4 true,oc 32 97 [(.t 22),(.c (.i .i64 0)),(.t 23),(.t 31)],
om 21 32,oe 33 21 0,oe 34 21 1,
om 8 33,
om 9 34]) (
.seq (
.seq ( .region [
om 35 9,
ob 36 .neq (.t 35) (.c (.i .i64 0))]) ( .cond (.t 36) (
.seq ( .region [
om 37 9,⟨(some 4),.mv (.c (.i .i64 0)),none⟩,
om 5 37]) ( .ret)) ( .skip))) (
.seq ( .region [
om 38 0,⟨(some 39),.nck (.t 38),none⟩,oa 40 39 2,ol 41 40 1 false,
om 42 1,
om 43 8,⟨none,.mu (.one .int) (.t 41) (.t 42) (.t 43),none⟩]) (
.seq ( .region [
om 44 8,
om 4 44,⟨(some 5),.mv (.c (.i .i64 0)),none⟩]) ( .ret)))))),[.tmp 4,.tmp 5],true,none⟩
theorem WO:az Tryz.prog 114 za:=codeOk (hs:= []) Tryz.func114 (by kernel_rfl)
def Er:aC:=⟨10,
.seq ( .region [
 ⟨(some 2),.mv (.c (.b false)),none⟩]) (
.seq ( .region [
om 3 0,oc 4 182 [(.t 3)],
om 5 4,⟨(some 6),.mv (.t 0),(some (5,true))⟩,
⟨(some 7),.callf 197 [(.t 6)],(some (5,true))⟩,
⟨(some 8),.un .not (.t 7),(some (5,true))⟩,
⟨(some 9),.pick (.t 5) (.t 8) (.c (.b false)),none⟩,
om 2 9]) ( .ret)),[.tmp 2],false,none⟩
theorem WQ:az Tryz.prog 126 Er:=codeOk (hs:= []) Tryz.func126 (by kernel_rfl)
def RC:aC:=⟨2,
.seq ( .region [
 ⟨(some 0),.mv (.c .nilsl),none⟩]) (
.seq ( .region [
 ⟨(some 1),.bsl [(.s [])] 11 [(0,(.c (.s [108,101,103,115]))),(1,(.c (.s [104,101,97,100,115]))),(2,(.c (.s [116,121,112,101,115]))),(3,(.c (.s [98,108,111,99,107]))),(4,(.c (.s [115,112,97,110]))),(5,(.c (.s [110,105,103,104,116]))),(6,(.c (.s [108,111,110,103,101,115,116]))),(7,(.c (.s [115,104,111,114,116,101,115,116]))),(8,(.c (.s [115,104,105,102,116]))),(9,(.c (.s [115,116,97,114,116]))),(10,(.c (.s [101,110,100])))],none⟩,
om 0 1]) ( .ret)),[.tmp 0],false,none⟩
theorem WR:az Tryz.prog 132 RC:=codeOk (hs:= []) Tryz.func132 (by kernel_rfl)
def Es:aC:=⟨18,
.seq ( .region [
 ⟨(some 2),.mv (.c (.i .i64 0)),none⟩]) (
.seq (
.seq ( .region [
om 3 0]) ( .block 0 (
.seq (
.seq ( .region [
 ob 5 .eql (.t 3) (.c (.s [108,101,103,115])),
om 4 5]) ( .cond (.t 4) ( .skip) (
.seq ( .region [
 ob 6 .eql (.t 3) (.c (.s [104,101,97,100,115])),
om 4 6]) ( .cond (.t 4) ( .skip) ( .region [
 ob 7 .eql (.t 3) (.c (.s [116,121,112,101,115])),
om 4 7]))))) ( .cond (.t 4) (
.seq ( .region [
 ⟨(some 2),.mv (.c (.i .i64 1)),none⟩]) ( .ret)) (
.seq (
.seq ( .region [
 ob 9 .eql (.t 3) (.c (.s [98,108,111,99,107])),
om 8 9]) ( .cond (.t 8) ( .skip) (
.seq ( .region [
 ob 10 .eql (.t 3) (.c (.s [115,112,97,110])),
om 8 10]) ( .cond (.t 8) ( .skip) (
.seq ( .region [
 ob 11 .eql (.t 3) (.c (.s [110,105,103,104,116])),
om 8 11]) ( .cond (.t 8) ( .skip) (
.seq ( .region [
 ob 12 .eql (.t 3) (.c (.s [108,111,110,103,101,115,116])),
om 8 12]) ( .cond (.t 8) ( .skip) (
.seq ( .region [
 ob 13 .eql (.t 3) (.c (.s [115,104,111,114,116,101,115,116])),
om 8 13]) ( .cond (.t 8) ( .skip) ( .region [
 ob 14 .eql (.t 3) (.c (.s [115,104,105,102,116])),
om 8 14]))))))))))) ( .cond (.t 8) (
.seq ( .region [
 ⟨(some 2),.mv (.c (.i .i64 2)),none⟩]) ( .ret)) (
.seq (
.seq ( .region [
 ob 16 .eql (.t 3) (.c (.s [115,116,97,114,116])),
om 15 16]) ( .cond (.t 15) ( .skip) ( .region [
 ob 17 .eql (.t 3) (.c (.s [101,110,100])),
om 15 17]))) ( .cond (.t 15) (
.seq ( .region [
 ⟨(some 2),.mv (.c (.i .i64 3)),none⟩]) ( .ret)) ( .skip))))))))) (
.seq ( .region [
 ⟨(some 2),.mv (.c (.i .i64 0)),none⟩]) ( .ret))),[.tmp 2],false,none⟩
theorem WS:az Tryz.prog 133 Es:=codeOk (hs:= []) Tryz.func133 (by kernel_rfl)
def zb:aC:=⟨30,
.seq ( .region [
 ⟨(some 2),.mv (.c (.i .i64 0)),none⟩]) (
.seq (
.seq ( .region [
om 7 0]) ( .block 0 (
.seq ( .region [
 ob 9 .eql (.t 7) (.c (.s [114,101,115,116])),
om 8 9]) ( .cond (.t 8) (
.seq ( .region [
 ⟨(some 2),.mv (.c (.i .i64 2)),none⟩]) ( .ret)) (
.seq ( .region [
 ob 11 .eql (.t 7) (.c (.s [110,105,103,104,116,115])),
om 10 11]) ( .cond (.t 10) (
.seq ( .region [
 ⟨(some 2),.mv (.c (.i .i64 1)),none⟩]) ( .ret)) (
.seq ( .region [
 ob 13 .eql (.t 7) (.c (.s [104,111,109,101])),
om 12 13]) ( .cond (.t 12) (
.seq ( .region [
 ⟨(some 2),.mv (.c (.i .i64 4)),none⟩]) ( .ret)) ( .skip))))))))) (
.seq (
.seq ( .region [
om 15 0,oc 16 212 [(.t 15),(.c (.s [98,101,102,111,114,101,46]))],
om 14 16,oe 17 14 0,oe 18 14 1,
om 3 17,
om 4 18]) (
.seq ( .region [
om 19 4]) ( .cond (.t 19) (
.seq ( .region [
om 20 3,oc 21 133 [(.t 20)],
om 2 21]) ( .ret)) ( .skip)))) (
.seq (
.seq ( .region [
om 23 0,oc 24 212 [(.t 23),(.c (.s [97,102,116,101,114,46]))],
om 22 24,oe 25 22 0,oe 26 22 1,
om 5 25,
om 6 26]) (
.seq ( .region [
om 27 6]) ( .cond (.t 27) (
.seq ( .region [
om 28 5,oc 29 133 [(.t 28)],
om 2 29]) ( .ret)) ( .skip)))) (
.seq ( .region [
 ⟨(some 2),.mv (.c (.i .i64 0)),none⟩]) ( .ret))))),[.tmp 2],false,none⟩
theorem WT:az Tryz.prog 134 zb:=codeOk (hs:= []) Tryz.func134 (by kernel_rfl)
def Et:aC:=⟨13,
.seq ( .region [
 ⟨(some 2),.mv (.c (.i .i64 0)),none⟩]) (
.seq (
.seq ( .region [
om 3 0]) ( .block 0 (
.seq (
.seq ( .region [
 ob 5 .eql (.t 3) (.c (.s [100,117,116,105,101,115])),
om 4 5]) ( .cond (.t 4) ( .skip) (
.seq ( .region [
 ob 6 .eql (.t 3) (.c (.s [108,101,103,115])),
om 4 6]) ( .cond (.t 4) ( .skip) (
.seq ( .region [
 ob 7 .eql (.t 3) (.c (.s [104,101,97,100,115])),
om 4 7]) ( .cond (.t 4) ( .skip) ( .region [
 ob 8 .eql (.t 3) (.c (.s [100,97,121,115])),
om 4 8]))))))) ( .cond (.t 4) (
.seq ( .region [
 ⟨(some 2),.mv (.c (.i .i64 1)),none⟩]) ( .ret)) (
.seq (
.seq ( .region [
 ob 10 .eql (.t 3) (.c (.s [98,108,111,99,107])),
om 9 10]) ( .cond (.t 9) ( .skip) (
.seq ( .region [
 ob 11 .eql (.t 3) (.c (.s [115,112,97,110])),
om 9 11]) ( .cond (.t 9) ( .skip) ( .region [
 ob 12 .eql (.t 3) (.c (.s [99,114,101,100,105,116])),
om 9 12]))))) ( .cond (.t 9) (
.seq ( .region [
 ⟨(some 2),.mv (.c (.i .i64 2)),none⟩]) ( .ret)) ( .skip))))))) (
.seq ( .region [
 ⟨(some 2),.mv (.c (.i .i64 0)),none⟩]) ( .ret))),[.tmp 2],false,none⟩
theorem WU:az Tryz.prog 135 Et:=codeOk (hs:= []) Tryz.func135 (by kernel_rfl)
def Eu:aC:=⟨4,
.seq ( .region [
 ⟨(some 2),.mv (.c (.i .i64 0)),none⟩]) (
.seq (
.seq ( .region [
om 3 0]) ( .cond (.t 3) (
.seq ( .region [
 ⟨(some 2),.mv (.c (.i .i64 1)),none⟩]) ( .ret)) ( .skip))) (
.seq ( .region [
 ⟨(some 2),.mv (.c (.i .i64 0)),none⟩]) ( .ret))),[.tmp 2],false,none⟩
theorem WV:az Tryz.prog 136 Eu:=codeOk (hs:= []) Tryz.func136 (by kernel_rfl)
def Ew:aC:=⟨6,
.seq ( .region [
 ⟨(some 2),.mv (.c (.i .i64 0)),none⟩]) (
.seq ( .region [
om 3 0,⟨(some 4),.mm false [(.c (.i .i64 1099511627776)),(.t 3)],none⟩,
⟨(some 5),.mm true [(.c (.i .i64 (-1099511627776))),(.t 4)],none⟩,
om 2 5]) ( .ret)),[.tmp 2],false,none⟩
theorem WW:az Tryz.prog 137 Ew:=codeOk (hs:= []) Tryz.func137 (by kernel_rfl)
def RD:aC:=⟨51,
.seq ( .region [
 ⟨(some 4),.mv (.c (.i .i64 0)),none⟩]) (
.seq ( .region [
om 12 0,⟨(some 13),.nck (.t 12),none⟩,oa 14 13 1,ol 15 14 1 false,
om 16 1,⟨(some 17),.lk (.one .str) (.t 15) (.t 16) (.i .i64 0) true,none⟩,
om 11 17,oe 18 11 0,oe 19 11 1,
om 5 18,
om 6 19]) (
.seq (
.seq ( .region [
om 20 6,⟨(some 21),.un .not (.t 20),none⟩]) ( .cond (.t 21) (
.seq ( .region [
 ⟨(some 4),.mv (.c (.i .i64 0)),none⟩]) ( .ret)) ( .skip))) (
.seq (
.seq ( .region [
om 23 0,⟨(some 24),.nck (.t 23),none⟩,oa 25 24 2,ol 26 25 1 false,
om 27 5,⟨(some 28),.lk (.one .int) (.t 26) (.t 27) (.i .i64 0) true,none⟩,
om 22 28,oe 29 22 0,oe 30 22 1,
om 7 29,
om 8 30]) (
.seq ( .region [
om 31 8]) ( .cond (.t 31) (
.seq ( .region [
om 32 7,
om 4 32]) ( .ret)) ( .skip)))) (
.seq ( .region [
om 33 0,
om 34 0,⟨(some 35),.nck (.t 34),none⟩,oa 36 35 0,ol 37 36 1 false,
om 38 5,oi 39 37 38 5,oa 40 39 1,ol 41 40 4 true,oc 42 91 [(.t 33),(.c (.i .i64 0)),(.t 41)],⟨(some 9),.alloc [(.i .i64 0),(.i .i64 0),.nilsl] false,none⟩,ot 9 42 3]) (
.seq ( .region [
 oc 43 92 [(.t 9),(.c .nilsl)],
om 10 43]) (
.seq ( .region [
om 44 0,⟨(some 45),.nck (.t 44),none⟩,oa 46 45 2,ol 47 46 1 false,
om 48 5,
om 49 10,⟨none,.mu (.one .int) (.t 47) (.t 48) (.t 49),none⟩]) (
.seq ( .region [
om 50 10,
om 4 50]) ( .ret)))))))),[.tmp 4],false,none⟩
theorem WX:az Tryz.prog 138 RD:=codeOk (hs:= []) Tryz.func138 (by kernel_rfl)
def Ci:aC:=⟨26,
.seq ( .region [
 ⟨(some 6),.mv (.c (.b false)),none⟩]) (
.seq (
.seq ( .region [
om 7 1,
om 8 2,
ob 9 .leq (.t 7) (.t 8)]) ( .cond (.t 9) (
.seq ( .region [
om 10 1,
om 11 0,
ob 12 .leq (.t 10) (.t 11),
om 13 12,⟨(some 14),.mv (.t 0),(some (13,true))⟩,
⟨(some 15),.mv (.t 2),(some (13,true))⟩,
⟨(some 16),.bin .lss (.t 14) (.t 15),(some (13,true))⟩,
⟨(some 17),.pick (.t 13) (.t 16) (.c (.b false)),none⟩,
om 6 17]) ( .ret)) ( .skip))) (
.seq ( .region [
om 18 1,
om 19 0,
ob 20 .leq (.t 18) (.t 19),
om 21 20,⟨(some 22),.mv (.t 0),(some (21,false))⟩,
⟨(some 23),.mv (.t 2),(some (21,false))⟩,
⟨(some 24),.bin .lss (.t 22) (.t 23),(some (21,false))⟩,
⟨(some 25),.pick (.t 21) (.c (.b true)) (.t 24),none⟩,
om 6 25]) ( .ret))),[.tmp 6],false,none⟩
theorem WY:az Tryz.prog 139 Ci:=codeOk (hs:= []) Tryz.func139 (by kernel_rfl)
def wF:aC:=⟨31,
.seq ( .region [
 ⟨(some 4),.mv (.c (.i .i64 0)),none⟩]) (
.seq ( .region [
om 6 0,
om 7 1,
ob 8 .add (.t 6) (.t 7),
om 5 8]) (
.seq (
.seq ( .region [
om 9 0,
ob 10 .geq (.t 9) (.c (.i .i64 0)),
om 11 10,⟨(some 12),.mv (.t 1),(some (11,true))⟩,
⟨(some 13),.bin .geq (.t 12) (.c (.i .i64 0)),(some (11,true))⟩,
⟨(some 14),.pick (.t 11) (.t 13) (.c (.b false)),none⟩,
om 15 14,⟨(some 16),.mv (.t 5),(some (15,true))⟩,
⟨(some 17),.bin .lss (.t 16) (.c (.i .i64 0)),(some (15,true))⟩,
⟨(some 18),.pick (.t 15) (.t 17) (.c (.b false)),none⟩]) ( .cond (.t 18) (
.seq ( .region [
 ⟨(some 4),.mv (.c (.i .i64 1099511627776)),none⟩]) ( .ret)) ( .skip))) (
.seq (
.seq ( .region [
om 19 0,
ob 20 .lss (.t 19) (.c (.i .i64 0)),
om 21 20,⟨(some 22),.mv (.t 1),(some (21,true))⟩,
⟨(some 23),.bin .lss (.t 22) (.c (.i .i64 0)),(some (21,true))⟩,
⟨(some 24),.pick (.t 21) (.t 23) (.c (.b false)),none⟩,
om 25 24,⟨(some 26),.mv (.t 5),(some (25,true))⟩,
⟨(some 27),.bin .geq (.t 26) (.c (.i .i64 0)),(some (25,true))⟩,
⟨(some 28),.pick (.t 25) (.t 27) (.c (.b false)),none⟩]) ( .cond (.t 28) (
.seq ( .region [
 ⟨(some 4),.mv (.c (.i .i64 (-1099511627776))),none⟩]) ( .ret)) ( .skip))) (
.seq ( .region [
om 29 5,oc 30 137 [(.t 29)],
om 4 30]) ( .ret))))),[.tmp 4],false,none⟩
theorem WZ:az Tryz.prog 140 wF:=codeOk (hs:= []) Tryz.func140 (by kernel_rfl)
def nb:aC:=⟨61,
.seq ( .region [
 ⟨(some 6),.mv (.c (.i .i64 0)),none⟩]) (
.seq (
.seq ( .region [
om 7 0]) ( .block 0 (
.seq ( .region [
 ob 9 .eql (.t 7) (.c (.i .i64 8)),
om 8 9]) ( .cond (.t 8) (
.seq ( .region [
om 10 1,
om 11 2,oc 12 140 [(.t 10),(.t 11)],
om 6 12]) ( .ret)) (
.seq ( .region [
 ob 14 .eql (.t 7) (.c (.i .i64 9)),
om 13 14]) ( .cond (.t 13) (
.seq ( .region [
om 15 1,
om 16 2,⟨(some 17),.un .neg (.t 16),none⟩,oc 18 140 [(.t 15),(.t 17)],
om 6 18]) ( .ret)) (
.seq ( .region [
 ob 20 .eql (.t 7) (.c (.i .i64 10)),
om 19 20]) ( .cond (.t 19) (
.seq ( .region [
om 21 1,
om 22 2,oc 23 213 [(.t 21),(.t 22)],
om 6 23]) ( .ret)) (
.seq ( .region [
 ob 25 .eql (.t 7) (.c (.i .i64 11)),
om 24 25]) ( .cond (.t 24) (
.seq ( .region [
om 26 1,
om 27 2,oc 28 214 [(.t 26),(.t 27)],
om 6 28]) ( .ret)) (
.seq ( .region [
 ob 30 .eql (.t 7) (.c (.i .i64 16)),
om 29 30]) ( .cond (.t 29) (
.seq ( .region [
om 31 1,
om 32 2,
ob 33 .lss (.t 31) (.t 32),oc 34 136 [(.t 33)],
om 6 34]) ( .ret)) (
.seq ( .region [
 ob 36 .eql (.t 7) (.c (.i .i64 17)),
om 35 36]) ( .cond (.t 35) (
.seq ( .region [
om 37 1,
om 38 2,
ob 39 .leq (.t 37) (.t 38),oc 40 136 [(.t 39)],
om 6 40]) ( .ret)) (
.seq ( .region [
 ob 42 .eql (.t 7) (.c (.i .i64 18)),
om 41 42]) ( .cond (.t 41) (
.seq ( .region [
om 43 1,
om 44 2,
ob 45 .eql (.t 43) (.t 44),oc 46 136 [(.t 45)],
om 6 46]) ( .ret)) (
.seq ( .region [
 ob 48 .eql (.t 7) (.c (.i .i64 20)),
om 47 48]) ( .cond (.t 47) (
.seq ( .region [
om 49 1,
om 50 2,
ob 51 .and (.t 49) (.t 50),
om 6 51]) ( .ret)) (
.seq ( .region [
 ob 53 .eql (.t 7) (.c (.i .i64 21)),
om 52 53]) ( .cond (.t 52) (
.seq ( .region [
om 54 1,
om 55 2,
ob 56 .or (.t 54) (.t 55),
om 6 56]) ( .ret)) ( .skip))))))))))))))))))))) (
.seq ( .region [
om 57 1,
ob 58 .sub (.c (.i .i64 1)) (.t 57),
om 59 2,
ob 60 .or (.t 58) (.t 59),
om 6 60]) ( .ret))),[.tmp 6],false,none⟩
theorem W0:az Tryz.prog 141 nb:=codeOk (hs:= []) Tryz.func141 (by kernel_rfl)
def ei:ba:=
.seq ( .region [
 ob 62 .lss (.t 61) (.t 60)]) (
.seq ( .cond (.t 62) ( .skip) ( .exit 0)) (
.seq ( .block 1 (
.seq ( .region [
om 63 61,oi 64 59 61 4,ol 65 64 4 true,⟨(some 16),.alloc [(.i .i64 0),(.i .i64 0),(.s []),.nilsl] false,none⟩,
om 15 63,ot 16 65 4]) (
.seq ( .region [
om 67 0,
om 68 1,
om 69 2,ol 70 16 4 true,oc 71 142 [(.t 67),(.t 68),(.t 69),(.t 70)],
om 66 71,oe 72 66 0,oe 73 66 1,
om 17 72,
om 18 73]) (
.seq (
.seq ( .region [
om 74 18,
ob 75 .neq (.t 74) (.c (.i .i64 0))]) ( .cond (.t 75) (
.seq ( .region [
om 76 18,⟨(some 8),.mv (.c (.i .i64 0)),none⟩,
om 9 76]) ( .ret)) ( .skip))) ( .region [
om 77 14,
om 78 15,
om 79 17,oi 80 77 78 1,ot 80 79 1]))))) ( .region [
 ob 81 .add (.t 61) (.c (.i .i64 1)),
om 61 81])))
theorem tn:Cf (sJ (.loop ei))=4835700972615507485623040:=nr rfl
def qU:aC:=⟨89,
.seq ( .region [
 ⟨(some 7),.box (.t 3) false,none⟩,
⟨(some 8),.mv (.c (.i .i64 0)),none⟩,
⟨(some 9),.mv (.c (.i .i64 0)),none⟩]) (
.seq (
.seq ( .region [
 oa 20 7 0,ol 21 20 1 false,
ob 22 .eql (.t 21) (.c (.i .i64 6))]) ( .cond (.t 22) (
.seq (
.seq ( .region [
om 24 1,oa 25 7 2,ol 26 25 1 false,oc 27 89 [(.t 24),(.t 26)],
om 23 27,oe 28 23 0,oe 29 23 1,
om 10 28,
om 11 29]) (
.seq ( .region [
om 30 11,
ob 31 .eql (.t 30) (.c (.i .i64 0))]) ( .cond (.t 31) (
.seq ( .region [
om 32 10,
om 8 32,⟨(some 9),.mv (.c (.i .i64 0)),none⟩]) ( .ret)) ( .skip)))) (
.seq (
.seq ( .draws [([],
om 34 0),([],⟨(some 35),.nck (.t 34),none⟩),
([],oa 36 35 1),([],ol 37 36 1 false),([],oa 38 7 2),([3],ol 39 38 1 false),([],⟨(some 40),.lk (.one .str) (.t 37) (.t 39) (.i .i64 0) true,none⟩),
([],
om 33 40),([],oe 41 33 0),([],oe 42 33 1),([],
om 12 41),([],
om 13 42)]) (
.seq ( .region [
om 43 13,
om 44 43,⟨(some 45),.mv (.t 12),(some (44,true))⟩,
⟨(some 46),.mv (.t 2),(some (44,true))⟩,
⟨(some 47),.bin .lss (.t 45) (.t 46),(some (44,true))⟩,
⟨(some 48),.pick (.t 44) (.t 47) (.c (.b false)),none⟩]) ( .cond (.t 48) (
.seq ( .region [
om 49 0,
om 50 12,oc 51 114 [(.t 49),(.t 50)],oe 52 51 0,oe 53 51 1,
om 8 52,
om 9 53]) ( .ret)) ( .skip)))) (
.seq ( .region [
 ⟨(some 8),.mv (.c (.i .i64 0)),none⟩,
⟨(some 9),.mv (.c (.i .i64 6)),none⟩]) ( .ret)))) ( .skip))) (
.seq ( .region [
 oa 54 7 3,ol 55 54 1 false,on 56 55,⟨(some 57),.mksl [(.i .i64 0)] 8 (.t 56) false,none⟩,
om 14 57]) (
.seq (
.seq ( .region [
 oa 58 7 3,ol 59 58 1 false,on 60 59,⟨(some 61),.mv (.c (.i .i64 0)),none⟩]) ( .block 0 ( .loop ei))) (
.seq (
.seq ( .region [
 oa 82 7 0,ol 83 82 1 false,
om 84 14,oc 85 215 [(.t 83),(.t 84)],
om 19 85]) (
.seq ( .region [
om 86 19,
ob 87 .neq (.t 86) (.c (.i .i64 0))]) ( .cond (.t 87) (
.seq ( .region [
om 88 19,
om 8 88,⟨(some 9),.mv (.c (.i .i64 0)),none⟩]) ( .ret)) ( .skip)))) (
.seq ( .region [
 ⟨(some 8),.mv (.c (.i .i64 0)),none⟩,
⟨(some 9),.mv (.c (.i .i64 9)),none⟩]) ( .ret)))))),[.tmp 8,.tmp 9],true,none⟩
theorem W1:az Tryz.prog 142 qU:=codeOk (hs:= []) Tryz.func142 (by kernel_rfl)
def Ey:aC:=⟨8,
.seq ( .region [
 ⟨(some 2),.mv (.c .nilsl),none⟩]) (
.seq (
.seq ( .region [
om 3 0,⟨(some 4),.eq false .sl (.t 3) (.c .nilsl),none⟩]) ( .cond (.t 4) (
.seq ( .region [
 ⟨(some 2),.mv (.c .nilsl),none⟩]) ( .ret)) ( .skip))) (
.seq ( .region [
 ⟨(some 5),.bsl [(.i .i64 0),(.i .i64 0),(.s []),.nilsl] 0 [],none⟩,
om 6 0,⟨(some 7),.app 4 56 (.t 5) (.t 6) false false,none⟩,
om 2 7]) ( .ret))),[.tmp 2],false,(some 0)⟩
theorem W2:az Tryz.prog 143 Ey:=codeOk (hs:= [1000000]) Tryz.func143 (by kernel_rfl)
def fJ:ba:=
.seq ( .region [
 ob 9 .lss (.t 8) (.t 7)]) (
.seq ( .cond (.t 9) ( .skip) ( .exit 0)) (
.seq ( .block 1 (
.seq ( .region [
om 10 8,
om 5 10]) (
.seq ( .region [
om 11 1,
om 12 0,
om 13 5,oi 14 12 13 5,ol 15 14 5 true,⟨(some 16),.callv (.t 11) [(.t 15)],none⟩]) ( .cond (.t 16) (
.seq ( .region [
om 17 5,
om 4 17]) ( .ret)) ( .skip))))) ( .region [
 ob 18 .add (.t 8) (.c (.i .i64 1)),
om 8 18])))
def Cj:aC:=⟨19,
.seq ( .region [
 ⟨(some 4),.mv (.c (.i .i64 0)),none⟩]) (
.seq (
.seq ( .region [
om 6 0,on 7 6,⟨(some 8),.mv (.c (.i .i64 0)),none⟩]) ( .block 0 ( .loop fJ))) (
.seq ( .region [
 ⟨(some 4),.mv (.c (.i .i64 (-1))),none⟩]) ( .ret))),[.tmp 4],false,none⟩
theorem W3:az Tryz.prog 144 Cj:=codeOk (hs:= []) Tryz.func144 (by kernel_rfl)
end Go.Proofs.YtfenhjpkomldcaaGreat
