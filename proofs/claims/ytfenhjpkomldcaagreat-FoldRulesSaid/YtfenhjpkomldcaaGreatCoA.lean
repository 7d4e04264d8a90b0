/- The codes of functions of the program, as the evaluator reads them; that each is what its compiler makes of the model's function. Conditions: none. -/
import Derived.Test.YtfenhjpkomldcaaGreatEvF
import Derived.Test.YtfenhjpkomldcaaGreatChecked
import Derived.KernelRfl
set_option maxRecDepth 100000
namespace Go.Proofs.YtfenhjpkomldcaaGreat
open Go Go.Ev
def c4_R8 : ACode :=
.seq ( .region [

om 118 14,
om 119 16,
ob 120 .eql (.t 118) (.t 119),
om 121 120, ⟨(some 122), .ld (.t 13) 4 true, (some (121, true))⟩,
⟨(some 123), .ld (.t 15) 4 true, (some (121, true))⟩,
⟨(some 124), .callf 19 [(.t 122), (.t 123)], (some (121, true))⟩,
⟨(some 125), .pick (.t 121) (.t 124) (.c (.b false)), none⟩,
om 126 125, ⟨(some 127), .callf 20 [], (some (126, true))⟩,
⟨(some 128), .pick (.t 126) (.t 127) (.c (.b false)), none⟩,
om 4 128]) (.ret)
def c4_R7 : ACode :=
.seq ( .draws [ ([], oc 113 17 []), ([0], ol 114 12 4 true), ([], oc 115 18 [(.t 113), (.c (.i .i64 1)), (.t 114)]), ([],
om 112 115), ([], oe 116 112 0), ([], oe 117 112 1), ([0, 1, 2], ⟨(some 15), .alloc [(.i .i64 0), (.i .i64 0), (.s []), .nilsl] false, none⟩),
([], ot 15 116 4), ([],
om 16 117)]) c4_R8
def c4_R6 : ACode :=
.seq ( .draws [ ([], oc 107 17 []), ([0], ol 108 12 4 true), ([], oc 109 16 [(.t 107), (.c (.i .i64 1)), (.t 108)]), ([],
om 106 109), ([], oe 110 106 0), ([], oe 111 106 1), ([0, 1, 2], ⟨(some 13), .alloc [(.i .i64 0), (.i .i64 0), (.s []), .nilsl] false, none⟩),
([], ot 13 110 4), ([],
om 14 111)]) c4_R7
def c4_R5 : ACode :=
.seq ( .region [

om 98 11,
om 99 1,
ob 100 .and (.t 99) (.c (.i .i64 65535)),
om 101 11, on 102 101,
ob 103 .rem (.t 100) (.t 102), oi 104 98 103 4, ol 105 104 4 true, ⟨(some 12), .alloc [(.i .i64 0), (.i .i64 0), (.s []), .nilsl] false, none⟩, ot 12 105 4]) c4_R6
def c4_R4 : ACode :=
.seq ( .draws [ ([], ol 25 5 4 true), ([], ⟨(some 26), .bsl [(.i .i64 0), (.i .i64 0), (.s []), .nilsl] 1 [(0, (.t 25))], none⟩),
([], oc 27 22 [(.c (.i .i64 19)), (.t 26)]), ([], ⟨(some 28), .bsl [(.i .i64 0), (.i .i64 0), (.s []), .nilsl] 1 [(0, (.t 27))], none⟩),
([], oc 29 22 [(.c (.i .i64 19)), (.t 28)]), ([0, 1, 2, 3, 4], ol 30 7 4 true), ([0, 1, 2, 3, 4, 5], ol 31 5 4 true), ([0, 1, 2, 3, 4], ⟨(some 32), .bsl [(.i .i64 0), (.i .i64 0), (.s []), .nilsl] 2 [(0, (.t 30)), (1, (.t 31))], none⟩),
([], oc 33 22 [(.c (.i .i64 20)), (.t 32)]), ([0, 1, 2, 3, 4, 5, 6, 7, 8], ol 34 5 4 true), ([0, 1, 2, 3, 4, 5, 6, 7, 8, 9], ol 35 8 4 true), ([0, 1, 2, 3, 4, 5, 6, 7, 8], ⟨(some 36), .bsl [(.i .i64 0), (.i .i64 0), (.s []), .nilsl] 2 [(0, (.t 34)), (1, (.t 35))], none⟩),
([], oc 37 22 [(.c (.i .i64 20)), (.t 36)]), ([0, 1, 2, 3, 4, 5, 6, 7, 8, 9, 10, 11, 12], ol 38 8 4 true), ([0, 1, 2, 3, 4, 5, 6, 7, 8, 9, 10, 11, 12, 13], ol 39 5 4 true), ([0, 1, 2, 3, 4, 5, 6, 7, 8, 9, 10, 11, 12], ⟨(some 40), .bsl [(.i .i64 0), (.i .i64 0), (.s []), .nilsl] 2 [(0, (.t 38)), (1, (.t 39))], none⟩),
([], oc 41 22 [(.c (.i .i64 21)), (.t 40)]), ([0, 1, 2, 3, 4, 5, 6, 7, 8, 9, 10, 11, 12, 13, 14, 15, 16], ol 42 5 4 true), ([0, 1, 2, 3, 4, 5, 6, 7, 8, 9, 10, 11, 12, 13, 14, 15, 16, 17], ol 43 7 4 true), ([0, 1, 2, 3, 4, 5, 6, 7, 8, 9, 10, 11, 12, 13, 14, 15, 16], ⟨(some 44), .bsl [(.i .i64 0), (.i .i64 0), (.s []), .nilsl] 2 [(0, (.t 42)), (1, (.t 43))], none⟩),
([], oc 45 22 [(.c (.i .i64 21)), (.t 44)]), ([0, 1, 2, 3, 4, 5, 6, 7, 8, 9, 10, 11, 12, 13, 14, 15, 16, 17, 18, 19, 20], ol 46 7 4 true), ([0, 1, 2, 3, 4, 5, 6, 7, 8, 9, 10, 11, 12, 13, 14, 15, 16, 17, 18, 19, 20, 21], ol 47 5 4 true), ([0, 1, 2, 3, 4, 5, 6, 7, 8, 9, 10, 11, 12, 13, 14, 15, 16, 17, 18, 19, 20], ⟨(some 48), .bsl [(.i .i64 0), (.i .i64 0), (.s []), .nilsl] 2 [(0, (.t 46)), (1, (.t 47))], none⟩),
([], oc 49 22 [(.c (.i .i64 22)), (.t 48)]), ([0, 1, 2, 3, 4, 5, 6, 7, 8, 9, 10, 11, 12, 13, 14, 15, 16, 17, 18, 19, 20, 21, 22, 23, 24], ol 50 5 4 true), ([0, 1, 2, 3, 4, 5, 6, 7, 8, 9, 10, 11, 12, 13, 14, 15, 16, 17, 18, 19, 20, 21, 22, 23, 24, 25], ol 51 8 4 true), ([0, 1, 2, 3, 4, 5, 6, 7, 8, 9, 10, 11, 12, 13, 14, 15, 16, 17, 18, 19, 20, 21, 22, 23, 24], ⟨(some 52), .bsl [(.i .i64 0), (.i .i64 0), (.s []), .nilsl] 2 [(0, (.t 50)), (1, (.t 51))], none⟩),
([], oc 53 22 [(.c (.i .i64 22)), (.t 52)]), ([0, 1, 2, 3, 4, 5, 6, 7, 8, 9, 10, 11, 12, 13, 14, 15, 16, 17, 18, 19, 20, 21, 22, 23, 24, 25, 26, 27, 28], ol 54 5 4 true), ([0, 1, 2, 3, 4, 5, 6, 7, 8, 9, 10, 11, 12, 13, 14, 15, 16, 17, 18, 19, 20, 21, 22, 23, 24, 25, 26, 27, 28, 29], ol 55 7 4 true), ([0, 1, 2, 3, 4, 5, 6, 7, 8, 9, 10, 11, 12, 13, 14, 15, 16, 17, 18, 19, 20, 21, 22, 23, 24, 25, 26, 27, 28], ⟨(some 56), .bsl [(.i .i64 0), (.i .i64 0), (.s []), .nilsl] 2 [(0, (.t 54)), (1, (.t 55))], none⟩),
([], oc 57 22 [(.c (.i .i64 22)), (.t 56)]), ([0, 1, 2, 3, 4, 5, 6, 7, 8, 9, 10, 11, 12, 13, 14, 15, 16, 17, 18, 19, 20, 21, 22, 23, 24, 25, 26, 27, 28, 29, 30, 31, 32], ol 58 7 4 true), ([0, 1, 2, 3, 4, 5, 6, 7, 8, 9, 10, 11, 12, 13, 14, 15, 16, 17, 18, 19, 20, 21, 22, 23, 24, 25, 26, 27, 28, 29, 30, 31, 32, 33], ol 59 6 4 true), ([0, 1, 2, 3, 4, 5, 6, 7, 8, 9, 10, 11, 12, 13, 14, 15, 16, 17, 18, 19, 20, 21, 22, 23, 24, 25, 26, 27, 28, 29, 30, 31, 32, 33, 34], ol 60 9 4 true), ([0, 1, 2, 3, 4, 5, 6, 7, 8, 9, 10, 11, 12, 13, 14, 15, 16, 17, 18, 19, 20, 21, 22, 23, 24, 25, 26, 27, 28, 29, 30, 31, 32], ⟨(some 61), .bsl [(.i .i64 0), (.i .i64 0), (.s []), .nilsl] 3 [(0, (.t 58)), (1, (.t 59)), (2, (.t 60))], none⟩),
([], oc 62 22 [(.c (.i .i64 14)), (.t 61)]), ([0, 1, 2, 3, 4, 5, 6, 7, 8, 9, 10, 11, 12, 13, 14, 15, 16, 17, 18, 19, 20, 21, 22, 23, 24, 25, 26, 27, 28, 29, 30, 31, 32, 33, 34, 35, 36, 37], ol 63 8 4 true), ([0, 1, 2, 3, 4, 5, 6, 7, 8, 9, 10, 11, 12, 13, 14, 15, 16, 17, 18, 19, 20, 21, 22, 23, 24, 25, 26, 27, 28, 29, 30, 31, 32, 33, 34, 35, 36, 37, 38], ol 64 9 4 true), ([0, 1, 2, 3, 4, 5, 6, 7, 8, 9, 10, 11, 12, 13, 14, 15, 16, 17, 18, 19, 20, 21, 22, 23, 24, 25, 26, 27, 28, 29, 30, 31, 32, 33, 34, 35, 36, 37, 38, 39], ol 65 6 4 true), ([0, 1, 2, 3, 4, 5, 6, 7, 8, 9, 10, 11, 12, 13, 14, 15, 16, 17, 18, 19, 20, 21, 22, 23, 24, 25, 26, 27, 28, 29, 30, 31, 32, 33, 34, 35, 36, 37], ⟨(some 66), .bsl [(.i .i64 0), (.i .i64 0), (.s []), .nilsl] 3 [(0, (.t 63)), (1, (.t 64)), (2, (.t 65))], none⟩),
([], oc 67 22 [(.c (.i .i64 14)), (.t 66)]), ([0, 1, 2, 3, 4, 5, 6, 7, 8, 9, 10, 11, 12, 13, 14, 15, 16, 17, 18, 19, 20, 21, 22, 23, 24, 25, 26, 27, 28, 29, 30, 31, 32, 33, 34, 35, 36, 37, 38, 39, 40, 41, 42], ol 68 9 4 true), ([0, 1, 2, 3, 4, 5, 6, 7, 8, 9, 10, 11, 12, 13, 14, 15, 16, 17, 18, 19, 20, 21, 22, 23, 24, 25, 26, 27, 28, 29, 30, 31, 32, 33, 34, 35, 36, 37, 38, 39, 40, 41, 42, 43], ol 69 6 4 true), ([0, 1, 2, 3, 4, 5, 6, 7, 8, 9, 10, 11, 12, 13, 14, 15, 16, 17, 18, 19, 20, 21, 22, 23, 24, 25, 26, 27, 28, 29, 30, 31, 32, 33, 34, 35, 36, 37, 38, 39, 40, 41, 42], ⟨(some 70), .bsl [(.i .i64 0), (.i .i64 0), (.s []), .nilsl] 2 [(0, (.t 68)), (1, (.t 69))], none⟩),
([], oc 71 22 [(.c (.i .i64 8)), (.t 70)]), ([0, 1, 2, 3, 4, 5, 6, 7, 8, 9, 10, 11, 12, 13, 14, 15, 16, 17, 18, 19, 20, 21, 22, 23, 24, 25, 26, 27, 28, 29, 30, 31, 32, 33, 34, 35, 36, 37, 38, 39, 40, 41, 42, 43, 44, 45, 46], ol 72 6 4 true), ([0, 1, 2, 3, 4, 5, 6, 7, 8, 9, 10, 11, 12, 13, 14, 15, 16, 17, 18, 19, 20, 21, 22, 23, 24, 25, 26, 27, 28, 29, 30, 31, 32, 33, 34, 35, 36, 37, 38, 39, 40, 41, 42, 43, 44, 45, 46, 47], ol 73 9 4 true), ([0, 1, 2, 3, 4, 5, 6, 7, 8, 9, 10, 11, 12, 13, 14, 15, 16, 17, 18, 19, 20, 21, 22, 23, 24, 25, 26, 27, 28, 29, 30, 31, 32, 33, 34, 35, 36, 37, 38, 39, 40, 41, 42, 43, 44, 45, 46], ⟨(some 74), .bsl [(.i .i64 0), (.i .i64 0), (.s []), .nilsl] 2 [(0, (.t 72)), (1, (.t 73))], none⟩),
([], oc 75 22 [(.c (.i .i64 9)), (.t 74)]), ([0, 1, 2, 3, 4, 5, 6, 7, 8, 9, 10, 11, 12, 13, 14, 15, 16, 17, 18, 19, 20, 21, 22, 23, 24, 25, 26, 27, 28, 29, 30, 31, 32, 33, 34, 35, 36, 37, 38, 39, 40, 41, 42, 43, 44, 45, 46, 47, 48, 49, 50], ol 76 10 4 true), ([0, 1, 2, 3, 4, 5, 6, 7, 8, 9, 10, 11, 12, 13, 14, 15, 16, 17, 18, 19, 20, 21, 22, 23, 24, 25, 26, 27, 28, 29, 30, 31, 32, 33, 34, 35, 36, 37, 38, 39, 40, 41, 42, 43, 44, 45, 46, 47, 48, 49, 50, 51], ol 77 6 4 true), ([0, 1, 2, 3, 4, 5, 6, 7, 8, 9, 10, 11, 12, 13, 14, 15, 16, 17, 18, 19, 20, 21, 22, 23, 24, 25, 26, 27, 28, 29, 30, 31, 32, 33, 34, 35, 36, 37, 38, 39, 40, 41, 42, 43, 44, 45, 46, 47, 48, 49, 50], ⟨(some 78), .bsl [(.i .i64 0), (.i .i64 0), (.s []), .nilsl] 2 [(0, (.t 76)), (1, (.t 77))], none⟩),
([], oc 79 22 [(.c (.i .i64 10)), (.t 78)]), ([0, 1, 2, 3, 4, 5, 6, 7, 8, 9, 10, 11, 12, 13, 14, 15, 16, 17, 18, 19, 20, 21, 22, 23, 24, 25, 26, 27, 28, 29, 30, 31, 32, 33, 34, 35, 36, 37, 38, 39, 40, 41, 42, 43, 44, 45, 46, 47, 48, 49, 50, 51, 52, 53, 54], ol 80 6 4 true), ([0, 1, 2, 3, 4, 5, 6, 7, 8, 9, 10, 11, 12, 13, 14, 15, 16, 17, 18, 19, 20, 21, 22, 23, 24, 25, 26, 27, 28, 29, 30, 31, 32, 33, 34, 35, 36, 37, 38, 39, 40, 41, 42, 43, 44, 45, 46, 47, 48, 49, 50, 51, 52, 53, 54, 55], ol 81 10 4 true), ([0, 1, 2, 3, 4, 5, 6, 7, 8, 9, 10, 11, 12, 13, 14, 15, 16, 17, 18, 19, 20, 21, 22, 23, 24, 25, 26, 27, 28, 29, 30, 31, 32, 33, 34, 35, 36, 37, 38, 39, 40, 41, 42, 43, 44, 45, 46, 47, 48, 49, 50, 51, 52, 53, 54], ⟨(some 82), .bsl [(.i .i64 0), (.i .i64 0), (.s []), .nilsl] 2 [(0, (.t 80)), (1, (.t 81))], none⟩),
([], oc 83 22 [(.c (.i .i64 11)), (.t 82)]), ([0, 1, 2, 3, 4, 5, 6, 7, 8, 9, 10, 11, 12, 13, 14, 15, 16, 17, 18, 19, 20, 21, 22, 23, 24, 25, 26, 27, 28, 29, 30, 31, 32, 33, 34, 35, 36, 37, 38, 39, 40, 41, 42, 43, 44, 45, 46, 47, 48, 49, 50, 51, 52, 53, 54, 55, 56, 57, 58], ol 84 5 4 true), ([0, 1, 2, 3, 4, 5, 6, 7, 8, 9, 10, 11, 12, 13, 14, 15, 16, 17, 18, 19, 20, 21, 22, 23, 24, 25, 26, 27, 28, 29, 30, 31, 32, 33, 34, 35, 36, 37, 38, 39, 40, 41, 42, 43, 44, 45, 46, 47, 48, 49, 50, 51, 52, 53, 54, 55, 56, 57, 58, 59], ol 85 8 4 true), ([0, 1, 2, 3, 4, 5, 6, 7, 8, 9, 10, 11, 12, 13, 14, 15, 16, 17, 18, 19, 20, 21, 22, 23, 24, 25, 26, 27, 28, 29, 30, 31, 32, 33, 34, 35, 36, 37, 38, 39, 40, 41, 42, 43, 44, 45, 46, 47, 48, 49, 50, 51, 52, 53, 54, 55, 56, 57, 58], ⟨(some 86), .bsl [(.i .i64 0), (.i .i64 0), (.s []), .nilsl] 2 [(0, (.t 84)), (1, (.t 85))], none⟩),
([], oc 87 22 [(.c (.i .i64 22)), (.t 86)]), ([], ⟨(some 88), .bsl [(.i .i64 0), (.i .i64 0), (.s []), .nilsl] 1 [(0, (.t 87))], none⟩),
([], oc 89 22 [(.c (.i .i64 19)), (.t 88)]), ([0, 1, 2, 3, 4, 5, 6, 7, 8, 9, 10, 11, 12, 13, 14, 15, 16, 17, 18, 19, 20, 21, 22, 23, 24, 25, 26, 27, 28, 29, 30, 31, 32, 33, 34, 35, 36, 37, 38, 39, 40, 41, 42, 43, 44, 45, 46, 47, 48, 49, 50, 51, 52, 53, 54, 55, 56, 57, 58, 59, 60, 61, 62, 63, 64], ol 90 6 4 true), ([65], oc 91 21 [(.c (.i .i64 3))]), ([65], oc 92 21 [(.c (.i .i64 2))]), ([65], ⟨(some 93), .bsl [(.i .i64 0), (.i .i64 0), (.s []), .nilsl] 2 [(0, (.t 91)), (1, (.t 92))], none⟩),
([65], oc 94 22 [(.c (.i .i64 9)), (.t 93)]), ([], ⟨(some 95), .bsl [(.i .i64 0), (.i .i64 0), (.s []), .nilsl] 2 [(0, (.t 90)), (1, (.t 94))], none⟩),
([], oc 96 22 [(.c (.i .i64 10)), (.t 95)]), ([], ⟨(some 97), .bsl [(.i .i64 0), (.i .i64 0), (.s []), .nilsl] 16 [(0, (.t 29)), (1, (.t 33)), (2, (.t 37)), (3, (.t 41)), (4, (.t 45)), (5, (.t 49)), (6, (.t 53)), (7, (.t 57)), (8, (.t 62)), (9, (.t 67)), (10, (.t 71)), (11, (.t 75)), (12, (.t 79)), (13, (.t 83)), (14, (.t 89)), (15, (.t 96))], none⟩),
([],
om 11 97)]) c4_R5
def c4_R3 : ACode :=
.seq ( .region [
 ⟨(some 23), .build [(.i .i64 0), (.i .i64 0), (.s []), .nilsl] [(0, 1, (.c (.i .i64 2)))], none⟩, oc 24 21 [(.c (.i .i64 1))], ⟨(some 9), .alloc [(.i .i64 0), (.i .i64 0), (.s []), .nilsl] false, none⟩,
⟨(some 10), .alloc [(.i .i64 0), (.i .i64 0), (.s []), .nilsl] false, none⟩, ot 9 23 4, ot 10 24 4]) c4_R4
def c4_R2 : ACode :=
.seq ( .region [
 ⟨(some 21), .build [(.i .i64 0), (.i .i64 0), (.s []), .nilsl] [(0, 1, (.c (.i .i64 4)))], none⟩,
⟨(some 22), .build [(.i .i64 0), (.i .i64 0), (.s []), .nilsl] [(0, 1, (.c (.i .i64 5)))], none⟩,
⟨(some 7), .alloc [(.i .i64 0), (.i .i64 0), (.s []), .nilsl] false, none⟩,
⟨(some 8), .alloc [(.i .i64 0), (.i .i64 0), (.s []), .nilsl] false, none⟩, ot 7 21 4, ot 8 22 4]) c4_R3
def c4_R1 : ACode :=
.seq ( .region [

om 17 0, oc 18 15 [(.t 17), (.c (.i .i64 1)), (.c (.i .i64 4))],
om 19 0, oc 20 15 [(.t 19), (.c (.i .i64 1)), (.c (.i .i64 2))], ⟨(some 5), .alloc [(.i .i64 0), (.i .i64 0), (.s []), .nilsl] false, none⟩,
⟨(some 6), .alloc [(.i .i64 0), (.i .i64 0), (.s []), .nilsl] false, none⟩, ot 5 18 4, ot 6 20 4]) c4_R2
def c4 : AFunc := ⟨129,
.seq ( .region [
 ⟨(some 4), .mv (.c (.b false)), none⟩]) c4_R1, [.tmp 4], false, none⟩
theorem k4 : CodeOk Tryz.prog 4 c4 := codeOk (hs := []) Tryz.func4 (by kernel_rfl)
def c15 : AFunc := ⟨15,
.seq ( .region [
 ⟨(some 6), .alloc [(.i .i64 0), (.i .i64 0), (.s []), .nilsl] false, none⟩]) (
.seq ( .region [

om 8 0, ⟨(some 9), .build [.nilsl, (.i .i64 0)] [(0, 1, (.t 8))], none⟩,
⟨(some 10), .box (.t 9) true, none⟩,
om 7 10]) (
.seq ( .region [

om 11 7,
om 12 1,
om 13 2, oc 14 51 [(.t 11), (.t 12), (.t 13), (.c (.i .i64 4))], ot 6 14 4]) ( .ret))), [.cell 6 4 true], false, none⟩
theorem k15 : CodeOk Tryz.prog 15 c15 := codeOk (hs := [10]) Tryz.func15 (by kernel_rfl)
def c16 : AFunc := ⟨35,
.seq ( .region [
 ⟨(some 5), .box (.t 2) false, none⟩,
⟨(some 6), .alloc [(.i .i64 0), (.i .i64 0), (.s []), .nilsl] false, none⟩,
⟨(some 7), .mv (.c (.i .i64 0)), none⟩]) (
.seq (
.seq ( .region [

om 13 0,
om 14 1, ol 15 5 4 true, oc 16 52 [(.t 13), (.t 14), (.t 15)],
om 12 16, oe 17 12 0, oe 18 12 1,
om 8 17,
om 9 18]) (
.seq ( .region [

om 19 9,
ob 20 .neq (.t 19) (.c (.i .i64 0))]) ( .cond (.t 20) (
.seq ( .region [
 ⟨(some 21), .build [(.i .i64 0), (.i .i64 0), (.s []), .nilsl] [], none⟩,
om 22 9, ot 6 21 4,
om 7 22]) ( .ret)) ( .skip)))) (
.seq ( .region [

om 23 0, ⟨(some 24), .mkmap true, none⟩, oc 25 53 [(.c .nilsl)], ⟨(some 26), .build [.nilsl, .nilmp, .nilptr] [(0, 1, (.t 23)), (1, 1, (.t 24)), (2, 1, (.t 25))], none⟩,
⟨(some 10), .alloc [.nilsl, .nilmp, .nilptr] true, none⟩, ot 10 26 3]) (
.seq ( .region [

om 27 1, ol 28 5 4 true, oc 29 54 [(.t 10), (.t 27), (.t 28)], ⟨(some 11), .alloc [(.i .i64 0), (.i .i64 0), (.s []), .nilsl] false, none⟩, ot 11 29 4]) (
.seq (
.seq ( .region [
 ol 30 11 4 true, oc 31 55 [(.t 30)],
ob 32 .eql (.t 31) (.c (.i .i64 10))]) ( .cond (.t 32) (
.seq ( .region [
 ⟨(some 33), .build [(.i .i64 0), (.i .i64 0), (.s []), .nilsl] [], none⟩, ot 6 33 4, ⟨(some 7), .mv (.c (.i .i64 10)), none⟩]) ( .ret)) ( .skip))) (
.seq ( .region [
 ol 34 11 4 true, ot 6 34 4, ⟨(some 7), .mv (.c (.i .i64 0)), none⟩]) ( .ret)))))), [.cell 6 4 true, .tmp 7], false, none⟩
theorem k16 : CodeOk Tryz.prog 16 c16 := codeOk (hs := [24, 10]) Tryz.func16 (by kernel_rfl)
def c17 : AFunc := ⟨9,
.seq ( .region [
 ⟨(some 0), .mv (.c .nilsl), none⟩]) (
.seq ( .region [
 ⟨(some 1), .build [(.i .i64 0), (.i .i64 0), (.s []), .nilsl] [(0, 1, (.c (.i .i64 1))), (1, 1, (.c (.i .i64 2)))], none⟩,
⟨(some 2), .build [(.s []), (.i .i64 0), (.i .i64 0), (.s []), .nilsl] [(0, 1, (.c (.s [116, 119, 111]))), (1, 4, (.t 1))], none⟩,
⟨(some 3), .build [(.i .i64 0), (.i .i64 0), (.s []), .nilsl] [(0, 1, (.c (.i .i64 6))), (2, 1, (.c (.s [116, 119, 111])))], none⟩,
⟨(some 4), .build [(.i .i64 0), (.i .i64 0), (.s []), .nilsl] [(0, 1, (.c (.i .i64 2))), (1, 1, (.c (.i .i64 45)))], none⟩,
⟨(some 5), .bsl [(.i .i64 0), (.i .i64 0), (.s []), .nilsl] 2 [(0, (.t 3)), (1, (.t 4))], none⟩,
⟨(some 6), .build [(.i .i64 0), (.i .i64 0), (.s []), .nilsl] [(0, 1, (.c (.i .i64 10))), (3, 1, (.t 5))], none⟩,
⟨(some 7), .build [(.s []), (.i .i64 0), (.i .i64 0), (.s []), .nilsl] [(0, 1, (.c (.s [115, 104, 105, 102, 116, 95, 116, 105, 109, 101]))), (1, 4, (.t 6))], none⟩,
⟨(some 8), .bsl [(.s []), (.i .i64 0), (.i .i64 0), (.s []), .nilsl] 2 [(0, (.t 2)), (1, (.t 7))], none⟩,
om 0 8]) ( .ret)), [.tmp 0], false, none⟩
theorem k17 : CodeOk Tryz.prog 17 c17 := codeOk (hs := []) Tryz.func17 (by kernel_rfl)
def c18 : AFunc := ⟨33,
.seq ( .region [
 ⟨(some 5), .box (.t 2) false, none⟩,
⟨(some 6), .alloc [(.i .i64 0), (.i .i64 0), (.s []), .nilsl] false, none⟩,
⟨(some 7), .mv (.c (.i .i64 0)), none⟩]) (
.seq (
.seq ( .region [

om 12 0,
om 13 1, ol 14 5 4 true, oc 15 56 [(.t 12), (.t 13), (.t 14)],
om 11 15, oe 16 11 0, oe 17 11 1,
om 8 16,
om 9 17]) (
.seq ( .region [

om 18 9,
ob 19 .neq (.t 18) (.c (.i .i64 0))]) ( .cond (.t 19) (
.seq ( .region [
 ⟨(some 20), .build [(.i .i64 0), (.i .i64 0), (.s []), .nilsl] [], none⟩,
om 21 9, ot 6 20 4,
om 7 21]) ( .ret)) ( .skip)))) (
.seq ( .draws [ ([],
om 22 0), ([], oc 23 58 [(.t 22)]), ([],
om 24 0), ([],
om 25 1), ([1], ol 26 5 4 true), ([], oc 27 57 [(.t 23), (.t 24), (.t 25), (.t 26)]), ([1, 4, 5], ⟨(some 10), .alloc [(.i .i64 0), (.i .i64 0), (.s []), .nilsl] false, none⟩),
([], ot 10 27 4)]) (
.seq (
.seq ( .region [
 ol 28 10 4 true, oc 29 59 [(.t 28)],
ob 30 .neq (.t 29) (.c (.i .i64 0))]) ( .cond (.t 30) (
.seq ( .region [
 ⟨(some 31), .build [(.i .i64 0), (.i .i64 0), (.s []), .nilsl] [], none⟩, ot 6 31 4, ⟨(some 7), .mv (.c (.i .i64 10)), none⟩]) ( .ret)) ( .skip))) (
.seq ( .region [
 ol 32 10 4 true, ot 6 32 4, ⟨(some 7), .mv (.c (.i .i64 0)), none⟩]) ( .ret))))), [.cell 6 4 true, .tmp 7], false, none⟩
theorem k18 : CodeOk Tryz.prog 18 c18 := codeOk (hs := []) Tryz.func18 (by kernel_rfl)
def c19 : AFunc := ⟨8,
.seq ( .region [
 ⟨(some 2), .box (.t 0) false, none⟩,
⟨(some 3), .box (.t 1) false, none⟩,
⟨(some 4), .mv (.c (.b false)), none⟩]) (
.seq ( .region [
 ol 5 2 4 true, ol 6 3 4 true, oc 7 60 [(.t 5), (.t 6)],
om 4 7]) ( .ret)), [.tmp 4], false, none⟩
theorem k19 : CodeOk Tryz.prog 19 c19 := codeOk (hs := []) Tryz.func19 (by kernel_rfl)
def c20 : AFunc := ⟨44,
.seq ( .region [
 ⟨(some 0), .mv (.c (.b false)), none⟩]) (
.seq ( .region [
 ⟨(some 6), .build [(.i .i64 0), (.i .i64 0), (.s []), .nilsl] [(0, 1, (.c (.i .i64 6))), (2, 1, (.c (.s [108, 101, 103, 115])))], none⟩,
⟨(some 1), .alloc [(.i .i64 0), (.i .i64 0), (.s []), .nilsl] false, none⟩, ot 1 6 4]) (
.seq ( .draws [ ([], ol 8 1 4 true), ([0], oc 9 21 [(.c (.i .i64 3))]), ([0], oc 10 21 [(.c (.i .i64 2))]), ([0], ⟨(some 11), .bsl [(.i .i64 0), (.i .i64 0), (.s []), .nilsl] 2 [(0, (.t 9)), (1, (.t 10))], none⟩),
([0], oc 12 22 [(.c (.i .i64 9)), (.t 11)]), ([], ⟨(some 13), .bsl [(.i .i64 0), (.i .i64 0), (.s []), .nilsl] 2 [(0, (.t 8)), (1, (.t 12))], none⟩),
([], oc 14 22 [(.c (.i .i64 10)), (.t 13)]), ([], oc 15 16 [(.c .nilsl), (.c (.i .i64 1)), (.t 14)]), ([],
om 7 15), ([], oe 16 7 0), ([], oe 17 7 1), ([0, 1, 2, 3, 4, 5, 6, 7], ⟨(some 2), .alloc [(.i .i64 0), (.i .i64 0), (.s []), .nilsl] false, none⟩),
([], ot 2 16 4), ([],
om 3 17)]) (
.seq ( .region [
 oc 19 21 [(.c (.i .i64 2))], oc 20 21 [(.c (.i .i64 5))], ⟨(some 21), .bsl [(.i .i64 0), (.i .i64 0), (.s []), .nilsl] 2 [(0, (.t 19)), (1, (.t 20))], none⟩, oc 22 22 [(.c (.i .i64 9)), (.t 21)], oc 23 16 [(.c .nilsl), (.c (.i .i64 1)), (.t 22)],
om 18 23, oe 24 18 0, oe 25 18 1, ⟨(some 4), .alloc [(.i .i64 0), (.i .i64 0), (.s []), .nilsl] false, none⟩, ot 4 24 4,
om 5 25]) (
.seq ( .draws [ ([],
om 26 3), ([],
ob 27 .eql (.t 26) (.c (.i .i64 0))), ([],
om 28 27), ([], ⟨(some 29), .mv (.t 5), (some (28, true))⟩),
([], ⟨(some 30), .bin .eql (.t 29) (.c (.i .i64 0)), (some (28, true))⟩),
([], ⟨(some 31), .pick (.t 28) (.t 30) (.c (.b false)), none⟩),
([],
om 32 31), ([], ⟨(some 33), .ld (.t 2) 4 true, (some (32, true))⟩),
([7], ⟨(some 34), .ld (.t 1) 4 true, (some (32, true))⟩),
([], ⟨(some 35), .callf 19 [(.t 33), (.t 34)], (some (32, true))⟩),
([], ⟨(some 36), .pick (.t 32) (.t 35) (.c (.b false)), none⟩),
([],
om 37 36), ([], ⟨(some 38), .ld (.t 4) 4 true, (some (37, true))⟩),
([12], ⟨(some 39), .callf 21 [(.c (.i .i64 3))], (some (37, true))⟩),
([12], ⟨(some 40), .bsl [(.i .i64 0), (.i .i64 0), (.s []), .nilsl] 1 [(0, (.t 39))], (some (37, true))⟩),
([12], ⟨(some 41), .callf 22 [(.c (.i .i64 7)), (.t 40)], (some (37, true))⟩),
([], ⟨(some 42), .callf 19 [(.t 38), (.t 41)], (some (37, true))⟩),
([], ⟨(some 43), .pick (.t 37) (.t 42) (.c (.b false)), none⟩),
([],
om 0 43)]) ( .ret))))), [.tmp 0], false, none⟩
theorem k20 : CodeOk Tryz.prog 20 c20 := codeOk (hs := []) Tryz.func20 (by kernel_rfl)
def c21 : AFunc := ⟨5,
.seq ( .region [
 ⟨(some 2), .alloc [(.i .i64 0), (.i .i64 0), (.s []), .nilsl] false, none⟩]) (
.seq ( .region [

om 3 0, ⟨(some 4), .build [(.i .i64 0), (.i .i64 0), (.s []), .nilsl] [(0, 1, (.c (.i .i64 1))), (1, 1, (.t 3))], none⟩, ot 2 4 4]) ( .ret)), [.cell 2 4 true], false, none⟩
theorem k21 : CodeOk Tryz.prog 21 c21 := codeOk (hs := []) Tryz.func21 (by kernel_rfl)
def c22 : AFunc := ⟨8,
.seq ( .region [
 ⟨(some 4), .alloc [(.i .i64 0), (.i .i64 0), (.s []), .nilsl] false, none⟩]) (
.seq ( .region [

om 5 0,
om 6 1, ⟨(some 7), .build [(.i .i64 0), (.i .i64 0), (.s []), .nilsl] [(0, 1, (.t 5)), (3, 1, (.t 6))], none⟩, ot 4 7 4]) ( .ret)), [.cell 4 4 true], false, none⟩
theorem k22 : CodeOk Tryz.prog 22 c22 := codeOk (hs := []) Tryz.func22 (by kernel_rfl)
def c51 : AFunc := ⟨285,
.seq ( .region [
 ⟨(some 8), .alloc [(.i .i64 0), (.i .i64 0), (.s []), .nilsl] false, none⟩]) (
.seq (
.seq ( .region [

om 11 3,
ob 12 .leq (.t 11) (.c (.i .i64 1)),
om 13 12, ⟨(some 14), .mv (.t 0), (some (13, false))⟩,
⟨(some 15), .callf 93 [(.t 14), (.c (.i .i64 5))], (some (13, false))⟩,
⟨(some 16), .bin .eql (.t 15) (.c (.i .i64 0)), (some (13, false))⟩,
⟨(some 17), .pick (.t 13) (.c (.b true)) (.t 16), none⟩]) ( .cond (.t 17) (
.seq ( .region [

om 18 0,
om 19 1,
om 20 2, oc 21 94 [(.t 18), (.t 19), (.t 20)], ot 8 21 4]) ( .ret)) ( .skip))) (
.seq ( .region [

om 22 3,
ob 23 .sub (.t 22) (.c (.i .i64 1)),
om 9 23]) (
.seq (
.seq ( .region [

om 24 0, oc 25 93 [(.t 24), (.c (.i .i64 6))],
ob 26 .eql (.t 25) (.c (.i .i64 0))]) ( .cond (.t 26) (
.seq ( .region [

om 27 0,
om 28 1,
om 29 9, oc 30 51 [(.t 27), (.t 28), (.c (.i .i64 4)), (.t 29)],
om 31 0,
om 32 1,
om 33 2,
om 34 9, oc 35 51 [(.t 31), (.t 32), (.t 33), (.t 34)],
om 36 0,
om 37 1,
om 38 2,
om 39 9, oc 40 51 [(.t 36), (.t 37), (.t 38), (.t 39)], ⟨(some 41), .bsl [(.i .i64 0), (.i .i64 0), (.s []), .nilsl] 3 [(0, (.t 30)), (1, (.t 35)), (2, (.t 40))], none⟩, oc 42 95 [(.c (.i .i64 14)), (.t 41)], ot 8 42 4]) ( .ret)) ( .skip))) (
.seq (
.seq ( .region [

om 43 2]) ( .block 0 (
.seq (
.seq ( .region [
 ob 45 .eql (.t 43) (.c (.i .i64 1)),
om 44 45]) ( .cond (.t 44) ( .skip) ( .region [
 ob 46 .eql (.t 43) (.c (.i .i64 2)),
om 44 46]))) ( .cond (.t 44) (
.seq (
.seq ( .region [

om 47 0, oc 48 93 [(.t 47), (.c (.i .i64 9))]]) ( .block 1 (
.seq ( .region [
 ob 50 .eql (.t 48) (.c (.i .i64 0)),
om 49 50]) ( .cond (.t 49) (
.seq ( .region [

om 51 0,
om 52 1,
om 53 2,
om 54 9, oc 55 51 [(.t 51), (.t 52), (.t 53), (.t 54)], ⟨(some 56), .bsl [(.i .i64 0), (.i .i64 0), (.s []), .nilsl] 1 [(0, (.t 55))], none⟩, oc 57 95 [(.c (.i .i64 7)), (.t 56)], ot 8 57 4]) ( .ret)) (
.seq (
.seq ( .region [
 ob 59 .eql (.t 48) (.c (.i .i64 1)),
om 58 59]) ( .cond (.t 58) ( .skip) ( .region [
 ob 60 .eql (.t 48) (.c (.i .i64 2)),
om 58 60]))) ( .cond (.t 58) (
.seq ( .region [

om 61 0,
om 62 1,
om 63 2,
om 64 9, oc 65 51 [(.t 61), (.t 62), (.t 63), (.t 64)],
om 66 0,
om 67 1,
om 68 2,
om 69 9, oc 70 51 [(.t 66), (.t 67), (.t 68), (.t 69)], ⟨(some 71), .bsl [(.i .i64 0), (.i .i64 0), (.s []), .nilsl] 2 [(0, (.t 65)), (1, (.t 70))], none⟩, oc 72 95 [(.c (.i .i64 8)), (.t 71)], ot 8 72 4]) ( .ret)) (
.seq ( .region [
 ob 74 .eql (.t 48) (.c (.i .i64 3)),
om 73 74]) ( .cond (.t 73) (
.seq ( .region [

om 75 0,
om 76 1,
om 77 2,
om 78 9, oc 79 51 [(.t 75), (.t 76), (.t 77), (.t 78)],
om 80 0,
om 81 1,
om 82 2,
om 83 9, oc 84 51 [(.t 80), (.t 81), (.t 82), (.t 83)], ⟨(some 85), .bsl [(.i .i64 0), (.i .i64 0), (.s []), .nilsl] 2 [(0, (.t 79)), (1, (.t 84))], none⟩, oc 86 95 [(.c (.i .i64 9)), (.t 85)], ot 8 86 4]) ( .ret)) (
.seq ( .region [
 ob 88 .eql (.t 48) (.c (.i .i64 4)),
om 87 88]) ( .cond (.t 87) (
.seq ( .region [

om 89 0,
om 90 1,
om 91 9, oc 92 51 [(.t 89), (.t 90), (.c (.i .i64 1)), (.t 91)],
om 93 0,
om 94 1,
om 95 2,
om 96 9, oc 97 51 [(.t 93), (.t 94), (.t 95), (.t 96)], ⟨(some 98), .bsl [(.i .i64 0), (.i .i64 0), (.s []), .nilsl] 2 [(0, (.t 92)), (1, (.t 97))], none⟩, oc 99 95 [(.c (.i .i64 10)), (.t 98)], ot 8 99 4]) ( .ret)) (
.seq ( .region [
 ob 101 .eql (.t 48) (.c (.i .i64 5)),
om 100 101]) ( .cond (.t 100) (
.seq ( .region [

om 102 0,
om 103 1,
om 104 2,
om 105 9, oc 106 51 [(.t 102), (.t 103), (.t 104), (.t 105)],
om 107 0,
om 108 1,
om 109 9, oc 110 51 [(.t 107), (.t 108), (.c (.i .i64 1)), (.t 109)], ⟨(some 111), .bsl [(.i .i64 0), (.i .i64 0), (.s []), .nilsl] 2 [(0, (.t 106)), (1, (.t 110))], none⟩, oc 112 95 [(.c (.i .i64 11)), (.t 111)], ot 8 112 4]) ( .ret)) (
.seq ( .region [
 ob 114 .eql (.t 48) (.c (.i .i64 6)),
om 113 114]) ( .cond (.t 113) (
.seq ( .region [

om 115 0,
om 116 1,
om 117 2,
om 118 9, oc 119 51 [(.t 115), (.t 116), (.t 117), (.t 118)],
om 120 0,
om 121 1,
om 122 2,
om 123 9, oc 124 51 [(.t 120), (.t 121), (.t 122), (.t 123)], ⟨(some 125), .bsl [(.i .i64 0), (.i .i64 0), (.s []), .nilsl] 2 [(0, (.t 119)), (1, (.t 124))], none⟩, oc 126 95 [(.c (.i .i64 12)), (.t 125)], ot 8 126 4]) ( .ret)) (
.seq ( .region [
 ob 128 .eql (.t 48) (.c (.i .i64 7)),
om 127 128]) ( .cond (.t 127) (
.seq ( .region [

om 129 0,
om 130 1,
om 131 2,
om 132 9, oc 133 51 [(.t 129), (.t 130), (.t 131), (.t 132)],
om 134 0,
om 135 1,
om 136 2,
om 137 9, oc 138 51 [(.t 134), (.t 135), (.t 136), (.t 137)],
om 139 0,
om 140 1,
om 141 2, oc 142 51 [(.t 139), (.t 140), (.t 141), (.c (.i .i64 1))], ⟨(some 143), .bsl [(.i .i64 0), (.i .i64 0), (.s []), .nilsl] 3 [(0, (.t 133)), (1, (.t 138)), (2, (.t 142))], none⟩, oc 144 95 [(.c (.i .i64 13)), (.t 143)], ot 8 144 4]) ( .ret)) ( .skip))))))))))))))))) (
.seq (
.seq ( .region [

om 145 2,
ob 146 .eql (.t 145) (.c (.i .i64 1))]) ( .cond (.t 146) (
.seq ( .region [

om 147 0,
om 148 1,
om 149 9, oc 150 51 [(.t 147), (.t 148), (.c (.i .i64 2)), (.t 149)],
om 151 0,
om 152 1,
om 153 9, oc 154 51 [(.t 151), (.t 152), (.c (.i .i64 2)), (.t 153)], ⟨(some 155), .bsl [(.i .i64 0), (.i .i64 0), (.s []), .nilsl] 2 [(0, (.t 150)), (1, (.t 154))], none⟩, oc 156 95 [(.c (.i .i64 11)), (.t 155)], ot 8 156 4]) ( .ret)) ( .skip))) (
.seq ( .region [

om 157 0,
om 158 1,
om 159 9, oc 160 51 [(.t 157), (.t 158), (.c (.i .i64 2)), (.t 159)],
om 161 0,
om 162 1,
om 163 9, oc 164 51 [(.t 161), (.t 162), (.c (.i .i64 1)), (.t 163)], ⟨(some 165), .bsl [(.i .i64 0), (.i .i64 0), (.s []), .nilsl] 2 [(0, (.t 160)), (1, (.t 164))], none⟩, oc 166 95 [(.c (.i .i64 10)), (.t 165)], ot 8 166 4]) ( .ret)))) (
.seq ( .region [
 ob 168 .eql (.t 43) (.c (.i .i64 4)),
om 167 168]) ( .cond (.t 167) (
.seq ( .region [
 ⟨(some 169), .bsl [(.i .i64 0)] 2 [(0, (.c (.i .i64 1))), (1, (.c (.i .i64 2)))], none⟩,
om 170 0, oc 171 93 [(.t 170), (.c (.i .i64 2))], oi 172 169 171 1, ol 173 172 1 false,
om 10 173]) (
.seq (
.seq ( .region [

om 174 0, oc 175 93 [(.t 174), (.c (.i .i64 8))]]) ( .block 2 (
.seq ( .region [
 ob 177 .eql (.t 175) (.c (.i .i64 0)),
om 176 177]) ( .cond (.t 176) (
.seq ( .region [

om 178 0,
om 179 1,
om 180 2,
om 181 9, oc 182 51 [(.t 178), (.t 179), (.t 180), (.t 181)], ⟨(some 183), .bsl [(.i .i64 0), (.i .i64 0), (.s []), .nilsl] 1 [(0, (.t 182))], none⟩, oc 184 95 [(.c (.i .i64 19)), (.t 183)], ot 8 184 4]) ( .ret)) (
.seq ( .region [
 ob 186 .eql (.t 175) (.c (.i .i64 1)),
om 185 186]) ( .cond (.t 185) (
.seq ( .region [

om 187 0,
om 188 1,
om 189 2,
om 190 9, oc 191 51 [(.t 187), (.t 188), (.t 189), (.t 190)],
om 192 0,
om 193 1,
om 194 2,
om 195 9, oc 196 51 [(.t 192), (.t 193), (.t 194), (.t 195)], ⟨(some 197), .bsl [(.i .i64 0), (.i .i64 0), (.s []), .nilsl] 2 [(0, (.t 191)), (1, (.t 196))], none⟩, oc 198 95 [(.c (.i .i64 20)), (.t 197)], ot 8 198 4]) ( .ret)) (
.seq ( .region [
 ob 200 .eql (.t 175) (.c (.i .i64 2)),
om 199 200]) ( .cond (.t 199) (
.seq ( .region [

om 201 0,
om 202 1,
om 203 2,
om 204 9, oc 205 51 [(.t 201), (.t 202), (.t 203), (.t 204)],
om 206 0,
om 207 1,
om 208 2,
om 209 9, oc 210 51 [(.t 206), (.t 207), (.t 208), (.t 209)], ⟨(some 211), .bsl [(.i .i64 0), (.i .i64 0), (.s []), .nilsl] 2 [(0, (.t 205)), (1, (.t 210))], none⟩, oc 212 95 [(.c (.i .i64 21)), (.t 211)], ot 8 212 4]) ( .ret)) (
.seq ( .region [
 ob 214 .eql (.t 175) (.c (.i .i64 3)),
om 213 214]) ( .cond (.t 213) (
.seq ( .region [

om 215 0,
om 216 1,
om 217 2,
om 218 9, oc 219 51 [(.t 215), (.t 216), (.t 217), (.t 218)],
om 220 0,
om 221 1,
om 222 2,
om 223 9, oc 224 51 [(.t 220), (.t 221), (.t 222), (.t 223)], ⟨(some 225), .bsl [(.i .i64 0), (.i .i64 0), (.s []), .nilsl] 2 [(0, (.t 219)), (1, (.t 224))], none⟩, oc 226 95 [(.c (.i .i64 22)), (.t 225)], ot 8 226 4]) ( .ret)) (
.seq ( .region [
 ob 228 .eql (.t 175) (.c (.i .i64 4)),
om 227 228]) ( .cond (.t 227) (
.seq ( .region [

om 229 0,
om 230 1,
om 231 10,
om 232 9, oc 233 51 [(.t 229), (.t 230), (.t 231), (.t 232)],
om 234 0,
om 235 1,
om 236 10,
om 237 9, oc 238 51 [(.t 234), (.t 235), (.t 236), (.t 237)], ⟨(some 239), .bsl [(.i .i64 0), (.i .i64 0), (.s []), .nilsl] 2 [(0, (.t 233)), (1, (.t 238))], none⟩, oc 240 95 [(.c (.i .i64 16)), (.t 239)], ot 8 240 4]) ( .ret)) (
.seq ( .region [
 ob 242 .eql (.t 175) (.c (.i .i64 5)),
om 241 242]) ( .cond (.t 241) (
.seq ( .region [

om 243 0,
om 244 1,
om 245 10,
om 246 9, oc 247 51 [(.t 243), (.t 244), (.t 245), (.t 246)],
om 248 0,
om 249 1,
om 250 10,
om 251 9, oc 252 51 [(.t 248), (.t 249), (.t 250), (.t 251)], ⟨(some 253), .bsl [(.i .i64 0), (.i .i64 0), (.s []), .nilsl] 2 [(0, (.t 247)), (1, (.t 252))], none⟩, oc 254 95 [(.c (.i .i64 18)), (.t 253)], ot 8 254 4]) ( .ret)) (
.seq ( .region [
 ob 256 .eql (.t 175) (.c (.i .i64 6)),
om 255 256]) ( .cond (.t 255) (
.seq ( .region [

om 257 0,
om 258 1,
om 259 9, oc 260 51 [(.t 257), (.t 258), (.c (.i .i64 3)), (.t 259)],
om 261 0,
om 262 1, oc 263 94 [(.t 261), (.t 262), (.c (.i .i64 3))],
om 264 0,
om 265 1, oc 266 94 [(.t 264), (.t 265), (.c (.i .i64 3))], ⟨(some 267), .bsl [(.i .i64 0), (.i .i64 0), (.s []), .nilsl] 3 [(0, (.t 260)), (1, (.t 263)), (2, (.t 266))], none⟩, oc 268 95 [(.c (.i .i64 15)), (.t 267)], ot 8 268 4]) ( .ret)) ( .skip))))))))))))))))) (
.seq ( .region [

om 269 0,
om 270 1,
om 271 10,
om 272 9, oc 273 51 [(.t 269), (.t 270), (.t 271), (.t 272)],
om 274 0,
om 275 1,
om 276 10,
om 277 9, oc 278 51 [(.t 274), (.t 275), (.t 276), (.t 277)], ⟨(some 279), .bsl [(.i .i64 0), (.i .i64 0), (.s []), .nilsl] 2 [(0, (.t 273)), (1, (.t 278))], none⟩, oc 280 95 [(.c (.i .i64 17)), (.t 279)], ot 8 280 4]) ( .ret)))) ( .skip))))))) (
.seq ( .region [

om 281 0,
om 282 1,
om 283 2, oc 284 94 [(.t 281), (.t 282), (.t 283)], ot 8 284 4]) ( .ret)))))), [.cell 8 4 true], true, none⟩
theorem k51 : CodeOk Tryz.prog 51 c51 := codeOk (hs := []) Tryz.func51 (by kernel_rfl)
def c52 : AFunc := ⟨17,
.seq ( .region [
 ⟨(some 5), .box (.t 2) false, none⟩,
⟨(some 6), .mv (.c (.i .i64 0)), none⟩,
⟨(some 7), .mv (.c (.i .i64 0)), none⟩]) (
.seq ( .draws [ ([],
om 8 0), ([], oc 9 96 [(.t 8)]), ([],
om 10 1), ([],
om 11 0), ([], on 12 11), ([1], ol 13 5 4 true), ([], oc 14 97 [(.t 9), (.t 10), (.t 12), (.t 13)]), ([], oe 15 14 0), ([], oe 16 14 1), ([],
om 6 15), ([],
om 7 16)]) ( .ret)), [.tmp 6, .tmp 7], false, none⟩
theorem k52 : CodeOk Tryz.prog 52 c52 := codeOk (hs := []) Tryz.func52 (by kernel_rfl)
def c53_L1 : ACode :=
.seq ( .region [
 ob 56 .lss (.t 55) (.t 54)]) (
.seq ( .cond (.t 56) ( .skip) ( .exit 4)) (
.seq ( .block 5 (
.seq ( .region [

om 57 55, oi 58 53 55 1, ol 59 58 1 false,
om 9 57,
om 10 59]) ( .region [

om 60 3,
om 61 8, ⟨(some 62), .nck (.t 60), none⟩, oa 63 62 3, ⟨(some 64), .iaA (.t 63) (.t 61) 4 1, none⟩, ol 65 64 1 false,
om 66 10,
om 67 9, ⟨none, .mu (.one .str) (.t 65) (.t 66) (.t 67), none⟩]))) ( .region [
 ob 68 .add (.t 55) (.c (.i .i64 1)),
om 55 68])))
def c53_L2 : ACode :=
.seq ( .region [
 ob 44 .lss (.t 43) (.c (.i .i64 4))]) (
.seq ( .cond (.t 44) ( .skip) ( .exit 2)) (
.seq ( .block 3 (
.seq ( .region [

om 45 43,
om 8 45]) (
.seq ( .region [

om 46 3,
om 47 8, ⟨(some 48), .mkmap true, none⟩,
⟨(some 49), .nck (.t 46), none⟩, oa 50 49 3, ⟨(some 51), .iaA (.t 50) (.t 47) 4 1, none⟩, ot 51 48 1]) (
.seq ( .region [

om 52 8, oc 53 88 [(.t 52)], on 54 53, ⟨(some 55), .mv (.c (.i .i64 0)), none⟩]) ( .block 4 ( .loop c53_L1)))))) ( .region [
 ob 69 .add (.t 43) (.c (.i .i64 1)),
om 43 69])))
def c53_L3 : ACode :=
.seq ( .region [
 ob 19 .lss (.t 18) (.t 17)]) (
.seq ( .cond (.t 19) ( .skip) ( .exit 0)) (
.seq ( .block 1 (
.seq ( .region [

om 20 18, oi 21 16 18 5, ol 22 21 5 true, ⟨(some 5), .alloc [(.s []), (.i .i64 0), (.i .i64 0), (.s []), .nilsl] false, none⟩,
om 4 20, ot 5 22 5]) (
.seq ( .draws [ ([],
om 24 3), ([], ⟨(some 25), .nck (.t 24), none⟩),
([], oa 26 25 1), ([], ol 27 26 1 false), ([], oa 28 5 0), ([3], ol 29 28 1 false), ([], ⟨(some 30), .lk (.one .str) (.t 27) (.t 29) (.i .i64 0) true, none⟩),
([],
om 23 30), ([], oe 31 23 0), ([], oe 32 23 1), ([],
om 6 31), ([],
om 7 32)]) (
.seq ( .region [

om 33 7, ⟨(some 34), .un .not (.t 33), none⟩]) ( .cond (.t 34) ( .draws [ ([],
om 35 3), ([], ⟨(some 36), .nck (.t 35), none⟩),
([], oa 37 36 1), ([], ol 38 37 1 false), ([], oa 39 5 0), ([3], ol 40 39 1 false), ([],
om 41 4), ([], ⟨none, .mu (.one .str) (.t 38) (.t 40) (.t 41), none⟩)]) ( .skip)))))) ( .region [
 ob 42 .add (.t 18) (.c (.i .i64 1)),
om 18 42])))
def c53 : AFunc := ⟨71,
.seq ( .region [
 ⟨(some 2), .mv (.c .nilptr), none⟩]) (
.seq ( .region [

om 11 0, ⟨(some 12), .mkmap true, none⟩,
⟨(some 13), .mkmap true, none⟩,
⟨(some 14), .build [.nilsl, .nilmp, .nilmp, .nilmp, .nilmp, .nilmp, .nilmp] [(0, 1, (.t 11)), (1, 1, (.t 12)), (2, 1, (.t 13))], none⟩,
⟨(some 15), .box (.t 14) true, none⟩,
om 3 15]) (
.seq (
.seq ( .region [

om 16 0, on 17 16, ⟨(some 18), .mv (.c (.i .i64 0)), none⟩]) ( .block 0 ( .loop c53_L3))) (
.seq (
.seq ( .region [
 ⟨(some 43), .mv (.c (.i .i64 0)), none⟩]) ( .block 2 ( .loop c53_L2))) (
.seq ( .region [

om 70 3,
om 2 70]) ( .ret))))), [.tmp 2], false, none⟩
theorem k53 : CodeOk Tryz.prog 53 c53 := codeOk (hs := [12, 13, 15, 48]) Tryz.func53 (by kernel_rfl)
def c54_L1 : ACode :=
.seq ( .region [
 ob 52 .lss (.t 51) (.t 50)]) (
.seq ( .cond (.t 52) ( .skip) ( .exit 0)) (
.seq ( .block 1 (
.seq ( .region [

om 53 51, oi 54 49 51 4, ol 55 54 4 true, ⟨(some 11), .alloc [(.i .i64 0), (.i .i64 0), (.s []), .nilsl] false, none⟩,
om 10 53, ot 11 55 4]) ( .draws [ ([], oa 56 9 3), ([], ol 57 56 1 false), ([],
om 58 10), ([],
om 59 0), ([],
om 60 1), ([1], ol 61 11 4 true), ([1], oc 62 54 [(.t 59), (.t 60), (.t 61)]), ([], oi 63 57 58 4), ([], ot 63 62 4)]))) ( .region [
 ob 64 .add (.t 51) (.c (.i .i64 1)),
om 51 64])))
theorem c54_L1_w : wrM (wrC (.loop c54_L1)) = 36891236347605421056 := nr rfl
def c54 : AFunc := ⟨68,
.seq ( .region [
 ⟨(some 5), .box (.t 2) false, none⟩,
⟨(some 6), .alloc [(.i .i64 0), (.i .i64 0), (.s []), .nilsl] false, none⟩]) (
.seq (
.seq ( .region [
 oa 12 5 0, ol 13 12 1 false,
ob 14 .eql (.t 13) (.c (.i .i64 6))]) ( .cond (.t 14) (
.seq (
.seq ( .region [

om 16 1, oa 17 5 2, ol 18 17 1 false, oc 19 89 [(.t 16), (.t 18)],
om 15 19, oe 20 15 0, oe 21 15 1,
om 7 20,
om 8 21]) (
.seq ( .region [

om 22 8,
ob 23 .eql (.t 22) (.c (.i .i64 0))]) ( .cond (.t 23) (
.seq ( .region [
 oa 24 5 2, ol 25 24 1 false, ⟨(some 26), .build [(.i .i64 0), (.i .i64 0), (.s []), .nilsl] [(0, 1, (.c (.i .i64 6))), (2, 1, (.t 25))], none⟩, ot 6 26 4]) ( .ret)) ( .skip)))) (
.seq ( .region [

om 27 0, oa 28 5 2, ol 29 28 1 false, oc 30 99 [(.t 27), (.t 29)], oc 31 98 [(.t 30)], ot 6 31 4]) ( .ret))) ( .skip))) (
.seq (
.seq ( .region [
 oa 32 5 3, ol 33 32 1 false, on 34 33,
ob 35 .eql (.t 34) (.c (.i .i64 0))]) ( .cond (.t 35) (
.seq ( .region [
 oa 36 5 0, ol 37 36 1 false, oa 38 5 1, ol 39 38 1 false, ⟨(some 40), .build [(.i .i64 0), (.i .i64 0), (.s []), .nilsl] [(0, 1, (.t 37)), (1, 1, (.t 39))], none⟩, ot 6 40 4]) ( .ret)) ( .skip))) (
.seq ( .draws [ ([], oa 41 5 0), ([], ol 42 41 1 false), ([], oa 43 5 3), ([1], ol 44 43 1 false), ([], on 45 44), ([1], ⟨(some 46), .mksl [(.i .i64 0), (.i .i64 0), (.s []), .nilsl] 56 (.t 45) false, none⟩),
([], ⟨(some 47), .build [(.i .i64 0), (.i .i64 0), (.s []), .nilsl] [(0, 1, (.t 42)), (3, 1, (.t 46))], none⟩),
([1, 3, 5], ⟨(some 9), .alloc [(.i .i64 0), (.i .i64 0), (.s []), .nilsl] false, none⟩),
([], ot 9 47 4)]) (
.seq (
.seq ( .region [
 oa 48 5 3, ol 49 48 1 false, on 50 49, ⟨(some 51), .mv (.c (.i .i64 0)), none⟩]) ( .block 0 ( .loop c54_L1))) (
.seq ( .region [

om 65 0, ol 66 9 4 true, oc 67 100 [(.t 65), (.t 66)], ot 6 67 4]) ( .ret)))))), [.cell 6 4 true], true, none⟩
theorem k54 : CodeOk Tryz.prog 54 c54 := codeOk (hs := []) Tryz.func54 (by kernel_rfl)
def c55 : AFunc := ⟨10,
.seq ( .region [
 ⟨(some 1), .box (.t 0) false, none⟩,
⟨(some 2), .mv (.c (.i .i64 0)), none⟩]) (
.seq ( .region [
 ⟨(some 3), .alloc [(.i .i64 0)] true, none⟩,
⟨none, .st (.t 3) (.c (.i .i64 0)) 1, none⟩]) (
.seq (
.seq ( .region [
 ol 4 1 4 true, oc 5 101 [(.t 4), (.c (.i .i64 1)), (.t 3)], ⟨(some 6), .un .not (.t 5), none⟩]) ( .cond (.t 6) (
.seq ( .region [
 ⟨(some 2), .mv (.c (.i .i64 10)), none⟩]) ( .ret)) ( .skip))) (
.seq (
.seq ( .region [
 ol 7 1 4 true, oc 8 102 [(.t 7)], ⟨(some 9), .un .not (.t 8), none⟩]) ( .cond (.t 9) (
.seq ( .region [
 ⟨(some 2), .mv (.c (.i .i64 1)), none⟩]) ( .ret)) ( .skip))) (
.seq ( .region [
 ⟨(some 2), .mv (.c (.i .i64 0)), none⟩]) ( .ret))))), [.tmp 2], false, none⟩
theorem k55 : CodeOk Tryz.prog 55 c55 := codeOk (hs := [3]) Tryz.func55 (by kernel_rfl)
def c56 : AFunc := ⟨22,
.seq ( .region [
 ⟨(some 5), .box (.t 2) false, none⟩,
⟨(some 6), .mv (.c (.i .i64 0)), none⟩,
⟨(some 7), .mv (.c (.i .i64 0)), none⟩]) (
.seq (
.seq ( .region [
 ol 9 5 4 true, oc 10 59 [(.t 9)],
om 8 10]) (
.seq ( .region [

om 11 8,
ob 12 .neq (.t 11) (.c (.i .i64 0))]) ( .cond (.t 12) (
.seq ( .region [

om 13 8, ⟨(some 6), .mv (.c (.i .i64 0)), none⟩,
om 7 13]) ( .ret)) ( .skip)))) (
.seq ( .draws [ ([],
om 14 0), ([], oc 15 104 [(.t 14)]), ([],
om 16 0), ([],
om 17 1), ([1], ol 18 5 4 true), ([], oc 19 103 [(.t 15), (.t 16), (.t 17), (.t 18)]), ([], oe 20 19 0), ([], oe 21 19 1), ([],
om 6 20), ([],
om 7 21)]) ( .ret))), [.tmp 6, .tmp 7], false, none⟩
theorem k56 : CodeOk Tryz.prog 56 c56 := codeOk (hs := []) Tryz.func56 (by kernel_rfl)
def c57_L1 : ACode :=
.seq (
.seq ( .region [

om 72 18, oa 73 7 3, ol 74 73 1 false, on 75 74,
ob 76 .lss (.t 72) (.t 75)]) ( .cond (.t 76) ( .skip) ( .exit 0))) (
.seq ( .block 1 (
.seq ( .region [

om 79 0,
om 80 1,
om 81 2, oa 82 7 3, ol 83 82 1 false,
om 84 18, oi 85 83 84 4, ol 86 85 4 true, oc 87 57 [(.t 79), (.t 80), (.t 81), (.t 86)], ⟨(some 19), .alloc [(.i .i64 0), (.i .i64 0), (.s []), .nilsl] false, none⟩, ot 19 87 4]) (
.seq ( .region [
 oa 88 16 3, ol 89 88 1 false, ol 90 19 4 true, ⟨(some 91), .bsl [(.i .i64 0), (.i .i64 0), (.s []), .nilsl] 1 [(0, (.t 90))], none⟩,
⟨(some 92), .app 4 56 (.t 89) (.t 91) false false, none⟩, oa 93 16 3, ot 93 92 1]) (
.seq ( .region [
 ol 95 19 4 true, oc 96 107 [(.t 95)],
om 94 96, oe 97 94 0, oe 98 94 1,
om 20 97,
om 21 98]) (
.seq ( .region [

om 99 21]) ( .cond (.t 99) ( .region [

om 100 17,
om 101 20, ⟨(some 102), .bsl [(.i .i64 0)] 1 [(0, (.t 101))], none⟩,
⟨(some 103), .app 1 8 (.t 100) (.t 102) false false, none⟩,
om 17 103]) ( .skip))))))) ( .region [

om 77 18,
ob 78 .add (.t 77) (.c (.i .i64 1)),
om 18 78]))
theorem c57_L1_w : wrM (wrC (.loop c57_L1)) = 20282409598929303941077610135552 := nr rfl
def c57 : AFunc := ⟨118,
.seq ( .region [
 ⟨(some 7), .box (.t 3) false, none⟩,
⟨(some 8), .alloc [(.i .i64 0), (.i .i64 0), (.s []), .nilsl] false, none⟩]) (
.seq (
.seq ( .region [
 oa 22 7 0, ol 23 22 1 false,
ob 24 .eql (.t 23) (.c (.i .i64 6))]) ( .cond (.t 24) (
.seq (
.seq ( .region [

om 26 2, oa 27 7 2, ol 28 27 1 false, oc 29 85 [(.t 26), (.t 28)],
om 25 29, oe 30 25 0, oe 31 25 1,
om 9 30,
om 10 31]) (
.seq ( .region [

om 32 10,
ob 33 .eql (.t 32) (.c (.i .i64 0))]) ( .cond (.t 33) (
.seq ( .region [
 ol 34 7 4 true, ot 8 34 4]) ( .ret)) ( .skip)))) (
.seq ( .region [

om 35 1, oa 36 7 2, ol 37 36 1 false, oc 38 105 [(.t 35), (.t 37)],
om 11 38]) (
.seq ( .draws [ ([],
om 40 1), ([],
om 41 11), ([], ⟨(some 42), .slV 5 (.t 40) none (some (.t 41)) none, none⟩),
([],
om 43 1), ([],
om 44 11), ([], oi 45 43 44 5), ([], oa 46 45 1), ([], ol 47 46 4 true), ([], oc 48 56 [(.t 42), (.c (.i .i64 0)), (.t 47)]), ([],
om 39 48), ([], oe 49 39 0), ([], oe 50 39 1), ([],
om 12 49), ([],
om 13 50)]) (
.seq ( .region [

om 51 12,
om 52 0,
om 53 11, oi 54 52 53 1, ol 55 54 1 false, oc 56 106 [(.t 51), (.t 55)], ot 8 56 4]) ( .ret))))) ( .skip))) (
.seq (
.seq ( .region [
 oa 57 7 3, ol 58 57 1 false, on 59 58,
ob 60 .eql (.t 59) (.c (.i .i64 0))]) ( .cond (.t 60) (
.seq ( .region [
 ol 61 7 4 true, ot 8 61 4]) ( .ret)) ( .skip))) (
.seq ( .region [

om 63 1,
om 64 2, ol 65 7 4 true, oc 66 56 [(.t 63), (.t 64), (.t 65)],
om 62 66, oe 67 62 0, oe 68 62 1,
om 14 67,
om 15 68]) (
.seq ( .region [
 oa 69 7 0, ol 70 69 1 false, ⟨(some 71), .build [(.i .i64 0), (.i .i64 0), (.s []), .nilsl] [(0, 1, (.t 70))], none⟩,
⟨(some 16), .alloc [(.i .i64 0), (.i .i64 0), (.s []), .nilsl] false, none⟩, ot 16 71 4]) (
.seq ( .region [
 ⟨(some 17), .mv (.c .nilsl), none⟩]) (
.seq (
.seq ( .region [
 ⟨(some 18), .mv (.c (.i .i64 0)), none⟩]) ( .block 0 ( .loop c57_L1))) (
.seq (
.seq ( .region [

om 104 17, on 105 104, oa 106 16 3, ol 107 106 1 false, on 108 107,
ob 109 .eql (.t 105) (.t 108)]) ( .cond (.t 109) (
.seq ( .region [

om 110 14, oa 111 16 0, ol 112 111 1 false,
om 113 17, oc 114 108 [(.t 112), (.c (.i .i64 0)), (.t 113)], oc 115 106 [(.t 110), (.t 114)], ot 8 115 4]) ( .ret)) ( .skip))) (
.seq ( .region [
 ol 116 16 4 true, oc 117 109 [(.t 116)], ot 8 117 4]) ( .ret))))))))), [.cell 8 4 true], false, none⟩
theorem k57 : CodeOk Tryz.prog 57 c57 := codeOk (hs := []) Tryz.func57 (by kernel_rfl)
def c58_L1 : ACode :=
.seq (
.seq ( .region [

om 8 4,
om 9 0, on 10 9,
ob 11 .lss (.t 8) (.t 10)]) ( .cond (.t 11) ( .skip) ( .exit 0))) (
.seq ( .block 1 (
.seq ( .region [
 ⟨(some 5), .mv (.c (.i .i64 0)), none⟩]) (
.seq (
.seq ( .draws [ ([],
om 15 0), ([],
om 16 4), ([], ⟨(some 17), .slV 5 (.t 15) none (some (.t 16)) none, none⟩),
([],
om 18 0), ([],
om 19 4), ([], oi 20 18 19 5), ([], oa 21 20 1), ([], ol 22 21 4 true), ([], oc 23 56 [(.t 17), (.c (.i .i64 0)), (.t 22)]), ([],
om 14 23), ([], oe 24 14 0), ([], oe 25 14 1), ([],
om 6 24), ([],
om 7 25)]) (
.seq ( .region [

om 26 7,
ob 27 .eql (.t 26) (.c (.i .i64 0))]) ( .cond (.t 27) ( .draws [ ([],
om 28 3), ([],
om 29 0), ([],
om 30 4), ([], ⟨(some 31), .slV 5 (.t 29) none (some (.t 30)) none, none⟩),
([],
om 32 0), ([],
om 33 4), ([], oi 34 32 33 5), ([], oa 35 34 1), ([], ol 36 35 4 true), ([], oc 37 110 [(.t 28), (.t 31), (.c (.i .i64 0)), (.c .nilsl), (.t 36)]), ([],
om 5 37)]) ( .skip)))) ( .region [

om 38 3,
om 39 5, ⟨(some 40), .bsl [(.i .i64 0)] 1 [(0, (.t 39))], none⟩,
⟨(some 41), .app 1 8 (.t 38) (.t 40) false false, none⟩,
om 3 41])))) ( .region [

om 12 4,
ob 13 .add (.t 12) (.c (.i .i64 1)),
om 4 13]))
def c58 : AFunc := ⟨43,
.seq ( .region [
 ⟨(some 2), .mv (.c .nilsl), none⟩]) (
.seq ( .region [
 ⟨(some 3), .mv (.c .nilsl), none⟩]) (
.seq (
.seq ( .region [
 ⟨(some 4), .mv (.c (.i .i64 0)), none⟩]) ( .block 0 ( .loop c58_L1))) (
.seq ( .region [

om 42 3,
om 2 42]) ( .ret)))), [.tmp 2], false, none⟩
theorem k58 : CodeOk Tryz.prog 58 c58 := codeOk (hs := []) Tryz.func58 (by kernel_rfl)
def c59 : AFunc := ⟨19,
.seq ( .region [
 ⟨(some 1), .box (.t 0) false, none⟩,
⟨(some 2), .mv (.c (.i .i64 0)), none⟩]) (
.seq ( .region [
 ol 6 1 4 true, oc 7 111 [(.t 6)],
om 5 7, oe 8 5 0, oe 9 5 1,
om 3 8,
om 4 9]) (
.seq (
.seq ( .region [

om 10 3,
ob 11 .gtr (.t 10) (.c (.i .i64 200)),
om 12 11, ⟨(some 13), .mv (.t 4), (some (12, false))⟩,
⟨(some 14), .bin .gtr (.t 13) (.c (.i .i64 16)), (some (12, false))⟩,
⟨(some 15), .pick (.t 12) (.c (.b true)) (.t 14), none⟩]) ( .cond (.t 15) (
.seq ( .region [
 ⟨(some 2), .mv (.c (.i .i64 10)), none⟩]) ( .ret)) ( .skip))) (
.seq (
.seq ( .region [
 ol 16 1 4 true, oc 17 112 [(.t 16)], ⟨(some 18), .un .not (.t 17), none⟩]) ( .cond (.t 18) (
.seq ( .region [
 ⟨(some 2), .mv (.c (.i .i64 1)), none⟩]) ( .ret)) ( .skip))) (
.seq ( .region [
 ⟨(some 2), .mv (.c (.i .i64 0)), none⟩]) ( .ret))))), [.tmp 2], false, none⟩
theorem k59 : CodeOk Tryz.prog 59 c59 := codeOk (hs := []) Tryz.func59 (by kernel_rfl)
def c60_L1 : ACode :=
.seq (
.seq ( .region [

om 34 5, oa 35 2 3, ol 36 35 1 false, on 37 36,
ob 38 .lss (.t 34) (.t 37)]) ( .cond (.t 38) ( .skip) ( .exit 0))) (
.seq ( .block 1 (
.seq ( .draws [ ([], oa 41 2 3), ([], ol 42 41 1 false), ([],
om 43 5), ([], oi 44 42 43 4), ([], ol 45 44 4 true), ([], oa 46 3 3), ([1, 4], ol 47 46 1 false), ([],
om 48 5), ([], oi 49 47 48 4), ([1, 4], ol 50 49 4 true), ([], oc 51 60 [(.t 45), (.t 50)]), ([], ⟨(some 52), .un .not (.t 51), none⟩)]) ( .cond (.t 52) (
.seq ( .region [
 ⟨(some 4), .mv (.c (.b false)), none⟩]) ( .ret)) ( .skip)))) ( .region [

om 39 5,
ob 40 .add (.t 39) (.c (.i .i64 1)),
om 5 40]))
def c60 : AFunc := ⟨53,
.seq ( .region [
 ⟨(some 2), .box (.t 0) false, none⟩,
⟨(some 3), .box (.t 1) false, none⟩,
⟨(some 4), .mv (.c (.b false)), none⟩]) (
.seq (
.seq ( .region [
 oa 6 2 0, ol 7 6 1 false, oa 8 3 0, ol 9 8 1 false,
ob 10 .neq (.t 7) (.t 9),
om 11 10, ⟨(some 12), .fa (.t 2) 1, (some (11, false))⟩,
⟨(some 13), .ld (.t 12) 1 false, (some (11, false))⟩,
⟨(some 14), .fa (.t 3) 1, (some (11, false))⟩,
⟨(some 15), .ld (.t 14) 1 false, (some (11, false))⟩,
⟨(some 16), .bin .neq (.t 13) (.t 15), (some (11, false))⟩,
⟨(some 17), .pick (.t 11) (.c (.b true)) (.t 16), none⟩,
om 18 17, ⟨(some 19), .fa (.t 2) 2, (some (18, false))⟩,
⟨(some 20), .ld (.t 19) 1 false, (some (18, false))⟩,
⟨(some 21), .fa (.t 3) 2, (some (18, false))⟩,
⟨(some 22), .ld (.t 21) 1 false, (some (18, false))⟩,
⟨(some 23), .bin .neq (.t 20) (.t 22), (some (18, false))⟩,
⟨(some 24), .pick (.t 18) (.c (.b true)) (.t 23), none⟩,
om 25 24, ⟨(some 26), .fa (.t 2) 3, (some (25, false))⟩,
⟨(some 27), .ld (.t 26) 1 false, (some (25, false))⟩,
⟨(some 28), .lenV (.t 27), (some (25, false))⟩,
⟨(some 29), .fa (.t 3) 3, (some (25, false))⟩,
⟨(some 30), .ld (.t 29) 1 false, (some (25, false))⟩,
⟨(some 31), .lenV (.t 30), (some (25, false))⟩,
⟨(some 32), .bin .neq (.t 28) (.t 31), (some (25, false))⟩,
⟨(some 33), .pick (.t 25) (.c (.b true)) (.t 32), none⟩]) ( .cond (.t 33) (
.seq ( .region [
 ⟨(some 4), .mv (.c (.b false)), none⟩]) ( .ret)) ( .skip))) (
.seq (
.seq ( .region [
 ⟨(some 5), .mv (.c (.i .i64 0)), none⟩]) ( .block 0 ( .loop c60_L1))) (
.seq ( .region [
 ⟨(some 4), .mv (.c (.b true)), none⟩]) ( .ret)))), [.tmp 4], false, none⟩
theorem k60 : CodeOk Tryz.prog 60 c60 := codeOk (hs := []) Tryz.func60 (by kernel_rfl)
def c65 : AFunc := ⟨16,
.seq ( .region [
 ⟨(some 1), .box (.t 0) false, none⟩,
⟨(some 2), .mv (.c (.b false)), none⟩]) (
.seq ( .region [
 oa 3 1 0, ol 4 3 1 false,
ob 5 .eql (.t 4) (.c (.i .i64 1)),
om 6 5, ⟨(some 7), .fa (.t 1) 0, (some (6, false))⟩,
⟨(some 8), .ld (.t 7) 1 false, (some (6, false))⟩,
⟨(some 9), .bin .eql (.t 8) (.c (.i .i64 2)), (some (6, false))⟩,
⟨(some 10), .pick (.t 6) (.c (.b true)) (.t 9), none⟩,
om 11 10, ⟨(some 12), .fa (.t 1) 1, (some (11, true))⟩,
⟨(some 13), .ld (.t 12) 1 false, (some (11, true))⟩,
⟨(some 14), .bin .eql (.t 13) (.c (.i .i64 0)), (some (11, true))⟩,
⟨(some 15), .pick (.t 11) (.t 14) (.c (.b false)), none⟩,
om 2 15]) ( .ret)), [.tmp 2], false, none⟩
theorem k65 : CodeOk Tryz.prog 65 c65 := codeOk (hs := []) Tryz.func65 (by kernel_rfl)
def c84_L1 : ACode :=
.seq (
.seq ( .region [

om 29 6,
om 30 4, on 31 30,
ob 32 .lss (.t 29) (.t 31)]) ( .cond (.t 32) ( .skip) ( .exit 3))) (
.seq ( .block 4 ( .region [

om 35 3,
om 36 4,
om 37 6, oi 38 36 37 1, ol 39 38 1 false,
ob 40 .add (.c (.s [97, 102, 116, 101, 114, 46])) (.t 39), ⟨(some 41), .bsl [(.s [])] 1 [(0, (.t 40))], none⟩,
⟨(some 42), .app 1 16 (.t 35) (.t 41) false false, none⟩,
om 3 42])) ( .region [

om 33 6,
ob 34 .add (.t 33) (.c (.i .i64 1)),
om 6 34]))
def c84_L2 : ACode :=
.seq (
.seq ( .region [

om 15 5,
om 16 4, on 17 16,
ob 18 .lss (.t 15) (.t 17)]) ( .cond (.t 18) ( .skip) ( .exit 1))) (
.seq ( .block 2 ( .region [

om 21 3,
om 22 4,
om 23 5, oi 24 22 23 1, ol 25 24 1 false,
ob 26 .add (.c (.s [98, 101, 102, 111, 114, 101, 46])) (.t 25), ⟨(some 27), .bsl [(.s [])] 1 [(0, (.t 26))], none⟩,
⟨(some 28), .app 1 16 (.t 21) (.t 27) false false, none⟩,
om 3 28])) ( .region [

om 19 5,
ob 20 .add (.t 19) (.c (.i .i64 1)),
om 5 20]))
def c84 : AFunc := ⟨47,
.seq ( .region [
 ⟨(some 2), .mv (.c .nilsl), none⟩]) (
.seq (
.seq ( .region [

om 7 0]) ( .block 0 (
.seq ( .region [
 ob 9 .eql (.t 7) (.c (.i .i64 1)),
om 8 9]) ( .cond (.t 8) (
.seq ( .region [
 oc 10 132 [],
om 2 10]) ( .ret)) (
.seq ( .region [
 ob 12 .eql (.t 7) (.c (.i .i64 2)),
om 11 12]) ( .cond (.t 11) (
.seq ( .region [
 ⟨(some 13), .bsl [(.s [])] 3 [(0, (.c (.s [114, 101, 115, 116]))), (1, (.c (.s [110, 105, 103, 104, 116, 115]))), (2, (.c (.s [104, 111, 109, 101])))], none⟩,
om 3 13]) (
.seq ( .region [
 oc 14 132 [],
om 4 14]) (
.seq (
.seq ( .region [
 ⟨(some 5), .mv (.c (.i .i64 0)), none⟩]) ( .block 1 ( .loop c84_L2))) (
.seq (
.seq ( .region [
 ⟨(some 6), .mv (.c (.i .i64 0)), none⟩]) ( .block 3 ( .loop c84_L1))) (
.seq ( .region [

om 43 3,
om 2 43]) ( .ret)))))) (
.seq ( .region [
 ob 45 .eql (.t 7) (.c (.i .i64 3)),
om 44 45]) ( .cond (.t 44) (
.seq ( .region [
 ⟨(some 46), .bsl [(.s [])] 7 [(0, (.c (.s [100, 117, 116, 105, 101, 115]))), (1, (.c (.s [108, 101, 103, 115]))), (2, (.c (.s [104, 101, 97, 100, 115]))), (3, (.c (.s [100, 97, 121, 115]))), (4, (.c (.s [98, 108, 111, 99, 107]))), (5, (.c (.s [115, 112, 97, 110]))), (6, (.c (.s [99, 114, 101, 100, 105, 116])))], none⟩,
om 2 46]) ( .ret)) ( .skip))))))))) (
.seq ( .region [
 ⟨(some 2), .mv (.c .nilsl), none⟩]) ( .ret))), [.tmp 2], false, none⟩
theorem k84 : CodeOk Tryz.prog 84 c84 := codeOk (hs := []) Tryz.func84 (by kernel_rfl)
def c85_L1 : ACode :=
.seq (
.seq ( .region [

om 44 7,
om 45 6, on 46 45,
ob 47 .lss (.t 44) (.t 46)]) ( .cond (.t 47) ( .skip) ( .exit 0))) (
.seq ( .block 1 (
.seq (
.seq ( .region [

om 50 6,
om 51 7, oi 52 50 51 1, ol 53 52 1 false,
om 54 1,
ob 55 .neq (.t 53) (.t 54)]) ( .cond (.t 55) ( .exit 1) ( .skip))) (
.seq (
.seq ( .region [

om 56 1]) ( .block 2 (
.seq (
.seq ( .region [
 ob 58 .eql (.t 56) (.c (.s [108, 101, 103, 115])),
om 57 58]) ( .cond (.t 57) ( .skip) (
.seq ( .region [
 ob 59 .eql (.t 56) (.c (.s [104, 101, 97, 100, 115])),
om 57 59]) ( .cond (.t 57) ( .skip) (
.seq ( .region [
 ob 60 .eql (.t 56) (.c (.s [116, 121, 112, 101, 115])),
om 57 60]) ( .cond (.t 57) ( .skip) (
.seq ( .region [
 ob 61 .eql (.t 56) (.c (.s [110, 105, 103, 104, 116, 115])),
om 57 61]) ( .cond (.t 57) ( .skip) (
.seq ( .region [
 ob 62 .eql (.t 56) (.c (.s [100, 117, 116, 105, 101, 115])),
om 57 62]) ( .cond (.t 57) ( .skip) ( .region [
 ob 63 .eql (.t 56) (.c (.s [100, 97, 121, 115])),
om 57 63]))))))))))) ( .cond (.t 57) (
.seq ( .region [
 ⟨(some 4), .mv (.c (.i .i64 1)), none⟩,
⟨(some 5), .mv (.c (.i .i64 0)), none⟩]) ( .ret)) (
.seq (
.seq ( .region [
 ob 65 .eql (.t 56) (.c (.s [115, 116, 97, 114, 116])),
om 64 65]) ( .cond (.t 64) ( .skip) ( .region [
 ob 66 .eql (.t 56) (.c (.s [101, 110, 100])),
om 64 66]))) ( .cond (.t 64) (
.seq ( .region [
 ⟨(some 4), .mv (.c (.i .i64 3)), none⟩,
⟨(some 5), .mv (.c (.i .i64 0)), none⟩]) ( .ret)) (
.seq ( .region [
 ob 68 .eql (.t 56) (.c (.s [104, 111, 109, 101])),
om 67 68]) ( .cond (.t 67) (
.seq ( .region [
 ⟨(some 4), .mv (.c (.i .i64 4)), none⟩,
⟨(some 5), .mv (.c (.i .i64 0)), none⟩]) ( .ret)) ( .skip))))))))) (
.seq ( .region [
 ⟨(some 4), .mv (.c (.i .i64 2)), none⟩,
⟨(some 5), .mv (.c (.i .i64 0)), none⟩]) ( .ret))))) ( .region [

om 48 7,
ob 49 .add (.t 48) (.c (.i .i64 1)),
om 7 49]))
def c85 : AFunc := ⟨69,
.seq ( .region [
 ⟨(some 4), .mv (.c (.i .i64 0)), none⟩,
⟨(some 5), .mv (.c (.i .i64 0)), none⟩]) (
.seq (
.seq ( .region [

om 8 0,
ob 9 .eql (.t 8) (.c (.i .i64 2)),
om 10 9, ⟨(some 11), .mv (.t 1), (some (10, true))⟩,
⟨(some 12), .lenS (.t 11), (some (10, true))⟩,
⟨(some 13), .bin .gtr (.t 12) (.c (.i .i64 7)), (some (10, true))⟩,
⟨(some 14), .pick (.t 10) (.t 13) (.c (.b false)), none⟩,
om 15 14, ⟨(some 16), .mv (.t 1), (some (15, true))⟩,
⟨(some 17), .slS (.t 16) none (some (.c (.i .i64 7))), (some (15, true))⟩,
⟨(some 18), .bin .eql (.t 17) (.c (.s [98, 101, 102, 111, 114, 101, 46])), (some (15, true))⟩,
⟨(some 19), .pick (.t 15) (.t 18) (.c (.b false)), none⟩]) ( .cond (.t 19) (
.seq ( .region [

om 20 1, ⟨(some 21), .slS (.t 20) (some (.c (.i .i64 7))) none, none⟩, oc 22 85 [(.c (.i .i64 1)), (.t 21)], oe 23 22 0, oe 24 22 1,
om 4 23,
om 5 24]) ( .ret)) ( .skip))) (
.seq (
.seq ( .region [

om 25 0,
ob 26 .eql (.t 25) (.c (.i .i64 2)),
om 27 26, ⟨(some 28), .mv (.t 1), (some (27, true))⟩,
⟨(some 29), .lenS (.t 28), (some (27, true))⟩,
⟨(some 30), .bin .gtr (.t 29) (.c (.i .i64 6)), (some (27, true))⟩,
⟨(some 31), .pick (.t 27) (.t 30) (.c (.b false)), none⟩,
om 32 31, ⟨(some 33), .mv (.t 1), (some (32, true))⟩,
⟨(some 34), .slS (.t 33) none (some (.c (.i .i64 6))), (some (32, true))⟩,
⟨(some 35), .bin .eql (.t 34) (.c (.s [97, 102, 116, 101, 114, 46])), (some (32, true))⟩,
⟨(some 36), .pick (.t 32) (.t 35) (.c (.b false)), none⟩]) ( .cond (.t 36) (
.seq ( .region [

om 37 1, ⟨(some 38), .slS (.t 37) (some (.c (.i .i64 6))) none, none⟩, oc 39 85 [(.c (.i .i64 1)), (.t 38)], oe 40 39 0, oe 41 39 1,
om 4 40,
om 5 41]) ( .ret)) ( .skip))) (
.seq ( .region [

om 42 0, oc 43 84 [(.t 42)],
om 6 43]) (
.seq (
.seq ( .region [
 ⟨(some 7), .mv (.c (.i .i64 0)), none⟩]) ( .block 0 ( .loop c85_L1))) (
.seq ( .region [
 ⟨(some 4), .mv (.c (.i .i64 0)), none⟩,
⟨(some 5), .mv (.c (.i .i64 6)), none⟩]) ( .ret)))))), [.tmp 4, .tmp 5], false, none⟩
theorem k85 : CodeOk Tryz.prog 85 c85 := codeOk (hs := []) Tryz.func85 (by kernel_rfl)
def c86 : AFunc := ⟨23,
.seq ( .region [
 ⟨(some 4), .mv (.c (.i .i64 0)), none⟩]) (
.seq (
.seq ( .region [

om 5 0, on 6 5,
ob 7 .eql (.t 6) (.c (.i .i64 0))]) ( .cond (.t 7) (
.seq ( .region [

om 8 1,
ob 9 .and (.t 8) (.c (.i .i64 65535)),
om 4 9]) ( .ret)) ( .skip))) (
.seq ( .draws [ ([],
om 10 0), ([],
om 11 1), ([],
om 12 0), ([], on 13 12), ([],
ob 14 .rem (.t 11) (.t 13)), ([], oi 15 10 14 1), ([], ol 16 15 1 false), ([],
ob 17 .and (.t 16) (.c (.i .i64 65535))), ([],
om 18 1), ([],
om 19 0), ([], on 20 19), ([],
ob 21 .quo (.t 18) (.t 20)), ([],
ob 22 .add (.t 17) (.t 21)), ([],
om 4 22)]) ( .ret))), [.tmp 4], false, none⟩
theorem k86 : CodeOk Tryz.prog 86 c86 := codeOk (hs := []) Tryz.func86 (by kernel_rfl)
def c88_L1 : ACode :=
.seq ( .region [
 ob 24 .lss (.t 23) (.t 22)]) (
.seq ( .cond (.t 24) ( .skip) ( .exit 3)) (
.seq ( .block 4 (
.seq ( .region [
 oi 25 21 23 1, ol 26 25 1 false,
om 7 26]) ( .region [

om 27 3,
om 28 5,
om 29 7,
ob 30 .add (.t 28) (.t 29), ⟨(some 31), .bsl [(.s [])] 1 [(0, (.t 30))], none⟩,
⟨(some 32), .app 1 16 (.t 27) (.t 31) false false, none⟩,
om 3 32]))) ( .region [
 ob 33 .add (.t 23) (.c (.i .i64 1)),
om 23 33])))
def c88_L2 : ACode :=
.seq ( .region [
 ob 18 .lss (.t 17) (.t 16)]) (
.seq ( .cond (.t 18) ( .skip) ( .exit 1)) (
.seq ( .block 2 (
.seq ( .region [
 oi 19 15 17 1, ol 20 19 1 false,
om 5 20]) (
.seq ( .region [
 oc 21 88 [(.c (.i .i64 1))], on 22 21, ⟨(some 23), .mv (.c (.i .i64 0)), none⟩]) ( .block 3 ( .loop c88_L1))))) ( .region [
 ob 34 .add (.t 17) (.c (.i .i64 1)),
om 17 34])))
def c88 : AFunc := ⟨39,
.seq ( .region [
 ⟨(some 2), .mv (.c .nilsl), none⟩]) (
.seq (
.seq ( .region [

om 8 0]) ( .block 0 (
.seq ( .region [
 ob 10 .eql (.t 8) (.c (.i .i64 1)),
om 9 10]) ( .cond (.t 9) (
.seq ( .region [
 ⟨(some 11), .bsl [(.s [])] 11 [(0, (.c (.s [108, 101, 103, 115]))), (1, (.c (.s [104, 101, 97, 100, 115]))), (2, (.c (.s [116, 121, 112, 101, 115]))), (3, (.c (.s [98, 108, 111, 99, 107]))), (4, (.c (.s [115, 112, 97, 110]))), (5, (.c (.s [110, 105, 103, 104, 116]))), (6, (.c (.s [108, 111, 110, 103, 101, 115, 116]))), (7, (.c (.s [115, 104, 111, 114, 116, 101, 115, 116]))), (8, (.c (.s [115, 104, 105, 102, 116]))), (9, (.c (.s [115, 116, 97, 114, 116]))), (10, (.c (.s [101, 110, 100])))], none⟩,
om 2 11]) ( .ret)) (
.seq ( .region [
 ob 13 .eql (.t 8) (.c (.i .i64 2)),
om 12 13]) ( .cond (.t 12) (
.seq ( .region [
 ⟨(some 14), .bsl [(.s [])] 3 [(0, (.c (.s [114, 101, 115, 116]))), (1, (.c (.s [110, 105, 103, 104, 116, 115]))), (2, (.c (.s [104, 111, 109, 101])))], none⟩,
om 3 14]) (
.seq (
.seq ( .region [
 ⟨(some 15), .bsl [(.s [])] 2 [(0, (.c (.s [98, 101, 102, 111, 114, 101, 46]))), (1, (.c (.s [97, 102, 116, 101, 114, 46])))], none⟩, on 16 15, ⟨(some 17), .mv (.c (.i .i64 0)), none⟩]) ( .block 1 ( .loop c88_L2))) (
.seq ( .region [

om 35 3,
om 2 35]) ( .ret)))) (
.seq ( .region [
 ob 37 .eql (.t 8) (.c (.i .i64 3)),
om 36 37]) ( .cond (.t 36) (
.seq ( .region [
 ⟨(some 38), .bsl [(.s [])] 7 [(0, (.c (.s [100, 117, 116, 105, 101, 115]))), (1, (.c (.s [108, 101, 103, 115]))), (2, (.c (.s [104, 101, 97, 100, 115]))), (3, (.c (.s [100, 97, 121, 115]))), (4, (.c (.s [98, 108, 111, 99, 107]))), (5, (.c (.s [115, 112, 97, 110]))), (6, (.c (.s [99, 114, 101, 100, 105, 116])))], none⟩,
om 2 38]) ( .ret)) ( .skip))))))))) (
.seq ( .region [
 ⟨(some 2), .mv (.c .nilsl), none⟩]) ( .ret))), [.tmp 2], false, none⟩
theorem k88 : CodeOk Tryz.prog 88 c88 := codeOk (hs := []) Tryz.func88 (by kernel_rfl)
def c89 : AFunc := ⟨23,
.seq ( .region [
 ⟨(some 4), .mv (.c (.i .i64 0)), none⟩,
⟨(some 5), .mv (.c (.i .i64 0)), none⟩]) (
.seq ( .region [
 ⟨(some 6), .mv (.c (.i .i64 0)), none⟩]) (
.seq (
.seq ( .region [

om 7 0]) ( .block 0 (
.seq ( .region [
 ob 9 .eql (.t 7) (.c (.i .i64 1)),
om 8 9]) ( .cond (.t 8) ( .region [

om 10 1, oc 11 133 [(.t 10)],
om 6 11]) (
.seq ( .region [
 ob 13 .eql (.t 7) (.c (.i .i64 2)),
om 12 13]) ( .cond (.t 12) ( .region [

om 14 1, oc 15 134 [(.t 14)],
om 6 15]) (
.seq ( .region [
 ob 17 .eql (.t 7) (.c (.i .i64 3)),
om 16 17]) ( .cond (.t 16) ( .region [

om 18 1, oc 19 135 [(.t 18)],
om 6 19]) ( .skip))))))))) (
.seq (
.seq ( .region [

om 20 6,
ob 21 .eql (.t 20) (.c (.i .i64 0))]) ( .cond (.t 21) (
.seq ( .region [
 ⟨(some 4), .mv (.c (.i .i64 0)), none⟩,
⟨(some 5), .mv (.c (.i .i64 6)), none⟩]) ( .ret)) ( .skip))) (
.seq ( .region [

om 22 6,
om 4 22, ⟨(some 5), .mv (.c (.i .i64 0)), none⟩]) ( .ret))))), [.tmp 4, .tmp 5], false, none⟩
theorem k89 : CodeOk Tryz.prog 89 c89 := codeOk (hs := []) Tryz.func89 (by kernel_rfl)
def c91_L1 : ACode :=
.seq ( .region [
 ob 66 .lss (.t 65) (.t 64)]) (
.seq ( .cond (.t 66) ( .skip) ( .exit 1)) (
.seq ( .block 2 (
.seq ( .region [

om 67 65, oi 68 63 65 4, ol 69 68 4 true, ⟨(some 11), .alloc [(.i .i64 0), (.i .i64 0), (.s []), .nilsl] false, none⟩,
om 10 67, ot 11 69 4]) ( .draws [ ([], oa 70 9 2), ([], ol 71 70 1 false), ([],
om 72 10), ([],
om 73 0), ([],
om 74 1), ([1], ol 75 11 4 true), ([1], oc 76 91 [(.t 73), (.t 74), (.t 75)]), ([], oi 77 71 72 3), ([], ot 77 76 3)]))) ( .region [
 ob 78 .add (.t 65) (.c (.i .i64 1)),
om 65 78])))
theorem c91_L1_w : wrM (wrC (.loop c91_L1)) = 604426016319167168252928 := nr rfl
def c91 : AFunc := ⟨80,
.seq ( .region [
 ⟨(some 5), .box (.t 2) false, none⟩,
⟨(some 6), .alloc [(.i .i64 0), (.i .i64 0), .nilsl] false, none⟩]) (
.seq (
.seq ( .region [
 oa 12 5 0, ol 13 12 1 false]) ( .block 0 (
.seq (
.seq ( .region [
 ob 15 .eql (.t 13) (.c (.i .i64 1)),
om 14 15]) ( .cond (.t 14) ( .skip) (
.seq ( .region [
 ob 16 .eql (.t 13) (.c (.i .i64 2)),
om 14 16]) ( .cond (.t 14) ( .skip) ( .region [
 ob 17 .eql (.t 13) (.c (.i .i64 3)),
om 14 17]))))) ( .cond (.t 14) (
.seq ( .region [
 oa 18 5 1, ol 19 18 1 false, ⟨(some 20), .build [(.i .i64 0), (.i .i64 0), .nilsl] [(0, 1, (.c (.i .i64 1))), (1, 1, (.t 19))], none⟩, ot 6 20 3]) ( .ret)) (
.seq ( .region [
 ob 22 .eql (.t 13) (.c (.i .i64 4)),
om 21 22]) ( .cond (.t 21) (
.seq ( .region [
 ⟨(some 23), .build [(.i .i64 0), (.i .i64 0), .nilsl] [(0, 1, (.c (.i .i64 1))), (1, 1, (.c (.i .i64 1)))], none⟩, ot 6 23 3]) ( .ret)) (
.seq ( .region [
 ob 25 .eql (.t 13) (.c (.i .i64 5)),
om 24 25]) ( .cond (.t 24) (
.seq ( .region [
 ⟨(some 26), .build [(.i .i64 0), (.i .i64 0), .nilsl] [(0, 1, (.c (.i .i64 1)))], none⟩, ot 6 26 3]) ( .ret)) (
.seq ( .region [
 ob 28 .eql (.t 13) (.c (.i .i64 6)),
om 27 28]) ( .cond (.t 27) (
.seq (
.seq ( .region [

om 29 1,
ob 30 .geq (.t 29) (.c (.i .i64 0)),
om 31 30, ⟨(some 32), .mv (.t 1), (some (31, true))⟩,
⟨(some 33), .bin .lss (.t 32) (.c (.i .i64 4)), (some (31, true))⟩,
⟨(some 34), .pick (.t 31) (.t 33) (.c (.b false)), none⟩]) ( .cond (.t 34) (
.seq ( .draws [ ([],
om 36 0), ([],
om 37 1), ([], ⟨(some 38), .nck (.t 36), none⟩),
([], oa 39 38 3), ([], ⟨(some 40), .iaA (.t 39) (.t 37) 4 1, none⟩),
([], ol 41 40 1 false), ([], oa 42 5 2), ([5], ol 43 42 1 false), ([], ⟨(some 44), .lk (.one .str) (.t 41) (.t 43) (.i .i64 0) true, none⟩),
([],
om 35 44), ([], oe 45 35 0), ([], oe 46 35 1), ([],
om 7 45), ([],
om 8 46)]) (
.seq ( .region [

om 47 8]) ( .cond (.t 47) (
.seq ( .region [

om 48 7, ⟨(some 49), .build [(.i .i64 0), (.i .i64 0), .nilsl] [(0, 1, (.c (.i .i64 6))), (1, 1, (.t 48))], none⟩, ot 6 49 3]) ( .ret)) ( .skip)))) ( .skip))) (
.seq ( .region [

om 50 0, oa 51 5 2, ol 52 51 1 false, oc 53 138 [(.t 50), (.t 52)], ⟨(some 54), .build [(.i .i64 0), (.i .i64 0), .nilsl] [(0, 1, (.c (.i .i64 1))), (1, 1, (.t 53))], none⟩, ot 6 54 3]) ( .ret))) ( .skip))))))))))) (
.seq ( .draws [ ([], oa 55 5 0), ([], ol 56 55 1 false), ([], oa 57 5 3), ([1], ol 58 57 1 false), ([], on 59 58), ([1], ⟨(some 60), .mksl [(.i .i64 0), (.i .i64 0), .nilsl] 40 (.t 59) false, none⟩),
([], ⟨(some 61), .build [(.i .i64 0), (.i .i64 0), .nilsl] [(0, 1, (.t 56)), (2, 1, (.t 60))], none⟩),
([1, 3, 5], ⟨(some 9), .alloc [(.i .i64 0), (.i .i64 0), .nilsl] false, none⟩),
([], ot 9 61 3)]) (
.seq (
.seq ( .region [
 oa 62 5 3, ol 63 62 1 false, on 64 63, ⟨(some 65), .mv (.c (.i .i64 0)), none⟩]) ( .block 1 ( .loop c91_L1))) (
.seq ( .region [
 ol 79 9 3 true, ot 6 79 3]) ( .ret))))), [.cell 6 3 true], false, none⟩
theorem k91 : CodeOk Tryz.prog 91 c91 := codeOk (hs := []) Tryz.func91 (by kernel_rfl)
def c92_L1 : ACode :=
.seq (
.seq ( .region [

om 61 6,
om 62 0, ⟨(some 63), .nck (.t 62), none⟩, oa 64 63 2, ol 65 64 1 false, on 66 65,
ob 67 .lss (.t 61) (.t 66)]) ( .cond (.t 67) ( .skip) ( .exit 1))) (
.seq ( .block 2 (
.seq ( .region [

om 70 0, ⟨(some 71), .nck (.t 70), none⟩, oa 72 71 2, ol 73 72 1 false,
om 74 6, oi 75 73 74 3,
om 76 1, oc 77 92 [(.t 75), (.t 76)],
om 7 77]) (
.seq ( .region [

om 78 0, ⟨(some 79), .nck (.t 78), none⟩, oa 80 79 0, ol 81 80 1 false,
ob 82 .eql (.t 81) (.c (.i .i64 12))]) ( .cond (.t 82) ( .region [

om 83 5,
om 84 7, ⟨(some 85), .mm false [(.t 83), (.t 84)], none⟩,
om 5 85]) ( .region [

om 86 5,
om 87 7, ⟨(some 88), .mm true [(.t 86), (.t 87)], none⟩,
om 5 88]))))) ( .region [

om 68 6,
ob 69 .add (.t 68) (.c (.i .i64 1)),
om 6 69]))
def c92 : AFunc := ⟨155,
.seq ( .region [
 ⟨(some 4), .mv (.c (.i .i64 0)), none⟩]) (
.seq (
.seq ( .region [

om 8 0, ⟨(some 9), .nck (.t 8), none⟩, oa 10 9 0, ol 11 10 1 false]) ( .block 0 (
.seq ( .region [
 ob 13 .eql (.t 11) (.c (.i .i64 1)),
om 12 13]) ( .cond (.t 12) (
.seq ( .region [

om 14 0, ⟨(some 15), .nck (.t 14), none⟩, oa 16 15 1, ol 17 16 1 false,
om 4 17]) ( .ret)) (
.seq ( .region [
 ob 19 .eql (.t 11) (.c (.i .i64 6)),
om 18 19]) ( .cond (.t 18) (
.seq ( .region [

om 20 1,
om 21 0, ⟨(some 22), .nck (.t 21), none⟩, oa 23 22 1, ol 24 23 1 false, oi 25 20 24 1, ol 26 25 1 false,
om 4 26]) ( .ret)) (
.seq ( .region [
 ob 28 .eql (.t 11) (.c (.i .i64 14)),
om 27 28]) ( .cond (.t 27) (
.seq (
.seq ( .region [

om 29 0, ⟨(some 30), .nck (.t 29), none⟩, oa 31 30 2, ol 32 31 1 false, ⟨(some 33), .ia (.t 32) (.c (.i .i64 0)) 3, none⟩,
om 34 1, oc 35 92 [(.t 33), (.t 34)],
ob 36 .neq (.t 35) (.c (.i .i64 0))]) ( .cond (.t 36) (
.seq ( .region [

om 37 0, ⟨(some 38), .nck (.t 37), none⟩, oa 39 38 2, ol 40 39 1 false, ⟨(some 41), .ia (.t 40) (.c (.i .i64 1)) 3, none⟩,
om 42 1, oc 43 92 [(.t 41), (.t 42)],
om 4 43]) ( .ret)) ( .skip))) (
.seq ( .region [

om 44 0, ⟨(some 45), .nck (.t 44), none⟩, oa 46 45 2, ol 47 46 1 false, ⟨(some 48), .ia (.t 47) (.c (.i .i64 2)) 3, none⟩,
om 49 1, oc 50 92 [(.t 48), (.t 49)],
om 4 50]) ( .ret))) (
.seq (
.seq ( .region [
 ob 52 .eql (.t 11) (.c (.i .i64 12)),
om 51 52]) ( .cond (.t 51) ( .skip) ( .region [
 ob 53 .eql (.t 11) (.c (.i .i64 13)),
om 51 53]))) ( .cond (.t 51) (
.seq ( .region [

om 54 0, ⟨(some 55), .nck (.t 54), none⟩, oa 56 55 2, ol 57 56 1 false, ⟨(some 58), .ia (.t 57) (.c (.i .i64 0)) 3, none⟩,
om 59 1, oc 60 92 [(.t 58), (.t 59)],
om 5 60]) (
.seq (
.seq ( .region [
 ⟨(some 6), .mv (.c (.i .i64 1)), none⟩]) ( .block 1 ( .loop c92_L1))) (
.seq ( .region [

om 89 5,
om 4 89]) ( .ret)))) (
.seq ( .region [
 ob 91 .eql (.t 11) (.c (.i .i64 15)),
om 90 91]) ( .cond (.t 90) (
.seq ( .draws [ ([],
om 92 0), ([], ⟨(some 93), .nck (.t 92), none⟩),
([], oa 94 93 2), ([], ol 95 94 1 false), ([], ⟨(some 96), .ia (.t 95) (.c (.i .i64 0)) 3, none⟩),
([],
om 97 1), ([], oc 98 92 [(.t 96), (.t 97)]), ([],
om 99 0), ([], ⟨(some 100), .nck (.t 99), none⟩),
([], oa 101 100 2), ([3, 6], ol 102 101 1 false), ([], ⟨(some 103), .ia (.t 102) (.c (.i .i64 1)) 3, none⟩),
([],
om 104 1), ([], oc 105 92 [(.t 103), (.t 104)]), ([],
om 106 0), ([], ⟨(some 107), .nck (.t 106), none⟩),
([], oa 108 107 2), ([3, 6, 10, 13], ol 109 108 1 false), ([], ⟨(some 110), .ia (.t 109) (.c (.i .i64 2)) 3, none⟩),
([],
om 111 1), ([], oc 112 92 [(.t 110), (.t 111)]), ([], oc 113 139 [(.t 98), (.t 105), (.t 112)]), ([], oc 114 136 [(.t 113)]), ([],
om 4 114)]) ( .ret)) (
.seq ( .region [
 ob 116 .eql (.t 11) (.c (.i .i64 7)),
om 115 116]) ( .cond (.t 115) (
.seq ( .region [

om 117 0, ⟨(some 118), .nck (.t 117), none⟩, oa 119 118 2, ol 120 119 1 false, ⟨(some 121), .ia (.t 120) (.c (.i .i64 0)) 3, none⟩,
om 122 1, oc 123 92 [(.t 121), (.t 122)], ⟨(some 124), .un .neg (.t 123), none⟩, oc 125 140 [(.c (.i .i64 0)), (.t 124)],
om 4 125]) ( .ret)) (
.seq ( .region [
 ob 127 .eql (.t 11) (.c (.i .i64 19)),
om 126 127]) ( .cond (.t 126) (
.seq ( .region [

om 128 0, ⟨(some 129), .nck (.t 128), none⟩, oa 130 129 2, ol 131 130 1 false, ⟨(some 132), .ia (.t 131) (.c (.i .i64 0)) 3, none⟩,
om 133 1, oc 134 92 [(.t 132), (.t 133)],
ob 135 .sub (.c (.i .i64 1)) (.t 134),
om 4 135]) ( .ret)) ( .skip))))))))))))))))) (
.seq ( .draws [ ([],
om 136 0), ([], ⟨(some 137), .nck (.t 136), none⟩),
([], oa 138 137 0), ([], ol 139 138 1 false), ([],
om 140 0), ([], ⟨(some 141), .nck (.t 140), none⟩),
([], oa 142 141 2), ([3], ol 143 142 1 false), ([], ⟨(some 144), .ia (.t 143) (.c (.i .i64 0)) 3, none⟩),
([],
om 145 1), ([3], oc 146 92 [(.t 144), (.t 145)]), ([],
om 147 0), ([], ⟨(some 148), .nck (.t 147), none⟩),
([], oa 149 148 2), ([3, 7, 10], ol 150 149 1 false), ([], ⟨(some 151), .ia (.t 150) (.c (.i .i64 1)) 3, none⟩),
([],
om 152 1), ([3], oc 153 92 [(.t 151), (.t 152)]), ([], oc 154 141 [(.t 139), (.t 146), (.t 153)]), ([],
om 4 154)]) ( .ret))), [.tmp 4], false, none⟩
theorem k92 : CodeOk Tryz.prog 92 c92 := codeOk (hs := []) Tryz.func92 (by kernel_rfl)
end Go.Proofs.YtfenhjpkomldcaaGreat
