/- The codes of functions of the program, as the evaluator reads them; that each is what its compiler makes of the model's function. Conditions: none. -/
import Derived.Test.YtfenhjpkomldcaaGreatEvF
import Derived.Test.YtfenhjpkomldcaaGreatChecked
import Derived.KernelRfl
set_option maxRecDepth 100000
namespace Go.Proofs.YtfenhjpkomldcaaGreat
open Go Go.Ev
def c7_R7 : ACode :=
.seq ( .region [
 ⟨(some 52), .mv (.t 13), none⟩,
⟨(some 53), .mv (.t 15), none⟩,
⟨(some 54), .bin .eql (.t 52) (.t 53), none⟩,
⟨(some 55), .mv (.t 54), none⟩,
⟨(some 56), .mv (.t 12), (some (55, true))⟩,
⟨(some 57), .mv (.t 14), (some (55, true))⟩,
⟨(some 58), .callf 36 [(.t 56), (.t 57)], (some (55, true))⟩,
⟨(some 59), .pick (.t 55) (.t 58) (.c (.b false)), none⟩,
⟨(some 60), .mv (.t 59), none⟩,
⟨(some 61), .callf 32 [], (some (60, true))⟩,
⟨(some 62), .pick (.t 60) (.t 61) (.c (.b false)), none⟩,
⟨(some 8), .mv (.t 62), none⟩]) (.ret)
def c7_R6 : ACode :=
.seq ( .region [
 ⟨(some 46), .ld (.t 10) 3 true, none⟩,
⟨(some 47), .ld (.t 9) 14 true, none⟩,
⟨(some 48), .mv (.t 11), none⟩,
⟨(some 49), .callf 35 [(.t 46), (.t 47), (.t 48)], none⟩,
⟨(some 45), .mv (.t 49), none⟩,
⟨(some 50), .ext (.t 45) 0, none⟩,
⟨(some 51), .ext (.t 45) 1, none⟩,
⟨(some 14), .mv (.t 50), none⟩,
⟨(some 15), .mv (.t 51), none⟩]) c7_R7
def c7_R5 : ACode :=
.seq ( .region [
 ⟨(some 39), .ld (.t 10) 3 true, none⟩,
⟨(some 40), .ld (.t 9) 14 true, none⟩,
⟨(some 41), .mv (.t 11), none⟩,
⟨(some 42), .callf 34 [(.t 39), (.t 40), (.t 41)], none⟩,
⟨(some 38), .mv (.t 42), none⟩,
⟨(some 43), .ext (.t 38) 0, none⟩,
⟨(some 44), .ext (.t 38) 1, none⟩,
⟨(some 12), .mv (.t 43), none⟩,
⟨(some 13), .mv (.t 44), none⟩]) c7_R6
def c7_R4 : ACode :=
.seq (
.seq ( .region [
 ⟨(some 30), .mv (.t 3), none⟩,
⟨(some 31), .bin .shr (.t 30) (.c (.i .u64 24)), none⟩,
⟨(some 32), .bin .and (.t 31) (.c (.i .i64 15)), none⟩,
⟨(some 33), .bin .eql (.t 32) (.c (.i .i64 15)), none⟩]) ( .cond (.t 33) ( .region [
 ⟨(some 34), .fa (.t 9) 12, none⟩,
⟨(some 35), .ld (.t 34) 1 false, none⟩,
⟨(some 36), .ia (.t 35) (.c (.i .i64 0)) 3, none⟩,
⟨(some 37), .fa (.t 36) 2, none⟩,
⟨none, .st (.t 37) (.c (.i .i64 0)) 1, none⟩]) ( .skip))) c7_R5
def c7_R3 : ACode :=
.seq (
.seq ( .region [
 ⟨(some 25), .mv (.t 3), none⟩,
⟨(some 26), .bin .shr (.t 25) (.c (.i .u64 20)), none⟩,
⟨(some 27), .bin .and (.t 26) (.c (.i .i64 15)), none⟩,
⟨(some 28), .bin .eql (.t 27) (.c (.i .i64 15)), none⟩]) ( .cond (.t 28) ( .region [
 ⟨(some 29), .fa (.t 10) 1, none⟩,
⟨none, .st (.t 29) (.c (.i .i64 1000)) 1, none⟩]) ( .skip))) c7_R4
def c7_R2 : ACode :=
.seq ( .region [
 ⟨(some 20), .ld (.t 9) 14 true, none⟩,
⟨(some 21), .mv (.t 0), none⟩,
⟨(some 22), .callf 28 [(.t 20), (.t 21)], none⟩,
⟨(some 23), .mv (.t 1), none⟩,
⟨(some 24), .callf 29 [(.t 22), (.t 23)], none⟩,
⟨(some 11), .mv (.t 24), none⟩]) c7_R3
def c7_R1 : ACode :=
.seq ( .region [
 ⟨(some 16), .mv (.t 2), none⟩,
⟨(some 17), .callf 27 [(.t 16)], none⟩,
⟨(some 18), .mv (.t 3), none⟩,
⟨(some 19), .callf 33 [(.t 18)], none⟩,
⟨(some 9), .alloc [(.i .i64 0), (.i .i64 0), (.i .i64 0), (.i .i64 0), (.i .i64 0), (.i .i64 0), (.i .i64 0), .nilsl, .nilsl, .nilsl, .nilsl, .nilsl, .nilsl, (.i .i64 0)] false, none⟩,
⟨(some 10), .alloc [(.s []), (.i .i64 0), .nilsl] false, none⟩,
⟨none, .st (.t 9) (.t 17) 14, none⟩,
⟨none, .st (.t 10) (.t 19) 3, none⟩]) c7_R2
def c7 : AFunc := ⟨63,
.seq ( .region [
 ⟨(some 8), .mv (.c (.b false)), none⟩]) c7_R1, [.tmp 8], false, none⟩
theorem k7 : CodeOk Tryz.prog 7 c7 := codeOk (hs := []) Tryz.func7 (by kernel_rfl)
def c27_L1 : ACode :=
.seq (
.seq ( .region [
 ⟨(some 45), .mv (.t 5), none⟩,
⟨(some 46), .fa (.t 3) 12, none⟩,
⟨(some 47), .ld (.t 46) 1 false, none⟩,
⟨(some 48), .lenV (.t 47), none⟩,
⟨(some 49), .bin .lss (.t 45) (.t 48), none⟩]) ( .cond (.t 49) ( .skip) ( .exit 2))) (
.seq ( .block 3 (
.seq ( .region [
 ⟨(some 52), .fa (.t 3) 12, none⟩,
⟨(some 53), .ld (.t 52) 1 false, none⟩,
⟨(some 54), .mv (.t 5), none⟩,
⟨(some 55), .mv (.t 0), none⟩,
⟨(some 56), .bin .shr (.t 55) (.c (.i .u64 6)), none⟩,
⟨(some 57), .bin .and (.t 56) (.c (.i .i64 3)), none⟩,
⟨(some 58), .bin .add (.c (.i .i64 1)) (.t 57), none⟩,
⟨(some 59), .ia (.t 53) (.t 54) 3, none⟩,
⟨(some 60), .fa (.t 59) 2, none⟩,
⟨none, .st (.t 60) (.t 58) 1, none⟩]) ( .draws [ ([], ⟨(some 61), .fa (.t 3) 12, none⟩),
([], ⟨(some 62), .ld (.t 61) 1 false, none⟩),
([], ⟨(some 63), .mv (.t 5), none⟩),
([], ⟨(some 64), .mv (.t 0), none⟩),
([], ⟨(some 65), .bin .shr (.t 64) (.c (.i .u64 8)), none⟩),
([], ⟨(some 66), .bin .and (.t 65) (.c (.i .i64 3)), none⟩),
([], ⟨(some 67), .fa (.t 3) 12, none⟩),
([1], ⟨(some 68), .ld (.t 67) 1 false, none⟩),
([], ⟨(some 69), .mv (.t 5), none⟩),
([], ⟨(some 70), .ia (.t 68) (.t 69) 3, none⟩),
([], ⟨(some 71), .fa (.t 70) 2, none⟩),
([1], ⟨(some 72), .ld (.t 71) 1 false, none⟩),
([], ⟨(some 73), .bin .rem (.t 66) (.t 72), none⟩),
([], ⟨(some 74), .bin .add (.c (.i .i64 1)) (.t 73), none⟩),
([], ⟨(some 75), .ia (.t 62) (.t 63) 3, none⟩),
([], ⟨(some 76), .fa (.t 75) 1, none⟩),
([], ⟨none, .st (.t 76) (.t 74) 1, none⟩)]))) ( .region [
 ⟨(some 50), .mv (.t 5), none⟩,
⟨(some 51), .bin .add (.t 50) (.c (.i .i64 1)), none⟩,
⟨(some 5), .mv (.t 51), none⟩]))
def c27_L2 : ACode :=
.seq (
.seq ( .region [
 ⟨(some 15), .mv (.t 4), none⟩,
⟨(some 16), .fa (.t 3) 11, none⟩,
⟨(some 17), .ld (.t 16) 1 false, none⟩,
⟨(some 18), .lenV (.t 17), none⟩,
⟨(some 19), .bin .lss (.t 15) (.t 18), none⟩]) ( .cond (.t 19) ( .skip) ( .exit 0))) (
.seq ( .block 1 ( .draws [ ([], ⟨(some 22), .fa (.t 3) 11, none⟩),
([], ⟨(some 23), .ld (.t 22) 1 false, none⟩),
([], ⟨(some 24), .mv (.t 4), none⟩),
([], ⟨(some 25), .fa (.t 3) 11, none⟩),
([1], ⟨(some 26), .ld (.t 25) 1 false, none⟩),
([], ⟨(some 27), .mv (.t 4), none⟩),
([], ⟨(some 28), .mv (.t 0), none⟩),
([], ⟨(some 29), .mv (.t 4), none⟩),
([], ⟨(some 30), .bin .mul (.c (.i .i64 2)) (.t 29), none⟩),
([], ⟨(some 31), .cvi .u64 (.t 30), none⟩),
([], ⟨(some 32), .bin .shr (.t 28) (.t 31), none⟩),
([], ⟨(some 33), .bin .and (.t 32) (.c (.i .i64 1023)), none⟩),
([], ⟨(some 34), .mv (.t 0), none⟩),
([], ⟨(some 35), .mv (.t 4), none⟩),
([], ⟨(some 36), .bin .add (.c (.i .i64 3)) (.t 35), none⟩),
([], ⟨(some 37), .cvi .u64 (.t 36), none⟩),
([], ⟨(some 38), .bin .shr (.t 34) (.t 37), none⟩),
([], ⟨(some 39), .bin .and (.t 38) (.c (.i .i64 3)), none⟩),
([], ⟨(some 40), .bin .add (.c (.i .i64 1)) (.t 39), none⟩),
([], ⟨(some 41), .ia (.t 23) (.t 24) 4, none⟩),
([], ⟨(some 42), .fa (.t 41) 2, none⟩),
([4], ⟨none, .st (.t 42) (.t 33) 1, none⟩),
([], ⟨(some 43), .ia (.t 26) (.t 27) 4, none⟩),
([], ⟨(some 44), .fa (.t 43) 3, none⟩),
([], ⟨none, .st (.t 44) (.t 40) 1, none⟩)])) ( .region [
 ⟨(some 20), .mv (.t 4), none⟩,
⟨(some 21), .bin .add (.t 20) (.c (.i .i64 1)), none⟩,
⟨(some 4), .mv (.t 21), none⟩]))
def c27 : AFunc := ⟨78,
.seq ( .region [
 ⟨(some 2), .alloc [(.i .i64 0), (.i .i64 0), (.i .i64 0), (.i .i64 0), (.i .i64 0), (.i .i64 0), (.i .i64 0), .nilsl, .nilsl, .nilsl, .nilsl, .nilsl, .nilsl, (.i .i64 0)] false, none⟩]) (
.seq ( .region [
 ⟨(some 6), .callf 38 [(.c (.i .i64 3))], none⟩,
⟨(some 3), .alloc [(.i .i64 0), (.i .i64 0), (.i .i64 0), (.i .i64 0), (.i .i64 0), (.i .i64 0), (.i .i64 0), .nilsl, .nilsl, .nilsl, .nilsl, .nilsl, .nilsl, (.i .i64 0)] false, none⟩,
⟨none, .st (.t 3) (.t 6) 14, none⟩]) (
.seq ( .region [
 ⟨(some 7), .fa (.t 3) 11, none⟩,
⟨(some 8), .ld (.t 7) 1 false, none⟩,
⟨(some 9), .app 4 48 (.c .nilsl) (.t 8) false false, none⟩,
⟨(some 10), .fa (.t 3) 11, none⟩,
⟨none, .st (.t 10) (.t 9) 1, none⟩]) (
.seq ( .region [
 ⟨(some 11), .fa (.t 3) 12, none⟩,
⟨(some 12), .ld (.t 11) 1 false, none⟩,
⟨(some 13), .app 3 32 (.c .nilsl) (.t 12) true false, none⟩,
⟨(some 14), .fa (.t 3) 12, none⟩,
⟨none, .st (.t 14) (.t 13) 1, none⟩]) (
.seq (
.seq ( .region [
 ⟨(some 4), .mv (.c (.i .i64 0)), none⟩]) ( .block 0 ( .loop c27_L2))) (
.seq (
.seq ( .region [
 ⟨(some 5), .mv (.c (.i .i64 0)), none⟩]) ( .block 2 ( .loop c27_L1))) (
.seq ( .region [
 ⟨(some 77), .ld (.t 3) 14 true, none⟩,
⟨none, .st (.t 2) (.t 77) 14, none⟩]) ( .ret))))))), [.cell 2 14 true], true, none⟩
theorem k27 : CodeOk Tryz.prog 27 c27 := codeOk (hs := [13]) Tryz.func27 (by kernel_rfl)
def c28_L1 : ACode :=
.seq (
.seq ( .region [
 ⟨(some 41), .mv (.t 10), none⟩,
⟨(some 42), .fa (.t 2) 11, none⟩,
⟨(some 43), .ld (.t 42) 1 false, none⟩,
⟨(some 44), .lenV (.t 43), none⟩,
⟨(some 45), .bin .lss (.t 41) (.t 44), none⟩]) ( .cond (.t 45) ( .skip) ( .exit 2))) (
.seq ( .block 3 ( .region [
 ⟨(some 48), .fa (.t 9) 2, none⟩,
⟨(some 49), .ld (.t 48) 1 false, none⟩,
⟨(some 50), .mv (.t 8), none⟩,
⟨(some 51), .mv (.t 10), none⟩,
⟨(some 52), .cvi .u64 (.t 51), none⟩,
⟨(some 53), .bin .add (.c (.i .u64 4)) (.t 52), none⟩,
⟨(some 54), .bin .shr (.t 50) (.t 53), none⟩,
⟨(some 55), .bin .and (.t 54) (.c (.i .i64 511)), none⟩,
⟨(some 56), .bsl [(.i .i64 0)] 1 [(0, (.t 55))], none⟩,
⟨(some 57), .app 1 8 (.t 49) (.t 56) false false, none⟩,
⟨(some 58), .fa (.t 9) 2, none⟩,
⟨none, .st (.t 58) (.t 57) 1, none⟩])) ( .region [
 ⟨(some 46), .mv (.t 10), none⟩,
⟨(some 47), .bin .add (.t 46) (.c (.i .i64 1)), none⟩,
⟨(some 10), .mv (.t 47), none⟩]))
theorem c28_L1_w : wrM (wrC (.loop c28_L1)) = 576458553280168960 := nr rfl
def c28_L2 : ACode :=
.seq (
.seq ( .region [
 ⟨(some 11), .mv (.t 7), none⟩,
⟨(some 12), .mv (.t 1), none⟩,
⟨(some 13), .callf 66 [(.t 12), (.c (.i .i64 0))], none⟩,
⟨(some 14), .bin .rem (.t 13) (.c (.i .i64 7)), none⟩,
⟨(some 15), .bin .lss (.t 11) (.t 14), none⟩]) ( .cond (.t 15) ( .skip) ( .exit 0))) (
.seq ( .block 1 (
.seq ( .region [
 ⟨(some 18), .mv (.t 1), none⟩,
⟨(some 19), .mv (.t 7), none⟩,
⟨(some 20), .bin .add (.c (.i .i64 1)) (.t 19), none⟩,
⟨(some 21), .callf 66 [(.t 18), (.t 20)], none⟩,
⟨(some 8), .mv (.t 21), none⟩]) (
.seq ( .region [
 ⟨(some 22), .mv (.t 6), none⟩,
⟨(some 23), .bsl [(.i .i64 0)] 8 [(0, (.c (.i .i64 0))), (1, (.c (.i .i64 300))), (2, (.c (.i .i64 700))), (3, (.c (.i .i64 1440))), (4, (.c (.i .i64 2000))), (5, (.c (.i .i64 90))), (6, (.c (.i .i64 4000))), (7, (.c (.i .i64 600)))], none⟩,
⟨(some 24), .mv (.t 8), none⟩,
⟨(some 25), .bin .and (.t 24) (.c (.i .i64 7)), none⟩,
⟨(some 26), .ia (.t 23) (.t 25) 1, none⟩,
⟨(some 27), .ld (.t 26) 1 false, none⟩,
⟨(some 28), .bin .add (.t 22) (.t 27), none⟩,
⟨(some 6), .mv (.t 28), none⟩]) (
.seq ( .region [
 ⟨(some 29), .mv (.t 6), none⟩,
⟨(some 30), .mv (.t 6), none⟩,
⟨(some 31), .bin .add (.t 30) (.c (.i .i64 60)), none⟩,
⟨(some 32), .mv (.t 8), none⟩,
⟨(some 33), .bin .shr (.t 32) (.c (.i .u64 3)), none⟩,
⟨(some 34), .bin .and (.t 33) (.c (.i .i64 511)), none⟩,
⟨(some 35), .bin .add (.t 31) (.t 34), none⟩,
⟨(some 36), .build [(.i .i64 0), (.i .i64 0)] [(0, 1, (.t 29)), (1, 1, (.t 35))], none⟩,
⟨(some 37), .build [(.i .i64 0), (.i .i64 0), .nilsl] [(0, 2, (.t 36))], none⟩,
⟨(some 9), .alloc [(.i .i64 0), (.i .i64 0), .nilsl] false, none⟩,
⟨none, .st (.t 9) (.t 37) 3, none⟩]) (
.seq ( .region [
 ⟨(some 38), .fa (.t 9) 0, none⟩,
⟨(some 39), .fa (.t 38) 1, none⟩,
⟨(some 40), .ld (.t 39) 1 false, none⟩,
⟨(some 6), .mv (.t 40), none⟩]) (
.seq (
.seq ( .region [
 ⟨(some 10), .mv (.c (.i .i64 0)), none⟩]) ( .block 2 ( .loop c28_L1))) ( .region [
 ⟨(some 59), .mv (.t 5), none⟩,
⟨(some 60), .ld (.t 9) 3 true, none⟩,
⟨(some 61), .bsl [(.i .i64 0), (.i .i64 0), .nilsl] 1 [(0, (.t 60))], none⟩,
⟨(some 62), .app 3 40 (.t 59) (.t 61) false false, none⟩,
⟨(some 5), .mv (.t 62), none⟩]))))))) ( .region [
 ⟨(some 16), .mv (.t 7), none⟩,
⟨(some 17), .bin .add (.t 16) (.c (.i .i64 1)), none⟩,
⟨(some 7), .mv (.t 17), none⟩]))
def c28 : AFunc := ⟨64,
.seq ( .region [
 ⟨(some 2), .box (.t 0) false, none⟩,
⟨(some 4), .mv (.c .nilsl), none⟩]) (
.seq ( .region [
 ⟨(some 5), .mv (.c .nilsl), none⟩]) (
.seq ( .region [
 ⟨(some 6), .mv (.c (.i .i64 12960360)), none⟩]) (
.seq (
.seq ( .region [
 ⟨(some 7), .mv (.c (.i .i64 0)), none⟩]) ( .block 0 ( .loop c28_L2))) (
.seq ( .region [
 ⟨(some 63), .mv (.t 5), none⟩,
⟨(some 4), .mv (.t 63), none⟩]) ( .ret))))), [.tmp 4], true, none⟩
theorem k28 : CodeOk Tryz.prog 28 c28 := codeOk (hs := []) Tryz.func28 (by kernel_rfl)
def c29 : AFunc := ⟨98,
.seq ( .region [
 ⟨(some 4), .mv (.c .nilsl), none⟩]) (
.seq ( .region [
 ⟨(some 8), .mv (.t 0), none⟩,
⟨(some 9), .app 3 40 (.c .nilsl) (.t 8) false true, none⟩,
⟨(some 5), .mv (.t 9), none⟩]) (
.seq (
.seq ( .region [
 ⟨(some 10), .mv (.t 5), none⟩,
⟨(some 11), .lenV (.t 10), none⟩,
⟨(some 12), .bin .eql (.t 11) (.c (.i .i64 0)), none⟩]) ( .cond (.t 12) (
.seq ( .region [
 ⟨(some 13), .mv (.t 5), none⟩,
⟨(some 4), .mv (.t 13), none⟩]) ( .ret)) ( .skip))) (
.seq ( .region [
 ⟨(some 14), .mv (.t 1), none⟩,
⟨(some 15), .callf 66 [(.t 14), (.c (.i .i64 1))], none⟩,
⟨(some 6), .mv (.t 15), none⟩]) (
.seq ( .region [
 ⟨(some 16), .mv (.t 5), none⟩,
⟨(some 17), .mv (.t 6), none⟩,
⟨(some 18), .mv (.t 5), none⟩,
⟨(some 19), .lenV (.t 18), none⟩,
⟨(some 20), .bin .rem (.t 17) (.t 19), none⟩,
⟨(some 21), .ia (.t 16) (.t 20) 3, none⟩,
⟨(some 7), .mv (.t 21), none⟩]) (
.seq ( .region [
 ⟨(some 22), .mv (.t 7), none⟩,
⟨(some 23), .mv (.t 7), none⟩,
⟨(some 24), .nck (.t 23), none⟩,
⟨(some 25), .fa (.t 24) 2, none⟩,
⟨(some 26), .ld (.t 25) 1 false, none⟩,
⟨(some 27), .app 1 8 (.c .nilsl) (.t 26) false false, none⟩,
⟨(some 28), .nck (.t 22), none⟩,
⟨(some 29), .fa (.t 28) 2, none⟩,
⟨none, .st (.t 29) (.t 27) 1, none⟩]) (
.seq (
.seq ( .region [
 ⟨(some 30), .mv (.t 1), none⟩,
⟨(some 31), .callf 66 [(.t 30), (.c (.i .i64 0))], none⟩,
⟨(some 32), .bin .rem (.t 31) (.c (.i .i64 12)), none⟩]) ( .block 0 (
.seq ( .region [
 ⟨(some 34), .bin .eql (.t 32) (.c (.i .i64 0)), none⟩,
⟨(some 33), .mv (.t 34), none⟩]) ( .cond (.t 33) ( .region [
 ⟨(some 35), .mv (.t 7), none⟩,
⟨(some 36), .mv (.t 6), none⟩,
⟨(some 37), .bin .rem (.t 36) (.c (.i .i64 3)), none⟩,
⟨(some 38), .bin .sub (.t 37) (.c (.i .i64 2)), none⟩,
⟨(some 39), .nck (.t 35), none⟩,
⟨(some 40), .fa (.t 39) 0, none⟩,
⟨(some 41), .fa (.t 40) 0, none⟩,
⟨none, .st (.t 41) (.t 38) 1, none⟩]) (
.seq ( .region [
 ⟨(some 43), .bin .eql (.t 32) (.c (.i .i64 1)), none⟩,
⟨(some 42), .mv (.t 43), none⟩]) ( .cond (.t 42) ( .region [
 ⟨(some 44), .mv (.t 7), none⟩,
⟨(some 45), .mv (.t 7), none⟩,
⟨(some 46), .nck (.t 45), none⟩,
⟨(some 47), .fa (.t 46) 0, none⟩,
⟨(some 48), .fa (.t 47) 0, none⟩,
⟨(some 49), .ld (.t 48) 1 false, none⟩,
⟨(some 50), .nck (.t 44), none⟩,
⟨(some 51), .fa (.t 50) 0, none⟩,
⟨(some 52), .fa (.t 51) 1, none⟩,
⟨none, .st (.t 52) (.t 49) 1, none⟩]) (
.seq ( .region [
 ⟨(some 54), .bin .eql (.t 32) (.c (.i .i64 2)), none⟩,
⟨(some 53), .mv (.t 54), none⟩]) ( .cond (.t 53) ( .region [
 ⟨(some 55), .mv (.t 7), none⟩,
⟨(some 56), .mv (.t 6), none⟩,
⟨(some 57), .bin .rem (.t 56) (.c (.i .i64 2)), none⟩,
⟨(some 58), .bin .add (.c (.i .i64 52596000)) (.t 57), none⟩,
⟨(some 59), .nck (.t 55), none⟩,
⟨(some 60), .fa (.t 59) 0, none⟩,
⟨(some 61), .fa (.t 60) 1, none⟩,
⟨none, .st (.t 61) (.t 58) 1, none⟩]) (
.seq ( .region [
 ⟨(some 63), .bin .eql (.t 32) (.c (.i .i64 3)), none⟩,
⟨(some 62), .mv (.t 63), none⟩]) ( .cond (.t 62) ( .region [
 ⟨(some 64), .mv (.t 7), none⟩,
⟨(some 65), .mv (.t 7), none⟩,
⟨(some 66), .nck (.t 65), none⟩,
⟨(some 67), .fa (.t 66) 2, none⟩,
⟨(some 68), .ld (.t 67) 1 false, none⟩,
⟨(some 69), .bsl [(.i .i64 0)] 1 [(0, (.c (.i .i64 0)))], none⟩,
⟨(some 70), .app 1 8 (.t 68) (.t 69) false false, none⟩,
⟨(some 71), .nck (.t 64), none⟩,
⟨(some 72), .fa (.t 71) 2, none⟩,
⟨none, .st (.t 72) (.t 70) 1, none⟩]) (
.seq ( .region [
 ⟨(some 74), .bin .eql (.t 32) (.c (.i .i64 4)), none⟩,
⟨(some 73), .mv (.t 74), none⟩]) ( .cond (.t 73) ( .draws [ ([], ⟨(some 75), .mv (.t 7), none⟩),
([], ⟨(some 76), .nck (.t 75), none⟩),
([], ⟨(some 77), .fa (.t 76) 2, none⟩),
([], ⟨(some 78), .ld (.t 77) 1 false, none⟩),
([3], ⟨(some 79), .bsl [(.i .i64 0)] 4 [(0, (.c (.i .i64 1099511627776))), (1, (.c (.i .i64 1099511627777))), (2, (.c (.i .i64 (-1099511627776)))), (3, (.c (.i .i64 (-1099511627777))))], none⟩),
([], ⟨(some 80), .mv (.t 6), none⟩),
([], ⟨(some 81), .bin .shr (.t 80) (.c (.i .u64 3)), none⟩),
([], ⟨(some 82), .bin .and (.t 81) (.c (.i .i64 3)), none⟩),
([], ⟨(some 83), .ia (.t 79) (.t 82) 1, none⟩),
([3], ⟨(some 84), .ld (.t 83) 1 false, none⟩),
([], ⟨(some 85), .ia (.t 78) (.c (.i .i64 0)) 1, none⟩),
([], ⟨none, .st (.t 85) (.t 84) 1, none⟩)]) (
.seq ( .region [
 ⟨(some 87), .bin .eql (.t 32) (.c (.i .i64 5)), none⟩,
⟨(some 86), .mv (.t 87), none⟩]) ( .cond (.t 86) ( .region [
 ⟨(some 88), .mv (.t 7), none⟩,
⟨(some 89), .nck (.t 88), none⟩,
⟨(some 90), .fa (.t 89) 0, none⟩,
⟨(some 91), .fa (.t 90) 0, none⟩,
⟨(some 92), .ld (.t 91) 1 false, none⟩,
⟨(some 93), .bin .sub (.t 92) (.c (.i .i64 5000)), none⟩,
⟨(some 94), .nck (.t 88), none⟩,
⟨(some 95), .fa (.t 94) 0, none⟩,
⟨(some 96), .fa (.t 95) 0, none⟩,
⟨none, .st (.t 96) (.t 93) 1, none⟩]) ( .skip))))))))))))))) (
.seq ( .region [
 ⟨(some 97), .mv (.t 5), none⟩,
⟨(some 4), .mv (.t 97), none⟩]) ( .ret)))))))), [.tmp 4], false, none⟩
theorem k29 : CodeOk Tryz.prog 29 c29 := codeOk (hs := [100009]) Tryz.func29 (by kernel_rfl)
def c30_L1 : ACode :=
.seq ( .region [
 ⟨(some 49), .bin .lss (.t 48) (.t 47), none⟩]) (
.seq ( .cond (.t 49) ( .skip) ( .exit 2)) (
.seq ( .block 3 (
.seq ( .region [
 ⟨(some 50), .ia (.t 46) (.t 48) 1, none⟩,
⟨(some 51), .ld (.t 50) 1 false, none⟩,
⟨(some 8), .mv (.t 51), none⟩]) (
.seq ( .region [
 ⟨(some 52), .mv (.t 8), none⟩,
⟨(some 53), .bin .lss (.t 52) (.c (.i .i64 (-1099511627776))), none⟩,
⟨(some 54), .mv (.t 53), none⟩,
⟨(some 55), .mv (.t 8), (some (54, false))⟩,
⟨(some 56), .bin .gtr (.t 55) (.c (.i .i64 1099511627776)), (some (54, false))⟩,
⟨(some 57), .pick (.t 54) (.c (.b true)) (.t 56), none⟩]) ( .cond (.t 57) (
.seq ( .region [
 ⟨(some 4), .mv (.c (.i .i64 5)), none⟩]) ( .ret)) ( .skip))))) ( .region [
 ⟨(some 58), .bin .add (.t 48) (.c (.i .i64 1)), none⟩,
⟨(some 48), .mv (.t 58), none⟩])))
theorem c30_L1_w : wrM (wrC (.loop c30_L1)) = 576179277326713104 := nr rfl
def c30_L2 : ACode :=
.seq ( .region [
 ⟨(some 15), .bin .lss (.t 14) (.t 13), none⟩]) (
.seq ( .cond (.t 15) ( .skip) ( .exit 0)) (
.seq ( .block 1 (
.seq ( .region [
 ⟨(some 16), .mv (.t 14), none⟩,
⟨(some 17), .ia (.t 12) (.t 14) 3, none⟩,
⟨(some 18), .ld (.t 17) 3 true, none⟩,
⟨(some 6), .alloc [(.i .i64 0), (.i .i64 0), .nilsl] false, none⟩,
⟨(some 5), .mv (.t 16), none⟩,
⟨none, .st (.t 6) (.t 18) 3, none⟩]) (
.seq (
.seq ( .region [
 ⟨(some 19), .fa (.t 6) 0, none⟩,
⟨(some 20), .fa (.t 19) 0, none⟩,
⟨(some 21), .ld (.t 20) 1 false, none⟩,
⟨(some 22), .bin .lss (.t 21) (.c (.i .i64 0)), none⟩,
⟨(some 23), .mv (.t 22), none⟩,
⟨(some 24), .fa (.t 6) 0, (some (23, false))⟩,
⟨(some 25), .fa (.t 24) 0, (some (23, false))⟩,
⟨(some 26), .ld (.t 25) 1 false, (some (23, false))⟩,
⟨(some 27), .fa (.t 6) 0, (some (23, false))⟩,
⟨(some 28), .fa (.t 27) 1, (some (23, false))⟩,
⟨(some 29), .ld (.t 28) 1 false, (some (23, false))⟩,
⟨(some 30), .bin .geq (.t 26) (.t 29), (some (23, false))⟩,
⟨(some 31), .pick (.t 23) (.c (.b true)) (.t 30), none⟩,
⟨(some 32), .mv (.t 31), none⟩,
⟨(some 33), .fa (.t 6) 0, (some (32, false))⟩,
⟨(some 34), .fa (.t 33) 1, (some (32, false))⟩,
⟨(some 35), .ld (.t 34) 1 false, (some (32, false))⟩,
⟨(some 36), .bin .gtr (.t 35) (.c (.i .i64 52596000)), (some (32, false))⟩,
⟨(some 37), .pick (.t 32) (.c (.b true)) (.t 36), none⟩]) ( .cond (.t 37) (
.seq ( .region [
 ⟨(some 4), .mv (.c (.i .i64 5)), none⟩]) ( .ret)) ( .skip))) (
.seq (
.seq ( .region [
 ⟨(some 38), .fa (.t 6) 2, none⟩,
⟨(some 39), .ld (.t 38) 1 false, none⟩,
⟨(some 40), .lenV (.t 39), none⟩,
⟨(some 41), .fa (.t 2) 11, none⟩,
⟨(some 42), .ld (.t 41) 1 false, none⟩,
⟨(some 43), .lenV (.t 42), none⟩,
⟨(some 44), .bin .neq (.t 40) (.t 43), none⟩]) ( .cond (.t 44) (
.seq ( .region [
 ⟨(some 4), .mv (.c (.i .i64 12)), none⟩]) ( .ret)) ( .skip))) (
.seq (
.seq ( .region [
 ⟨(some 45), .fa (.t 6) 2, none⟩,
⟨(some 46), .ld (.t 45) 1 false, none⟩,
⟨(some 47), .lenV (.t 46), none⟩,
⟨(some 48), .mv (.c (.i .i64 0)), none⟩]) ( .block 2 ( .loop c30_L1))) (
.seq ( .draws [ ([], ⟨(some 59), .mv (.t 5), none⟩),
([], ⟨(some 60), .bin .gtr (.t 59) (.c (.i .i64 0)), none⟩),
([], ⟨(some 61), .mv (.t 60), none⟩),
([], ⟨(some 62), .fa (.t 6) 0, (some (61, true))⟩),
([], ⟨(some 63), .fa (.t 62) 0, (some (61, true))⟩),
([], ⟨(some 64), .ld (.t 63) 1 false, (some (61, true))⟩),
([], ⟨(some 65), .mv (.t 1), (some (61, true))⟩),
([], ⟨(some 66), .mv (.t 5), (some (61, true))⟩),
([], ⟨(some 67), .bin .sub (.t 66) (.c (.i .i64 1)), (some (61, true))⟩),
([], ⟨(some 68), .ia (.t 65) (.t 67) 3, (some (61, true))⟩),
([], ⟨(some 69), .fa (.t 68) 0, (some (61, true))⟩),
([], ⟨(some 70), .fa (.t 69) 1, (some (61, true))⟩),
([5], ⟨(some 71), .ld (.t 70) 1 false, (some (61, true))⟩),
([], ⟨(some 72), .bin .lss (.t 64) (.t 71), (some (61, true))⟩),
([], ⟨(some 73), .pick (.t 61) (.t 72) (.c (.b false)), none⟩)]) ( .cond (.t 73) (
.seq ( .region [
 ⟨(some 4), .mv (.c (.i .i64 8)), none⟩]) ( .ret)) ( .skip)))))))) ( .region [
 ⟨(some 74), .bin .add (.t 14) (.c (.i .i64 1)), none⟩,
⟨(some 14), .mv (.t 74), none⟩])))
def c30 : AFunc := ⟨75,
.seq ( .region [
 ⟨(some 2), .box (.t 0) false, none⟩,
⟨(some 4), .mv (.c (.i .i64 0)), none⟩]) (
.seq (
.seq ( .region [
 ⟨(some 9), .mv (.t 1), none⟩,
⟨(some 10), .lenV (.t 9), none⟩,
⟨(some 11), .bin .gtr (.t 10) (.c (.i .i64 200)), none⟩]) ( .cond (.t 11) (
.seq ( .region [
 ⟨(some 4), .mv (.c (.i .i64 10)), none⟩]) ( .ret)) ( .skip))) (
.seq (
.seq ( .region [
 ⟨(some 12), .mv (.t 1), none⟩,
⟨(some 13), .lenV (.t 12), none⟩,
⟨(some 14), .mv (.c (.i .i64 0)), none⟩]) ( .block 0 ( .loop c30_L2))) (
.seq ( .region [
 ⟨(some 4), .mv (.c (.i .i64 0)), none⟩]) ( .ret)))), [.tmp 4], false, none⟩
theorem k30 : CodeOk Tryz.prog 30 c30 := codeOk (hs := []) Tryz.func30 (by kernel_rfl)
def c31_L1 : ACode :=
.seq (
.seq ( .region [
 ⟨(some 33), .mv (.t 6), none⟩,
⟨(some 34), .mv (.t 1), none⟩,
⟨(some 35), .mv (.t 5), none⟩,
⟨(some 36), .ia (.t 34) (.t 35) 3, none⟩,
⟨(some 37), .fa (.t 36) 2, none⟩,
⟨(some 38), .ld (.t 37) 1 false, none⟩,
⟨(some 39), .lenV (.t 38), none⟩,
⟨(some 40), .bin .lss (.t 33) (.t 39), none⟩]) ( .cond (.t 40) ( .skip) ( .exit 2))) (
.seq ( .block 3 (
.seq ( .region [
 ⟨(some 43), .mv (.t 1), none⟩,
⟨(some 44), .mv (.t 5), none⟩,
⟨(some 45), .ia (.t 43) (.t 44) 3, none⟩,
⟨(some 46), .fa (.t 45) 2, none⟩,
⟨(some 47), .ld (.t 46) 1 false, none⟩,
⟨(some 48), .mv (.t 6), none⟩,
⟨(some 49), .ia (.t 47) (.t 48) 1, none⟩,
⟨(some 50), .ld (.t 49) 1 false, none⟩,
⟨(some 51), .bin .lss (.t 50) (.c (.i .i64 (-1099511627776))), none⟩,
⟨(some 52), .mv (.t 51), none⟩,
⟨(some 53), .mv (.t 1), (some (52, false))⟩,
⟨(some 54), .mv (.t 5), (some (52, false))⟩,
⟨(some 55), .ia (.t 53) (.t 54) 3, (some (52, false))⟩,
⟨(some 56), .fa (.t 55) 2, (some (52, false))⟩,
⟨(some 57), .ld (.t 56) 1 false, (some (52, false))⟩,
⟨(some 58), .mv (.t 6), (some (52, false))⟩,
⟨(some 59), .ia (.t 57) (.t 58) 1, (some (52, false))⟩,
⟨(some 60), .ld (.t 59) 1 false, (some (52, false))⟩,
⟨(some 61), .bin .gtr (.t 60) (.c (.i .i64 1099511627776)), (some (52, false))⟩,
⟨(some 62), .pick (.t 52) (.c (.b true)) (.t 61), none⟩]) ( .cond (.t 62) (
.seq ( .region [
 ⟨(some 4), .mv (.c (.i .i64 5)), none⟩]) ( .ret)) ( .skip)))) ( .region [
 ⟨(some 41), .mv (.t 6), none⟩,
⟨(some 42), .bin .add (.t 41) (.c (.i .i64 1)), none⟩,
⟨(some 6), .mv (.t 42), none⟩]))
theorem c31_L1_w : wrM (wrC (.loop c31_L1)) = 9223372028264841296 := nr rfl
def c31_L2 : ACode :=
.seq (
.seq ( .region [
 ⟨(some 10), .mv (.t 5), none⟩,
⟨(some 11), .mv (.t 1), none⟩,
⟨(some 12), .lenV (.t 11), none⟩,
⟨(some 13), .bin .lss (.t 10) (.t 12), none⟩]) ( .cond (.t 13) ( .skip) ( .exit 0))) (
.seq ( .block 1 (
.seq (
.seq ( .region [
 ⟨(some 16), .mv (.t 1), none⟩,
⟨(some 17), .mv (.t 5), none⟩,
⟨(some 18), .ia (.t 16) (.t 17) 3, none⟩,
⟨(some 19), .fa (.t 18) 0, none⟩,
⟨(some 20), .ld (.t 19) 2 true, none⟩,
⟨(some 21), .callf 67 [(.t 20)], none⟩,
⟨(some 22), .un .not (.t 21), none⟩]) ( .cond (.t 22) (
.seq ( .region [
 ⟨(some 4), .mv (.c (.i .i64 5)), none⟩]) ( .ret)) ( .skip))) (
.seq (
.seq ( .draws [ ([], ⟨(some 23), .mv (.t 1), none⟩),
([], ⟨(some 24), .mv (.t 5), none⟩),
([], ⟨(some 25), .ia (.t 23) (.t 24) 3, none⟩),
([], ⟨(some 26), .fa (.t 25) 2, none⟩),
([], ⟨(some 27), .ld (.t 26) 1 false, none⟩),
([], ⟨(some 28), .lenV (.t 27), none⟩),
([], ⟨(some 29), .fa (.t 2) 11, none⟩),
([4], ⟨(some 30), .ld (.t 29) 1 false, none⟩),
([], ⟨(some 31), .lenV (.t 30), none⟩),
([], ⟨(some 32), .bin .neq (.t 28) (.t 31), none⟩)]) ( .cond (.t 32) (
.seq ( .region [
 ⟨(some 4), .mv (.c (.i .i64 12)), none⟩]) ( .ret)) ( .skip))) (
.seq (
.seq ( .region [
 ⟨(some 6), .mv (.c (.i .i64 0)), none⟩]) ( .block 2 ( .loop c31_L1))) (
.seq ( .draws [ ([], ⟨(some 63), .mv (.t 5), none⟩),
([], ⟨(some 64), .bin .gtr (.t 63) (.c (.i .i64 0)), none⟩),
([], ⟨(some 65), .mv (.t 64), none⟩),
([], ⟨(some 66), .mv (.t 1), (some (65, true))⟩),
([], ⟨(some 67), .mv (.t 5), (some (65, true))⟩),
([], ⟨(some 68), .ia (.t 66) (.t 67) 3, (some (65, true))⟩),
([], ⟨(some 69), .fa (.t 68) 0, (some (65, true))⟩),
([], ⟨(some 70), .fa (.t 69) 0, (some (65, true))⟩),
([], ⟨(some 71), .ld (.t 70) 1 false, (some (65, true))⟩),
([], ⟨(some 72), .mv (.t 1), (some (65, true))⟩),
([], ⟨(some 73), .mv (.t 5), (some (65, true))⟩),
([], ⟨(some 74), .bin .sub (.t 73) (.c (.i .i64 1)), (some (65, true))⟩),
([], ⟨(some 75), .ia (.t 72) (.t 74) 3, (some (65, true))⟩),
([], ⟨(some 76), .fa (.t 75) 0, (some (65, true))⟩),
([], ⟨(some 77), .fa (.t 76) 1, (some (65, true))⟩),
([8], ⟨(some 78), .ld (.t 77) 1 false, (some (65, true))⟩),
([], ⟨(some 79), .bin .lss (.t 71) (.t 78), (some (65, true))⟩),
([], ⟨(some 80), .pick (.t 65) (.t 79) (.c (.b false)), none⟩)]) ( .cond (.t 80) (
.seq ( .region [
 ⟨(some 4), .mv (.c (.i .i64 8)), none⟩]) ( .ret)) ( .skip))))))) ( .region [
 ⟨(some 14), .mv (.t 5), none⟩,
⟨(some 15), .bin .add (.t 14) (.c (.i .i64 1)), none⟩,
⟨(some 5), .mv (.t 15), none⟩]))
def c31 : AFunc := ⟨81,
.seq ( .region [
 ⟨(some 2), .box (.t 0) false, none⟩,
⟨(some 4), .mv (.c (.i .i64 0)), none⟩]) (
.seq (
.seq ( .region [
 ⟨(some 7), .mv (.t 1), none⟩,
⟨(some 8), .lenV (.t 7), none⟩,
⟨(some 9), .bin .gtr (.t 8) (.c (.i .i64 200)), none⟩]) ( .cond (.t 9) (
.seq ( .region [
 ⟨(some 4), .mv (.c (.i .i64 10)), none⟩]) ( .ret)) ( .skip))) (
.seq (
.seq ( .region [
 ⟨(some 5), .mv (.c (.i .i64 0)), none⟩]) ( .block 0 ( .loop c31_L2))) (
.seq ( .region [
 ⟨(some 4), .mv (.c (.i .i64 0)), none⟩]) ( .ret)))), [.tmp 4], false, none⟩
theorem k31 : CodeOk Tryz.prog 31 c31 := codeOk (hs := []) Tryz.func31 (by kernel_rfl)
def c32 : AFunc := ⟨50,
.seq ( .region [
 ⟨(some 0), .mv (.c (.b false)), none⟩]) (
.seq ( .region [
 ⟨(some 6), .build [(.s []), (.s []), (.i .i64 0), (.i .i64 0)] [(0, 1, (.c (.s [102, 108, 121, 105, 110, 103]))), (1, 1, (.c (.s [98, 108, 111, 99, 107]))), (2, 1, (.c (.i .i64 1800))), (3, 1, (.c (.i .i64 7)))], none⟩,
⟨(some 7), .bsl [(.s []), (.s []), (.i .i64 0), (.i .i64 0)] 1 [(0, (.t 6))], none⟩,
⟨(some 8), .build [(.i .i64 0), (.i .i64 0), (.i .i64 0), (.i .i64 0), (.i .i64 0), (.i .i64 0), (.i .i64 0), .nilsl, .nilsl, .nilsl, .nilsl, .nilsl, .nilsl, (.i .i64 0)] [(3, 1, (.c (.i .i64 1440))), (4, 1, (.c (.i .i64 2880))), (11, 1, (.t 7))], none⟩,
⟨(some 1), .alloc [(.i .i64 0), (.i .i64 0), (.i .i64 0), (.i .i64 0), (.i .i64 0), (.i .i64 0), (.i .i64 0), .nilsl, .nilsl, .nilsl, .nilsl, .nilsl, .nilsl, (.i .i64 0)] false, none⟩,
⟨none, .st (.t 1) (.t 8) 14, none⟩]) (
.seq ( .region [
 ⟨(some 9), .build [(.s []), (.i .i64 0), .nilsl] [(0, 1, (.c (.s [117, 116, 99])))], none⟩,
⟨(some 2), .alloc [(.s []), (.i .i64 0), .nilsl] false, none⟩,
⟨none, .st (.t 2) (.t 9) 3, none⟩]) (
.seq ( .region [
 ⟨(some 10), .build [(.i .i64 0), (.i .i64 0)] [(0, 1, (.c (.i .i64 14400))), (1, 1, (.c (.i .i64 15400)))], none⟩,
⟨(some 11), .bsl [(.i .i64 0)] 1 [(0, (.c (.i .i64 960)))], none⟩,
⟨(some 12), .build [(.i .i64 0), (.i .i64 0), .nilsl] [(0, 2, (.t 10)), (2, 1, (.t 11))], none⟩,
⟨(some 13), .build [(.i .i64 0), (.i .i64 0)] [(0, 1, (.c (.i .i64 23040))), (1, 1, (.c (.i .i64 24040)))], none⟩,
⟨(some 14), .bsl [(.i .i64 0)] 1 [(0, (.c (.i .i64 960)))], none⟩,
⟨(some 15), .build [(.i .i64 0), (.i .i64 0), .nilsl] [(0, 2, (.t 13)), (2, 1, (.t 14))], none⟩,
⟨(some 16), .bsl [(.i .i64 0), (.i .i64 0), .nilsl] 2 [(0, (.t 12)), (1, (.t 15))], none⟩,
⟨(some 3), .mv (.t 16), none⟩]) (
.seq ( .region [
 ⟨(some 18), .ld (.t 2) 3 true, none⟩,
⟨(some 19), .ld (.t 1) 14 true, none⟩,
⟨(some 20), .mv (.t 3), none⟩,
⟨(some 21), .callf 34 [(.t 18), (.t 19), (.t 20)], none⟩,
⟨(some 17), .mv (.t 21), none⟩,
⟨(some 22), .ext (.t 17) 0, none⟩,
⟨(some 23), .ext (.t 17) 1, none⟩,
⟨(some 4), .mv (.t 22), none⟩,
⟨(some 5), .mv (.t 23), none⟩]) (
.seq ( .region [
 ⟨(some 24), .mv (.t 5), none⟩,
⟨(some 25), .bin .eql (.t 24) (.c (.i .i64 0)), none⟩,
⟨(some 26), .mv (.t 25), none⟩,
⟨(some 27), .mv (.t 4), (some (26, true))⟩,
⟨(some 28), .lenV (.t 27), (some (26, true))⟩,
⟨(some 29), .bin .eql (.t 28) (.c (.i .i64 1)), (some (26, true))⟩,
⟨(some 30), .pick (.t 26) (.t 29) (.c (.b false)), none⟩,
⟨(some 31), .mv (.t 30), none⟩,
⟨(some 32), .mv (.t 4), (some (31, true))⟩,
⟨(some 33), .ia (.t 32) (.c (.i .i64 0)) 3, (some (31, true))⟩,
⟨(some 34), .fa (.t 33) 2, (some (31, true))⟩,
⟨(some 35), .ld (.t 34) 1 false, (some (31, true))⟩,
⟨(some 36), .bin .eql (.t 35) (.c (.i .i64 10)), (some (31, true))⟩,
⟨(some 37), .pick (.t 31) (.t 36) (.c (.b false)), none⟩,
⟨(some 38), .mv (.t 37), none⟩,
⟨(some 39), .mv (.t 4), (some (38, true))⟩,
⟨(some 40), .ia (.t 39) (.c (.i .i64 0)) 3, (some (38, true))⟩,
⟨(some 41), .fa (.t 40) 0, (some (38, true))⟩,
⟨(some 42), .ld (.t 41) 1 false, (some (38, true))⟩,
⟨(some 43), .un .not (.t 42), (some (38, true))⟩,
⟨(some 44), .pick (.t 38) (.t 43) (.c (.b false)), none⟩,
⟨(some 45), .mv (.t 44), none⟩,
⟨(some 46), .build [(.i .i64 0), (.i .i64 0), (.i .i64 0), (.i .i64 0), (.i .i64 0), (.i .i64 0), (.i .i64 0), .nilsl, .nilsl, .nilsl, .nilsl, .nilsl, .nilsl, (.i .i64 0)] [(13, 1, (.c (.i .i64 7)))], (some (45, true))⟩,
⟨(some 47), .callf 39 [(.t 46), (.c (.i .i64 3))], (some (45, true))⟩,
⟨(some 48), .bin .eql (.t 47) (.c (.i .i64 7)), (some (45, true))⟩,
⟨(some 49), .pick (.t 45) (.t 48) (.c (.b false)), none⟩,
⟨(some 0), .mv (.t 49), none⟩]) ( .ret)))))), [.tmp 0], false, none⟩
theorem k32 : CodeOk Tryz.prog 32 c32 := codeOk (hs := []) Tryz.func32 (by kernel_rfl)
def c33 : AFunc := ⟨29,
.seq ( .region [
 ⟨(some 2), .alloc [(.s []), (.i .i64 0), .nilsl] false, none⟩]) (
.seq ( .region [
 ⟨(some 4), .mv (.t 0), none⟩,
⟨(some 5), .bin .and (.t 4) (.c (.i .i64 7)), none⟩,
⟨(some 6), .bin .mul (.t 5) (.c (.i .i64 60)), none⟩,
⟨(some 7), .bin .sub (.t 6) (.c (.i .i64 180)), none⟩,
⟨(some 8), .build [(.s []), (.i .i64 0), .nilsl] [(0, 1, (.c (.s [108, 111, 99, 97, 108]))), (1, 1, (.t 7))], none⟩,
⟨(some 3), .alloc [(.s []), (.i .i64 0), .nilsl] false, none⟩,
⟨none, .st (.t 3) (.t 8) 3, none⟩]) (
.seq (
.seq ( .region [
 ⟨(some 9), .mv (.t 0), none⟩,
⟨(some 10), .bin .shr (.t 9) (.c (.i .u64 3)), none⟩,
⟨(some 11), .bin .and (.t 10) (.c (.i .i64 1)), none⟩,
⟨(some 12), .bin .eql (.t 11) (.c (.i .i64 1)), none⟩]) ( .cond (.t 12) ( .region [
 ⟨(some 13), .mv (.t 0), none⟩,
⟨(some 14), .bin .shr (.t 13) (.c (.i .u64 4)), none⟩,
⟨(some 15), .bin .and (.t 14) (.c (.i .i64 1023)), none⟩,
⟨(some 16), .bin .add (.c (.i .i64 12960360)) (.t 15), none⟩,
⟨(some 17), .fa (.t 3) 1, none⟩,
⟨(some 18), .ld (.t 17) 1 false, none⟩,
⟨(some 19), .bin .add (.t 18) (.c (.i .i64 60)), none⟩,
⟨(some 20), .mv (.t 0), none⟩,
⟨(some 21), .bin .shr (.t 20) (.c (.i .u64 14)), none⟩,
⟨(some 22), .bin .and (.t 21) (.c (.i .i64 1)), none⟩,
⟨(some 23), .bin .mul (.t 22) (.c (.i .i64 120)), none⟩,
⟨(some 24), .bin .sub (.t 19) (.t 23), none⟩,
⟨(some 25), .build [(.i .i64 0), (.i .i64 0)] [(0, 1, (.t 16)), (1, 1, (.t 24))], none⟩,
⟨(some 26), .bsl [(.i .i64 0), (.i .i64 0)] 1 [(0, (.t 25))], none⟩,
⟨(some 27), .fa (.t 3) 2, none⟩,
⟨none, .st (.t 27) (.t 26) 1, none⟩]) ( .skip))) (
.seq ( .region [
 ⟨(some 28), .ld (.t 3) 3 true, none⟩,
⟨none, .st (.t 2) (.t 28) 3, none⟩]) ( .ret)))), [.cell 2 3 true], false, none⟩
theorem k33 : CodeOk Tryz.prog 33 c33 := codeOk (hs := []) Tryz.func33 (by kernel_rfl)
def c34 : AFunc := ⟨20,
.seq ( .region [
 ⟨(some 3), .box (.t 0) false, none⟩,
⟨(some 4), .box (.t 1) false, none⟩,
⟨(some 6), .mv (.c .nilsl), none⟩,
⟨(some 7), .mv (.c (.i .i64 0)), none⟩]) (
.seq (
.seq ( .region [
 ⟨(some 9), .ld (.t 3) 3 true, none⟩,
⟨(some 10), .ld (.t 4) 14 true, none⟩,
⟨(some 11), .mv (.t 2), none⟩,
⟨(some 12), .callf 68 [(.t 9), (.t 10), (.t 11)], none⟩,
⟨(some 8), .mv (.t 12), none⟩]) (
.seq ( .region [
 ⟨(some 13), .mv (.t 8), none⟩,
⟨(some 14), .bin .neq (.t 13) (.c (.i .i64 0)), none⟩]) ( .cond (.t 14) (
.seq ( .region [
 ⟨(some 15), .mv (.t 8), none⟩,
⟨(some 6), .mv (.c .nilsl), none⟩,
⟨(some 7), .mv (.t 15), none⟩]) ( .ret)) ( .skip)))) (
.seq ( .region [
 ⟨(some 16), .ld (.t 3) 3 true, none⟩,
⟨(some 17), .ld (.t 4) 14 true, none⟩,
⟨(some 18), .mv (.t 2), none⟩,
⟨(some 19), .callf 69 [(.t 16), (.t 17), (.t 18)], none⟩,
⟨(some 6), .mv (.t 19), none⟩,
⟨(some 7), .mv (.c (.i .i64 0)), none⟩]) ( .ret))), [.tmp 6, .tmp 7], false, (some 0)⟩
theorem k34 : CodeOk Tryz.prog 34 c34 := codeOk (hs := [1000000]) Tryz.func34 (by kernel_rfl)
def c35_L1 : ACode :=
.seq (
.seq ( .region [
 ⟨(some 94), .mv (.t 19), none⟩,
⟨(some 95), .mv (.t 2), none⟩,
⟨(some 96), .lenV (.t 95), none⟩,
⟨(some 97), .bin .lss (.t 94) (.t 96), none⟩]) ( .cond (.t 97) ( .skip) ( .exit 8))) (
.seq ( .block 9 (
.seq ( .draws [ ([], ⟨(some 100), .mv (.t 10), none⟩),
([], ⟨(some 101), .mv (.t 19), none⟩),
([], ⟨(some 102), .ia (.t 100) (.t 101) 1, none⟩),
([], ⟨(some 103), .ld (.t 102) 1 false, none⟩),
([], ⟨(some 104), .mv (.t 16), none⟩),
([], ⟨(some 105), .bin .geq (.t 103) (.t 104), none⟩),
([], ⟨(some 106), .mv (.t 105), none⟩),
([], ⟨(some 107), .mv (.t 10), (some (106, true))⟩),
([], ⟨(some 108), .mv (.t 19), (some (106, true))⟩),
([], ⟨(some 109), .ia (.t 107) (.t 108) 1, (some (106, true))⟩),
([], ⟨(some 110), .ld (.t 109) 1 false, (some (106, true))⟩),
([], ⟨(some 111), .mv (.t 16), (some (106, true))⟩),
([], ⟨(some 112), .fa (.t 4) 11, (some (106, true))⟩),
([10], ⟨(some 113), .ld (.t 112) 1 false, (some (106, true))⟩),
([], ⟨(some 114), .mv (.t 12), (some (106, true))⟩),
([], ⟨(some 115), .ia (.t 113) (.t 114) 4, (some (106, true))⟩),
([], ⟨(some 116), .fa (.t 115) 3, (some (106, true))⟩),
([10], ⟨(some 117), .ld (.t 116) 1 false, (some (106, true))⟩),
([], ⟨(some 118), .bin .add (.t 111) (.t 117), (some (106, true))⟩),
([], ⟨(some 119), .bin .lss (.t 110) (.t 118), (some (106, true))⟩),
([], ⟨(some 120), .pick (.t 106) (.t 119) (.c (.b false)), none⟩)]) ( .cond (.t 120) ( .region [
 ⟨(some 121), .mv (.t 17), none⟩,
⟨(some 122), .mv (.t 2), none⟩,
⟨(some 123), .mv (.t 19), none⟩,
⟨(some 124), .ia (.t 122) (.t 123) 3, none⟩,
⟨(some 125), .fa (.t 124) 2, none⟩,
⟨(some 126), .ld (.t 125) 1 false, none⟩,
⟨(some 127), .mv (.t 12), none⟩,
⟨(some 128), .ia (.t 126) (.t 127) 1, none⟩,
⟨(some 129), .ld (.t 128) 1 false, none⟩,
⟨(some 130), .bin .add (.t 121) (.t 129), none⟩,
⟨(some 17), .mv (.t 130), none⟩,
⟨(some 18), .mv (.c (.b true)), none⟩]) ( .skip)))) ( .region [
 ⟨(some 98), .mv (.t 19), none⟩,
⟨(some 99), .bin .add (.t 98) (.c (.i .i64 1)), none⟩,
⟨(some 19), .mv (.t 99), none⟩]))
theorem c35_L1_w : wrM (wrC (.loop c35_L1)) = 2722258935347700667078430775055760621568 := nr rfl
def c35_L2 : ACode :=
.seq (
.seq ( .region [
 ⟨(some 89), .mv (.t 16), none⟩,
⟨(some 90), .mv (.t 14), none⟩,
⟨(some 91), .bin .leq (.t 89) (.t 90), none⟩]) ( .cond (.t 91) ( .skip) ( .exit 6))) (
.seq ( .block 7 (
.seq ( .region [
 ⟨(some 17), .mv (.c (.i .i64 0)), none⟩,
⟨(some 18), .mv (.c (.b false)), none⟩]) (
.seq (
.seq ( .region [
 ⟨(some 19), .mv (.c (.i .i64 0)), none⟩]) ( .block 8 ( .loop c35_L1))) (
.seq ( .region [
 ⟨(some 131), .mv (.t 18), none⟩,
⟨(some 132), .mv (.t 131), none⟩,
⟨(some 133), .mv (.t 17), (some (132, true))⟩,
⟨(some 134), .fa (.t 4) 11, (some (132, true))⟩,
⟨(some 135), .ld (.t 134) 1 false, (some (132, true))⟩,
⟨(some 136), .mv (.t 12), (some (132, true))⟩,
⟨(some 137), .ia (.t 135) (.t 136) 4, (some (132, true))⟩,
⟨(some 138), .fa (.t 137) 2, (some (132, true))⟩,
⟨(some 139), .ld (.t 138) 1 false, (some (132, true))⟩,
⟨(some 140), .bin .gtr (.t 133) (.t 139), (some (132, true))⟩,
⟨(some 141), .pick (.t 132) (.t 140) (.c (.b false)), none⟩]) ( .cond (.t 141) ( .region [
 ⟨(some 142), .mv (.t 9), none⟩,
⟨(some 143), .mv (.t 12), none⟩,
⟨(some 144), .mv (.t 16), none⟩,
⟨(some 145), .build [(.b false), (.i .i64 0), (.i .i64 0)] [(1, 1, (.t 143)), (2, 1, (.t 144))], none⟩,
⟨(some 146), .bsl [(.b false), (.i .i64 0), (.i .i64 0)] 1 [(0, (.t 145))], none⟩,
⟨(some 147), .app 3 24 (.t 142) (.t 146) false false, none⟩,
⟨(some 9), .mv (.t 147), none⟩]) ( .skip)))))) ( .region [
 ⟨(some 92), .mv (.t 16), none⟩,
⟨(some 93), .bin .add (.t 92) (.c (.i .i64 1)), none⟩,
⟨(some 16), .mv (.t 93), none⟩]))
theorem c35_L2_w : wrM (wrC (.loop c35_L2)) = 356811923176489969645601472719683646647108096 := nr rfl
def c35_L3 : ACode :=
.seq (
.seq ( .region [
 ⟨(some 62), .mv (.t 15), none⟩,
⟨(some 63), .mv (.t 2), none⟩,
⟨(some 64), .lenV (.t 63), none⟩,
⟨(some 65), .bin .lss (.t 62) (.t 64), none⟩]) ( .cond (.t 65) ( .skip) ( .exit 4))) (
.seq ( .block 5 ( .draws [ ([], ⟨(some 68), .mv (.t 13), none⟩),
([], ⟨(some 69), .mv (.t 10), none⟩),
([], ⟨(some 70), .mv (.t 15), none⟩),
([], ⟨(some 71), .ia (.t 69) (.t 70) 1, none⟩),
([], ⟨(some 72), .ld (.t 71) 1 false, none⟩),
([], ⟨(some 73), .mm false [(.t 68), (.t 72)], none⟩),
([], ⟨(some 74), .mv (.t 14), none⟩),
([], ⟨(some 75), .mv (.t 10), none⟩),
([], ⟨(some 76), .mv (.t 15), none⟩),
([], ⟨(some 77), .ia (.t 75) (.t 76) 1, none⟩),
([4], ⟨(some 78), .ld (.t 77) 1 false, none⟩),
([], ⟨(some 79), .mm true [(.t 74), (.t 78)], none⟩),
([], ⟨(some 13), .mv (.t 73), none⟩),
([], ⟨(some 14), .mv (.t 79), none⟩)])) ( .region [
 ⟨(some 66), .mv (.t 15), none⟩,
⟨(some 67), .bin .add (.t 66) (.c (.i .i64 1)), none⟩,
⟨(some 15), .mv (.t 67), none⟩]))
theorem c35_L3_w : wrM (wrC (.loop c35_L3)) = 1208921207928610747375616 := nr rfl
def c35_L4 : ACode :=
.seq (
.seq ( .region [
 ⟨(some 44), .mv (.t 12), none⟩,
⟨(some 45), .fa (.t 4) 11, none⟩,
⟨(some 46), .ld (.t 45) 1 false, none⟩,
⟨(some 47), .lenV (.t 46), none⟩,
⟨(some 48), .bin .lss (.t 44) (.t 47), none⟩,
⟨(some 49), .mv (.t 48), none⟩,
⟨(some 50), .mv (.t 2), (some (49, true))⟩,
⟨(some 51), .lenV (.t 50), (some (49, true))⟩,
⟨(some 52), .bin .gtr (.t 51) (.c (.i .i64 0)), (some (49, true))⟩,
⟨(some 53), .pick (.t 49) (.t 52) (.c (.b false)), none⟩]) ( .cond (.t 53) ( .skip) ( .exit 2))) (
.seq ( .block 3 (
.seq ( .draws [ ([], ⟨(some 56), .mv (.t 10), none⟩),
([], ⟨(some 57), .ia (.t 56) (.c (.i .i64 0)) 1, none⟩),
([], ⟨(some 58), .ld (.t 57) 1 false, none⟩),
([], ⟨(some 59), .mv (.t 10), none⟩),
([], ⟨(some 60), .ia (.t 59) (.c (.i .i64 0)) 1, none⟩),
([2], ⟨(some 61), .ld (.t 60) 1 false, none⟩),
([], ⟨(some 13), .mv (.t 58), none⟩),
([], ⟨(some 14), .mv (.t 61), none⟩)]) (
.seq (
.seq ( .region [
 ⟨(some 15), .mv (.c (.i .i64 0)), none⟩]) ( .block 4 ( .loop c35_L3))) (
.seq ( .region [
 ⟨(some 80), .mv (.t 13), none⟩,
⟨(some 81), .fa (.t 4) 11, none⟩,
⟨(some 82), .ld (.t 81) 1 false, none⟩,
⟨(some 83), .mv (.t 12), none⟩,
⟨(some 84), .ia (.t 82) (.t 83) 4, none⟩,
⟨(some 85), .fa (.t 84) 3, none⟩,
⟨(some 86), .ld (.t 85) 1 false, none⟩,
⟨(some 87), .bin .sub (.t 80) (.t 86), none⟩,
⟨(some 88), .bin .add (.t 87) (.c (.i .i64 1)), none⟩,
⟨(some 16), .mv (.t 88), none⟩]) ( .block 6 ( .loop c35_L2)))))) ( .region [
 ⟨(some 54), .mv (.t 12), none⟩,
⟨(some 55), .bin .add (.t 54) (.c (.i .i64 1)), none⟩,
⟨(some 12), .mv (.t 55), none⟩]))
def c35_L5 : ACode :=
.seq (
.seq ( .region [
 ⟨(some 27), .mv (.t 11), none⟩,
⟨(some 28), .mv (.t 2), none⟩,
⟨(some 29), .lenV (.t 28), none⟩,
⟨(some 30), .bin .lss (.t 27) (.t 29), none⟩]) ( .cond (.t 30) ( .skip) ( .exit 0))) (
.seq ( .block 1 ( .draws [ ([], ⟨(some 33), .mv (.t 10), none⟩),
([], ⟨(some 34), .ld (.t 3) 3 true, none⟩),
([], ⟨(some 35), .mv (.t 2), none⟩),
([], ⟨(some 36), .mv (.t 11), none⟩),
([], ⟨(some 37), .ia (.t 35) (.t 36) 3, none⟩),
([], ⟨(some 38), .fa (.t 37) 0, none⟩),
([], ⟨(some 39), .fa (.t 38) 0, none⟩),
([1], ⟨(some 40), .ld (.t 39) 1 false, none⟩),
([], ⟨(some 41), .callf 71 [(.t 34), (.t 40)], none⟩),
([], ⟨(some 42), .bsl [(.i .i64 0)] 1 [(0, (.t 41))], none⟩),
([], ⟨(some 43), .app 1 8 (.t 33) (.t 42) false false, none⟩),
([], ⟨(some 10), .mv (.t 43), none⟩)])) ( .region [
 ⟨(some 31), .mv (.t 11), none⟩,
⟨(some 32), .bin .add (.t 31) (.c (.i .i64 1)), none⟩,
⟨(some 11), .mv (.t 32), none⟩]))
theorem c35_L5_w : wrM (wrC (.loop c35_L5)) = 17592051829760 := nr rfl
def c35_R6 : ACode :=
.seq ( .region [
 ⟨(some 148), .mv (.t 9), none⟩,
⟨(some 6), .mv (.t 148), none⟩,
⟨(some 7), .mv (.c (.i .i64 0)), none⟩]) (.ret)
def c35_R5 : ACode :=
.seq (
.seq ( .region [
 ⟨(some 12), .mv (.c (.i .i64 0)), none⟩]) ( .block 2 ( .loop c35_L4))) c35_R6
def c35_R4 : ACode :=
.seq (
.seq ( .region [
 ⟨(some 11), .mv (.c (.i .i64 0)), none⟩]) ( .block 0 ( .loop c35_L5))) c35_R5
def c35_R3 : ACode :=
.seq ( .region [
 ⟨(some 10), .mv (.c .nilsl), none⟩]) c35_R4
def c35_R2 : ACode :=
.seq ( .region [
 ⟨(some 9), .mv (.c .nilsl), none⟩]) c35_R3
def c35_R1 : ACode :=
.seq (
.seq ( .region [
 ⟨(some 20), .ld (.t 3) 3 true, none⟩,
⟨(some 21), .ld (.t 4) 14 true, none⟩,
⟨(some 22), .mv (.t 2), none⟩,
⟨(some 23), .callf 70 [(.t 20), (.t 21), (.t 22)], none⟩,
⟨(some 8), .mv (.t 23), none⟩]) (
.seq ( .region [
 ⟨(some 24), .mv (.t 8), none⟩,
⟨(some 25), .bin .neq (.t 24) (.c (.i .i64 0)), none⟩]) ( .cond (.t 25) (
.seq ( .region [
 ⟨(some 26), .mv (.t 8), none⟩,
⟨(some 6), .mv (.c .nilsl), none⟩,
⟨(some 7), .mv (.t 26), none⟩]) ( .ret)) ( .skip)))) c35_R2
def c35 : AFunc := ⟨149,
.seq ( .region [
 ⟨(some 3), .box (.t 0) false, none⟩,
⟨(some 4), .box (.t 1) false, none⟩,
⟨(some 6), .mv (.c .nilsl), none⟩,
⟨(some 7), .mv (.c (.i .i64 0)), none⟩]) c35_R1, [.tmp 6, .tmp 7], false, none⟩
theorem k35 : CodeOk Tryz.prog 35 c35 := codeOk (hs := []) Tryz.func35 (by kernel_rfl)
def c36_L1 : ACode :=
.seq (
.seq ( .region [
 ⟨(some 11), .mv (.t 5), none⟩,
⟨(some 12), .mv (.t 0), none⟩,
⟨(some 13), .lenV (.t 12), none⟩,
⟨(some 14), .bin .lss (.t 11) (.t 13), none⟩]) ( .cond (.t 14) ( .skip) ( .exit 0))) (
.seq ( .block 1 (
.seq ( .draws [ ([], ⟨(some 17), .mv (.t 0), none⟩),
([], ⟨(some 18), .mv (.t 5), none⟩),
([], ⟨(some 19), .ia (.t 17) (.t 18) 3, none⟩),
([], ⟨(some 20), .ld (.t 19) 3 true, none⟩),
([], ⟨(some 21), .mv (.t 1), none⟩),
([], ⟨(some 22), .mv (.t 5), none⟩),
([], ⟨(some 23), .ia (.t 21) (.t 22) 3, none⟩),
([3], ⟨(some 24), .ld (.t 23) 3 true, none⟩),
([], ⟨(some 25), .eq true (.flat [.bool, .int, .int]) (.t 20) (.t 24), none⟩)]) ( .cond (.t 25) (
.seq ( .region [
 ⟨(some 4), .mv (.c (.b false)), none⟩]) ( .ret)) ( .skip)))) ( .region [
 ⟨(some 15), .mv (.t 5), none⟩,
⟨(some 16), .bin .add (.t 15) (.c (.i .i64 1)), none⟩,
⟨(some 5), .mv (.t 16), none⟩]))
def c36 : AFunc := ⟨26,
.seq ( .region [
 ⟨(some 4), .mv (.c (.b false)), none⟩]) (
.seq (
.seq ( .region [
 ⟨(some 6), .mv (.t 0), none⟩,
⟨(some 7), .lenV (.t 6), none⟩,
⟨(some 8), .mv (.t 1), none⟩,
⟨(some 9), .lenV (.t 8), none⟩,
⟨(some 10), .bin .neq (.t 7) (.t 9), none⟩]) ( .cond (.t 10) (
.seq ( .region [
 ⟨(some 4), .mv (.c (.b false)), none⟩]) ( .ret)) ( .skip))) (
.seq (
.seq ( .region [
 ⟨(some 5), .mv (.c (.i .i64 0)), none⟩]) ( .block 0 ( .loop c36_L1))) (
.seq ( .region [
 ⟨(some 4), .mv (.c (.b true)), none⟩]) ( .ret)))), [.tmp 4], false, none⟩
theorem k36 : CodeOk Tryz.prog 36 c36 := codeOk (hs := []) Tryz.func36 (by kernel_rfl)
def c38 : AFunc := ⟨30,
.seq ( .region [
 ⟨(some 2), .alloc [(.i .i64 0), (.i .i64 0), (.i .i64 0), (.i .i64 0), (.i .i64 0), (.i .i64 0), (.i .i64 0), .nilsl, .nilsl, .nilsl, .nilsl, .nilsl, .nilsl, (.i .i64 0)] false, none⟩]) (
.seq ( .region [
 ⟨(some 3), .mv (.c (.s [114, 101, 112, 111, 114, 116, 32, 49, 58, 48, 48, 10, 114, 101, 108, 101, 97, 115, 101, 32, 48, 58, 51, 48, 10, 99, 111, 110, 110, 101, 99, 116, 32, 48, 58, 51, 48, 10, 108, 97, 121, 111, 118, 101, 114, 32, 51, 48, 58, 48, 48, 10, 110, 105, 103, 104, 116, 32, 64, 50, 50, 58, 48, 48, 32, 116, 111, 32, 64, 48, 54, 58, 48, 48, 10, 100, 117, 116, 121, 32, 114, 117, 108, 101, 32, 108, 101, 103, 115, 95, 109, 97, 120, 32, 105, 115, 32, 108, 101, 103, 115, 32, 43, 32, 104, 101, 97, 100, 115, 32, 60, 61, 32, 51, 10, 100, 117, 116, 121, 32, 99, 111, 115, 116, 32, 105, 115, 32, 49, 48, 32, 42, 32, 108, 101, 103, 115, 32, 43, 32, 98, 108, 111, 99, 107, 32, 47, 32, 48, 58, 51, 48, 10, 114, 101, 115, 116, 32, 99, 111, 115, 116, 32, 105, 115, 32, 53, 10, 112, 97, 105, 114, 105, 110, 103, 32, 99, 111, 115, 116, 32, 105, 115, 32, 55, 10])), none⟩]) (
.seq (
.seq ( .region [
 ⟨(some 7), .mv (.t 0), none⟩,
⟨(some 8), .bin .rem (.t 7) (.c (.i .i64 6)), none⟩]) ( .block 0 (
.seq ( .region [
 ⟨(some 10), .bin .eql (.t 8) (.c (.i .i64 1)), none⟩,
⟨(some 9), .mv (.t 10), none⟩]) ( .cond (.t 9) ( .region [
 ⟨(some 3), .mv (.c (.s [114, 101, 112, 111, 114, 116, 32, 49, 58, 48, 48, 10, 114, 101, 108, 101, 97, 115, 101, 32, 48, 58, 51, 48, 10, 99, 111, 110, 110, 101, 99, 116, 32, 48, 58, 51, 48, 10, 108, 97, 121, 111, 118, 101, 114, 32, 51, 48, 58, 48, 48, 10, 114, 101, 115, 116, 32, 114, 117, 108, 101, 32, 109, 105, 110, 105, 109, 117, 109, 32, 105, 115, 32, 50, 58, 48, 48, 32, 60, 61, 32, 114, 101, 115, 116, 10, 112, 97, 105, 114, 105, 110, 103, 32, 114, 117, 108, 101, 32, 115, 104, 111, 114, 116, 32, 105, 115, 32, 100, 117, 116, 105, 101, 115, 32, 60, 61, 32, 50, 10, 100, 117, 116, 121, 32, 99, 111, 115, 116, 32, 105, 115, 32, 52, 32, 43, 32, 104, 101, 97, 100, 115, 32, 42, 32, 51, 10, 112, 97, 105, 114, 105, 110, 103, 32, 99, 111, 115, 116, 32, 105, 115, 32, 100, 97, 121, 115, 32, 42, 32, 49, 48, 32, 45, 32, 108, 101, 103, 115, 10])), none⟩]) (
.seq ( .region [
 ⟨(some 12), .bin .eql (.t 8) (.c (.i .i64 2)), none⟩,
⟨(some 11), .mv (.t 12), none⟩]) ( .cond (.t 11) ( .region [
 ⟨(some 13), .mv (.t 3), none⟩,
⟨(some 14), .bin .add (.t 13) (.c (.s [100, 117, 116, 121, 32, 114, 117, 108, 101, 32, 101, 97, 114, 108, 121, 32, 105, 115, 32, 115, 116, 97, 114, 116, 32, 105, 110, 32, 64, 48, 48, 58, 48, 48, 32, 116, 111, 32, 64, 48, 53, 58, 48, 48, 32, 105, 109, 112, 108, 105, 101, 115, 32, 108, 101, 103, 115, 32, 60, 61, 32, 49, 10, 112, 97, 105, 114, 105, 110, 103, 32, 114, 117, 108, 101, 32, 108, 101, 110, 103, 116, 104, 32, 105, 115, 32, 98, 108, 111, 99, 107, 32, 60, 61, 32, 56, 58, 48, 48, 10])), none⟩,
⟨(some 3), .mv (.t 14), none⟩]) (
.seq ( .region [
 ⟨(some 16), .bin .eql (.t 8) (.c (.i .i64 3)), none⟩,
⟨(some 15), .mv (.t 16), none⟩]) ( .cond (.t 15) ( .region [
 ⟨(some 17), .mv (.t 3), none⟩,
⟨(some 18), .bin .add (.t 17) (.c (.s [100, 117, 116, 121, 32, 99, 114, 101, 100, 105, 116, 32, 105, 115, 32, 109, 97, 120, 40, 98, 108, 111, 99, 107, 44, 32, 50, 58, 48, 48, 41, 10, 108, 105, 109, 105, 116, 32, 102, 108, 121, 105, 110, 103, 32, 105, 115, 32, 98, 108, 111, 99, 107, 32, 54, 58, 48, 48, 32, 105, 110, 32, 50, 32, 100, 97, 121, 115, 10, 108, 105, 109, 105, 116, 32, 119, 111, 114, 107, 32, 105, 115, 32, 100, 117, 116, 105, 101, 115, 32, 51, 32, 105, 110, 32, 51, 32, 100, 97, 121, 115, 10, 111, 102, 102, 32, 102, 114, 101, 101, 32, 105, 115, 32, 49, 32, 105, 110, 32, 51, 32, 100, 97, 121, 115, 10, 103, 117, 97, 114, 97, 110, 116, 101, 101, 32, 49, 48, 58, 48, 48, 10])), none⟩,
⟨(some 3), .mv (.t 18), none⟩]) (
.seq ( .region [
 ⟨(some 20), .bin .eql (.t 8) (.c (.i .i64 4)), none⟩,
⟨(some 19), .mv (.t 20), none⟩]) ( .cond (.t 19) ( .region [
 ⟨(some 3), .mv (.c (.s [99, 111, 110, 110, 101, 99, 116, 32, 48, 58, 50, 48, 10, 115, 105, 116, 32, 52, 58, 48, 48, 10, 108, 97, 121, 111, 118, 101, 114, 32, 50, 48, 58, 48, 48, 10, 100, 117, 116, 121, 32, 114, 117, 108, 101, 32, 111, 110, 101, 95, 116, 121, 112, 101, 32, 105, 115, 32, 116, 121, 112, 101, 115, 32, 60, 61, 32, 49, 10, 100, 117, 116, 121, 32, 99, 111, 115, 116, 32, 105, 115, 32, 48, 32, 45, 32, 108, 101, 103, 115, 10, 112, 97, 105, 114, 105, 110, 103, 32, 99, 111, 115, 116, 32, 105, 115, 32, 105, 102, 32, 108, 101, 103, 115, 32, 60, 32, 50, 32, 116, 104, 101, 110, 32, 57, 32, 101, 108, 115, 101, 32, 50, 10])), none⟩]) (
.seq ( .region [
 ⟨(some 22), .bin .eql (.t 8) (.c (.i .i64 5)), none⟩,
⟨(some 21), .mv (.t 22), none⟩]) ( .cond (.t 21) ( .region [
 ⟨(some 3), .mv (.c (.s [114, 101, 112, 111, 114, 116, 32, 48, 58, 51, 48, 10, 114, 101, 108, 101, 97, 115, 101, 32, 48, 58, 51, 48, 10, 99, 111, 110, 110, 101, 99, 116, 32, 48, 58, 51, 48, 10, 108, 97, 121, 111, 118, 101, 114, 32, 51, 54, 58, 48, 48, 10, 110, 105, 103, 104, 116, 32, 64, 50, 50, 58, 48, 48, 32, 116, 111, 32, 64, 48, 54, 58, 48, 48, 10, 100, 117, 116, 121, 32, 114, 117, 108, 101, 32, 102, 108, 111, 119, 110, 32, 105, 115, 32, 104, 101, 97, 100, 115, 32, 60, 61, 32, 108, 101, 103, 115, 10, 100, 117, 116, 121, 32, 99, 111, 115, 116, 32, 105, 115, 32, 115, 112, 97, 110, 32, 47, 32, 49, 58, 48, 48, 10, 114, 101, 115, 116, 32, 99, 111, 115, 116, 32, 105, 115, 32, 114, 101, 115, 116, 32, 47, 32, 50, 58, 48, 48, 10, 108, 105, 109, 105, 116, 32, 110, 105, 103, 104, 116, 115, 32, 105, 115, 32, 110, 105, 103, 104, 116, 32, 52, 58, 48, 48, 32, 105, 110, 32, 50, 32, 100, 97, 121, 115, 10])), none⟩]) ( .skip))))))))))))) (
.seq ( .region [
 ⟨(some 24), .mv (.t 3), none⟩,
⟨(some 25), .callf 72 [(.t 24)], none⟩,
⟨(some 23), .mv (.t 25), none⟩,
⟨(some 26), .ext (.t 23) 0, none⟩,
⟨(some 27), .ext (.t 23) 1, none⟩,
⟨(some 28), .ext (.t 23) 2, none⟩,
⟨(some 4), .alloc [(.i .i64 0), (.i .i64 0), (.i .i64 0), (.i .i64 0), (.i .i64 0), (.i .i64 0), (.i .i64 0), .nilsl, .nilsl, .nilsl, .nilsl, .nilsl, .nilsl, (.i .i64 0)] false, none⟩,
⟨none, .st (.t 4) (.t 26) 14, none⟩,
⟨(some 5), .mv (.t 27), none⟩,
⟨(some 6), .mv (.t 28), none⟩]) (
.seq ( .region [
 ⟨(some 29), .ld (.t 4) 14 true, none⟩,
⟨none, .st (.t 2) (.t 29) 14, none⟩]) ( .ret))))), [.cell 2 14 true], false, none⟩
theorem k38 : CodeOk Tryz.prog 38 c38 := codeOk (hs := []) Tryz.func38 (by kernel_rfl)
def c39 : AFunc := ⟨9,
.seq ( .region [
 ⟨(some 2), .box (.t 0) false, none⟩,
⟨(some 4), .mv (.c (.i .i64 0)), none⟩]) (
.seq ( .region [
 ⟨(some 5), .mv (.t 1), none⟩,
⟨(some 6), .fa (.t 2) 13, none⟩,
⟨(some 7), .ld (.t 6) 1 false, none⟩,
⟨(some 8), .mm true [(.t 5), (.t 7)], none⟩,
⟨(some 4), .mv (.t 8), none⟩]) ( .ret)), [.tmp 4], false, none⟩
theorem k39 : CodeOk Tryz.prog 39 c39 := codeOk (hs := []) Tryz.func39 (by kernel_rfl)
def c40_L1 : ACode :=
.seq (
.seq ( .region [
 ⟨(some 97), .mv (.t 11), none⟩,
⟨(some 98), .fa (.t 1) 10, none⟩,
⟨(some 99), .ld (.t 98) 1 false, none⟩,
⟨(some 100), .lenV (.t 99), none⟩,
⟨(some 101), .bin .lss (.t 97) (.t 100), none⟩]) ( .cond (.t 101) ( .skip) ( .exit 6))) (
.seq ( .block 7 (
.seq ( .draws [ ([], ⟨(some 104), .ld (.t 1) 14 true, none⟩),
([], ⟨(some 105), .fa (.t 1) 10, none⟩),
([0], ⟨(some 106), .ld (.t 105) 1 false, none⟩),
([], ⟨(some 107), .mv (.t 11), none⟩),
([], ⟨(some 108), .ia (.t 106) (.t 107) 4, none⟩),
([0], ⟨(some 109), .ld (.t 108) 4 true, none⟩),
([], ⟨(some 110), .callf 75 [(.t 104), (.c (.i .i64 1)), (.t 109), (.c (.i .i64 2))], none⟩),
([], ⟨(some 12), .mv (.t 110), none⟩)]) (
.seq ( .region [
 ⟨(some 111), .mv (.t 12), none⟩,
⟨(some 112), .bin .neq (.t 111) (.c (.i .i64 0)), none⟩]) ( .cond (.t 112) (
.seq ( .region [
 ⟨(some 113), .mv (.t 12), none⟩,
⟨(some 2), .mv (.t 113), none⟩]) ( .ret)) ( .skip))))) ( .region [
 ⟨(some 102), .mv (.t 11), none⟩,
⟨(some 103), .bin .add (.t 102) (.c (.i .i64 1)), none⟩,
⟨(some 11), .mv (.t 103), none⟩]))
def c40_L2 : ACode :=
.seq (
.seq ( .region [
 ⟨(some 73), .mv (.t 9), none⟩,
⟨(some 74), .fa (.t 1) 9, none⟩,
⟨(some 75), .ld (.t 74) 1 false, none⟩,
⟨(some 76), .lenV (.t 75), none⟩,
⟨(some 77), .bin .lss (.t 73) (.t 76), none⟩]) ( .cond (.t 77) ( .skip) ( .exit 4))) (
.seq ( .block 5 (
.seq ( .draws [ ([], ⟨(some 80), .ld (.t 1) 14 true, none⟩),
([], ⟨(some 81), .fa (.t 1) 9, none⟩),
([0], ⟨(some 82), .ld (.t 81) 1 false, none⟩),
([], ⟨(some 83), .mv (.t 9), none⟩),
([], ⟨(some 84), .ia (.t 82) (.t 83) 5, none⟩),
([], ⟨(some 85), .fa (.t 84) 0, none⟩),
([0], ⟨(some 86), .ld (.t 85) 1 false, none⟩),
([], ⟨(some 87), .fa (.t 1) 9, none⟩),
([0, 2, 6], ⟨(some 88), .ld (.t 87) 1 false, none⟩),
([], ⟨(some 89), .mv (.t 9), none⟩),
([], ⟨(some 90), .ia (.t 88) (.t 89) 5, none⟩),
([], ⟨(some 91), .fa (.t 90) 1, none⟩),
([0, 2, 6], ⟨(some 92), .ld (.t 91) 4 true, none⟩),
([], ⟨(some 93), .callf 75 [(.t 80), (.t 86), (.t 92), (.c (.i .i64 1))], none⟩),
([], ⟨(some 10), .mv (.t 93), none⟩)]) (
.seq ( .region [
 ⟨(some 94), .mv (.t 10), none⟩,
⟨(some 95), .bin .neq (.t 94) (.c (.i .i64 0)), none⟩]) ( .cond (.t 95) (
.seq ( .region [
 ⟨(some 96), .mv (.t 10), none⟩,
⟨(some 2), .mv (.t 96), none⟩]) ( .ret)) ( .skip))))) ( .region [
 ⟨(some 78), .mv (.t 9), none⟩,
⟨(some 79), .bin .add (.t 78) (.c (.i .i64 1)), none⟩,
⟨(some 9), .mv (.t 79), none⟩]))
def c40_L3 : ACode :=
.seq (
.seq ( .region [
 ⟨(some 49), .mv (.t 7), none⟩,
⟨(some 50), .fa (.t 1) 8, none⟩,
⟨(some 51), .ld (.t 50) 1 false, none⟩,
⟨(some 52), .lenV (.t 51), none⟩,
⟨(some 53), .bin .lss (.t 49) (.t 52), none⟩]) ( .cond (.t 53) ( .skip) ( .exit 2))) (
.seq ( .block 3 (
.seq ( .draws [ ([], ⟨(some 56), .ld (.t 1) 14 true, none⟩),
([], ⟨(some 57), .fa (.t 1) 8, none⟩),
([0], ⟨(some 58), .ld (.t 57) 1 false, none⟩),
([], ⟨(some 59), .mv (.t 7), none⟩),
([], ⟨(some 60), .ia (.t 58) (.t 59) 6, none⟩),
([], ⟨(some 61), .fa (.t 60) 0, none⟩),
([0], ⟨(some 62), .ld (.t 61) 1 false, none⟩),
([], ⟨(some 63), .fa (.t 1) 8, none⟩),
([0, 2, 6], ⟨(some 64), .ld (.t 63) 1 false, none⟩),
([], ⟨(some 65), .mv (.t 7), none⟩),
([], ⟨(some 66), .ia (.t 64) (.t 65) 6, none⟩),
([], ⟨(some 67), .fa (.t 66) 2, none⟩),
([0, 2, 6], ⟨(some 68), .ld (.t 67) 4 true, none⟩),
([], ⟨(some 69), .callf 75 [(.t 56), (.t 62), (.t 68), (.c (.i .i64 4))], none⟩),
([], ⟨(some 8), .mv (.t 69), none⟩)]) (
.seq ( .region [
 ⟨(some 70), .mv (.t 8), none⟩,
⟨(some 71), .bin .neq (.t 70) (.c (.i .i64 0)), none⟩]) ( .cond (.t 71) (
.seq ( .region [
 ⟨(some 72), .mv (.t 8), none⟩,
⟨(some 2), .mv (.t 72), none⟩]) ( .ret)) ( .skip))))) ( .region [
 ⟨(some 54), .mv (.t 7), none⟩,
⟨(some 55), .bin .add (.t 54) (.c (.i .i64 1)), none⟩,
⟨(some 7), .mv (.t 55), none⟩]))
def c40_L4 : ACode :=
.seq (
.seq ( .region [
 ⟨(some 18), .mv (.t 4), none⟩,
⟨(some 19), .fa (.t 1) 7, none⟩,
⟨(some 20), .ld (.t 19) 1 false, none⟩,
⟨(some 21), .lenV (.t 20), none⟩,
⟨(some 22), .bin .lss (.t 18) (.t 21), none⟩]) ( .cond (.t 22) ( .skip) ( .exit 0))) (
.seq ( .block 1 (
.seq (
.seq ( .region [
 ⟨(some 25), .fa (.t 1) 7, none⟩,
⟨(some 26), .ld (.t 25) 1 false, none⟩,
⟨(some 27), .mv (.t 4), none⟩,
⟨(some 28), .ia (.t 26) (.t 27) 5, none⟩,
⟨(some 29), .fa (.t 28) 0, none⟩,
⟨(some 30), .ld (.t 29) 1 false, none⟩,
⟨(some 31), .callf 74 [(.t 30)], none⟩]) ( .cond (.t 31) (
.seq ( .region [
 ⟨(some 2), .mv (.c (.i .i64 7)), none⟩]) ( .ret)) ( .skip))) (
.seq ( .draws [ ([], ⟨(some 33), .fa (.t 1) 7, none⟩),
([], ⟨(some 34), .ld (.t 33) 1 false, none⟩),
([], ⟨(some 35), .mv (.t 4), none⟩),
([], ⟨(some 36), .slV 5 (.t 34) none (some (.t 35)) none, none⟩),
([], ⟨(some 37), .fa (.t 1) 7, none⟩),
([1], ⟨(some 38), .ld (.t 37) 1 false, none⟩),
([], ⟨(some 39), .mv (.t 4), none⟩),
([], ⟨(some 40), .ia (.t 38) (.t 39) 5, none⟩),
([], ⟨(some 41), .fa (.t 40) 1, none⟩),
([1], ⟨(some 42), .ld (.t 41) 4 true, none⟩),
([], ⟨(some 43), .callf 56 [(.t 36), (.c (.i .i64 0)), (.t 42)], none⟩),
([], ⟨(some 32), .mv (.t 43), none⟩),
([], ⟨(some 44), .ext (.t 32) 0, none⟩),
([], ⟨(some 45), .ext (.t 32) 1, none⟩),
([], ⟨(some 5), .mv (.t 44), none⟩),
([], ⟨(some 6), .mv (.t 45), none⟩)]) (
.seq ( .region [
 ⟨(some 46), .mv (.t 6), none⟩,
⟨(some 47), .bin .neq (.t 46) (.c (.i .i64 0)), none⟩]) ( .cond (.t 47) (
.seq ( .region [
 ⟨(some 48), .mv (.t 6), none⟩,
⟨(some 2), .mv (.t 48), none⟩]) ( .ret)) ( .skip)))))) ( .region [
 ⟨(some 23), .mv (.t 4), none⟩,
⟨(some 24), .bin .add (.t 23) (.c (.i .i64 1)), none⟩,
⟨(some 4), .mv (.t 24), none⟩]))
def c40 : AFunc := ⟨114,
.seq ( .region [
 ⟨(some 1), .box (.t 0) false, none⟩,
⟨(some 2), .mv (.c (.i .i64 0)), none⟩]) (
.seq (
.seq ( .region [
 ⟨(some 13), .ld (.t 1) 14 true, none⟩,
⟨(some 14), .callf 73 [(.t 13)], none⟩,
⟨(some 3), .mv (.t 14), none⟩]) (
.seq ( .region [
 ⟨(some 15), .mv (.t 3), none⟩,
⟨(some 16), .bin .neq (.t 15) (.c (.i .i64 0)), none⟩]) ( .cond (.t 16) (
.seq ( .region [
 ⟨(some 17), .mv (.t 3), none⟩,
⟨(some 2), .mv (.t 17), none⟩]) ( .ret)) ( .skip)))) (
.seq (
.seq ( .region [
 ⟨(some 4), .mv (.c (.i .i64 0)), none⟩]) ( .block 0 ( .loop c40_L4))) (
.seq (
.seq ( .region [
 ⟨(some 7), .mv (.c (.i .i64 0)), none⟩]) ( .block 2 ( .loop c40_L3))) (
.seq (
.seq ( .region [
 ⟨(some 9), .mv (.c (.i .i64 0)), none⟩]) ( .block 4 ( .loop c40_L2))) (
.seq (
.seq ( .region [
 ⟨(some 11), .mv (.c (.i .i64 0)), none⟩]) ( .block 6 ( .loop c40_L1))) (
.seq ( .region [
 ⟨(some 2), .mv (.c (.i .i64 0)), none⟩]) ( .ret))))))), [.tmp 2], false, none⟩
theorem k40 : CodeOk Tryz.prog 40 c40 := codeOk (hs := []) Tryz.func40 (by kernel_rfl)
def c55 : AFunc := ⟨10,
.seq ( .region [
 ⟨(some 1), .box (.t 0) false, none⟩,
⟨(some 2), .mv (.c (.i .i64 0)), none⟩]) (
.seq ( .region [
 ⟨(some 3), .alloc [(.i .i64 0)] true, none⟩,
⟨none, .st (.t 3) (.c (.i .i64 0)) 1, none⟩]) (
.seq (
.seq ( .region [
 ⟨(some 4), .ld (.t 1) 4 true, none⟩,
⟨(some 5), .callf 101 [(.t 4), (.c (.i .i64 1)), (.t 3)], none⟩,
⟨(some 6), .un .not (.t 5), none⟩]) ( .cond (.t 6) (
.seq ( .region [
 ⟨(some 2), .mv (.c (.i .i64 10)), none⟩]) ( .ret)) ( .skip))) (
.seq (
.seq ( .region [
 ⟨(some 7), .ld (.t 1) 4 true, none⟩,
⟨(some 8), .callf 102 [(.t 7)], none⟩,
⟨(some 9), .un .not (.t 8), none⟩]) ( .cond (.t 9) (
.seq ( .region [
 ⟨(some 2), .mv (.c (.i .i64 1)), none⟩]) ( .ret)) ( .skip))) (
.seq ( .region [
 ⟨(some 2), .mv (.c (.i .i64 0)), none⟩]) ( .ret))))), [.tmp 2], false, none⟩
theorem k55 : CodeOk Tryz.prog 55 c55 := codeOk (hs := [3]) Tryz.func55 (by kernel_rfl)
def c56 : AFunc := ⟨22,
.seq ( .region [
 ⟨(some 5), .box (.t 2) false, none⟩,
⟨(some 6), .mv (.c (.i .i64 0)), none⟩,
⟨(some 7), .mv (.c (.i .i64 0)), none⟩]) (
.seq (
.seq ( .region [
 ⟨(some 9), .ld (.t 5) 4 true, none⟩,
⟨(some 10), .callf 59 [(.t 9)], none⟩,
⟨(some 8), .mv (.t 10), none⟩]) (
.seq ( .region [
 ⟨(some 11), .mv (.t 8), none⟩,
⟨(some 12), .bin .neq (.t 11) (.c (.i .i64 0)), none⟩]) ( .cond (.t 12) (
.seq ( .region [
 ⟨(some 13), .mv (.t 8), none⟩,
⟨(some 6), .mv (.c (.i .i64 0)), none⟩,
⟨(some 7), .mv (.t 13), none⟩]) ( .ret)) ( .skip)))) (
.seq ( .draws [ ([], ⟨(some 14), .mv (.t 0), none⟩),
([], ⟨(some 15), .callf 104 [(.t 14)], none⟩),
([], ⟨(some 16), .mv (.t 0), none⟩),
([], ⟨(some 17), .mv (.t 1), none⟩),
([1], ⟨(some 18), .ld (.t 5) 4 true, none⟩),
([], ⟨(some 19), .callf 103 [(.t 15), (.t 16), (.t 17), (.t 18)], none⟩),
([], ⟨(some 20), .ext (.t 19) 0, none⟩),
([], ⟨(some 21), .ext (.t 19) 1, none⟩),
([], ⟨(some 6), .mv (.t 20), none⟩),
([], ⟨(some 7), .mv (.t 21), none⟩)]) ( .ret))), [.tmp 6, .tmp 7], false, none⟩
theorem k56 : CodeOk Tryz.prog 56 c56 := codeOk (hs := []) Tryz.func56 (by kernel_rfl)
def c59 : AFunc := ⟨19,
.seq ( .region [
 ⟨(some 1), .box (.t 0) false, none⟩,
⟨(some 2), .mv (.c (.i .i64 0)), none⟩]) (
.seq ( .region [
 ⟨(some 6), .ld (.t 1) 4 true, none⟩,
⟨(some 7), .callf 111 [(.t 6)], none⟩,
⟨(some 5), .mv (.t 7), none⟩,
⟨(some 8), .ext (.t 5) 0, none⟩,
⟨(some 9), .ext (.t 5) 1, none⟩,
⟨(some 3), .mv (.t 8), none⟩,
⟨(some 4), .mv (.t 9), none⟩]) (
.seq (
.seq ( .region [
 ⟨(some 10), .mv (.t 3), none⟩,
⟨(some 11), .bin .gtr (.t 10) (.c (.i .i64 200)), none⟩,
⟨(some 12), .mv (.t 11), none⟩,
⟨(some 13), .mv (.t 4), (some (12, false))⟩,
⟨(some 14), .bin .gtr (.t 13) (.c (.i .i64 16)), (some (12, false))⟩,
⟨(some 15), .pick (.t 12) (.c (.b true)) (.t 14), none⟩]) ( .cond (.t 15) (
.seq ( .region [
 ⟨(some 2), .mv (.c (.i .i64 10)), none⟩]) ( .ret)) ( .skip))) (
.seq (
.seq ( .region [
 ⟨(some 16), .ld (.t 1) 4 true, none⟩,
⟨(some 17), .callf 112 [(.t 16)], none⟩,
⟨(some 18), .un .not (.t 17), none⟩]) ( .cond (.t 18) (
.seq ( .region [
 ⟨(some 2), .mv (.c (.i .i64 1)), none⟩]) ( .ret)) ( .skip))) (
.seq ( .region [
 ⟨(some 2), .mv (.c (.i .i64 0)), none⟩]) ( .ret))))), [.tmp 2], false, none⟩
theorem k59 : CodeOk Tryz.prog 59 c59 := codeOk (hs := []) Tryz.func59 (by kernel_rfl)
def c62_L1 : ACode :=
.seq ( .region [
 ⟨(some 104), .bin .lss (.t 103) (.t 102), none⟩]) (
.seq ( .cond (.t 104) ( .skip) ( .exit 8)) (
.seq ( .block 9 (
.seq ( .region [
 ⟨(some 105), .ia (.t 101) (.t 103) 4, none⟩,
⟨(some 106), .ld (.t 105) 4 true, none⟩,
⟨(some 20), .alloc [(.i .i64 0), (.i .i64 0), (.s []), .nilsl] false, none⟩,
⟨none, .st (.t 20) (.t 106) 4, none⟩]) (
.seq ( .region [
 ⟨(some 107), .mv (.t 4), none⟩,
⟨(some 108), .mv (.t 12), none⟩,
⟨(some 109), .ld (.t 20) 4 true, none⟩,
⟨(some 110), .callf 115 [(.t 107), (.c (.i .i64 1)), (.t 108), (.t 109), (.c (.i .i64 2))], none⟩,
⟨(some 21), .mv (.t 110), none⟩]) (
.seq ( .region [
 ⟨(some 111), .mv (.t 21), none⟩,
⟨(some 112), .bin .neq (.t 111) (.c (.i .i64 0)), none⟩]) ( .cond (.t 112) (
.seq ( .region [
 ⟨(some 113), .mv (.t 21), none⟩,
⟨(some 2), .mv (.t 113), none⟩]) ( .ret)) ( .skip)))))) ( .region [
 ⟨(some 114), .bin .add (.t 103) (.c (.i .i64 1)), none⟩,
⟨(some 103), .mv (.t 114), none⟩])))
def c62_L2 : ACode :=
.seq ( .region [
 ⟨(some 86), .bin .lss (.t 85) (.t 84), none⟩]) (
.seq ( .cond (.t 86) ( .skip) ( .exit 6)) (
.seq ( .block 7 (
.seq ( .region [
 ⟨(some 87), .ia (.t 83) (.t 85) 5, none⟩,
⟨(some 88), .ld (.t 87) 5 true, none⟩,
⟨(some 17), .alloc [(.i .i64 0), (.i .i64 0), (.i .i64 0), (.s []), .nilsl] false, none⟩,
⟨none, .st (.t 17) (.t 88) 5, none⟩]) (
.seq ( .region [
 ⟨(some 89), .mv (.t 4), none⟩,
⟨(some 90), .fa (.t 17) 0, none⟩,
⟨(some 91), .ld (.t 90) 1 false, none⟩,
⟨(some 92), .mv (.t 12), none⟩,
⟨(some 93), .fa (.t 17) 1, none⟩,
⟨(some 94), .ld (.t 93) 4 true, none⟩,
⟨(some 95), .callf 115 [(.t 89), (.t 91), (.t 92), (.t 94), (.c (.i .i64 1))], none⟩,
⟨(some 18), .mv (.t 95), none⟩]) (
.seq ( .region [
 ⟨(some 96), .mv (.t 18), none⟩,
⟨(some 97), .bin .neq (.t 96) (.c (.i .i64 0)), none⟩]) ( .cond (.t 97) (
.seq ( .region [
 ⟨(some 98), .mv (.t 18), none⟩,
⟨(some 2), .mv (.t 98), none⟩]) ( .ret)) ( .skip)))))) ( .region [
 ⟨(some 99), .bin .add (.t 85) (.c (.i .i64 1)), none⟩,
⟨(some 85), .mv (.t 99), none⟩])))
def c62_L3 : ACode :=
.seq ( .region [
 ⟨(some 68), .bin .lss (.t 67) (.t 66), none⟩]) (
.seq ( .cond (.t 68) ( .skip) ( .exit 4)) (
.seq ( .block 5 (
.seq ( .region [
 ⟨(some 69), .ia (.t 65) (.t 67) 6, none⟩,
⟨(some 70), .ld (.t 69) 6 true, none⟩,
⟨(some 14), .alloc [(.i .i64 0), (.s []), (.i .i64 0), (.i .i64 0), (.s []), .nilsl] false, none⟩,
⟨none, .st (.t 14) (.t 70) 6, none⟩]) (
.seq ( .region [
 ⟨(some 71), .mv (.t 4), none⟩,
⟨(some 72), .fa (.t 14) 0, none⟩,
⟨(some 73), .ld (.t 72) 1 false, none⟩,
⟨(some 74), .mv (.t 12), none⟩,
⟨(some 75), .fa (.t 14) 2, none⟩,
⟨(some 76), .ld (.t 75) 4 true, none⟩,
⟨(some 77), .callf 115 [(.t 71), (.t 73), (.t 74), (.t 76), (.c (.i .i64 4))], none⟩,
⟨(some 15), .mv (.t 77), none⟩]) (
.seq ( .region [
 ⟨(some 78), .mv (.t 15), none⟩,
⟨(some 79), .bin .neq (.t 78) (.c (.i .i64 0)), none⟩]) ( .cond (.t 79) (
.seq ( .region [
 ⟨(some 80), .mv (.t 15), none⟩,
⟨(some 2), .mv (.t 80), none⟩]) ( .ret)) ( .skip)))))) ( .region [
 ⟨(some 81), .bin .add (.t 67) (.c (.i .i64 1)), none⟩,
⟨(some 67), .mv (.t 81), none⟩])))
def c62_L4 : ACode :=
.seq (
.seq ( .region [
 ⟨(some 38), .mv (.t 7), none⟩,
⟨(some 39), .bin .leq (.t 38) (.c (.i .i64 3)), none⟩]) ( .cond (.t 39) ( .skip) ( .exit 2))) (
.seq ( .block 3 (
.seq ( .region [
 ⟨(some 43), .mv (.t 7), none⟩,
⟨(some 44), .fa (.t 6) 0, none⟩,
⟨(some 45), .ld (.t 44) 1 false, none⟩,
⟨(some 46), .callf 89 [(.t 43), (.t 45)], none⟩,
⟨(some 42), .mv (.t 46), none⟩,
⟨(some 47), .ext (.t 42) 0, none⟩,
⟨(some 48), .ext (.t 42) 1, none⟩,
⟨(some 8), .mv (.t 47), none⟩,
⟨(some 9), .mv (.t 48), none⟩]) (
.seq ( .region [
 ⟨(some 49), .mv (.t 9), none⟩,
⟨(some 50), .bin .eql (.t 49) (.c (.i .i64 0)), none⟩]) ( .cond (.t 50) (
.seq ( .region [
 ⟨(some 2), .mv (.c (.i .i64 7)), none⟩]) ( .ret)) ( .skip))))) ( .region [
 ⟨(some 40), .mv (.t 7), none⟩,
⟨(some 41), .bin .add (.t 40) (.c (.i .i64 1)), none⟩,
⟨(some 7), .mv (.t 41), none⟩]))
def c62_L5 : ACode :=
.seq ( .region [
 ⟨(some 34), .bin .lss (.t 33) (.t 32), none⟩]) (
.seq ( .cond (.t 34) ( .skip) ( .exit 0)) (
.seq ( .block 1 (
.seq ( .region [
 ⟨(some 35), .mv (.t 33), none⟩,
⟨(some 36), .ia (.t 31) (.t 33) 5, none⟩,
⟨(some 37), .ld (.t 36) 5 true, none⟩,
⟨(some 6), .alloc [(.s []), (.i .i64 0), (.i .i64 0), (.s []), .nilsl] false, none⟩,
⟨(some 5), .mv (.t 35), none⟩,
⟨none, .st (.t 6) (.t 37) 5, none⟩]) (
.seq (
.seq ( .region [
 ⟨(some 7), .mv (.c (.i .i64 1)), none⟩]) ( .block 2 ( .loop c62_L4))) (
.seq ( .region [
 ⟨(some 52), .mv (.t 4), none⟩,
⟨(some 53), .mv (.t 5), none⟩,
⟨(some 54), .callf 114 [(.t 52), (.t 53)], none⟩,
⟨(some 51), .mv (.t 54), none⟩,
⟨(some 55), .ext (.t 51) 0, none⟩,
⟨(some 56), .ext (.t 51) 1, none⟩,
⟨(some 10), .mv (.t 55), none⟩,
⟨(some 11), .mv (.t 56), none⟩]) (
.seq ( .region [
 ⟨(some 57), .mv (.t 11), none⟩,
⟨(some 58), .bin .neq (.t 57) (.c (.i .i64 0)), none⟩]) ( .cond (.t 58) (
.seq ( .region [
 ⟨(some 59), .mv (.t 11), none⟩,
⟨(some 2), .mv (.t 59), none⟩]) ( .ret)) ( .skip))))))) ( .region [
 ⟨(some 60), .bin .add (.t 33) (.c (.i .i64 1)), none⟩,
⟨(some 33), .mv (.t 60), none⟩])))
def c62 : AFunc := ⟨115,
.seq ( .region [
 ⟨(some 1), .box (.t 0) false, none⟩,
⟨(some 2), .mv (.c (.i .i64 0)), none⟩]) (
.seq (
.seq ( .region [
 ⟨(some 22), .ld (.t 1) 14 true, none⟩,
⟨(some 23), .callf 113 [(.t 22)], none⟩,
⟨(some 3), .mv (.t 23), none⟩]) (
.seq ( .region [
 ⟨(some 24), .mv (.t 3), none⟩,
⟨(some 25), .bin .neq (.t 24) (.c (.i .i64 0)), none⟩]) ( .cond (.t 25) (
.seq ( .region [
 ⟨(some 26), .mv (.t 3), none⟩,
⟨(some 2), .mv (.t 26), none⟩]) ( .ret)) ( .skip)))) (
.seq ( .region [
 ⟨(some 27), .fa (.t 1) 7, none⟩,
⟨(some 28), .ld (.t 27) 1 false, none⟩,
⟨(some 29), .callf 96 [(.t 28)], none⟩,
⟨(some 4), .mv (.t 29), none⟩]) (
.seq (
.seq ( .region [
 ⟨(some 30), .fa (.t 1) 7, none⟩,
⟨(some 31), .ld (.t 30) 1 false, none⟩,
⟨(some 32), .lenV (.t 31), none⟩,
⟨(some 33), .mv (.c (.i .i64 0)), none⟩]) ( .block 0 ( .loop c62_L5))) (
.seq ( .region [
 ⟨(some 61), .fa (.t 1) 7, none⟩,
⟨(some 62), .ld (.t 61) 1 false, none⟩,
⟨(some 63), .lenV (.t 62), none⟩,
⟨(some 12), .mv (.t 63), none⟩]) (
.seq (
.seq ( .region [
 ⟨(some 64), .fa (.t 1) 8, none⟩,
⟨(some 65), .ld (.t 64) 1 false, none⟩,
⟨(some 66), .lenV (.t 65), none⟩,
⟨(some 67), .mv (.c (.i .i64 0)), none⟩]) ( .block 4 ( .loop c62_L3))) (
.seq (
.seq ( .region [
 ⟨(some 82), .fa (.t 1) 9, none⟩,
⟨(some 83), .ld (.t 82) 1 false, none⟩,
⟨(some 84), .lenV (.t 83), none⟩,
⟨(some 85), .mv (.c (.i .i64 0)), none⟩]) ( .block 6 ( .loop c62_L2))) (
.seq (
.seq ( .region [
 ⟨(some 100), .fa (.t 1) 10, none⟩,
⟨(some 101), .ld (.t 100) 1 false, none⟩,
⟨(some 102), .lenV (.t 101), none⟩,
⟨(some 103), .mv (.c (.i .i64 0)), none⟩]) ( .block 8 ( .loop c62_L1))) (
.seq ( .region [
 ⟨(some 2), .mv (.c (.i .i64 0)), none⟩]) ( .ret))))))))), [.tmp 2], false, none⟩
theorem k62 : CodeOk Tryz.prog 62 c62 := codeOk (hs := []) Tryz.func62 (by kernel_rfl)
def c66 : AFunc := ⟨23,
.seq ( .region [
 ⟨(some 4), .mv (.c (.i .i64 0)), none⟩]) (
.seq (
.seq ( .region [
 ⟨(some 5), .mv (.t 0), none⟩,
⟨(some 6), .lenV (.t 5), none⟩,
⟨(some 7), .bin .eql (.t 6) (.c (.i .i64 0)), none⟩]) ( .cond (.t 7) (
.seq ( .region [
 ⟨(some 8), .mv (.t 1), none⟩,
⟨(some 9), .bin .and (.t 8) (.c (.i .i64 65535)), none⟩,
⟨(some 4), .mv (.t 9), none⟩]) ( .ret)) ( .skip))) (
.seq ( .draws [ ([], ⟨(some 10), .mv (.t 0), none⟩),
([], ⟨(some 11), .mv (.t 1), none⟩),
([], ⟨(some 12), .mv (.t 0), none⟩),
([], ⟨(some 13), .lenV (.t 12), none⟩),
([], ⟨(some 14), .bin .rem (.t 11) (.t 13), none⟩),
([], ⟨(some 15), .ia (.t 10) (.t 14) 1, none⟩),
([], ⟨(some 16), .ld (.t 15) 1 false, none⟩),
([], ⟨(some 17), .bin .and (.t 16) (.c (.i .i64 65535)), none⟩),
([], ⟨(some 18), .mv (.t 1), none⟩),
([], ⟨(some 19), .mv (.t 0), none⟩),
([], ⟨(some 20), .lenV (.t 19), none⟩),
([], ⟨(some 21), .bin .quo (.t 18) (.t 20), none⟩),
([], ⟨(some 22), .bin .add (.t 17) (.t 21), none⟩),
([], ⟨(some 4), .mv (.t 22), none⟩)]) ( .ret))), [.tmp 4], false, none⟩
theorem k66 : CodeOk Tryz.prog 66 c66 := codeOk (hs := []) Tryz.func66 (by kernel_rfl)
def c67 : AFunc := ⟨18,
.seq ( .region [
 ⟨(some 1), .box (.t 0) false, none⟩,
⟨(some 2), .mv (.c (.b false)), none⟩]) (
.seq ( .region [
 ⟨(some 3), .fa (.t 1) 0, none⟩,
⟨(some 4), .ld (.t 3) 1 false, none⟩,
⟨(some 5), .bin .geq (.t 4) (.c (.i .i64 0)), none⟩,
⟨(some 6), .mv (.t 5), none⟩,
⟨(some 7), .fa (.t 1) 0, (some (6, true))⟩,
⟨(some 8), .ld (.t 7) 1 false, (some (6, true))⟩,
⟨(some 9), .fa (.t 1) 1, (some (6, true))⟩,
⟨(some 10), .ld (.t 9) 1 false, (some (6, true))⟩,
⟨(some 11), .bin .lss (.t 8) (.t 10), (some (6, true))⟩,
⟨(some 12), .pick (.t 6) (.t 11) (.c (.b false)), none⟩,
⟨(some 13), .mv (.t 12), none⟩,
⟨(some 14), .fa (.t 1) 1, (some (13, true))⟩,
⟨(some 15), .ld (.t 14) 1 false, (some (13, true))⟩,
⟨(some 16), .bin .leq (.t 15) (.c (.i .i64 52596000)), (some (13, true))⟩,
⟨(some 17), .pick (.t 13) (.t 16) (.c (.b false)), none⟩,
⟨(some 2), .mv (.t 17), none⟩]) ( .ret)), [.tmp 2], false, none⟩
theorem k67 : CodeOk Tryz.prog 67 c67 := codeOk (hs := []) Tryz.func67 (by kernel_rfl)
def c68 : AFunc := ⟨22,
.seq ( .region [
 ⟨(some 3), .box (.t 0) false, none⟩,
⟨(some 4), .box (.t 1) false, none⟩,
⟨(some 6), .mv (.c (.i .i64 0)), none⟩]) (
.seq (
.seq ( .region [
 ⟨(some 9), .ld (.t 3) 3 true, none⟩,
⟨(some 10), .callf 116 [(.t 9)], none⟩,
⟨(some 7), .mv (.t 10), none⟩]) (
.seq ( .region [
 ⟨(some 11), .mv (.t 7), none⟩,
⟨(some 12), .bin .neq (.t 11) (.c (.i .i64 0)), none⟩]) ( .cond (.t 12) (
.seq ( .region [
 ⟨(some 13), .mv (.t 7), none⟩,
⟨(some 6), .mv (.t 13), none⟩]) ( .ret)) ( .skip)))) (
.seq (
.seq ( .region [
 ⟨(some 14), .ld (.t 4) 14 true, none⟩,
⟨(some 15), .callf 62 [(.t 14)], none⟩,
⟨(some 8), .mv (.t 15), none⟩]) (
.seq ( .region [
 ⟨(some 16), .mv (.t 8), none⟩,
⟨(some 17), .bin .neq (.t 16) (.c (.i .i64 0)), none⟩]) ( .cond (.t 17) (
.seq ( .region [
 ⟨(some 18), .mv (.t 8), none⟩,
⟨(some 6), .mv (.t 18), none⟩]) ( .ret)) ( .skip)))) (
.seq ( .region [
 ⟨(some 19), .ld (.t 4) 14 true, none⟩,
⟨(some 20), .mv (.t 2), none⟩,
⟨(some 21), .callf 30 [(.t 19), (.t 20)], none⟩,
⟨(some 6), .mv (.t 21), none⟩]) ( .ret)))), [.tmp 6], false, none⟩
theorem k68 : CodeOk Tryz.prog 68 c68 := codeOk (hs := []) Tryz.func68 (by kernel_rfl)
def c69_L1 : ACode :=
.seq ( .region [
 ⟨(some 93), .bin .lss (.t 92) (.t 91), none⟩]) (
.seq ( .cond (.t 93) ( .skip) ( .exit 8)) (
.seq ( .block 9 (
.seq ( .region [
 ⟨(some 94), .ia (.t 90) (.t 92) 1, none⟩,
⟨(some 95), .ld (.t 94) 1 false, none⟩,
⟨(some 18), .mv (.t 95), none⟩]) (
.seq ( .region [
 ⟨(some 96), .mv (.t 13), none⟩,
⟨(some 97), .mv (.t 18), none⟩,
⟨(some 98), .lk (.one .int) (.t 96) (.t 97) (.i .i64 0) false, none⟩,
⟨(some 99), .fa (.t 12) 2, none⟩,
⟨(some 100), .ld (.t 99) 1 false, none⟩,
⟨(some 101), .bin .gtr (.t 98) (.t 100), none⟩]) ( .cond (.t 101) ( .region [
 ⟨(some 102), .mv (.t 10), none⟩,
⟨(some 103), .mv (.t 11), none⟩,
⟨(some 104), .mv (.t 18), none⟩,
⟨(some 105), .build [(.b false), (.i .i64 0), (.i .i64 0)] [(1, 1, (.t 103)), (2, 1, (.t 104))], none⟩,
⟨(some 106), .bsl [(.b false), (.i .i64 0), (.i .i64 0)] 1 [(0, (.t 105))], none⟩,
⟨(some 107), .app 3 24 (.t 102) (.t 106) false false, none⟩,
⟨(some 10), .mv (.t 107), none⟩]) ( .skip))))) ( .region [
 ⟨(some 108), .bin .add (.t 92) (.c (.i .i64 1)), none⟩,
⟨(some 92), .mv (.t 108), none⟩])))
theorem c69_L1_w : wrM (wrC (.loop c69_L1)) = 649032155556696312045212444918784 := nr rfl
def c69_L2 : ACode :=
.seq (
.seq ( .region [
 ⟨(some 70), .mv (.t 16), none⟩,
⟨(some 71), .mv (.t 7), none⟩,
⟨(some 72), .mv (.t 14), none⟩,
⟨(some 73), .ia (.t 71) (.t 72) 1, none⟩,
⟨(some 74), .ld (.t 73) 1 false, none⟩,
⟨(some 75), .bin .leq (.t 70) (.t 74), none⟩]) ( .cond (.t 75) ( .skip) ( .exit 6))) (
.seq ( .block 7 ( .draws [ ([], ⟨(some 78), .mv (.t 13), none⟩),
([], ⟨(some 79), .mv (.t 16), none⟩),
([], ⟨(some 80), .lk (.one .int) (.t 78) (.t 79) (.i .i64 0) false, none⟩),
([], ⟨(some 81), .fa (.t 15) 2, none⟩),
([2], ⟨(some 82), .ld (.t 81) 1 false, none⟩),
([], ⟨(some 83), .mv (.t 11), none⟩),
([], ⟨(some 84), .ia (.t 82) (.t 83) 1, none⟩),
([2], ⟨(some 85), .ld (.t 84) 1 false, none⟩),
([], ⟨(some 86), .bin .add (.t 80) (.t 85), none⟩),
([], ⟨none, .mu (.one .int) (.t 78) (.t 79) (.t 86), none⟩)])) ( .region [
 ⟨(some 76), .mv (.t 16), none⟩,
⟨(some 77), .bin .add (.t 76) (.c (.i .i64 1)), none⟩,
⟨(some 16), .mv (.t 77), none⟩]))
theorem c69_L2_w : wrM (wrC (.loop c69_L2)) = 154741324319051816951152640 := nr rfl
def c69_L3 : ACode :=
.seq ( .region [
 ⟨(some 58), .bin .lss (.t 57) (.t 56), none⟩]) (
.seq ( .cond (.t 58) ( .skip) ( .exit 4)) (
.seq ( .block 5 (
.seq ( .region [
 ⟨(some 59), .mv (.t 57), none⟩,
⟨(some 60), .ia (.t 55) (.t 57) 3, none⟩,
⟨(some 61), .ld (.t 60) 3 true, none⟩,
⟨(some 15), .alloc [(.i .i64 0), (.i .i64 0), .nilsl] false, none⟩,
⟨(some 14), .mv (.t 59), none⟩,
⟨none, .st (.t 15) (.t 61) 3, none⟩]) (
.seq ( .draws [ ([], ⟨(some 62), .mv (.t 7), none⟩),
([], ⟨(some 63), .mv (.t 14), none⟩),
([], ⟨(some 64), .ia (.t 62) (.t 63) 1, none⟩),
([], ⟨(some 65), .ld (.t 64) 1 false, none⟩),
([], ⟨(some 66), .fa (.t 12) 3, none⟩),
([3], ⟨(some 67), .ld (.t 66) 1 false, none⟩),
([], ⟨(some 68), .bin .sub (.t 65) (.t 67), none⟩),
([], ⟨(some 69), .bin .add (.t 68) (.c (.i .i64 1)), none⟩),
([], ⟨(some 16), .mv (.t 69), none⟩)]) ( .block 6 ( .loop c69_L2))))) ( .region [
 ⟨(some 87), .bin .add (.t 57) (.c (.i .i64 1)), none⟩,
⟨(some 57), .mv (.t 87), none⟩])))
theorem c69_L3_w : wrM (wrC (.loop c69_L3)) = 309485009677229880649039872 := nr rfl
def c69_L4 : ACode :=
.seq ( .region [
 ⟨(some 50), .bin .lss (.t 49) (.t 48), none⟩]) (
.seq ( .cond (.t 50) ( .skip) ( .exit 2)) (
.seq ( .block 3 (
.seq ( .region [
 ⟨(some 51), .mv (.t 49), none⟩,
⟨(some 52), .ia (.t 47) (.t 49) 4, none⟩,
⟨(some 53), .ld (.t 52) 4 true, none⟩,
⟨(some 12), .alloc [(.s []), (.s []), (.i .i64 0), (.i .i64 0)] false, none⟩,
⟨(some 11), .mv (.t 51), none⟩,
⟨none, .st (.t 12) (.t 53) 4, none⟩]) (
.seq ( .region [
 ⟨(some 54), .mkmap false, none⟩,
⟨(some 13), .mv (.t 54), none⟩]) (
.seq (
.seq ( .region [
 ⟨(some 55), .mv (.t 2), none⟩,
⟨(some 56), .lenV (.t 55), none⟩,
⟨(some 57), .mv (.c (.i .i64 0)), none⟩]) ( .block 4 ( .loop c69_L3))) (
.seq ( .region [
 ⟨(some 88), .mv (.t 13), none⟩,
⟨(some 89), .callf 119 [(.t 88)], none⟩,
⟨(some 90), .callf 118 [(.t 89)], none⟩,
⟨(some 91), .lenV (.t 90), none⟩,
⟨(some 92), .mv (.c (.i .i64 0)), none⟩]) ( .block 8 ( .loop c69_L1))))))) ( .region [
 ⟨(some 109), .bin .add (.t 49) (.c (.i .i64 1)), none⟩,
⟨(some 49), .mv (.t 109), none⟩])))
def c69_L5 : ACode :=
.seq ( .region [
 ⟨(some 29), .bin .lss (.t 28) (.t 27), none⟩]) (
.seq ( .cond (.t 29) ( .skip) ( .exit 0)) (
.seq ( .block 1 (
.seq ( .region [
 ⟨(some 30), .mv (.t 28), none⟩,
⟨(some 31), .ia (.t 26) (.t 28) 3, none⟩,
⟨(some 32), .ld (.t 31) 3 true, none⟩,
⟨(some 9), .alloc [(.i .i64 0), (.i .i64 0), .nilsl] false, none⟩,
⟨(some 8), .mv (.t 30), none⟩,
⟨none, .st (.t 9) (.t 32) 3, none⟩]) ( .region [
 ⟨(some 34), .mv (.t 7), none⟩,
⟨(some 35), .mv (.t 8), none⟩,
⟨(some 36), .ld (.t 3) 3 true, none⟩,
⟨(some 37), .fa (.t 9) 0, none⟩,
⟨(some 38), .fa (.t 37) 0, none⟩,
⟨(some 39), .ld (.t 38) 1 false, none⟩,
⟨(some 40), .callf 117 [(.t 36), (.t 39)], none⟩,
⟨(some 33), .mv (.t 40), none⟩,
⟨(some 41), .ext (.t 33) 0, none⟩,
⟨(some 42), .ext (.t 33) 1, none⟩,
⟨(some 43), .ext (.t 33) 2, none⟩,
⟨(some 44), .ia (.t 34) (.t 35) 1, none⟩,
⟨none, .st (.t 44) (.t 41) 1, none⟩]))) ( .region [
 ⟨(some 45), .bin .add (.t 28) (.c (.i .i64 1)), none⟩,
⟨(some 28), .mv (.t 45), none⟩])))
theorem c69_L5_w : wrM (wrC (.loop c69_L5)) = 70368475742976 := nr rfl
def c69 : AFunc := ⟨111,
.seq ( .region [
 ⟨(some 3), .box (.t 0) false, none⟩,
⟨(some 4), .box (.t 1) false, none⟩,
⟨(some 6), .mv (.c .nilsl), none⟩]) (
.seq (
.seq ( .region [
 ⟨(some 19), .fa (.t 4) 11, none⟩,
⟨(some 20), .ld (.t 19) 1 false, none⟩,
⟨(some 21), .lenV (.t 20), none⟩,
⟨(some 22), .bin .eql (.t 21) (.c (.i .i64 0)), none⟩]) ( .cond (.t 22) (
.seq ( .region [
 ⟨(some 6), .mv (.c .nilsl), none⟩]) ( .ret)) ( .skip))) (
.seq ( .region [
 ⟨(some 23), .mv (.t 2), none⟩,
⟨(some 24), .lenV (.t 23), none⟩,
⟨(some 25), .mksl [(.i .i64 0)] 8 (.t 24) false, none⟩,
⟨(some 7), .mv (.t 25), none⟩]) (
.seq (
.seq ( .region [
 ⟨(some 26), .mv (.t 2), none⟩,
⟨(some 27), .lenV (.t 26), none⟩,
⟨(some 28), .mv (.c (.i .i64 0)), none⟩]) ( .block 0 ( .loop c69_L5))) (
.seq ( .region [
 ⟨(some 10), .mv (.c .nilsl), none⟩]) (
.seq (
.seq ( .region [
 ⟨(some 46), .fa (.t 4) 11, none⟩,
⟨(some 47), .ld (.t 46) 1 false, none⟩,
⟨(some 48), .lenV (.t 47), none⟩,
⟨(some 49), .mv (.c (.i .i64 0)), none⟩]) ( .block 2 ( .loop c69_L4))) (
.seq ( .region [
 ⟨(some 110), .mv (.t 10), none⟩,
⟨(some 6), .mv (.t 110), none⟩]) ( .ret))))))), [.tmp 6], false, (some 0)⟩
theorem k69 : CodeOk Tryz.prog 69 c69 := codeOk (hs := [1000000]) Tryz.func69 (by kernel_rfl)
def c70 : AFunc := ⟨22,
.seq ( .region [
 ⟨(some 3), .box (.t 0) false, none⟩,
⟨(some 4), .box (.t 1) false, none⟩,
⟨(some 6), .mv (.c (.i .i64 0)), none⟩]) (
.seq (
.seq ( .region [
 ⟨(some 9), .ld (.t 3) 3 true, none⟩,
⟨(some 10), .callf 120 [(.t 9)], none⟩,
⟨(some 7), .mv (.t 10), none⟩]) (
.seq ( .region [
 ⟨(some 11), .mv (.t 7), none⟩,
⟨(some 12), .bin .neq (.t 11) (.c (.i .i64 0)), none⟩]) ( .cond (.t 12) (
.seq ( .region [
 ⟨(some 13), .mv (.t 7), none⟩,
⟨(some 6), .mv (.t 13), none⟩]) ( .ret)) ( .skip)))) (
.seq (
.seq ( .region [
 ⟨(some 14), .ld (.t 4) 14 true, none⟩,
⟨(some 15), .callf 40 [(.t 14)], none⟩,
⟨(some 8), .mv (.t 15), none⟩]) (
.seq ( .region [
 ⟨(some 16), .mv (.t 8), none⟩,
⟨(some 17), .bin .neq (.t 16) (.c (.i .i64 0)), none⟩]) ( .cond (.t 17) (
.seq ( .region [
 ⟨(some 18), .mv (.t 8), none⟩,
⟨(some 6), .mv (.t 18), none⟩]) ( .ret)) ( .skip)))) (
.seq ( .region [
 ⟨(some 19), .ld (.t 4) 14 true, none⟩,
⟨(some 20), .mv (.t 2), none⟩,
⟨(some 21), .callf 31 [(.t 19), (.t 20)], none⟩,
⟨(some 6), .mv (.t 21), none⟩]) ( .ret)))), [.tmp 6], false, none⟩
theorem k70 : CodeOk Tryz.prog 70 c70 := codeOk (hs := []) Tryz.func70 (by kernel_rfl)
def c71 : AFunc := ⟨16,
.seq ( .region [
 ⟨(some 2), .box (.t 0) false, none⟩,
⟨(some 4), .mv (.c (.i .i64 0)), none⟩]) (
.seq ( .region [
 ⟨(some 9), .ld (.t 2) 3 true, none⟩,
⟨(some 10), .mv (.t 1), none⟩,
⟨(some 11), .callf 121 [(.t 9), (.t 10)], none⟩,
⟨(some 8), .mv (.t 11), none⟩,
⟨(some 12), .ext (.t 8) 0, none⟩,
⟨(some 13), .ext (.t 8) 1, none⟩,
⟨(some 14), .ext (.t 8) 2, none⟩,
⟨(some 5), .mv (.t 12), none⟩,
⟨(some 6), .mv (.t 13), none⟩,
⟨(some 7), .mv (.t 14), none⟩]) (
.seq ( .region [
 ⟨(some 15), .mv (.t 5), none⟩,
⟨(some 4), .mv (.t 15), none⟩]) ( .ret))), [.tmp 4], false, none⟩
theorem k71 : CodeOk Tryz.prog 71 c71 := codeOk (hs := []) Tryz.func71 (by kernel_rfl)
def c72_L1 : ACode :=
.seq (
.seq ( .region [
 ⟨(some 24), .mv (.t 9), none⟩,
⟨(some 25), .mv (.t 5), none⟩,
⟨(some 26), .lenV (.t 25), none⟩,
⟨(some 27), .bin .lss (.t 24) (.t 26), none⟩]) ( .cond (.t 27) ( .skip) ( .exit 0))) (
.seq ( .block 1 (
.seq ( .region [
 ⟨(some 31), .mv (.t 5), none⟩,
⟨(some 32), .mv (.t 9), none⟩,
⟨(some 33), .ia (.t 31) (.t 32) 1, none⟩,
⟨(some 34), .ld (.t 33) 1 false, none⟩,
⟨(some 35), .callf 123 [(.t 34)], none⟩,
⟨(some 30), .mv (.t 35), none⟩,
⟨(some 36), .ext (.t 30) 0, none⟩,
⟨(some 37), .ext (.t 30) 1, none⟩,
⟨(some 38), .ext (.t 30) 2, none⟩,
⟨(some 10), .mv (.t 36), none⟩,
⟨(some 11), .mv (.t 37), none⟩,
⟨(some 12), .mv (.t 38), none⟩]) (
.seq (
.seq ( .region [
 ⟨(some 39), .mv (.t 12), none⟩,
⟨(some 40), .bin .eql (.t 39) (.c (.i .i64 0)), none⟩,
⟨(some 41), .mv (.t 40), none⟩,
⟨(some 42), .mv (.t 10), (some (41, true))⟩,
⟨(some 43), .lenV (.t 42), (some (41, true))⟩,
⟨(some 44), .bin .gtr (.t 43) (.c (.i .i64 0)), (some (41, true))⟩,
⟨(some 45), .pick (.t 41) (.t 44) (.c (.b false)), none⟩]) ( .cond (.t 45) ( .region [
 ⟨(some 46), .mv (.t 10), none⟩,
⟨(some 47), .callf 124 [(.t 7), (.t 8), (.t 46)], none⟩,
⟨(some 12), .mv (.t 47), none⟩]) ( .skip))) (
.seq ( .region [
 ⟨(some 48), .mv (.t 12), none⟩,
⟨(some 49), .bin .neq (.t 48) (.c (.i .i64 0)), none⟩]) ( .cond (.t 49) (
.seq ( .region [
 ⟨(some 50), .build [(.i .i64 0), (.i .i64 0), (.i .i64 0), (.i .i64 0), (.i .i64 0), (.i .i64 0), (.i .i64 0), .nilsl, .nilsl, .nilsl, .nilsl, .nilsl, .nilsl, (.i .i64 0)] [], none⟩,
⟨(some 51), .mv (.t 9), none⟩,
⟨(some 52), .bin .add (.t 51) (.c (.i .i64 1)), none⟩,
⟨(some 53), .mv (.t 12), none⟩,
⟨none, .st (.t 2) (.t 50) 14, none⟩,
⟨(some 3), .mv (.t 52), none⟩,
⟨(some 4), .mv (.t 53), none⟩]) ( .ret)) ( .skip)))))) ( .region [
 ⟨(some 28), .mv (.t 9), none⟩,
⟨(some 29), .bin .add (.t 28) (.c (.i .i64 1)), none⟩,
⟨(some 9), .mv (.t 29), none⟩]))
theorem c72_L1_w : wrM (wrC (.loop c72_L1)) = 18014398492712472 := nr rfl
def c72 : AFunc := ⟨61,
.seq ( .region [
 ⟨(some 2), .alloc [(.i .i64 0), (.i .i64 0), (.i .i64 0), (.i .i64 0), (.i .i64 0), (.i .i64 0), (.i .i64 0), .nilsl, .nilsl, .nilsl, .nilsl, .nilsl, .nilsl, (.i .i64 0)] false, none⟩,
⟨(some 3), .mv (.c (.i .i64 0)), none⟩,
⟨(some 4), .mv (.c (.i .i64 0)), none⟩]) (
.seq ( .region [
 ⟨(some 15), .mv (.t 0), none⟩,
⟨(some 16), .callf 122 [(.t 15)], none⟩,
⟨(some 14), .mv (.t 16), none⟩,
⟨(some 17), .ext (.t 14) 0, none⟩,
⟨(some 18), .ext (.t 14) 1, none⟩,
⟨(some 5), .mv (.t 17), none⟩,
⟨(some 6), .mv (.t 18), none⟩]) (
.seq (
.seq ( .region [
 ⟨(some 19), .mv (.t 6), none⟩,
⟨(some 20), .bin .neq (.t 19) (.c (.i .i64 0)), none⟩]) ( .cond (.t 20) (
.seq ( .region [
 ⟨(some 21), .build [(.i .i64 0), (.i .i64 0), (.i .i64 0), (.i .i64 0), (.i .i64 0), (.i .i64 0), (.i .i64 0), .nilsl, .nilsl, .nilsl, .nilsl, .nilsl, .nilsl, (.i .i64 0)] [], none⟩,
⟨(some 22), .mv (.t 6), none⟩,
⟨none, .st (.t 2) (.t 21) 14, none⟩,
⟨(some 3), .mv (.c (.i .i64 0)), none⟩,
⟨(some 4), .mv (.t 22), none⟩]) ( .ret)) ( .skip))) (
.seq ( .region [
 ⟨(some 23), .build [(.i .i64 0), (.i .i64 0), (.i .i64 0), (.i .i64 0), (.i .i64 0), (.i .i64 0), (.i .i64 0), .nilsl, .nilsl, .nilsl, .nilsl, .nilsl, .nilsl, (.i .i64 0)] [(3, 1, (.c (.i .i64 1440))), (4, 1, (.c (.i .i64 2880)))], none⟩,
⟨(some 7), .alloc [(.i .i64 0), (.i .i64 0), (.i .i64 0), (.i .i64 0), (.i .i64 0), (.i .i64 0), (.i .i64 0), .nilsl, .nilsl, .nilsl, .nilsl, .nilsl, .nilsl, (.i .i64 0)] true, none⟩,
⟨none, .st (.t 7) (.t 23) 14, none⟩]) (
.seq ( .region [
 ⟨(some 8), .alloc [(.b false), (.b false), (.b false), (.b false), (.b false), (.b false), (.b false)] true, none⟩]) (
.seq (
.seq ( .region [
 ⟨(some 9), .mv (.c (.i .i64 0)), none⟩]) ( .block 0 ( .loop c72_L1))) (
.seq (
.seq ( .region [
 ⟨(some 54), .ld (.t 7) 14 true, none⟩,
⟨(some 55), .callf 73 [(.t 54)], none⟩,
⟨(some 13), .mv (.t 55), none⟩]) (
.seq ( .region [
 ⟨(some 56), .mv (.t 13), none⟩,
⟨(some 57), .bin .neq (.t 56) (.c (.i .i64 0)), none⟩]) ( .cond (.t 57) (
.seq ( .region [
 ⟨(some 58), .build [(.i .i64 0), (.i .i64 0), (.i .i64 0), (.i .i64 0), (.i .i64 0), (.i .i64 0), (.i .i64 0), .nilsl, .nilsl, .nilsl, .nilsl, .nilsl, .nilsl, (.i .i64 0)] [], none⟩,
⟨(some 59), .mv (.t 13), none⟩,
⟨none, .st (.t 2) (.t 58) 14, none⟩,
⟨(some 3), .mv (.c (.i .i64 0)), none⟩,
⟨(some 4), .mv (.t 59), none⟩]) ( .ret)) ( .skip)))) (
.seq ( .region [
 ⟨(some 60), .ld (.t 7) 14 true, none⟩,
⟨none, .st (.t 2) (.t 60) 14, none⟩,
⟨(some 3), .mv (.c (.i .i64 0)), none⟩,
⟨(some 4), .mv (.c (.i .i64 0)), none⟩]) ( .ret)))))))), [.cell 2 14 true, .tmp 3, .tmp 4], false, none⟩
theorem k72 : CodeOk Tryz.prog 72 c72 := codeOk (hs := [7, 8]) Tryz.func72 (by kernel_rfl)
def c73_L1 : ACode :=
.seq (
.seq ( .region [
 ⟨(some 217), .mv (.t 12), none⟩,
⟨(some 218), .fa (.t 1) 10, none⟩,
⟨(some 219), .ld (.t 218) 1 false, none⟩,
⟨(some 220), .lenV (.t 219), none⟩,
⟨(some 221), .bin .lss (.t 217) (.t 220), none⟩]) ( .cond (.t 221) ( .skip) ( .exit 10))) (
.seq ( .block 11 (
.seq ( .region [
 ⟨(some 224), .fa (.t 1) 10, none⟩,
⟨(some 225), .ld (.t 224) 1 false, none⟩,
⟨(some 226), .mv (.t 12), none⟩,
⟨(some 227), .ia (.t 225) (.t 226) 4, none⟩,
⟨(some 228), .ld (.t 227) 4 true, none⟩,
⟨(some 229), .callf 59 [(.t 228)], none⟩,
⟨(some 13), .mv (.t 229), none⟩]) (
.seq ( .region [
 ⟨(some 230), .mv (.t 13), none⟩,
⟨(some 231), .bin .neq (.t 230) (.c (.i .i64 0)), none⟩]) ( .cond (.t 231) (
.seq ( .region [
 ⟨(some 232), .mv (.t 13), none⟩,
⟨(some 2), .mv (.t 232), none⟩]) ( .ret)) ( .skip))))) ( .region [
 ⟨(some 222), .mv (.t 12), none⟩,
⟨(some 223), .bin .add (.t 222) (.c (.i .i64 1)), none⟩,
⟨(some 12), .mv (.t 223), none⟩]))
def c73_L2 : ACode :=
.seq (
.seq ( .region [
 ⟨(some 192), .mv (.t 10), none⟩,
⟨(some 193), .fa (.t 1) 9, none⟩,
⟨(some 194), .ld (.t 193) 1 false, none⟩,
⟨(some 195), .lenV (.t 194), none⟩,
⟨(some 196), .bin .lss (.t 192) (.t 195), none⟩]) ( .cond (.t 196) ( .skip) ( .exit 8))) (
.seq ( .block 9 (
.seq (
.seq ( .region [
 ⟨(some 199), .fa (.t 1) 9, none⟩,
⟨(some 200), .ld (.t 199) 1 false, none⟩,
⟨(some 201), .mv (.t 10), none⟩,
⟨(some 202), .ia (.t 200) (.t 201) 5, none⟩,
⟨(some 203), .fa (.t 202) 0, none⟩,
⟨(some 204), .ld (.t 203) 1 false, none⟩,
⟨(some 205), .callf 125 [(.t 204), (.c (.i .i64 1)), (.c (.i .i64 3))], none⟩,
⟨(some 206), .un .not (.t 205), none⟩]) ( .cond (.t 206) (
.seq ( .region [
 ⟨(some 2), .mv (.c (.i .i64 1)), none⟩]) ( .ret)) ( .skip))) (
.seq ( .region [
 ⟨(some 207), .fa (.t 1) 9, none⟩,
⟨(some 208), .ld (.t 207) 1 false, none⟩,
⟨(some 209), .mv (.t 10), none⟩,
⟨(some 210), .ia (.t 208) (.t 209) 5, none⟩,
⟨(some 211), .fa (.t 210) 1, none⟩,
⟨(some 212), .ld (.t 211) 4 true, none⟩,
⟨(some 213), .callf 59 [(.t 212)], none⟩,
⟨(some 11), .mv (.t 213), none⟩]) (
.seq ( .region [
 ⟨(some 214), .mv (.t 11), none⟩,
⟨(some 215), .bin .neq (.t 214) (.c (.i .i64 0)), none⟩]) ( .cond (.t 215) (
.seq ( .region [
 ⟨(some 216), .mv (.t 11), none⟩,
⟨(some 2), .mv (.t 216), none⟩]) ( .ret)) ( .skip)))))) ( .region [
 ⟨(some 197), .mv (.t 10), none⟩,
⟨(some 198), .bin .add (.t 197) (.c (.i .i64 1)), none⟩,
⟨(some 10), .mv (.t 198), none⟩]))
def c73_L3 : ACode :=
.seq (
.seq ( .region [
 ⟨(some 161), .mv (.t 8), none⟩,
⟨(some 162), .mv (.t 6), none⟩,
⟨(some 163), .bin .lss (.t 161) (.t 162), none⟩]) ( .cond (.t 163) ( .skip) ( .exit 6))) (
.seq ( .block 7 (
.seq ( .draws [ ([], ⟨(some 166), .fa (.t 1) 8, none⟩),
([], ⟨(some 167), .ld (.t 166) 1 false, none⟩),
([], ⟨(some 168), .mv (.t 8), none⟩),
([], ⟨(some 169), .ia (.t 167) (.t 168) 6, none⟩),
([], ⟨(some 170), .fa (.t 169) 0, none⟩),
([], ⟨(some 171), .ld (.t 170) 1 false, none⟩),
([], ⟨(some 172), .fa (.t 7) 0, none⟩),
([1, 5], ⟨(some 173), .ld (.t 172) 1 false, none⟩),
([], ⟨(some 174), .bin .eql (.t 171) (.t 173), none⟩),
([], ⟨(some 175), .mv (.t 174), none⟩),
([], ⟨(some 176), .fa (.t 1) 8, (some (175, true))⟩),
([], ⟨(some 177), .ld (.t 176) 1 false, (some (175, true))⟩),
([], ⟨(some 178), .mv (.t 8), (some (175, true))⟩),
([], ⟨(some 179), .ia (.t 177) (.t 178) 6, (some (175, true))⟩),
([], ⟨(some 180), .fa (.t 179) 1, (some (175, true))⟩),
([], ⟨(some 181), .ld (.t 180) 1 false, (some (175, true))⟩),
([], ⟨(some 182), .fa (.t 7) 1, (some (175, true))⟩),
([11, 15], ⟨(some 183), .ld (.t 182) 1 false, (some (175, true))⟩),
([], ⟨(some 184), .bin .eql (.t 181) (.t 183), (some (175, true))⟩),
([], ⟨(some 185), .pick (.t 175) (.t 184) (.c (.b false)), none⟩)]) ( .cond (.t 185) (
.seq ( .region [
 ⟨(some 2), .mv (.c (.i .i64 7)), none⟩]) ( .ret)) ( .skip)))) ( .region [
 ⟨(some 164), .mv (.t 8), none⟩,
⟨(some 165), .bin .add (.t 164) (.c (.i .i64 1)), none⟩,
⟨(some 8), .mv (.t 165), none⟩]))
def c73_L4 : ACode :=
.seq (
.seq ( .region [
 ⟨(some 139), .mv (.t 6), none⟩,
⟨(some 140), .fa (.t 1) 8, none⟩,
⟨(some 141), .ld (.t 140) 1 false, none⟩,
⟨(some 142), .lenV (.t 141), none⟩,
⟨(some 143), .bin .lss (.t 139) (.t 142), none⟩]) ( .cond (.t 143) ( .skip) ( .exit 4))) (
.seq ( .block 5 (
.seq ( .region [
 ⟨(some 146), .fa (.t 1) 8, none⟩,
⟨(some 147), .ld (.t 146) 1 false, none⟩,
⟨(some 148), .mv (.t 6), none⟩,
⟨(some 149), .ia (.t 147) (.t 148) 6, none⟩,
⟨(some 150), .ld (.t 149) 6 true, none⟩,
⟨(some 7), .alloc [(.i .i64 0), (.s []), (.i .i64 0), (.i .i64 0), (.s []), .nilsl] false, none⟩,
⟨none, .st (.t 7) (.t 150) 6, none⟩]) (
.seq (
.seq ( .region [
 ⟨(some 151), .fa (.t 7) 0, none⟩,
⟨(some 152), .ld (.t 151) 1 false, none⟩,
⟨(some 153), .callf 125 [(.t 152), (.c (.i .i64 1)), (.c (.i .i64 3))], none⟩,
⟨(some 154), .un .not (.t 153), none⟩,
⟨(some 155), .mv (.t 154), none⟩,
⟨(some 156), .fa (.t 7) 1, (some (155, false))⟩,
⟨(some 157), .ld (.t 156) 1 false, (some (155, false))⟩,
⟨(some 158), .callf 126 [(.t 157)], (some (155, false))⟩,
⟨(some 159), .un .not (.t 158), (some (155, false))⟩,
⟨(some 160), .pick (.t 155) (.c (.b true)) (.t 159), none⟩]) ( .cond (.t 160) (
.seq ( .region [
 ⟨(some 2), .mv (.c (.i .i64 1)), none⟩]) ( .ret)) ( .skip))) (
.seq (
.seq ( .region [
 ⟨(some 8), .mv (.c (.i .i64 0)), none⟩]) ( .block 6 ( .loop c73_L3))) (
.seq ( .region [
 ⟨(some 186), .fa (.t 7) 2, none⟩,
⟨(some 187), .ld (.t 186) 4 true, none⟩,
⟨(some 188), .callf 59 [(.t 187)], none⟩,
⟨(some 9), .mv (.t 188), none⟩]) (
.seq ( .region [
 ⟨(some 189), .mv (.t 9), none⟩,
⟨(some 190), .bin .neq (.t 189) (.c (.i .i64 0)), none⟩]) ( .cond (.t 190) (
.seq ( .region [
 ⟨(some 191), .mv (.t 9), none⟩,
⟨(some 2), .mv (.t 191), none⟩]) ( .ret)) ( .skip)))))))) ( .region [
 ⟨(some 144), .mv (.t 6), none⟩,
⟨(some 145), .bin .add (.t 144) (.c (.i .i64 1)), none⟩,
⟨(some 6), .mv (.t 145), none⟩]))
def c73_L5 : ACode :=
.seq (
.seq ( .region [
 ⟨(some 111), .mv (.t 4), none⟩,
⟨(some 112), .mv (.t 3), none⟩,
⟨(some 113), .bin .lss (.t 111) (.t 112), none⟩]) ( .cond (.t 113) ( .skip) ( .exit 2))) (
.seq ( .block 3 (
.seq ( .draws [ ([], ⟨(some 116), .fa (.t 1) 7, none⟩),
([], ⟨(some 117), .ld (.t 116) 1 false, none⟩),
([], ⟨(some 118), .mv (.t 4), none⟩),
([], ⟨(some 119), .ia (.t 117) (.t 118) 5, none⟩),
([], ⟨(some 120), .fa (.t 119) 0, none⟩),
([], ⟨(some 121), .ld (.t 120) 1 false, none⟩),
([], ⟨(some 122), .fa (.t 1) 7, none⟩),
([1, 5], ⟨(some 123), .ld (.t 122) 1 false, none⟩),
([], ⟨(some 124), .mv (.t 3), none⟩),
([], ⟨(some 125), .ia (.t 123) (.t 124) 5, none⟩),
([], ⟨(some 126), .fa (.t 125) 0, none⟩),
([1, 5], ⟨(some 127), .ld (.t 126) 1 false, none⟩),
([], ⟨(some 128), .bin .eql (.t 121) (.t 127), none⟩)]) ( .cond (.t 128) (
.seq ( .region [
 ⟨(some 2), .mv (.c (.i .i64 7)), none⟩]) ( .ret)) ( .skip)))) ( .region [
 ⟨(some 114), .mv (.t 4), none⟩,
⟨(some 115), .bin .add (.t 114) (.c (.i .i64 1)), none⟩,
⟨(some 4), .mv (.t 115), none⟩]))
def c73_L6 : ACode :=
.seq (
.seq ( .region [
 ⟨(some 96), .mv (.t 3), none⟩,
⟨(some 97), .fa (.t 1) 7, none⟩,
⟨(some 98), .ld (.t 97) 1 false, none⟩,
⟨(some 99), .lenV (.t 98), none⟩,
⟨(some 100), .bin .lss (.t 96) (.t 99), none⟩]) ( .cond (.t 100) ( .skip) ( .exit 0))) (
.seq ( .block 1 (
.seq (
.seq ( .region [
 ⟨(some 103), .fa (.t 1) 7, none⟩,
⟨(some 104), .ld (.t 103) 1 false, none⟩,
⟨(some 105), .mv (.t 3), none⟩,
⟨(some 106), .ia (.t 104) (.t 105) 5, none⟩,
⟨(some 107), .fa (.t 106) 0, none⟩,
⟨(some 108), .ld (.t 107) 1 false, none⟩,
⟨(some 109), .callf 126 [(.t 108)], none⟩,
⟨(some 110), .un .not (.t 109), none⟩]) ( .cond (.t 110) (
.seq ( .region [
 ⟨(some 2), .mv (.c (.i .i64 1)), none⟩]) ( .ret)) ( .skip))) (
.seq (
.seq ( .region [
 ⟨(some 4), .mv (.c (.i .i64 0)), none⟩]) ( .block 2 ( .loop c73_L5))) (
.seq ( .region [
 ⟨(some 129), .fa (.t 1) 7, none⟩,
⟨(some 130), .ld (.t 129) 1 false, none⟩,
⟨(some 131), .mv (.t 3), none⟩,
⟨(some 132), .ia (.t 130) (.t 131) 5, none⟩,
⟨(some 133), .fa (.t 132) 1, none⟩,
⟨(some 134), .ld (.t 133) 4 true, none⟩,
⟨(some 135), .callf 59 [(.t 134)], none⟩,
⟨(some 5), .mv (.t 135), none⟩]) (
.seq ( .region [
 ⟨(some 136), .mv (.t 5), none⟩,
⟨(some 137), .bin .neq (.t 136) (.c (.i .i64 0)), none⟩]) ( .cond (.t 137) (
.seq ( .region [
 ⟨(some 138), .mv (.t 5), none⟩,
⟨(some 2), .mv (.t 138), none⟩]) ( .ret)) ( .skip))))))) ( .region [
 ⟨(some 101), .mv (.t 3), none⟩,
⟨(some 102), .bin .add (.t 101) (.c (.i .i64 1)), none⟩,
⟨(some 3), .mv (.t 102), none⟩]))
def c73 : AFunc := ⟨235,
.seq ( .region [
 ⟨(some 1), .box (.t 0) false, none⟩,
⟨(some 2), .mv (.c (.i .i64 0)), none⟩]) (
.seq (
.seq ( .region [
 ⟨(some 14), .fa (.t 1) 0, none⟩,
⟨(some 15), .ld (.t 14) 1 false, none⟩,
⟨(some 16), .callf 125 [(.t 15), (.c (.i .i64 0)), (.c (.i .i64 1440))], none⟩,
⟨(some 17), .un .not (.t 16), none⟩,
⟨(some 18), .mv (.t 17), none⟩,
⟨(some 19), .fa (.t 1) 1, (some (18, false))⟩,
⟨(some 20), .ld (.t 19) 1 false, (some (18, false))⟩,
⟨(some 21), .callf 125 [(.t 20), (.c (.i .i64 0)), (.c (.i .i64 1440))], (some (18, false))⟩,
⟨(some 22), .un .not (.t 21), (some (18, false))⟩,
⟨(some 23), .pick (.t 18) (.c (.b true)) (.t 22), none⟩,
⟨(some 24), .mv (.t 23), none⟩,
⟨(some 25), .fa (.t 1) 2, (some (24, false))⟩,
⟨(some 26), .ld (.t 25) 1 false, (some (24, false))⟩,
⟨(some 27), .callf 125 [(.t 26), (.c (.i .i64 0)), (.c (.i .i64 1440))], (some (24, false))⟩,
⟨(some 28), .un .not (.t 27), (some (24, false))⟩,
⟨(some 29), .pick (.t 24) (.c (.b true)) (.t 28), none⟩,
⟨(some 30), .mv (.t 29), none⟩,
⟨(some 31), .fa (.t 1) 3, (some (30, false))⟩,
⟨(some 32), .ld (.t 31) 1 false, (some (30, false))⟩,
⟨(some 33), .fa (.t 1) 2, (some (30, false))⟩,
⟨(some 34), .ld (.t 33) 1 false, (some (30, false))⟩,
⟨(some 35), .callf 125 [(.t 32), (.t 34), (.c (.i .i64 1440))], (some (30, false))⟩,
⟨(some 36), .un .not (.t 35), (some (30, false))⟩,
⟨(some 37), .pick (.t 30) (.c (.b true)) (.t 36), none⟩,
⟨(some 38), .mv (.t 37), none⟩,
⟨(some 39), .fa (.t 1) 4, (some (38, false))⟩,
⟨(some 40), .ld (.t 39) 1 false, (some (38, false))⟩,
⟨(some 41), .callf 125 [(.t 40), (.c (.i .i64 0)), (.c (.i .i64 10080))], (some (38, false))⟩,
⟨(some 42), .un .not (.t 41), (some (38, false))⟩,
⟨(some 43), .pick (.t 38) (.c (.b true)) (.t 42), none⟩,
⟨(some 44), .mv (.t 43), none⟩,
⟨(some 45), .fa (.t 1) 5, (some (44, false))⟩,
⟨(some 46), .ld (.t 45) 1 false, (some (44, false))⟩,
⟨(some 47), .callf 125 [(.t 46), (.c (.i .i64 0)), (.c (.i .i64 1439))], (some (44, false))⟩,
⟨(some 48), .un .not (.t 47), (some (44, false))⟩,
⟨(some 49), .pick (.t 44) (.c (.b true)) (.t 48), none⟩,
⟨(some 50), .mv (.t 49), none⟩,
⟨(some 51), .fa (.t 1) 6, (some (50, false))⟩,
⟨(some 52), .ld (.t 51) 1 false, (some (50, false))⟩,
⟨(some 53), .callf 125 [(.t 52), (.c (.i .i64 0)), (.c (.i .i64 1439))], (some (50, false))⟩,
⟨(some 54), .un .not (.t 53), (some (50, false))⟩,
⟨(some 55), .pick (.t 50) (.c (.b true)) (.t 54), none⟩,
⟨(some 56), .mv (.t 55), none⟩,
⟨(some 57), .fa (.t 1) 13, (some (56, false))⟩,
⟨(some 58), .ld (.t 57) 1 false, (some (56, false))⟩,
⟨(some 59), .callf 125 [(.t 58), (.c (.i .i64 0)), (.c (.i .i64 599999))], (some (56, false))⟩,
⟨(some 60), .un .not (.t 59), (some (56, false))⟩,
⟨(some 61), .pick (.t 56) (.c (.b true)) (.t 60), none⟩]) ( .cond (.t 61) (
.seq ( .region [
 ⟨(some 2), .mv (.c (.i .i64 5)), none⟩]) ( .ret)) ( .skip))) (
.seq (
.seq ( .region [
 ⟨(some 62), .fa (.t 1) 7, none⟩,
⟨(some 63), .ld (.t 62) 1 false, none⟩,
⟨(some 64), .lenV (.t 63), none⟩,
⟨(some 65), .bin .gtr (.t 64) (.c (.i .i64 32)), none⟩,
⟨(some 66), .mv (.t 65), none⟩,
⟨(some 67), .fa (.t 1) 8, (some (66, false))⟩,
⟨(some 68), .ld (.t 67) 1 false, (some (66, false))⟩,
⟨(some 69), .lenV (.t 68), (some (66, false))⟩,
⟨(some 70), .bin .gtr (.t 69) (.c (.i .i64 40)), (some (66, false))⟩,
⟨(some 71), .pick (.t 66) (.c (.b true)) (.t 70), none⟩,
⟨(some 72), .mv (.t 71), none⟩,
⟨(some 73), .fa (.t 1) 9, (some (72, false))⟩,
⟨(some 74), .ld (.t 73) 1 false, (some (72, false))⟩,
⟨(some 75), .lenV (.t 74), (some (72, false))⟩,
⟨(some 76), .bin .gtr (.t 75) (.c (.i .i64 16)), (some (72, false))⟩,
⟨(some 77), .pick (.t 72) (.c (.b true)) (.t 76), none⟩,
⟨(some 78), .mv (.t 77), none⟩,
⟨(some 79), .fa (.t 1) 10, (some (78, false))⟩,
⟨(some 80), .ld (.t 79) 1 false, (some (78, false))⟩,
⟨(some 81), .lenV (.t 80), (some (78, false))⟩,
⟨(some 82), .bin .gtr (.t 81) (.c (.i .i64 1)), (some (78, false))⟩,
⟨(some 83), .pick (.t 78) (.c (.b true)) (.t 82), none⟩,
⟨(some 84), .mv (.t 83), none⟩,
⟨(some 85), .fa (.t 1) 11, (some (84, false))⟩,
⟨(some 86), .ld (.t 85) 1 false, (some (84, false))⟩,
⟨(some 87), .lenV (.t 86), (some (84, false))⟩,
⟨(some 88), .bin .gtr (.t 87) (.c (.i .i64 16)), (some (84, false))⟩,
⟨(some 89), .pick (.t 84) (.c (.b true)) (.t 88), none⟩,
⟨(some 90), .mv (.t 89), none⟩,
⟨(some 91), .fa (.t 1) 12, (some (90, false))⟩,
⟨(some 92), .ld (.t 91) 1 false, (some (90, false))⟩,
⟨(some 93), .lenV (.t 92), (some (90, false))⟩,
⟨(some 94), .bin .gtr (.t 93) (.c (.i .i64 16)), (some (90, false))⟩,
⟨(some 95), .pick (.t 90) (.c (.b true)) (.t 94), none⟩]) ( .cond (.t 95) (
.seq ( .region [
 ⟨(some 2), .mv (.c (.i .i64 10)), none⟩]) ( .ret)) ( .skip))) (
.seq (
.seq ( .region [
 ⟨(some 3), .mv (.c (.i .i64 0)), none⟩]) ( .block 0 ( .loop c73_L6))) (
.seq (
.seq ( .region [
 ⟨(some 6), .mv (.c (.i .i64 0)), none⟩]) ( .block 4 ( .loop c73_L4))) (
.seq (
.seq ( .region [
 ⟨(some 10), .mv (.c (.i .i64 0)), none⟩]) ( .block 8 ( .loop c73_L2))) (
.seq (
.seq ( .region [
 ⟨(some 12), .mv (.c (.i .i64 0)), none⟩]) ( .block 10 ( .loop c73_L1))) (
.seq ( .region [
 ⟨(some 233), .ld (.t 1) 14 true, none⟩,
⟨(some 234), .callf 127 [(.t 233)], none⟩,
⟨(some 2), .mv (.t 234), none⟩]) ( .ret)))))))), [.tmp 2], false, none⟩
theorem k73 : CodeOk Tryz.prog 73 c73 := codeOk (hs := []) Tryz.func73 (by kernel_rfl)
def c74_L1 : ACode :=
.seq (
.seq ( .region [
 ⟨(some 6), .mv (.t 3), none⟩,
⟨(some 7), .bin .leq (.t 6) (.c (.i .i64 3)), none⟩]) ( .cond (.t 7) ( .skip) ( .exit 0))) (
.seq ( .block 1 (
.seq ( .region [
 ⟨(some 11), .mv (.t 3), none⟩,
⟨(some 12), .mv (.t 0), none⟩,
⟨(some 13), .callf 85 [(.t 11), (.t 12)], none⟩,
⟨(some 10), .mv (.t 13), none⟩,
⟨(some 14), .ext (.t 10) 0, none⟩,
⟨(some 15), .ext (.t 10) 1, none⟩,
⟨(some 4), .mv (.t 14), none⟩,
⟨(some 5), .mv (.t 15), none⟩]) (
.seq ( .region [
 ⟨(some 16), .mv (.t 5), none⟩,
⟨(some 17), .bin .eql (.t 16) (.c (.i .i64 0)), none⟩]) ( .cond (.t 17) (
.seq ( .region [
 ⟨(some 2), .mv (.c (.b true)), none⟩]) ( .ret)) ( .skip))))) ( .region [
 ⟨(some 8), .mv (.t 3), none⟩,
⟨(some 9), .bin .add (.t 8) (.c (.i .i64 1)), none⟩,
⟨(some 3), .mv (.t 9), none⟩]))
def c74 : AFunc := ⟨18,
.seq ( .region [
 ⟨(some 2), .mv (.c (.b false)), none⟩]) (
.seq (
.seq ( .region [
 ⟨(some 3), .mv (.c (.i .i64 1)), none⟩]) ( .block 0 ( .loop c74_L1))) (
.seq ( .region [
 ⟨(some 2), .mv (.c (.b false)), none⟩]) ( .ret))), [.tmp 2], false, none⟩
theorem k74 : CodeOk Tryz.prog 74 c74 := codeOk (hs := []) Tryz.func74 (by kernel_rfl)
def c75 : AFunc := ⟨27,
.seq ( .region [
 ⟨(some 4), .box (.t 0) false, none⟩,
⟨(some 6), .box (.t 2) false, none⟩,
⟨(some 8), .mv (.c (.i .i64 0)), none⟩]) (
.seq ( .region [
 ⟨(some 12), .fa (.t 4) 7, none⟩,
⟨(some 13), .ld (.t 12) 1 false, none⟩,
⟨(some 14), .mv (.t 1), none⟩,
⟨(some 15), .ld (.t 6) 4 true, none⟩,
⟨(some 16), .callf 56 [(.t 13), (.t 14), (.t 15)], none⟩,
⟨(some 11), .mv (.t 16), none⟩,
⟨(some 17), .ext (.t 11) 0, none⟩,
⟨(some 18), .ext (.t 11) 1, none⟩,
⟨(some 9), .mv (.t 17), none⟩,
⟨(some 10), .mv (.t 18), none⟩]) (
.seq (
.seq ( .region [
 ⟨(some 19), .mv (.t 10), none⟩,
⟨(some 20), .bin .eql (.t 19) (.c (.i .i64 0)), none⟩,
⟨(some 21), .mv (.t 20), none⟩,
⟨(some 22), .mv (.t 9), (some (21, true))⟩,
⟨(some 23), .mv (.t 3), (some (21, true))⟩,
⟨(some 24), .bin .neq (.t 22) (.t 23), (some (21, true))⟩,
⟨(some 25), .pick (.t 21) (.t 24) (.c (.b false)), none⟩]) ( .cond (.t 25) (
.seq ( .region [
 ⟨(some 8), .mv (.c (.i .i64 9)), none⟩]) ( .ret)) ( .skip))) (
.seq ( .region [
 ⟨(some 26), .mv (.t 10), none⟩,
⟨(some 8), .mv (.t 26), none⟩]) ( .ret)))), [.tmp 8], false, none⟩
theorem k75 : CodeOk Tryz.prog 75 c75 := codeOk (hs := []) Tryz.func75 (by kernel_rfl)
def c84_L1 : ACode :=
.seq (
.seq ( .region [
 ⟨(some 29), .mv (.t 6), none⟩,
⟨(some 30), .mv (.t 4), none⟩,
⟨(some 31), .lenV (.t 30), none⟩,
⟨(some 32), .bin .lss (.t 29) (.t 31), none⟩]) ( .cond (.t 32) ( .skip) ( .exit 3))) (
.seq ( .block 4 ( .region [
 ⟨(some 35), .mv (.t 3), none⟩,
⟨(some 36), .mv (.t 4), none⟩,
⟨(some 37), .mv (.t 6), none⟩,
⟨(some 38), .ia (.t 36) (.t 37) 1, none⟩,
⟨(some 39), .ld (.t 38) 1 false, none⟩,
⟨(some 40), .bin .add (.c (.s [97, 102, 116, 101, 114, 46])) (.t 39), none⟩,
⟨(some 41), .bsl [(.s [])] 1 [(0, (.t 40))], none⟩,
⟨(some 42), .app 1 16 (.t 35) (.t 41) false false, none⟩,
⟨(some 3), .mv (.t 42), none⟩])) ( .region [
 ⟨(some 33), .mv (.t 6), none⟩,
⟨(some 34), .bin .add (.t 33) (.c (.i .i64 1)), none⟩,
⟨(some 6), .mv (.t 34), none⟩]))
def c84_L2 : ACode :=
.seq (
.seq ( .region [
 ⟨(some 15), .mv (.t 5), none⟩,
⟨(some 16), .mv (.t 4), none⟩,
⟨(some 17), .lenV (.t 16), none⟩,
⟨(some 18), .bin .lss (.t 15) (.t 17), none⟩]) ( .cond (.t 18) ( .skip) ( .exit 1))) (
.seq ( .block 2 ( .region [
 ⟨(some 21), .mv (.t 3), none⟩,
⟨(some 22), .mv (.t 4), none⟩,
⟨(some 23), .mv (.t 5), none⟩,
⟨(some 24), .ia (.t 22) (.t 23) 1, none⟩,
⟨(some 25), .ld (.t 24) 1 false, none⟩,
⟨(some 26), .bin .add (.c (.s [98, 101, 102, 111, 114, 101, 46])) (.t 25), none⟩,
⟨(some 27), .bsl [(.s [])] 1 [(0, (.t 26))], none⟩,
⟨(some 28), .app 1 16 (.t 21) (.t 27) false false, none⟩,
⟨(some 3), .mv (.t 28), none⟩])) ( .region [
 ⟨(some 19), .mv (.t 5), none⟩,
⟨(some 20), .bin .add (.t 19) (.c (.i .i64 1)), none⟩,
⟨(some 5), .mv (.t 20), none⟩]))
def c84 : AFunc := ⟨47,
.seq ( .region [
 ⟨(some 2), .mv (.c .nilsl), none⟩]) (
.seq (
.seq ( .region [
 ⟨(some 7), .mv (.t 0), none⟩]) ( .block 0 (
.seq ( .region [
 ⟨(some 9), .bin .eql (.t 7) (.c (.i .i64 1)), none⟩,
⟨(some 8), .mv (.t 9), none⟩]) ( .cond (.t 8) (
.seq ( .region [
 ⟨(some 10), .callf 132 [], none⟩,
⟨(some 2), .mv (.t 10), none⟩]) ( .ret)) (
.seq ( .region [
 ⟨(some 12), .bin .eql (.t 7) (.c (.i .i64 2)), none⟩,
⟨(some 11), .mv (.t 12), none⟩]) ( .cond (.t 11) (
.seq ( .region [
 ⟨(some 13), .bsl [(.s [])] 3 [(0, (.c (.s [114, 101, 115, 116]))), (1, (.c (.s [110, 105, 103, 104, 116, 115]))), (2, (.c (.s [104, 111, 109, 101])))], none⟩,
⟨(some 3), .mv (.t 13), none⟩]) (
.seq ( .region [
 ⟨(some 14), .callf 132 [], none⟩,
⟨(some 4), .mv (.t 14), none⟩]) (
.seq (
.seq ( .region [
 ⟨(some 5), .mv (.c (.i .i64 0)), none⟩]) ( .block 1 ( .loop c84_L2))) (
.seq (
.seq ( .region [
 ⟨(some 6), .mv (.c (.i .i64 0)), none⟩]) ( .block 3 ( .loop c84_L1))) (
.seq ( .region [
 ⟨(some 43), .mv (.t 3), none⟩,
⟨(some 2), .mv (.t 43), none⟩]) ( .ret)))))) (
.seq ( .region [
 ⟨(some 45), .bin .eql (.t 7) (.c (.i .i64 3)), none⟩,
⟨(some 44), .mv (.t 45), none⟩]) ( .cond (.t 44) (
.seq ( .region [
 ⟨(some 46), .bsl [(.s [])] 7 [(0, (.c (.s [100, 117, 116, 105, 101, 115]))), (1, (.c (.s [108, 101, 103, 115]))), (2, (.c (.s [104, 101, 97, 100, 115]))), (3, (.c (.s [100, 97, 121, 115]))), (4, (.c (.s [98, 108, 111, 99, 107]))), (5, (.c (.s [115, 112, 97, 110]))), (6, (.c (.s [99, 114, 101, 100, 105, 116])))], none⟩,
⟨(some 2), .mv (.t 46), none⟩]) ( .ret)) ( .skip))))))))) (
.seq ( .region [
 ⟨(some 2), .mv (.c .nilsl), none⟩]) ( .ret))), [.tmp 2], false, none⟩
theorem k84 : CodeOk Tryz.prog 84 c84 := codeOk (hs := []) Tryz.func84 (by kernel_rfl)
def c85_L1 : ACode :=
.seq (
.seq ( .region [
 ⟨(some 44), .mv (.t 7), none⟩,
⟨(some 45), .mv (.t 6), none⟩,
⟨(some 46), .lenV (.t 45), none⟩,
⟨(some 47), .bin .lss (.t 44) (.t 46), none⟩]) ( .cond (.t 47) ( .skip) ( .exit 0))) (
.seq ( .block 1 (
.seq (
.seq ( .region [
 ⟨(some 50), .mv (.t 6), none⟩,
⟨(some 51), .mv (.t 7), none⟩,
⟨(some 52), .ia (.t 50) (.t 51) 1, none⟩,
⟨(some 53), .ld (.t 52) 1 false, none⟩,
⟨(some 54), .mv (.t 1), none⟩,
⟨(some 55), .bin .neq (.t 53) (.t 54), none⟩]) ( .cond (.t 55) ( .exit 1) ( .skip))) (
.seq (
.seq ( .region [
 ⟨(some 56), .mv (.t 1), none⟩]) ( .block 2 (
.seq (
.seq ( .region [
 ⟨(some 58), .bin .eql (.t 56) (.c (.s [108, 101, 103, 115])), none⟩,
⟨(some 57), .mv (.t 58), none⟩]) ( .cond (.t 57) ( .skip) (
.seq ( .region [
 ⟨(some 59), .bin .eql (.t 56) (.c (.s [104, 101, 97, 100, 115])), none⟩,
⟨(some 57), .mv (.t 59), none⟩]) ( .cond (.t 57) ( .skip) (
.seq ( .region [
 ⟨(some 60), .bin .eql (.t 56) (.c (.s [116, 121, 112, 101, 115])), none⟩,
⟨(some 57), .mv (.t 60), none⟩]) ( .cond (.t 57) ( .skip) (
.seq ( .region [
 ⟨(some 61), .bin .eql (.t 56) (.c (.s [110, 105, 103, 104, 116, 115])), none⟩,
⟨(some 57), .mv (.t 61), none⟩]) ( .cond (.t 57) ( .skip) (
.seq ( .region [
 ⟨(some 62), .bin .eql (.t 56) (.c (.s [100, 117, 116, 105, 101, 115])), none⟩,
⟨(some 57), .mv (.t 62), none⟩]) ( .cond (.t 57) ( .skip) ( .region [
 ⟨(some 63), .bin .eql (.t 56) (.c (.s [100, 97, 121, 115])), none⟩,
⟨(some 57), .mv (.t 63), none⟩]))))))))))) ( .cond (.t 57) (
.seq ( .region [
 ⟨(some 4), .mv (.c (.i .i64 1)), none⟩,
⟨(some 5), .mv (.c (.i .i64 0)), none⟩]) ( .ret)) (
.seq (
.seq ( .region [
 ⟨(some 65), .bin .eql (.t 56) (.c (.s [115, 116, 97, 114, 116])), none⟩,
⟨(some 64), .mv (.t 65), none⟩]) ( .cond (.t 64) ( .skip) ( .region [
 ⟨(some 66), .bin .eql (.t 56) (.c (.s [101, 110, 100])), none⟩,
⟨(some 64), .mv (.t 66), none⟩]))) ( .cond (.t 64) (
.seq ( .region [
 ⟨(some 4), .mv (.c (.i .i64 3)), none⟩,
⟨(some 5), .mv (.c (.i .i64 0)), none⟩]) ( .ret)) (
.seq ( .region [
 ⟨(some 68), .bin .eql (.t 56) (.c (.s [104, 111, 109, 101])), none⟩,
⟨(some 67), .mv (.t 68), none⟩]) ( .cond (.t 67) (
.seq ( .region [
 ⟨(some 4), .mv (.c (.i .i64 4)), none⟩,
⟨(some 5), .mv (.c (.i .i64 0)), none⟩]) ( .ret)) ( .skip))))))))) (
.seq ( .region [
 ⟨(some 4), .mv (.c (.i .i64 2)), none⟩,
⟨(some 5), .mv (.c (.i .i64 0)), none⟩]) ( .ret))))) ( .region [
 ⟨(some 48), .mv (.t 7), none⟩,
⟨(some 49), .bin .add (.t 48) (.c (.i .i64 1)), none⟩,
⟨(some 7), .mv (.t 49), none⟩]))
def c85 : AFunc := ⟨69,
.seq ( .region [
 ⟨(some 4), .mv (.c (.i .i64 0)), none⟩,
⟨(some 5), .mv (.c (.i .i64 0)), none⟩]) (
.seq (
.seq ( .region [
 ⟨(some 8), .mv (.t 0), none⟩,
⟨(some 9), .bin .eql (.t 8) (.c (.i .i64 2)), none⟩,
⟨(some 10), .mv (.t 9), none⟩,
⟨(some 11), .mv (.t 1), (some (10, true))⟩,
⟨(some 12), .lenS (.t 11), (some (10, true))⟩,
⟨(some 13), .bin .gtr (.t 12) (.c (.i .i64 7)), (some (10, true))⟩,
⟨(some 14), .pick (.t 10) (.t 13) (.c (.b false)), none⟩,
⟨(some 15), .mv (.t 14), none⟩,
⟨(some 16), .mv (.t 1), (some (15, true))⟩,
⟨(some 17), .slS (.t 16) none (some (.c (.i .i64 7))), (some (15, true))⟩,
⟨(some 18), .bin .eql (.t 17) (.c (.s [98, 101, 102, 111, 114, 101, 46])), (some (15, true))⟩,
⟨(some 19), .pick (.t 15) (.t 18) (.c (.b false)), none⟩]) ( .cond (.t 19) (
.seq ( .region [
 ⟨(some 20), .mv (.t 1), none⟩,
⟨(some 21), .slS (.t 20) (some (.c (.i .i64 7))) none, none⟩,
⟨(some 22), .callf 85 [(.c (.i .i64 1)), (.t 21)], none⟩,
⟨(some 23), .ext (.t 22) 0, none⟩,
⟨(some 24), .ext (.t 22) 1, none⟩,
⟨(some 4), .mv (.t 23), none⟩,
⟨(some 5), .mv (.t 24), none⟩]) ( .ret)) ( .skip))) (
.seq (
.seq ( .region [
 ⟨(some 25), .mv (.t 0), none⟩,
⟨(some 26), .bin .eql (.t 25) (.c (.i .i64 2)), none⟩,
⟨(some 27), .mv (.t 26), none⟩,
⟨(some 28), .mv (.t 1), (some (27, true))⟩,
⟨(some 29), .lenS (.t 28), (some (27, true))⟩,
⟨(some 30), .bin .gtr (.t 29) (.c (.i .i64 6)), (some (27, true))⟩,
⟨(some 31), .pick (.t 27) (.t 30) (.c (.b false)), none⟩,
⟨(some 32), .mv (.t 31), none⟩,
⟨(some 33), .mv (.t 1), (some (32, true))⟩,
⟨(some 34), .slS (.t 33) none (some (.c (.i .i64 6))), (some (32, true))⟩,
⟨(some 35), .bin .eql (.t 34) (.c (.s [97, 102, 116, 101, 114, 46])), (some (32, true))⟩,
⟨(some 36), .pick (.t 32) (.t 35) (.c (.b false)), none⟩]) ( .cond (.t 36) (
.seq ( .region [
 ⟨(some 37), .mv (.t 1), none⟩,
⟨(some 38), .slS (.t 37) (some (.c (.i .i64 6))) none, none⟩,
⟨(some 39), .callf 85 [(.c (.i .i64 1)), (.t 38)], none⟩,
⟨(some 40), .ext (.t 39) 0, none⟩,
⟨(some 41), .ext (.t 39) 1, none⟩,
⟨(some 4), .mv (.t 40), none⟩,
⟨(some 5), .mv (.t 41), none⟩]) ( .ret)) ( .skip))) (
.seq ( .region [
 ⟨(some 42), .mv (.t 0), none⟩,
⟨(some 43), .callf 84 [(.t 42)], none⟩,
⟨(some 6), .mv (.t 43), none⟩]) (
.seq (
.seq ( .region [
 ⟨(some 7), .mv (.c (.i .i64 0)), none⟩]) ( .block 0 ( .loop c85_L1))) (
.seq ( .region [
 ⟨(some 4), .mv (.c (.i .i64 0)), none⟩,
⟨(some 5), .mv (.c (.i .i64 6)), none⟩]) ( .ret)))))), [.tmp 4, .tmp 5], false, none⟩
theorem k85 : CodeOk Tryz.prog 85 c85 := codeOk (hs := []) Tryz.func85 (by kernel_rfl)
end Go.Proofs.YtfenhjpkomldcaaGreat
