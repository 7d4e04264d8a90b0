/- The codes of functions of the program, as the evaluator reads them; that each is what its compiler makes of the model's function. Conditions: none. -/
import Derived.Test.YtfenhjpkomldcaaGreatEvF
import Derived.Test.YtfenhjpkomldcaaGreatChecked
import Derived.KernelRfl
set_option maxRecDepth 100000
namespace Go.Proofs.YtfenhjpkomldcaaGreat
open Go Go.Ev
def c89 : AFunc := ⟨23,
.seq ( .region [
 ⟨(some 4), .mv (.c (.i .i64 0)), none⟩,
⟨(some 5), .mv (.c (.i .i64 0)), none⟩]) (
.seq ( .region [
 ⟨(some 6), .mv (.c (.i .i64 0)), none⟩]) (
.seq (
.seq ( .region [
 ⟨(some 7), .mv (.t 0), none⟩]) ( .block 0 (
.seq ( .region [
 ⟨(some 9), .bin .eql (.t 7) (.c (.i .i64 1)), none⟩,
⟨(some 8), .mv (.t 9), none⟩]) ( .cond (.t 8) ( .region [
 ⟨(some 10), .mv (.t 1), none⟩,
⟨(some 11), .callf 133 [(.t 10)], none⟩,
⟨(some 6), .mv (.t 11), none⟩]) (
.seq ( .region [
 ⟨(some 13), .bin .eql (.t 7) (.c (.i .i64 2)), none⟩,
⟨(some 12), .mv (.t 13), none⟩]) ( .cond (.t 12) ( .region [
 ⟨(some 14), .mv (.t 1), none⟩,
⟨(some 15), .callf 134 [(.t 14)], none⟩,
⟨(some 6), .mv (.t 15), none⟩]) (
.seq ( .region [
 ⟨(some 17), .bin .eql (.t 7) (.c (.i .i64 3)), none⟩,
⟨(some 16), .mv (.t 17), none⟩]) ( .cond (.t 16) ( .region [
 ⟨(some 18), .mv (.t 1), none⟩,
⟨(some 19), .callf 135 [(.t 18)], none⟩,
⟨(some 6), .mv (.t 19), none⟩]) ( .skip))))))))) (
.seq (
.seq ( .region [
 ⟨(some 20), .mv (.t 6), none⟩,
⟨(some 21), .bin .eql (.t 20) (.c (.i .i64 0)), none⟩]) ( .cond (.t 21) (
.seq ( .region [
 ⟨(some 4), .mv (.c (.i .i64 0)), none⟩,
⟨(some 5), .mv (.c (.i .i64 6)), none⟩]) ( .ret)) ( .skip))) (
.seq ( .region [
 ⟨(some 22), .mv (.t 6), none⟩,
⟨(some 4), .mv (.t 22), none⟩,
⟨(some 5), .mv (.c (.i .i64 0)), none⟩]) ( .ret))))), [.tmp 4, .tmp 5], false, none⟩
theorem k89 : CodeOk Tryz.prog 89 c89 := codeOk (hs := []) Tryz.func89 (by kernel_rfl)
def c96_L1 : ACode :=
.seq ( .region [
 ⟨(some 16), .bin .lss (.t 15) (.t 14), none⟩]) (
.seq ( .cond (.t 16) ( .skip) ( .exit 0)) (
.seq ( .block 1 (
.seq ( .region [
 ⟨(some 17), .mv (.t 15), none⟩,
⟨(some 18), .ia (.t 13) (.t 15) 5, none⟩,
⟨(some 19), .ld (.t 18) 5 true, none⟩,
⟨(some 5), .alloc [(.s []), (.i .i64 0), (.i .i64 0), (.s []), .nilsl] false, none⟩,
⟨(some 4), .mv (.t 17), none⟩,
⟨none, .st (.t 5) (.t 19) 5, none⟩]) (
.seq ( .draws [ ([], ⟨(some 21), .mv (.t 3), none⟩),
([], ⟨(some 22), .nck (.t 21), none⟩),
([], ⟨(some 23), .fa (.t 22) 1, none⟩),
([], ⟨(some 24), .ld (.t 23) 1 false, none⟩),
([], ⟨(some 25), .fa (.t 5) 0, none⟩),
([3], ⟨(some 26), .ld (.t 25) 1 false, none⟩),
([], ⟨(some 27), .lk (.one .str) (.t 24) (.t 26) (.i .i64 0) true, none⟩),
([], ⟨(some 20), .mv (.t 27), none⟩),
([], ⟨(some 28), .ext (.t 20) 0, none⟩),
([], ⟨(some 29), .ext (.t 20) 1, none⟩),
([], ⟨(some 6), .mv (.t 28), none⟩),
([], ⟨(some 7), .mv (.t 29), none⟩)]) (
.seq ( .region [
 ⟨(some 30), .mv (.t 7), none⟩,
⟨(some 31), .un .not (.t 30), none⟩]) ( .cond (.t 31) ( .draws [ ([], ⟨(some 32), .mv (.t 3), none⟩),
([], ⟨(some 33), .nck (.t 32), none⟩),
([], ⟨(some 34), .fa (.t 33) 1, none⟩),
([], ⟨(some 35), .ld (.t 34) 1 false, none⟩),
([], ⟨(some 36), .fa (.t 5) 0, none⟩),
([3], ⟨(some 37), .ld (.t 36) 1 false, none⟩),
([], ⟨(some 38), .mv (.t 4), none⟩),
([], ⟨none, .mu (.one .str) (.t 35) (.t 37) (.t 38), none⟩)]) ( .skip)))))) ( .region [
 ⟨(some 39), .bin .add (.t 15) (.c (.i .i64 1)), none⟩,
⟨(some 15), .mv (.t 39), none⟩])))
def c96 : AFunc := ⟨41,
.seq ( .region [
 ⟨(some 2), .mv (.c .nilptr), none⟩]) (
.seq ( .region [
 ⟨(some 8), .mv (.t 0), none⟩,
⟨(some 9), .mkmap false, none⟩,
⟨(some 10), .mkmap false, none⟩,
⟨(some 11), .build [.nilsl, .nilmp, .nilmp] [(0, 1, (.t 8)), (1, 1, (.t 9)), (2, 1, (.t 10))], none⟩,
⟨(some 12), .box (.t 11) false, none⟩,
⟨(some 3), .mv (.t 12), none⟩]) (
.seq (
.seq ( .region [
 ⟨(some 13), .mv (.t 0), none⟩,
⟨(some 14), .lenV (.t 13), none⟩,
⟨(some 15), .mv (.c (.i .i64 0)), none⟩]) ( .block 0 ( .loop c96_L1))) (
.seq ( .region [
 ⟨(some 40), .mv (.t 3), none⟩,
⟨(some 2), .mv (.t 40), none⟩]) ( .ret)))), [.tmp 2], false, none⟩
theorem k96 : CodeOk Tryz.prog 96 c96 := codeOk (hs := []) Tryz.func96 (by kernel_rfl)
def c97 : AFunc := ⟨23,
.seq ( .region [
 ⟨(some 7), .box (.t 3) false, none⟩,
⟨(some 8), .mv (.c (.i .i64 0)), none⟩,
⟨(some 9), .mv (.c (.i .i64 0)), none⟩]) (
.seq (
.seq ( .region [
 ⟨(some 11), .ld (.t 7) 4 true, none⟩,
⟨(some 12), .callf 55 [(.t 11)], none⟩,
⟨(some 10), .mv (.t 12), none⟩]) (
.seq ( .region [
 ⟨(some 13), .mv (.t 10), none⟩,
⟨(some 14), .bin .neq (.t 13) (.c (.i .i64 0)), none⟩]) ( .cond (.t 14) (
.seq ( .region [
 ⟨(some 15), .mv (.t 10), none⟩,
⟨(some 8), .mv (.c (.i .i64 0)), none⟩,
⟨(some 9), .mv (.t 15), none⟩]) ( .ret)) ( .skip)))) (
.seq ( .region [
 ⟨(some 16), .mv (.t 0), none⟩,
⟨(some 17), .mv (.t 1), none⟩,
⟨(some 18), .mv (.t 2), none⟩,
⟨(some 19), .ld (.t 7) 4 true, none⟩,
⟨(some 20), .callf 142 [(.t 16), (.t 17), (.t 18), (.t 19)], none⟩,
⟨(some 21), .ext (.t 20) 0, none⟩,
⟨(some 22), .ext (.t 20) 1, none⟩,
⟨(some 8), .mv (.t 21), none⟩,
⟨(some 9), .mv (.t 22), none⟩]) ( .ret))), [.tmp 8, .tmp 9], false, none⟩
theorem k97 : CodeOk Tryz.prog 97 c97 := codeOk (hs := []) Tryz.func97 (by kernel_rfl)
def c101_L1 : ACode :=
.seq ( .region [
 ⟨(some 26), .bin .lss (.t 25) (.t 24), none⟩]) (
.seq ( .cond (.t 26) ( .skip) ( .exit 0)) (
.seq ( .block 1 (
.seq ( .region [
 ⟨(some 27), .ia (.t 23) (.t 25) 4, none⟩,
⟨(some 28), .ld (.t 27) 4 true, none⟩,
⟨(some 8), .alloc [(.i .i64 0), (.i .i64 0), (.s []), .nilsl] false, none⟩,
⟨none, .st (.t 8) (.t 28) 4, none⟩]) (
.seq ( .region [
 ⟨(some 29), .ld (.t 8) 4 true, none⟩,
⟨(some 30), .mv (.t 1), none⟩,
⟨(some 31), .bin .add (.t 30) (.c (.i .i64 1)), none⟩,
⟨(some 32), .mv (.t 2), none⟩,
⟨(some 33), .callf 101 [(.t 29), (.t 31), (.t 32)], none⟩,
⟨(some 34), .un .not (.t 33), none⟩]) ( .cond (.t 34) (
.seq ( .region [
 ⟨(some 6), .mv (.c (.b false)), none⟩]) ( .ret)) ( .skip))))) ( .region [
 ⟨(some 35), .bin .add (.t 25) (.c (.i .i64 1)), none⟩,
⟨(some 25), .mv (.t 35), none⟩])))
def c101 : AFunc := ⟨36,
.seq ( .region [
 ⟨(some 3), .box (.t 0) false, none⟩,
⟨(some 6), .mv (.c (.b false)), none⟩]) (
.seq ( .region [
 ⟨(some 9), .mv (.t 2), none⟩,
⟨(some 10), .nck (.t 9), none⟩,
⟨(some 11), .ld (.t 10) 1 false, none⟩,
⟨(some 12), .bin .add (.t 11) (.c (.i .i64 1)), none⟩,
⟨(some 13), .nck (.t 9), none⟩,
⟨none, .st (.t 13) (.t 12) 1, none⟩]) (
.seq (
.seq ( .region [
 ⟨(some 14), .mv (.t 2), none⟩,
⟨(some 15), .nck (.t 14), none⟩,
⟨(some 16), .ld (.t 15) 1 false, none⟩,
⟨(some 17), .bin .gtr (.t 16) (.c (.i .i64 200)), none⟩,
⟨(some 18), .mv (.t 17), none⟩,
⟨(some 19), .mv (.t 1), (some (18, false))⟩,
⟨(some 20), .bin .gtr (.t 19) (.c (.i .i64 16)), (some (18, false))⟩,
⟨(some 21), .pick (.t 18) (.c (.b true)) (.t 20), none⟩]) ( .cond (.t 21) (
.seq ( .region [
 ⟨(some 6), .mv (.c (.b false)), none⟩]) ( .ret)) ( .skip))) (
.seq (
.seq ( .region [
 ⟨(some 22), .fa (.t 3) 3, none⟩,
⟨(some 23), .ld (.t 22) 1 false, none⟩,
⟨(some 24), .lenV (.t 23), none⟩,
⟨(some 25), .mv (.c (.i .i64 0)), none⟩]) ( .block 0 ( .loop c101_L1))) (
.seq ( .region [
 ⟨(some 6), .mv (.c (.b true)), none⟩]) ( .ret))))), [.tmp 6], true, none⟩
theorem k101 : CodeOk Tryz.prog 101 c101 := codeOk (hs := []) Tryz.func101 (by kernel_rfl)
def c102_L1 : ACode :=
.seq ( .region [
 ⟨(some 62), .bin .lss (.t 61) (.t 60), none⟩]) (
.seq ( .cond (.t 62) ( .skip) ( .exit 1)) (
.seq ( .block 2 (
.seq ( .region [
 ⟨(some 63), .ia (.t 59) (.t 61) 4, none⟩,
⟨(some 64), .ld (.t 63) 4 true, none⟩,
⟨(some 4), .alloc [(.i .i64 0), (.i .i64 0), (.s []), .nilsl] false, none⟩,
⟨none, .st (.t 4) (.t 64) 4, none⟩]) (
.seq ( .region [
 ⟨(some 65), .ld (.t 4) 4 true, none⟩,
⟨(some 66), .callf 102 [(.t 65)], none⟩,
⟨(some 67), .un .not (.t 66), none⟩]) ( .cond (.t 67) (
.seq ( .region [
 ⟨(some 2), .mv (.c (.b false)), none⟩]) ( .ret)) ( .skip))))) ( .region [
 ⟨(some 68), .bin .add (.t 61) (.c (.i .i64 1)), none⟩,
⟨(some 61), .mv (.t 68), none⟩])))
def c102 : AFunc := ⟨69,
.seq ( .region [
 ⟨(some 1), .box (.t 0) false, none⟩,
⟨(some 2), .mv (.c (.b false)), none⟩]) (
.seq (
.seq ( .region [
 ⟨(some 5), .fa (.t 1) 0, none⟩,
⟨(some 6), .ld (.t 5) 1 false, none⟩,
⟨(some 7), .bin .lss (.t 6) (.c (.i .i64 1)), none⟩,
⟨(some 8), .mv (.t 7), none⟩,
⟨(some 9), .fa (.t 1) 0, (some (8, false))⟩,
⟨(some 10), .ld (.t 9) 1 false, (some (8, false))⟩,
⟨(some 11), .bin .gtr (.t 10) (.c (.i .i64 22)), (some (8, false))⟩,
⟨(some 12), .pick (.t 8) (.c (.b true)) (.t 11), none⟩,
⟨(some 13), .mv (.t 12), none⟩,
⟨(some 14), .fa (.t 1) 0, (some (13, false))⟩,
⟨(some 15), .ld (.t 14) 1 false, (some (13, false))⟩,
⟨(some 16), .fa (.t 1) 3, (some (13, false))⟩,
⟨(some 17), .ld (.t 16) 1 false, (some (13, false))⟩,
⟨(some 18), .lenV (.t 17), (some (13, false))⟩,
⟨(some 19), .callf 155 [(.t 15), (.t 18)], (some (13, false))⟩,
⟨(some 20), .un .not (.t 19), (some (13, false))⟩,
⟨(some 21), .pick (.t 13) (.c (.b true)) (.t 20), none⟩]) ( .cond (.t 21) (
.seq ( .region [
 ⟨(some 2), .mv (.c (.b false)), none⟩]) ( .ret)) ( .skip))) (
.seq (
.seq ( .region [
 ⟨(some 22), .fa (.t 1) 0, none⟩,
⟨(some 23), .ld (.t 22) 1 false, none⟩]) ( .block 0 (
.seq (
.seq ( .region [
 ⟨(some 28), .bin .eql (.t 23) (.c (.i .i64 1)), none⟩,
⟨(some 27), .mv (.t 28), none⟩]) ( .cond (.t 27) ( .skip) ( .region [
 ⟨(some 29), .bin .eql (.t 23) (.c (.i .i64 2)), none⟩,
⟨(some 27), .mv (.t 29), none⟩]))) ( .cond (.t 27) (
.seq ( .region [
 ⟨(some 30), .fa (.t 1) 1, none⟩,
⟨(some 31), .ld (.t 30) 1 false, none⟩,
⟨(some 32), .bin .lss (.t 31) (.c (.i .i64 0)), none⟩,
⟨(some 33), .mv (.t 32), none⟩,
⟨(some 34), .fa (.t 1) 1, (some (33, false))⟩,
⟨(some 35), .ld (.t 34) 1 false, (some (33, false))⟩,
⟨(some 36), .bin .gtr (.t 35) (.c (.i .i64 1099511627776)), (some (33, false))⟩,
⟨(some 37), .pick (.t 33) (.c (.b true)) (.t 36), none⟩]) ( .cond (.t 37) (
.seq ( .region [
 ⟨(some 2), .mv (.c (.b false)), none⟩]) ( .ret)) ( .skip))) (
.seq ( .region [
 ⟨(some 39), .bin .eql (.t 23) (.c (.i .i64 3)), none⟩,
⟨(some 38), .mv (.t 39), none⟩]) ( .cond (.t 38) (
.seq ( .region [
 ⟨(some 40), .fa (.t 1) 1, none⟩,
⟨(some 41), .ld (.t 40) 1 false, none⟩,
⟨(some 42), .bin .lss (.t 41) (.c (.i .i64 0)), none⟩,
⟨(some 43), .mv (.t 42), none⟩,
⟨(some 44), .fa (.t 1) 1, (some (43, false))⟩,
⟨(some 45), .ld (.t 44) 1 false, (some (43, false))⟩,
⟨(some 46), .bin .gtr (.t 45) (.c (.i .i64 1439)), (some (43, false))⟩,
⟨(some 47), .pick (.t 43) (.c (.b true)) (.t 46), none⟩]) ( .cond (.t 47) (
.seq ( .region [
 ⟨(some 2), .mv (.c (.b false)), none⟩]) ( .ret)) ( .skip))) (
.seq ( .region [
 ⟨(some 24), .fa (.t 1) 1, none⟩,
⟨(some 25), .ld (.t 24) 1 false, none⟩,
⟨(some 26), .bin .neq (.t 25) (.c (.i .i64 0)), none⟩]) ( .cond (.t 26) (
.seq ( .region [
 ⟨(some 2), .mv (.c (.b false)), none⟩]) ( .ret)) ( .skip))))))))) (
.seq (
.seq ( .region [
 ⟨(some 48), .fa (.t 1) 0, none⟩,
⟨(some 49), .ld (.t 48) 1 false, none⟩,
⟨(some 50), .bin .eql (.t 49) (.c (.i .i64 6)), none⟩]) ( .cond (.t 50) (
.seq ( .region [
 ⟨(some 51), .fa (.t 1) 2, none⟩,
⟨(some 52), .ld (.t 51) 1 false, none⟩,
⟨(some 53), .callf 156 [(.t 52)], none⟩,
⟨(some 54), .un .not (.t 53), none⟩]) ( .cond (.t 54) (
.seq ( .region [
 ⟨(some 2), .mv (.c (.b false)), none⟩]) ( .ret)) ( .skip))) (
.seq ( .region [
 ⟨(some 55), .fa (.t 1) 2, none⟩,
⟨(some 56), .ld (.t 55) 1 false, none⟩,
⟨(some 57), .bin .neq (.t 56) (.c (.s [])), none⟩]) ( .cond (.t 57) (
.seq ( .region [
 ⟨(some 2), .mv (.c (.b false)), none⟩]) ( .ret)) ( .skip))))) (
.seq (
.seq ( .region [
 ⟨(some 58), .fa (.t 1) 3, none⟩,
⟨(some 59), .ld (.t 58) 1 false, none⟩,
⟨(some 60), .lenV (.t 59), none⟩,
⟨(some 61), .mv (.c (.i .i64 0)), none⟩]) ( .block 1 ( .loop c102_L1))) (
.seq ( .region [
 ⟨(some 2), .mv (.c (.b true)), none⟩]) ( .ret)))))), [.tmp 2], false, none⟩
theorem k102 : CodeOk Tryz.prog 102 c102 := codeOk (hs := []) Tryz.func102 (by kernel_rfl)
def c103_L1 : ACode :=
.seq (
.seq ( .region [
 ⟨(some 18), .mv (.t 11), none⟩,
⟨(some 19), .fa (.t 7) 3, none⟩,
⟨(some 20), .ld (.t 19) 1 false, none⟩,
⟨(some 21), .lenV (.t 20), none⟩,
⟨(some 22), .bin .lss (.t 18) (.t 21), none⟩]) ( .cond (.t 22) ( .skip) ( .exit 0))) (
.seq ( .block 1 (
.seq ( .draws [ ([], ⟨(some 26), .ld (.t 4) 2 true, none⟩),
([], ⟨(some 27), .mv (.t 1), none⟩),
([], ⟨(some 28), .mv (.t 2), none⟩),
([], ⟨(some 29), .fa (.t 7) 3, none⟩),
([0], ⟨(some 30), .ld (.t 29) 1 false, none⟩),
([], ⟨(some 31), .mv (.t 11), none⟩),
([], ⟨(some 32), .ia (.t 30) (.t 31) 4, none⟩),
([0], ⟨(some 33), .ld (.t 32) 4 true, none⟩),
([], ⟨(some 34), .callf 103 [(.t 26), (.t 27), (.t 28), (.t 33)], none⟩),
([], ⟨(some 25), .mv (.t 34), none⟩),
([], ⟨(some 35), .ext (.t 25) 0, none⟩),
([], ⟨(some 36), .ext (.t 25) 1, none⟩),
([], ⟨(some 12), .mv (.t 35), none⟩),
([], ⟨(some 13), .mv (.t 36), none⟩)]) (
.seq (
.seq ( .region [
 ⟨(some 37), .mv (.t 13), none⟩,
⟨(some 38), .bin .neq (.t 37) (.c (.i .i64 0)), none⟩]) ( .cond (.t 38) (
.seq ( .region [
 ⟨(some 39), .mv (.t 13), none⟩,
⟨(some 8), .mv (.c (.i .i64 0)), none⟩,
⟨(some 9), .mv (.t 39), none⟩]) ( .ret)) ( .skip))) ( .region [
 ⟨(some 40), .mv (.t 10), none⟩,
⟨(some 41), .mv (.t 12), none⟩,
⟨(some 42), .bsl [(.i .i64 0)] 1 [(0, (.t 41))], none⟩,
⟨(some 43), .app 1 8 (.t 40) (.t 42) false false, none⟩,
⟨(some 10), .mv (.t 43), none⟩])))) ( .region [
 ⟨(some 23), .mv (.t 11), none⟩,
⟨(some 24), .bin .add (.t 23) (.c (.i .i64 1)), none⟩,
⟨(some 11), .mv (.t 24), none⟩]))
def c103 : AFunc := ⟨80,
.seq ( .region [
 ⟨(some 4), .box (.t 0) false, none⟩,
⟨(some 7), .box (.t 3) false, none⟩,
⟨(some 8), .mv (.c (.i .i64 0)), none⟩,
⟨(some 9), .mv (.c (.i .i64 0)), none⟩]) (
.seq ( .region [
 ⟨(some 10), .mv (.c .nilsl), none⟩]) (
.seq (
.seq ( .region [
 ⟨(some 11), .mv (.c (.i .i64 0)), none⟩]) ( .block 0 ( .loop c103_L1))) (
.seq (
.seq ( .region [
 ⟨(some 44), .fa (.t 7) 0, none⟩,
⟨(some 45), .ld (.t 44) 1 false, none⟩,
⟨(some 46), .bin .eql (.t 45) (.c (.i .i64 6)), none⟩]) ( .cond (.t 46) (
.seq (
.seq ( .region [
 ⟨(some 48), .mv (.t 2), none⟩,
⟨(some 49), .fa (.t 7) 2, none⟩,
⟨(some 50), .ld (.t 49) 1 false, none⟩,
⟨(some 51), .callf 85 [(.t 48), (.t 50)], none⟩,
⟨(some 47), .mv (.t 51), none⟩,
⟨(some 52), .ext (.t 47) 0, none⟩,
⟨(some 53), .ext (.t 47) 1, none⟩,
⟨(some 14), .mv (.t 52), none⟩,
⟨(some 15), .mv (.t 53), none⟩]) (
.seq ( .region [
 ⟨(some 54), .mv (.t 15), none⟩,
⟨(some 55), .bin .eql (.t 54) (.c (.i .i64 0)), none⟩]) ( .cond (.t 55) (
.seq ( .region [
 ⟨(some 56), .mv (.t 14), none⟩,
⟨(some 8), .mv (.t 56), none⟩,
⟨(some 9), .mv (.c (.i .i64 0)), none⟩]) ( .ret)) ( .skip)))) (
.seq ( .region [
 ⟨(some 57), .mv (.t 1), none⟩,
⟨(some 58), .fa (.t 7) 2, none⟩,
⟨(some 59), .ld (.t 58) 1 false, none⟩,
⟨(some 60), .callf 105 [(.t 57), (.t 59)], none⟩,
⟨(some 16), .mv (.t 60), none⟩]) (
.seq (
.seq ( .region [
 ⟨(some 61), .mv (.t 16), none⟩,
⟨(some 62), .bin .lss (.t 61) (.c (.i .i64 0)), none⟩]) ( .cond (.t 62) (
.seq ( .region [
 ⟨(some 8), .mv (.c (.i .i64 0)), none⟩,
⟨(some 9), .mv (.c (.i .i64 6)), none⟩]) ( .ret)) ( .skip))) (
.seq ( .draws [ ([], ⟨(some 63), .fa (.t 4) 0, none⟩),
([], ⟨(some 64), .ld (.t 63) 1 false, none⟩),
([], ⟨(some 65), .mv (.t 16), none⟩),
([], ⟨(some 66), .ia (.t 64) (.t 65) 1, none⟩),
([], ⟨(some 67), .ld (.t 66) 1 false, none⟩),
([], ⟨(some 68), .fa (.t 4) 1, none⟩),
([1, 4], ⟨(some 69), .ld (.t 68) 1 false, none⟩),
([], ⟨(some 70), .mv (.t 16), none⟩),
([], ⟨(some 71), .ia (.t 69) (.t 70) 1, none⟩),
([1, 4], ⟨(some 72), .ld (.t 71) 1 false, none⟩),
([], ⟨(some 8), .mv (.t 67), none⟩),
([], ⟨(some 9), .mv (.t 72), none⟩)]) ( .ret))))) ( .skip))) (
.seq ( .region [
 ⟨(some 73), .fa (.t 7) 0, none⟩,
⟨(some 74), .ld (.t 73) 1 false, none⟩,
⟨(some 75), .mv (.t 10), none⟩,
⟨(some 76), .callf 157 [(.t 74), (.t 75)], none⟩,
⟨(some 17), .mv (.t 76), none⟩]) (
.seq (
.seq ( .region [
 ⟨(some 77), .mv (.t 17), none⟩,
⟨(some 78), .bin .eql (.t 77) (.c (.i .i64 0)), none⟩]) ( .cond (.t 78) (
.seq ( .region [
 ⟨(some 8), .mv (.c (.i .i64 0)), none⟩,
⟨(some 9), .mv (.c (.i .i64 9)), none⟩]) ( .ret)) ( .skip))) (
.seq ( .region [
 ⟨(some 79), .mv (.t 17), none⟩,
⟨(some 8), .mv (.t 79), none⟩,
⟨(some 9), .mv (.c (.i .i64 0)), none⟩]) ( .ret))))))), [.tmp 8, .tmp 9], false, none⟩
theorem k103 : CodeOk Tryz.prog 103 c103 := codeOk (hs := []) Tryz.func103 (by kernel_rfl)
def c104_L1 : ACode :=
.seq (
.seq ( .region [
 ⟨(some 7), .mv (.t 4), none⟩,
⟨(some 8), .mv (.t 0), none⟩,
⟨(some 9), .lenV (.t 8), none⟩,
⟨(some 10), .bin .lss (.t 7) (.t 9), none⟩]) ( .cond (.t 10) ( .skip) ( .exit 0))) (
.seq ( .block 1 (
.seq ( .region [
 ⟨(some 13), .mv (.t 0), none⟩,
⟨(some 14), .mv (.t 4), none⟩,
⟨(some 15), .ia (.t 13) (.t 14) 5, none⟩,
⟨(some 16), .fa (.t 15) 1, none⟩,
⟨(some 17), .ld (.t 16) 4 true, none⟩,
⟨(some 18), .callf 59 [(.t 17)], none⟩,
⟨(some 5), .mv (.c (.i .i64 0)), none⟩,
⟨(some 6), .mv (.t 18), none⟩]) (
.seq (
.seq ( .region [
 ⟨(some 19), .mv (.t 6), none⟩,
⟨(some 20), .bin .eql (.t 19) (.c (.i .i64 0)), none⟩]) ( .cond (.t 20) ( .draws [ ([], ⟨(some 22), .ld (.t 3) 2 true, none⟩),
([], ⟨(some 23), .mv (.t 0), none⟩),
([], ⟨(some 24), .mv (.t 4), none⟩),
([], ⟨(some 25), .slV 5 (.t 23) none (some (.t 24)) none, none⟩),
([], ⟨(some 26), .mv (.t 0), none⟩),
([], ⟨(some 27), .mv (.t 4), none⟩),
([], ⟨(some 28), .ia (.t 26) (.t 27) 5, none⟩),
([], ⟨(some 29), .fa (.t 28) 1, none⟩),
([0], ⟨(some 30), .ld (.t 29) 4 true, none⟩),
([], ⟨(some 31), .callf 103 [(.t 22), (.t 25), (.c (.i .i64 0)), (.t 30)], none⟩),
([], ⟨(some 21), .mv (.t 31), none⟩),
([], ⟨(some 32), .ext (.t 21) 0, none⟩),
([], ⟨(some 33), .ext (.t 21) 1, none⟩),
([], ⟨(some 5), .mv (.t 32), none⟩),
([], ⟨(some 6), .mv (.t 33), none⟩)]) ( .skip))) ( .draws [ ([], ⟨(some 34), .fa (.t 3) 0, none⟩),
([], ⟨(some 35), .ld (.t 34) 1 false, none⟩),
([], ⟨(some 36), .mv (.t 5), none⟩),
([1], ⟨(some 37), .bsl [(.i .i64 0)] 1 [(0, (.t 36))], none⟩),
([], ⟨(some 38), .app 1 8 (.t 35) (.t 37) false false, none⟩),
([], ⟨(some 39), .fa (.t 3) 1, none⟩),
([1, 3, 4], ⟨(some 40), .ld (.t 39) 1 false, none⟩),
([], ⟨(some 41), .mv (.t 6), none⟩),
([1, 3, 4, 6], ⟨(some 42), .bsl [(.i .i64 0)] 1 [(0, (.t 41))], none⟩),
([], ⟨(some 43), .app 1 8 (.t 40) (.t 42) false false, none⟩),
([], ⟨(some 44), .fa (.t 3) 0, none⟩),
([], ⟨none, .st (.t 44) (.t 38) 1, none⟩),
([], ⟨(some 45), .fa (.t 3) 1, none⟩),
([], ⟨none, .st (.t 45) (.t 43) 1, none⟩)])))) ( .region [
 ⟨(some 11), .mv (.t 4), none⟩,
⟨(some 12), .bin .add (.t 11) (.c (.i .i64 1)), none⟩,
⟨(some 4), .mv (.t 12), none⟩]))
def c104 : AFunc := ⟨47,
.seq ( .region [
 ⟨(some 2), .alloc [.nilsl, .nilsl] false, none⟩]) (
.seq ( .region [
 ⟨(some 3), .alloc [.nilsl, .nilsl] false, none⟩]) (
.seq (
.seq ( .region [
 ⟨(some 4), .mv (.c (.i .i64 0)), none⟩]) ( .block 0 ( .loop c104_L1))) (
.seq ( .region [
 ⟨(some 46), .ld (.t 3) 2 true, none⟩,
⟨none, .st (.t 2) (.t 46) 2, none⟩]) ( .ret)))), [.cell 2 2 true], false, none⟩
theorem k104 : CodeOk Tryz.prog 104 c104 := codeOk (hs := []) Tryz.func104 (by kernel_rfl)
def c105_L1 : ACode :=
.seq (
.seq ( .region [
 ⟨(some 6), .mv (.t 5), none⟩,
⟨(some 7), .mv (.t 0), none⟩,
⟨(some 8), .lenV (.t 7), none⟩,
⟨(some 9), .bin .lss (.t 6) (.t 8), none⟩]) ( .cond (.t 9) ( .skip) ( .exit 0))) (
.seq ( .block 1 (
.seq ( .region [
 ⟨(some 12), .mv (.t 0), none⟩,
⟨(some 13), .mv (.t 5), none⟩,
⟨(some 14), .ia (.t 12) (.t 13) 5, none⟩,
⟨(some 15), .fa (.t 14) 0, none⟩,
⟨(some 16), .ld (.t 15) 1 false, none⟩,
⟨(some 17), .mv (.t 1), none⟩,
⟨(some 18), .bin .eql (.t 16) (.t 17), none⟩]) ( .cond (.t 18) (
.seq ( .region [
 ⟨(some 19), .mv (.t 5), none⟩,
⟨(some 4), .mv (.t 19), none⟩]) ( .ret)) ( .skip)))) ( .region [
 ⟨(some 10), .mv (.t 5), none⟩,
⟨(some 11), .bin .add (.t 10) (.c (.i .i64 1)), none⟩,
⟨(some 5), .mv (.t 11), none⟩]))
def c105 : AFunc := ⟨20,
.seq ( .region [
 ⟨(some 4), .mv (.c (.i .i64 0)), none⟩]) (
.seq (
.seq ( .region [
 ⟨(some 5), .mv (.c (.i .i64 0)), none⟩]) ( .block 0 ( .loop c105_L1))) (
.seq ( .region [
 ⟨(some 4), .mv (.c (.i .i64 (-1))), none⟩]) ( .ret))), [.tmp 4], false, none⟩
theorem k105 : CodeOk Tryz.prog 105 c105 := codeOk (hs := []) Tryz.func105 (by kernel_rfl)
def c111 : AFunc := ⟨8,
.seq ( .region [
 ⟨(some 1), .box (.t 0) false, none⟩,
⟨(some 2), .mv (.c (.i .i64 0)), none⟩,
⟨(some 3), .mv (.c (.i .i64 0)), none⟩]) (
.seq ( .region [
 ⟨(some 4), .ld (.t 1) 4 true, none⟩,
⟨(some 5), .callf 166 [(.t 4), (.c (.i .i64 1))], none⟩,
⟨(some 6), .ext (.t 5) 0, none⟩,
⟨(some 7), .ext (.t 5) 1, none⟩,
⟨(some 2), .mv (.t 6), none⟩,
⟨(some 3), .mv (.t 7), none⟩]) ( .ret)), [.tmp 2, .tmp 3], false, none⟩
theorem k111 : CodeOk Tryz.prog 111 c111 := codeOk (hs := []) Tryz.func111 (by kernel_rfl)
def c112_L1 : ACode :=
.seq (
.seq ( .region [
 ⟨(some 70), .mv (.t 6), none⟩,
⟨(some 71), .fa (.t 1) 3, none⟩,
⟨(some 72), .ld (.t 71) 1 false, none⟩,
⟨(some 73), .lenV (.t 72), none⟩,
⟨(some 74), .bin .lss (.t 70) (.t 73), none⟩]) ( .cond (.t 74) ( .skip) ( .exit 1))) (
.seq ( .block 2 (
.seq ( .region [
 ⟨(some 77), .fa (.t 1) 3, none⟩,
⟨(some 78), .ld (.t 77) 1 false, none⟩,
⟨(some 79), .mv (.t 6), none⟩,
⟨(some 80), .ia (.t 78) (.t 79) 4, none⟩,
⟨(some 81), .ld (.t 80) 4 true, none⟩,
⟨(some 82), .callf 112 [(.t 81)], none⟩,
⟨(some 83), .un .not (.t 82), none⟩]) ( .cond (.t 83) (
.seq ( .region [
 ⟨(some 2), .mv (.c (.b false)), none⟩]) ( .ret)) ( .skip)))) ( .region [
 ⟨(some 75), .mv (.t 6), none⟩,
⟨(some 76), .bin .add (.t 75) (.c (.i .i64 1)), none⟩,
⟨(some 6), .mv (.t 76), none⟩]))
def c112 : AFunc := ⟨84,
.seq ( .region [
 ⟨(some 1), .box (.t 0) false, none⟩,
⟨(some 2), .mv (.c (.b false)), none⟩]) (
.seq (
.seq ( .region [
 ⟨(some 7), .fa (.t 1) 0, none⟩,
⟨(some 8), .ld (.t 7) 1 false, none⟩,
⟨(some 9), .bin .lss (.t 8) (.c (.i .i64 1)), none⟩,
⟨(some 10), .mv (.t 9), none⟩,
⟨(some 11), .fa (.t 1) 0, (some (10, false))⟩,
⟨(some 12), .ld (.t 11) 1 false, (some (10, false))⟩,
⟨(some 13), .bin .gtr (.t 12) (.c (.i .i64 22)), (some (10, false))⟩,
⟨(some 14), .pick (.t 10) (.c (.b true)) (.t 13), none⟩]) ( .cond (.t 14) (
.seq ( .region [
 ⟨(some 2), .mv (.c (.b false)), none⟩]) ( .ret)) ( .skip))) (
.seq ( .region [
 ⟨(some 16), .fa (.t 1) 0, none⟩,
⟨(some 17), .ld (.t 16) 1 false, none⟩,
⟨(some 18), .callf 167 [(.t 17)], none⟩,
⟨(some 15), .mv (.t 18), none⟩,
⟨(some 19), .ext (.t 15) 0, none⟩,
⟨(some 20), .ext (.t 15) 1, none⟩,
⟨(some 3), .mv (.t 19), none⟩,
⟨(some 4), .mv (.t 20), none⟩]) (
.seq (
.seq ( .region [
 ⟨(some 21), .fa (.t 1) 3, none⟩,
⟨(some 22), .ld (.t 21) 1 false, none⟩,
⟨(some 23), .lenV (.t 22), none⟩,
⟨(some 24), .mv (.t 3), none⟩,
⟨(some 25), .bin .lss (.t 23) (.t 24), none⟩,
⟨(some 26), .mv (.t 25), none⟩,
⟨(some 27), .fa (.t 1) 3, (some (26, false))⟩,
⟨(some 28), .ld (.t 27) 1 false, (some (26, false))⟩,
⟨(some 29), .lenV (.t 28), (some (26, false))⟩,
⟨(some 30), .mv (.t 4), (some (26, false))⟩,
⟨(some 31), .bin .gtr (.t 29) (.t 30), (some (26, false))⟩,
⟨(some 32), .pick (.t 26) (.c (.b true)) (.t 31), none⟩]) ( .cond (.t 32) (
.seq ( .region [
 ⟨(some 2), .mv (.c (.b false)), none⟩]) ( .ret)) ( .skip))) (
.seq ( .region [
 ⟨(some 5), .mv (.c (.i .i64 0)), none⟩]) (
.seq (
.seq ( .region [
 ⟨(some 33), .fa (.t 1) 0, none⟩,
⟨(some 34), .ld (.t 33) 1 false, none⟩]) ( .block 0 (
.seq (
.seq ( .region [
 ⟨(some 36), .bin .eql (.t 34) (.c (.i .i64 1)), none⟩,
⟨(some 35), .mv (.t 36), none⟩]) ( .cond (.t 35) ( .skip) ( .region [
 ⟨(some 37), .bin .eql (.t 34) (.c (.i .i64 2)), none⟩,
⟨(some 35), .mv (.t 37), none⟩]))) ( .cond (.t 35) ( .region [
 ⟨(some 5), .mv (.c (.i .i64 1099511627776)), none⟩]) (
.seq ( .region [
 ⟨(some 39), .bin .eql (.t 34) (.c (.i .i64 3)), none⟩,
⟨(some 38), .mv (.t 39), none⟩]) ( .cond (.t 38) ( .region [
 ⟨(some 5), .mv (.c (.i .i64 1439)), none⟩]) ( .skip))))))) (
.seq (
.seq ( .region [
 ⟨(some 40), .fa (.t 1) 1, none⟩,
⟨(some 41), .ld (.t 40) 1 false, none⟩,
⟨(some 42), .bin .lss (.t 41) (.c (.i .i64 0)), none⟩,
⟨(some 43), .mv (.t 42), none⟩,
⟨(some 44), .fa (.t 1) 1, (some (43, false))⟩,
⟨(some 45), .ld (.t 44) 1 false, (some (43, false))⟩,
⟨(some 46), .mv (.t 5), (some (43, false))⟩,
⟨(some 47), .bin .gtr (.t 45) (.t 46), (some (43, false))⟩,
⟨(some 48), .pick (.t 43) (.c (.b true)) (.t 47), none⟩,
⟨(some 49), .mv (.t 48), none⟩,
⟨(some 50), .fa (.t 1) 0, (some (49, false))⟩,
⟨(some 51), .ld (.t 50) 1 false, (some (49, false))⟩,
⟨(some 52), .bin .eql (.t 51) (.c (.i .i64 6)), (some (49, false))⟩,
⟨(some 53), .mv (.t 52), (some (49, false))⟩,
⟨(some 54), .fa (.t 1) 2, (some (53, true))⟩,
⟨(some 55), .ld (.t 54) 1 false, (some (53, true))⟩,
⟨(some 56), .callf 168 [(.t 55)], (some (53, true))⟩,
⟨(some 57), .un .not (.t 56), (some (53, true))⟩,
⟨(some 58), .pick (.t 53) (.t 57) (.c (.b false)), (some (49, false))⟩,
⟨(some 59), .pick (.t 49) (.c (.b true)) (.t 58), none⟩,
⟨(some 60), .mv (.t 59), none⟩,
⟨(some 61), .fa (.t 1) 0, (some (60, false))⟩,
⟨(some 62), .ld (.t 61) 1 false, (some (60, false))⟩,
⟨(some 63), .bin .neq (.t 62) (.c (.i .i64 6)), (some (60, false))⟩,
⟨(some 64), .mv (.t 63), (some (60, false))⟩,
⟨(some 65), .fa (.t 1) 2, (some (64, true))⟩,
⟨(some 66), .ld (.t 65) 1 false, (some (64, true))⟩,
⟨(some 67), .bin .neq (.t 66) (.c (.s [])), (some (64, true))⟩,
⟨(some 68), .pick (.t 64) (.t 67) (.c (.b false)), (some (60, false))⟩,
⟨(some 69), .pick (.t 60) (.c (.b true)) (.t 68), none⟩]) ( .cond (.t 69) (
.seq ( .region [
 ⟨(some 2), .mv (.c (.b false)), none⟩]) ( .ret)) ( .skip))) (
.seq (
.seq ( .region [
 ⟨(some 6), .mv (.c (.i .i64 0)), none⟩]) ( .block 1 ( .loop c112_L1))) (
.seq ( .region [
 ⟨(some 2), .mv (.c (.b true)), none⟩]) ( .ret))))))))), [.tmp 2], false, none⟩
theorem k112 : CodeOk Tryz.prog 112 c112 := codeOk (hs := []) Tryz.func112 (by kernel_rfl)
def c113_L1 : ACode :=
.seq ( .region [
 ⟨(some 105), .bin .lss (.t 104) (.t 103), none⟩]) (
.seq ( .cond (.t 105) ( .skip) ( .exit 3)) (
.seq ( .block 4 (
.seq ( .region [
 ⟨(some 106), .ia (.t 102) (.t 104) 4, none⟩,
⟨(some 107), .ld (.t 106) 4 true, none⟩,
⟨(some 9), .alloc [(.i .i64 0), (.i .i64 0), (.s []), .nilsl] false, none⟩,
⟨none, .st (.t 9) (.t 107) 4, none⟩]) (
.seq ( .region [
 ⟨(some 108), .ld (.t 9) 4 true, none⟩,
⟨(some 109), .callf 55 [(.t 108)], none⟩,
⟨(some 10), .mv (.t 109), none⟩]) (
.seq ( .region [
 ⟨(some 110), .mv (.t 10), none⟩,
⟨(some 111), .bin .neq (.t 110) (.c (.i .i64 0)), none⟩]) ( .cond (.t 111) (
.seq ( .region [
 ⟨(some 112), .mv (.t 10), none⟩,
⟨(some 2), .mv (.t 112), none⟩]) ( .ret)) ( .skip)))))) ( .region [
 ⟨(some 113), .bin .add (.t 104) (.c (.i .i64 1)), none⟩,
⟨(some 104), .mv (.t 113), none⟩])))
def c113_L2 : ACode :=
.seq ( .region [
 ⟨(some 87), .bin .lss (.t 86) (.t 85), none⟩]) (
.seq ( .cond (.t 87) ( .skip) ( .exit 1)) (
.seq ( .block 2 (
.seq ( .region [
 ⟨(some 88), .ia (.t 84) (.t 86) 5, none⟩,
⟨(some 89), .ld (.t 88) 5 true, none⟩,
⟨(some 6), .alloc [(.i .i64 0), (.i .i64 0), (.i .i64 0), (.s []), .nilsl] false, none⟩,
⟨none, .st (.t 6) (.t 89) 5, none⟩]) (
.seq (
.seq ( .region [
 ⟨(some 90), .fa (.t 6) 0, none⟩,
⟨(some 91), .ld (.t 90) 1 false, none⟩,
⟨(some 92), .callf 172 [(.t 91)], none⟩,
⟨(some 93), .un .not (.t 92), none⟩]) ( .cond (.t 93) (
.seq ( .region [
 ⟨(some 2), .mv (.c (.i .i64 1)), none⟩]) ( .ret)) ( .skip))) (
.seq ( .region [
 ⟨(some 94), .fa (.t 6) 1, none⟩,
⟨(some 95), .ld (.t 94) 4 true, none⟩,
⟨(some 96), .callf 55 [(.t 95)], none⟩,
⟨(some 7), .mv (.t 96), none⟩]) (
.seq ( .region [
 ⟨(some 97), .mv (.t 7), none⟩,
⟨(some 98), .bin .neq (.t 97) (.c (.i .i64 0)), none⟩]) ( .cond (.t 98) (
.seq ( .region [
 ⟨(some 99), .mv (.t 7), none⟩,
⟨(some 2), .mv (.t 99), none⟩]) ( .ret)) ( .skip))))))) ( .region [
 ⟨(some 100), .bin .add (.t 86) (.c (.i .i64 1)), none⟩,
⟨(some 86), .mv (.t 100), none⟩])))
def c113 : AFunc := ⟨116,
.seq ( .region [
 ⟨(some 1), .box (.t 0) false, none⟩,
⟨(some 2), .mv (.c (.i .i64 0)), none⟩]) (
.seq ( .block 0 (
.seq (
.seq ( .region [
 ⟨(some 12), .fa (.t 1) 0, none⟩,
⟨(some 13), .ld (.t 12) 1 false, none⟩,
⟨(some 14), .callf 169 [(.t 13), (.c (.i .i64 0)), (.c (.i .i64 1440))], none⟩,
⟨(some 15), .un .not (.t 14), none⟩,
⟨(some 11), .mv (.t 15), none⟩]) ( .cond (.t 11) ( .skip) (
.seq ( .region [
 ⟨(some 16), .fa (.t 1) 1, none⟩,
⟨(some 17), .ld (.t 16) 1 false, none⟩,
⟨(some 18), .callf 169 [(.t 17), (.c (.i .i64 0)), (.c (.i .i64 1440))], none⟩,
⟨(some 19), .un .not (.t 18), none⟩,
⟨(some 11), .mv (.t 19), none⟩]) ( .cond (.t 11) ( .skip) (
.seq ( .region [
 ⟨(some 20), .fa (.t 1) 2, none⟩,
⟨(some 21), .ld (.t 20) 1 false, none⟩,
⟨(some 22), .callf 169 [(.t 21), (.c (.i .i64 0)), (.c (.i .i64 1440))], none⟩,
⟨(some 23), .un .not (.t 22), none⟩,
⟨(some 11), .mv (.t 23), none⟩]) ( .cond (.t 11) ( .skip) (
.seq ( .region [
 ⟨(some 24), .fa (.t 1) 3, none⟩,
⟨(some 25), .ld (.t 24) 1 false, none⟩,
⟨(some 26), .fa (.t 1) 2, none⟩,
⟨(some 27), .ld (.t 26) 1 false, none⟩,
⟨(some 28), .callf 169 [(.t 25), (.t 27), (.c (.i .i64 1440))], none⟩,
⟨(some 29), .un .not (.t 28), none⟩,
⟨(some 11), .mv (.t 29), none⟩]) ( .cond (.t 11) ( .skip) (
.seq ( .region [
 ⟨(some 30), .fa (.t 1) 4, none⟩,
⟨(some 31), .ld (.t 30) 1 false, none⟩,
⟨(some 32), .callf 169 [(.t 31), (.c (.i .i64 0)), (.c (.i .i64 10080))], none⟩,
⟨(some 33), .un .not (.t 32), none⟩,
⟨(some 11), .mv (.t 33), none⟩]) ( .cond (.t 11) ( .skip) (
.seq ( .region [
 ⟨(some 34), .fa (.t 1) 5, none⟩,
⟨(some 35), .ld (.t 34) 1 false, none⟩,
⟨(some 36), .callf 169 [(.t 35), (.c (.i .i64 0)), (.c (.i .i64 1439))], none⟩,
⟨(some 37), .un .not (.t 36), none⟩,
⟨(some 11), .mv (.t 37), none⟩]) ( .cond (.t 11) ( .skip) (
.seq ( .region [
 ⟨(some 38), .fa (.t 1) 6, none⟩,
⟨(some 39), .ld (.t 38) 1 false, none⟩,
⟨(some 40), .callf 169 [(.t 39), (.c (.i .i64 0)), (.c (.i .i64 1439))], none⟩,
⟨(some 41), .un .not (.t 40), none⟩,
⟨(some 11), .mv (.t 41), none⟩]) ( .cond (.t 11) ( .skip) ( .region [
 ⟨(some 42), .fa (.t 1) 13, none⟩,
⟨(some 43), .ld (.t 42) 1 false, none⟩,
⟨(some 44), .callf 169 [(.t 43), (.c (.i .i64 0)), (.c (.i .i64 599999))], none⟩,
⟨(some 45), .un .not (.t 44), none⟩,
⟨(some 11), .mv (.t 45), none⟩]))))))))))))))) ( .cond (.t 11) (
.seq ( .region [
 ⟨(some 2), .mv (.c (.i .i64 5)), none⟩]) ( .ret)) (
.seq (
.seq ( .region [
 ⟨(some 47), .fa (.t 1) 7, none⟩,
⟨(some 48), .ld (.t 47) 1 false, none⟩,
⟨(some 49), .lenV (.t 48), none⟩,
⟨(some 50), .bin .gtr (.t 49) (.c (.i .i64 32)), none⟩,
⟨(some 46), .mv (.t 50), none⟩]) ( .cond (.t 46) ( .skip) (
.seq ( .region [
 ⟨(some 51), .fa (.t 1) 8, none⟩,
⟨(some 52), .ld (.t 51) 1 false, none⟩,
⟨(some 53), .lenV (.t 52), none⟩,
⟨(some 54), .bin .gtr (.t 53) (.c (.i .i64 40)), none⟩,
⟨(some 46), .mv (.t 54), none⟩]) ( .cond (.t 46) ( .skip) (
.seq ( .region [
 ⟨(some 55), .fa (.t 1) 9, none⟩,
⟨(some 56), .ld (.t 55) 1 false, none⟩,
⟨(some 57), .lenV (.t 56), none⟩,
⟨(some 58), .bin .gtr (.t 57) (.c (.i .i64 16)), none⟩,
⟨(some 46), .mv (.t 58), none⟩]) ( .cond (.t 46) ( .skip) (
.seq ( .region [
 ⟨(some 59), .fa (.t 1) 10, none⟩,
⟨(some 60), .ld (.t 59) 1 false, none⟩,
⟨(some 61), .lenV (.t 60), none⟩,
⟨(some 62), .bin .gtr (.t 61) (.c (.i .i64 1)), none⟩,
⟨(some 46), .mv (.t 62), none⟩]) ( .cond (.t 46) ( .skip) (
.seq ( .region [
 ⟨(some 63), .fa (.t 1) 11, none⟩,
⟨(some 64), .ld (.t 63) 1 false, none⟩,
⟨(some 65), .lenV (.t 64), none⟩,
⟨(some 66), .bin .gtr (.t 65) (.c (.i .i64 16)), none⟩,
⟨(some 46), .mv (.t 66), none⟩]) ( .cond (.t 46) ( .skip) ( .region [
 ⟨(some 67), .fa (.t 1) 12, none⟩,
⟨(some 68), .ld (.t 67) 1 false, none⟩,
⟨(some 69), .lenV (.t 68), none⟩,
⟨(some 70), .bin .gtr (.t 69) (.c (.i .i64 16)), none⟩,
⟨(some 46), .mv (.t 70), none⟩]))))))))))) ( .cond (.t 46) (
.seq ( .region [
 ⟨(some 2), .mv (.c (.i .i64 10)), none⟩]) ( .ret)) ( .skip)))))) (
.seq (
.seq ( .region [
 ⟨(some 71), .fa (.t 1) 7, none⟩,
⟨(some 72), .ld (.t 71) 1 false, none⟩,
⟨(some 73), .callf 170 [(.t 72)], none⟩,
⟨(some 3), .mv (.t 73), none⟩]) (
.seq ( .region [
 ⟨(some 74), .mv (.t 3), none⟩,
⟨(some 75), .bin .neq (.t 74) (.c (.i .i64 0)), none⟩]) ( .cond (.t 75) (
.seq ( .region [
 ⟨(some 76), .mv (.t 3), none⟩,
⟨(some 2), .mv (.t 76), none⟩]) ( .ret)) ( .skip)))) (
.seq (
.seq ( .region [
 ⟨(some 77), .fa (.t 1) 8, none⟩,
⟨(some 78), .ld (.t 77) 1 false, none⟩,
⟨(some 79), .callf 171 [(.t 78)], none⟩,
⟨(some 4), .mv (.t 79), none⟩]) (
.seq ( .region [
 ⟨(some 80), .mv (.t 4), none⟩,
⟨(some 81), .bin .neq (.t 80) (.c (.i .i64 0)), none⟩]) ( .cond (.t 81) (
.seq ( .region [
 ⟨(some 82), .mv (.t 4), none⟩,
⟨(some 2), .mv (.t 82), none⟩]) ( .ret)) ( .skip)))) (
.seq (
.seq ( .region [
 ⟨(some 83), .fa (.t 1) 9, none⟩,
⟨(some 84), .ld (.t 83) 1 false, none⟩,
⟨(some 85), .lenV (.t 84), none⟩,
⟨(some 86), .mv (.c (.i .i64 0)), none⟩]) ( .block 1 ( .loop c113_L2))) (
.seq (
.seq ( .region [
 ⟨(some 101), .fa (.t 1) 10, none⟩,
⟨(some 102), .ld (.t 101) 1 false, none⟩,
⟨(some 103), .lenV (.t 102), none⟩,
⟨(some 104), .mv (.c (.i .i64 0)), none⟩]) ( .block 3 ( .loop c113_L1))) (
.seq ( .region [
 ⟨(some 114), .ld (.t 1) 14 true, none⟩,
⟨(some 115), .callf 173 [(.t 114)], none⟩,
⟨(some 2), .mv (.t 115), none⟩]) ( .ret))))))), [.tmp 2], false, none⟩
theorem k113 : CodeOk Tryz.prog 113 c113 := codeOk (hs := []) Tryz.func113 (by kernel_rfl)
def c114 : AFunc := ⟨45,
.seq ( .region [
 ⟨(some 4), .mv (.c (.i .i64 0)), none⟩,
⟨(some 5), .mv (.c (.i .i64 0)), none⟩]) (
.seq (
.seq ( .region [
 ⟨(some 11), .mv (.t 0), none⟩,
⟨(some 12), .nck (.t 11), none⟩,
⟨(some 13), .fa (.t 12) 2, none⟩,
⟨(some 14), .ld (.t 13) 1 false, none⟩,
⟨(some 15), .mv (.t 1), none⟩,
⟨(some 16), .lk (.one .int) (.t 14) (.t 15) (.i .i64 0) true, none⟩,
⟨(some 10), .mv (.t 16), none⟩,
⟨(some 17), .ext (.t 10) 0, none⟩,
⟨(some 18), .ext (.t 10) 1, none⟩,
⟨(some 6), .mv (.t 17), none⟩,
⟨(some 7), .mv (.t 18), none⟩]) (
.seq ( .region [
 ⟨(some 19), .mv (.t 7), none⟩]) ( .cond (.t 19) (
.seq ( .region [
 ⟨(some 20), .mv (.t 6), none⟩,
⟨(some 4), .mv (.t 20), none⟩,
⟨(some 5), .mv (.c (.i .i64 0)), none⟩]) ( .ret)) ( .skip)))) (
.seq ( .region [
 ⟨(some 22), .mv (.t 0), none⟩,
⟨(some 23), .mv (.t 1), none⟩,
⟨(some 24), .mv (.t 0), none⟩,
⟨(some 25), .nck (.t 24), none⟩,
⟨(some 26), .fa (.t 25) 0, none⟩,
⟨(some 27), .ld (.t 26) 1 false, none⟩,
⟨(some 28), .mv (.t 1), none⟩,
⟨(some 29), .ia (.t 27) (.t 28) 5, none⟩,
⟨(some 30), .fa (.t 29) 1, none⟩,
⟨(some 31), .ld (.t 30) 4 true, none⟩,
⟨(some 32), .callf 97 [(.t 22), (.c (.i .i64 0)), (.t 23), (.t 31)], none⟩,
⟨(some 21), .mv (.t 32), none⟩,
⟨(some 33), .ext (.t 21) 0, none⟩,
⟨(some 34), .ext (.t 21) 1, none⟩,
⟨(some 8), .mv (.t 33), none⟩,
⟨(some 9), .mv (.t 34), none⟩]) (
.seq (
.seq ( .region [
 ⟨(some 35), .mv (.t 9), none⟩,
⟨(some 36), .bin .neq (.t 35) (.c (.i .i64 0)), none⟩]) ( .cond (.t 36) (
.seq ( .region [
 ⟨(some 37), .mv (.t 9), none⟩,
⟨(some 4), .mv (.c (.i .i64 0)), none⟩,
⟨(some 5), .mv (.t 37), none⟩]) ( .ret)) ( .skip))) (
.seq ( .region [
 ⟨(some 38), .mv (.t 0), none⟩,
⟨(some 39), .nck (.t 38), none⟩,
⟨(some 40), .fa (.t 39) 2, none⟩,
⟨(some 41), .ld (.t 40) 1 false, none⟩,
⟨(some 42), .mv (.t 1), none⟩,
⟨(some 43), .mv (.t 8), none⟩,
⟨none, .mu (.one .int) (.t 41) (.t 42) (.t 43), none⟩]) (
.seq ( .region [
 ⟨(some 44), .mv (.t 8), none⟩,
⟨(some 4), .mv (.t 44), none⟩,
⟨(some 5), .mv (.c (.i .i64 0)), none⟩]) ( .ret)))))), [.tmp 4, .tmp 5], false, none⟩
theorem k114 : CodeOk Tryz.prog 114 c114 := codeOk (hs := []) Tryz.func114 (by kernel_rfl)
def c115 : AFunc := ⟨29,
.seq ( .region [
 ⟨(some 8), .box (.t 3) false, none⟩,
⟨(some 10), .mv (.c (.i .i64 0)), none⟩]) (
.seq ( .region [
 ⟨(some 14), .mv (.t 0), none⟩,
⟨(some 15), .mv (.t 1), none⟩,
⟨(some 16), .mv (.t 2), none⟩,
⟨(some 17), .ld (.t 8) 4 true, none⟩,
⟨(some 18), .callf 97 [(.t 14), (.t 15), (.t 16), (.t 17)], none⟩,
⟨(some 13), .mv (.t 18), none⟩,
⟨(some 19), .ext (.t 13) 0, none⟩,
⟨(some 20), .ext (.t 13) 1, none⟩,
⟨(some 11), .mv (.t 19), none⟩,
⟨(some 12), .mv (.t 20), none⟩]) (
.seq (
.seq ( .region [
 ⟨(some 21), .mv (.t 12), none⟩,
⟨(some 22), .bin .eql (.t 21) (.c (.i .i64 0)), none⟩,
⟨(some 23), .mv (.t 22), none⟩,
⟨(some 24), .mv (.t 11), (some (23, true))⟩,
⟨(some 25), .mv (.t 4), (some (23, true))⟩,
⟨(some 26), .bin .neq (.t 24) (.t 25), (some (23, true))⟩,
⟨(some 27), .pick (.t 23) (.t 26) (.c (.b false)), none⟩]) ( .cond (.t 27) (
.seq ( .region [
 ⟨(some 10), .mv (.c (.i .i64 9)), none⟩]) ( .ret)) ( .skip))) (
.seq ( .region [
 ⟨(some 28), .mv (.t 12), none⟩,
⟨(some 10), .mv (.t 28), none⟩]) ( .ret)))), [.tmp 10], false, none⟩
theorem k115 : CodeOk Tryz.prog 115 c115 := codeOk (hs := []) Tryz.func115 (by kernel_rfl)
def c116_L1 : ACode :=
.seq ( .region [
 ⟨(some 21), .bin .lss (.t 20) (.t 19), none⟩]) (
.seq ( .cond (.t 21) ( .skip) ( .exit 0)) (
.seq ( .block 1 (
.seq ( .region [
 ⟨(some 22), .mv (.t 20), none⟩,
⟨(some 23), .ia (.t 18) (.t 20) 2, none⟩,
⟨(some 24), .ld (.t 23) 2 true, none⟩,
⟨(some 4), .alloc [(.i .i64 0), (.i .i64 0)] false, none⟩,
⟨(some 3), .mv (.t 22), none⟩,
⟨none, .st (.t 4) (.t 24) 2, none⟩]) (
.seq (
.seq ( .region [
 ⟨(some 25), .fa (.t 4) 0, none⟩,
⟨(some 26), .ld (.t 25) 1 false, none⟩,
⟨(some 27), .callf 176 [(.t 26)], none⟩,
⟨(some 28), .un .not (.t 27), none⟩,
⟨(some 29), .mv (.t 28), none⟩,
⟨(some 30), .fa (.t 4) 1, (some (29, false))⟩,
⟨(some 31), .ld (.t 30) 1 false, (some (29, false))⟩,
⟨(some 32), .callf 175 [(.t 31)], (some (29, false))⟩,
⟨(some 33), .un .not (.t 32), (some (29, false))⟩,
⟨(some 34), .pick (.t 29) (.c (.b true)) (.t 33), none⟩]) ( .cond (.t 34) (
.seq ( .region [
 ⟨(some 2), .mv (.c (.i .i64 5)), none⟩]) ( .ret)) ( .skip))) (
.seq ( .draws [ ([], ⟨(some 35), .mv (.t 3), none⟩),
([], ⟨(some 36), .bin .gtr (.t 35) (.c (.i .i64 0)), none⟩),
([], ⟨(some 37), .mv (.t 36), none⟩),
([], ⟨(some 38), .fa (.t 4) 0, (some (37, true))⟩),
([], ⟨(some 39), .ld (.t 38) 1 false, (some (37, true))⟩),
([], ⟨(some 40), .fa (.t 1) 2, (some (37, true))⟩),
([4], ⟨(some 41), .ld (.t 40) 1 false, (some (37, true))⟩),
([], ⟨(some 42), .mv (.t 3), (some (37, true))⟩),
([], ⟨(some 43), .bin .sub (.t 42) (.c (.i .i64 1)), (some (37, true))⟩),
([], ⟨(some 44), .ia (.t 41) (.t 43) 2, (some (37, true))⟩),
([], ⟨(some 45), .fa (.t 44) 0, (some (37, true))⟩),
([4], ⟨(some 46), .ld (.t 45) 1 false, (some (37, true))⟩),
([], ⟨(some 47), .bin .leq (.t 39) (.t 46), (some (37, true))⟩),
([], ⟨(some 48), .pick (.t 37) (.t 47) (.c (.b false)), none⟩)]) ( .cond (.t 48) (
.seq ( .region [
 ⟨(some 2), .mv (.c (.i .i64 8)), none⟩]) ( .ret)) ( .skip)))))) ( .region [
 ⟨(some 49), .bin .add (.t 20) (.c (.i .i64 1)), none⟩,
⟨(some 20), .mv (.t 49), none⟩])))
def c116 : AFunc := ⟨50,
.seq ( .region [
 ⟨(some 1), .box (.t 0) false, none⟩,
⟨(some 2), .mv (.c (.i .i64 0)), none⟩]) (
.seq (
.seq ( .region [
 ⟨(some 5), .fa (.t 1) 0, none⟩,
⟨(some 6), .ld (.t 5) 1 false, none⟩,
⟨(some 7), .callf 174 [(.t 6)], none⟩,
⟨(some 8), .un .not (.t 7), none⟩]) ( .cond (.t 8) (
.seq ( .region [
 ⟨(some 2), .mv (.c (.i .i64 1)), none⟩]) ( .ret)) ( .skip))) (
.seq (
.seq ( .region [
 ⟨(some 9), .fa (.t 1) 1, none⟩,
⟨(some 10), .ld (.t 9) 1 false, none⟩,
⟨(some 11), .callf 175 [(.t 10)], none⟩,
⟨(some 12), .un .not (.t 11), none⟩]) ( .cond (.t 12) (
.seq ( .region [
 ⟨(some 2), .mv (.c (.i .i64 5)), none⟩]) ( .ret)) ( .skip))) (
.seq (
.seq ( .region [
 ⟨(some 13), .fa (.t 1) 2, none⟩,
⟨(some 14), .ld (.t 13) 1 false, none⟩,
⟨(some 15), .lenV (.t 14), none⟩,
⟨(some 16), .bin .gtr (.t 15) (.c (.i .i64 16)), none⟩]) ( .cond (.t 16) (
.seq ( .region [
 ⟨(some 2), .mv (.c (.i .i64 10)), none⟩]) ( .ret)) ( .skip))) (
.seq (
.seq ( .region [
 ⟨(some 17), .fa (.t 1) 2, none⟩,
⟨(some 18), .ld (.t 17) 1 false, none⟩,
⟨(some 19), .lenV (.t 18), none⟩,
⟨(some 20), .mv (.c (.i .i64 0)), none⟩]) ( .block 0 ( .loop c116_L1))) (
.seq ( .region [
 ⟨(some 2), .mv (.c (.i .i64 0)), none⟩]) ( .ret)))))), [.tmp 2], false, none⟩
theorem k116 : CodeOk Tryz.prog 116 c116 := codeOk (hs := []) Tryz.func116 (by kernel_rfl)
def c117 : AFunc := ⟨24,
.seq ( .region [
 ⟨(some 2), .box (.t 0) false, none⟩,
⟨(some 4), .mv (.c (.i .i64 0)), none⟩,
⟨(some 5), .mv (.c (.i .i64 0)), none⟩,
⟨(some 6), .mv (.c (.i .i64 0)), none⟩]) (
.seq ( .region [
 ⟨(some 9), .ld (.t 2) 3 true, none⟩,
⟨(some 10), .mv (.t 1), none⟩,
⟨(some 11), .callf 177 [(.t 9), (.t 10)], none⟩,
⟨(some 8), .mv (.t 11), none⟩,
⟨(some 12), .ext (.t 8) 0, none⟩,
⟨(some 13), .ext (.t 8) 1, none⟩,
⟨(some 7), .mv (.t 12), none⟩,
⟨(some 6), .mv (.t 13), none⟩]) (
.seq (
.seq ( .region [
 ⟨(some 14), .mv (.t 6), none⟩,
⟨(some 15), .bin .neq (.t 14) (.c (.i .i64 0)), none⟩]) ( .cond (.t 15) (
.seq ( .region [
 ⟨(some 16), .mv (.t 6), none⟩,
⟨(some 4), .mv (.c (.i .i64 0)), none⟩,
⟨(some 5), .mv (.c (.i .i64 0)), none⟩,
⟨(some 6), .mv (.t 16), none⟩]) ( .ret)) ( .skip))) (
.seq ( .region [
 ⟨(some 18), .mv (.t 7), none⟩,
⟨(some 19), .callf 178 [(.t 18)], none⟩,
⟨(some 17), .mv (.t 19), none⟩,
⟨(some 20), .ext (.t 17) 0, none⟩,
⟨(some 21), .ext (.t 17) 1, none⟩,
⟨(some 4), .mv (.t 20), none⟩,
⟨(some 5), .mv (.t 21), none⟩]) (
.seq ( .region [
 ⟨(some 22), .mv (.t 4), none⟩,
⟨(some 23), .mv (.t 5), none⟩,
⟨(some 4), .mv (.t 22), none⟩,
⟨(some 5), .mv (.t 23), none⟩,
⟨(some 6), .mv (.c (.i .i64 0)), none⟩]) ( .ret))))), [.tmp 4, .tmp 5, .tmp 6], false, none⟩
theorem k117 : CodeOk Tryz.prog 117 c117 := codeOk (hs := []) Tryz.func117 (by kernel_rfl)
def c119 : AFunc := ⟨4,
.seq ( .region [
 ⟨(some 1), .box (.t 0) false, none⟩,
⟨(some 2), .mv (.c .nilfn), none⟩]) (
.seq ( .region [
 ⟨(some 3), .mkfn 181 [] [(.t 1)], none⟩,
⟨(some 2), .mv (.t 3), none⟩]) ( .ret)), [.tmp 2], false, none⟩
theorem k119 : CodeOk Tryz.prog 119 c119 := codeOk (hs := []) Tryz.func119 (by kernel_rfl)
def c120_L1 : ACode :=
.seq (
.seq ( .region [
 ⟨(some 16), .mv (.t 3), none⟩,
⟨(some 17), .fa (.t 1) 2, none⟩,
⟨(some 18), .ld (.t 17) 1 false, none⟩,
⟨(some 19), .lenV (.t 18), none⟩,
⟨(some 20), .bin .lss (.t 16) (.t 19), none⟩]) ( .cond (.t 20) ( .skip) ( .exit 0))) (
.seq ( .block 1 (
.seq (
.seq ( .region [
 ⟨(some 23), .fa (.t 1) 2, none⟩,
⟨(some 24), .ld (.t 23) 1 false, none⟩,
⟨(some 25), .mv (.t 3), none⟩,
⟨(some 26), .ia (.t 24) (.t 25) 2, none⟩,
⟨(some 27), .fa (.t 26) 0, none⟩,
⟨(some 28), .ld (.t 27) 1 false, none⟩,
⟨(some 29), .callf 184 [(.t 28)], none⟩,
⟨(some 30), .un .not (.t 29), none⟩,
⟨(some 31), .mv (.t 30), none⟩,
⟨(some 32), .fa (.t 1) 2, (some (31, false))⟩,
⟨(some 33), .ld (.t 32) 1 false, (some (31, false))⟩,
⟨(some 34), .mv (.t 3), (some (31, false))⟩,
⟨(some 35), .ia (.t 33) (.t 34) 2, (some (31, false))⟩,
⟨(some 36), .fa (.t 35) 1, (some (31, false))⟩,
⟨(some 37), .ld (.t 36) 1 false, (some (31, false))⟩,
⟨(some 38), .callf 183 [(.t 37)], (some (31, false))⟩,
⟨(some 39), .un .not (.t 38), (some (31, false))⟩,
⟨(some 40), .pick (.t 31) (.c (.b true)) (.t 39), none⟩]) ( .cond (.t 40) (
.seq ( .region [
 ⟨(some 2), .mv (.c (.i .i64 5)), none⟩]) ( .ret)) ( .skip))) (
.seq ( .draws [ ([], ⟨(some 41), .mv (.t 3), none⟩),
([], ⟨(some 42), .bin .gtr (.t 41) (.c (.i .i64 0)), none⟩),
([], ⟨(some 43), .mv (.t 42), none⟩),
([], ⟨(some 44), .fa (.t 1) 2, (some (43, true))⟩),
([], ⟨(some 45), .ld (.t 44) 1 false, (some (43, true))⟩),
([], ⟨(some 46), .mv (.t 3), (some (43, true))⟩),
([], ⟨(some 47), .ia (.t 45) (.t 46) 2, (some (43, true))⟩),
([], ⟨(some 48), .fa (.t 47) 0, (some (43, true))⟩),
([], ⟨(some 49), .ld (.t 48) 1 false, (some (43, true))⟩),
([], ⟨(some 50), .fa (.t 1) 2, (some (43, true))⟩),
([4, 8], ⟨(some 51), .ld (.t 50) 1 false, (some (43, true))⟩),
([], ⟨(some 52), .mv (.t 3), (some (43, true))⟩),
([], ⟨(some 53), .bin .sub (.t 52) (.c (.i .i64 1)), (some (43, true))⟩),
([], ⟨(some 54), .ia (.t 51) (.t 53) 2, (some (43, true))⟩),
([], ⟨(some 55), .fa (.t 54) 0, (some (43, true))⟩),
([4, 8], ⟨(some 56), .ld (.t 55) 1 false, (some (43, true))⟩),
([], ⟨(some 57), .bin .leq (.t 49) (.t 56), (some (43, true))⟩),
([], ⟨(some 58), .pick (.t 43) (.t 57) (.c (.b false)), none⟩)]) ( .cond (.t 58) (
.seq ( .region [
 ⟨(some 2), .mv (.c (.i .i64 8)), none⟩]) ( .ret)) ( .skip))))) ( .region [
 ⟨(some 21), .mv (.t 3), none⟩,
⟨(some 22), .bin .add (.t 21) (.c (.i .i64 1)), none⟩,
⟨(some 3), .mv (.t 22), none⟩]))
def c120 : AFunc := ⟨59,
.seq ( .region [
 ⟨(some 1), .box (.t 0) false, none⟩,
⟨(some 2), .mv (.c (.i .i64 0)), none⟩]) (
.seq (
.seq ( .region [
 ⟨(some 4), .fa (.t 1) 0, none⟩,
⟨(some 5), .ld (.t 4) 1 false, none⟩,
⟨(some 6), .callf 182 [(.t 5)], none⟩,
⟨(some 7), .un .not (.t 6), none⟩]) ( .cond (.t 7) (
.seq ( .region [
 ⟨(some 2), .mv (.c (.i .i64 1)), none⟩]) ( .ret)) ( .skip))) (
.seq (
.seq ( .region [
 ⟨(some 8), .fa (.t 1) 1, none⟩,
⟨(some 9), .ld (.t 8) 1 false, none⟩,
⟨(some 10), .callf 183 [(.t 9)], none⟩,
⟨(some 11), .un .not (.t 10), none⟩]) ( .cond (.t 11) (
.seq ( .region [
 ⟨(some 2), .mv (.c (.i .i64 5)), none⟩]) ( .ret)) ( .skip))) (
.seq (
.seq ( .region [
 ⟨(some 12), .fa (.t 1) 2, none⟩,
⟨(some 13), .ld (.t 12) 1 false, none⟩,
⟨(some 14), .lenV (.t 13), none⟩,
⟨(some 15), .bin .gtr (.t 14) (.c (.i .i64 16)), none⟩]) ( .cond (.t 15) (
.seq ( .region [
 ⟨(some 2), .mv (.c (.i .i64 10)), none⟩]) ( .ret)) ( .skip))) (
.seq (
.seq ( .region [
 ⟨(some 3), .mv (.c (.i .i64 0)), none⟩]) ( .block 0 ( .loop c120_L1))) (
.seq ( .region [
 ⟨(some 2), .mv (.c (.i .i64 0)), none⟩]) ( .ret)))))), [.tmp 2], false, none⟩
theorem k120 : CodeOk Tryz.prog 120 c120 := codeOk (hs := []) Tryz.func120 (by kernel_rfl)
def c121 : AFunc := ⟨27,
.seq ( .region [
 ⟨(some 2), .box (.t 0) false, none⟩,
⟨(some 4), .mv (.c (.i .i64 0)), none⟩,
⟨(some 5), .mv (.c (.i .i64 0)), none⟩,
⟨(some 6), .mv (.c (.i .i64 0)), none⟩]) (
.seq ( .region [
 ⟨(some 12), .ld (.t 2) 3 true, none⟩,
⟨(some 13), .mv (.t 1), none⟩,
⟨(some 14), .callf 185 [(.t 12), (.t 13)], none⟩,
⟨(some 11), .mv (.t 14), none⟩,
⟨(some 15), .ext (.t 11) 0, none⟩,
⟨(some 16), .ext (.t 11) 1, none⟩,
⟨(some 7), .mv (.t 15), none⟩,
⟨(some 8), .mv (.t 16), none⟩]) (
.seq (
.seq ( .region [
 ⟨(some 17), .mv (.t 8), none⟩,
⟨(some 18), .bin .neq (.t 17) (.c (.i .i64 0)), none⟩]) ( .cond (.t 18) (
.seq ( .region [
 ⟨(some 19), .mv (.t 8), none⟩,
⟨(some 4), .mv (.c (.i .i64 0)), none⟩,
⟨(some 5), .mv (.c (.i .i64 0)), none⟩,
⟨(some 6), .mv (.t 19), none⟩]) ( .ret)) ( .skip))) (
.seq ( .region [
 ⟨(some 21), .mv (.t 7), none⟩,
⟨(some 22), .callf 186 [(.t 21)], none⟩,
⟨(some 20), .mv (.t 22), none⟩,
⟨(some 23), .ext (.t 20) 0, none⟩,
⟨(some 24), .ext (.t 20) 1, none⟩,
⟨(some 9), .mv (.t 23), none⟩,
⟨(some 10), .mv (.t 24), none⟩]) (
.seq ( .region [
 ⟨(some 25), .mv (.t 9), none⟩,
⟨(some 26), .mv (.t 10), none⟩,
⟨(some 4), .mv (.t 25), none⟩,
⟨(some 5), .mv (.t 26), none⟩,
⟨(some 6), .mv (.c (.i .i64 0)), none⟩]) ( .ret))))), [.tmp 4, .tmp 5, .tmp 6], false, none⟩
theorem k121 : CodeOk Tryz.prog 121 c121 := codeOk (hs := []) Tryz.func121 (by kernel_rfl)
def c122_L1 : ACode :=
.seq (
.seq ( .region [
 ⟨(some 33), .mv (.t 7), none⟩,
⟨(some 34), .mv (.t 0), none⟩,
⟨(some 35), .lenS (.t 34), none⟩,
⟨(some 36), .bin .lss (.t 33) (.t 35), none⟩]) ( .cond (.t 36) ( .skip) ( .exit 2))) (
.seq ( .block 3 (
.seq ( .region [
 ⟨(some 39), .mv (.t 0), none⟩,
⟨(some 40), .mv (.t 7), none⟩,
⟨(some 41), .ixS (.t 39) (.t 40), none⟩,
⟨(some 42), .bin .eql (.t 41) (.c (.i .u8 10)), none⟩]) ( .cond (.t 42) (
.seq ( .region [
 ⟨(some 43), .mv (.t 5), none⟩,
⟨(some 44), .mv (.t 0), none⟩,
⟨(some 45), .mv (.t 6), none⟩,
⟨(some 46), .mv (.t 7), none⟩,
⟨(some 47), .slS (.t 44) (some (.t 45)) (some (.t 46)), none⟩,
⟨(some 48), .bsl [(.s [])] 1 [(0, (.t 47))], none⟩,
⟨(some 49), .app 1 16 (.t 43) (.t 48) false false, none⟩,
⟨(some 5), .mv (.t 49), none⟩]) ( .region [
 ⟨(some 50), .mv (.t 7), none⟩,
⟨(some 51), .bin .add (.t 50) (.c (.i .i64 1)), none⟩,
⟨(some 6), .mv (.t 51), none⟩])) ( .skip)))) ( .region [
 ⟨(some 37), .mv (.t 7), none⟩,
⟨(some 38), .bin .add (.t 37) (.c (.i .i64 1)), none⟩,
⟨(some 7), .mv (.t 38), none⟩]))
def c122_L2 : ACode :=
.seq (
.seq ( .region [
 ⟨(some 11), .mv (.t 4), none⟩,
⟨(some 12), .mv (.t 0), none⟩,
⟨(some 13), .lenS (.t 12), none⟩,
⟨(some 14), .bin .lss (.t 11) (.t 13), none⟩]) ( .cond (.t 14) ( .skip) ( .exit 0))) (
.seq ( .block 1 (
.seq ( .region [
 ⟨(some 17), .mv (.t 0), none⟩,
⟨(some 18), .mv (.t 4), none⟩,
⟨(some 19), .ixS (.t 17) (.t 18), none⟩,
⟨(some 20), .bin .neq (.t 19) (.c (.i .u8 10)), none⟩,
⟨(some 21), .mv (.t 20), none⟩,
⟨(some 22), .mv (.t 0), (some (21, true))⟩,
⟨(some 23), .mv (.t 4), (some (21, true))⟩,
⟨(some 24), .ixS (.t 22) (.t 23), (some (21, true))⟩,
⟨(some 25), .bin .lss (.t 24) (.c (.i .u8 32)), (some (21, true))⟩,
⟨(some 26), .mv (.t 25), (some (21, true))⟩,
⟨(some 27), .mv (.t 0), (some (26, false))⟩,
⟨(some 28), .mv (.t 4), (some (26, false))⟩,
⟨(some 29), .ixS (.t 27) (.t 28), (some (26, false))⟩,
⟨(some 30), .bin .gtr (.t 29) (.c (.i .u8 126)), (some (26, false))⟩,
⟨(some 31), .pick (.t 26) (.c (.b true)) (.t 30), (some (21, true))⟩,
⟨(some 32), .pick (.t 21) (.t 31) (.c (.b false)), none⟩]) ( .cond (.t 32) (
.seq ( .region [
 ⟨(some 2), .mv (.c .nilsl), none⟩,
⟨(some 3), .mv (.c (.i .i64 1)), none⟩]) ( .ret)) ( .skip)))) ( .region [
 ⟨(some 15), .mv (.t 4), none⟩,
⟨(some 16), .bin .add (.t 15) (.c (.i .i64 1)), none⟩,
⟨(some 4), .mv (.t 16), none⟩]))
def c122 : AFunc := ⟨66,
.seq ( .region [
 ⟨(some 2), .mv (.c .nilsl), none⟩,
⟨(some 3), .mv (.c (.i .i64 0)), none⟩]) (
.seq (
.seq ( .region [
 ⟨(some 8), .mv (.t 0), none⟩,
⟨(some 9), .lenS (.t 8), none⟩,
⟨(some 10), .bin .gtr (.t 9) (.c (.i .i64 20000)), none⟩]) ( .cond (.t 10) (
.seq ( .region [
 ⟨(some 2), .mv (.c .nilsl), none⟩,
⟨(some 3), .mv (.c (.i .i64 10)), none⟩]) ( .ret)) ( .skip))) (
.seq (
.seq ( .region [
 ⟨(some 4), .mv (.c (.i .i64 0)), none⟩]) ( .block 0 ( .loop c122_L2))) (
.seq ( .region [
 ⟨(some 5), .mv (.c .nilsl), none⟩]) (
.seq ( .region [
 ⟨(some 6), .mv (.c (.i .i64 0)), none⟩]) (
.seq (
.seq ( .region [
 ⟨(some 7), .mv (.c (.i .i64 0)), none⟩]) ( .block 2 ( .loop c122_L1))) (
.seq (
.seq ( .region [
 ⟨(some 52), .mv (.t 6), none⟩,
⟨(some 53), .mv (.t 0), none⟩,
⟨(some 54), .lenS (.t 53), none⟩,
⟨(some 55), .bin .lss (.t 52) (.t 54), none⟩]) ( .cond (.t 55) ( .region [
 ⟨(some 56), .mv (.t 5), none⟩,
⟨(some 57), .mv (.t 0), none⟩,
⟨(some 58), .mv (.t 6), none⟩,
⟨(some 59), .slS (.t 57) (some (.t 58)) none, none⟩,
⟨(some 60), .bsl [(.s [])] 1 [(0, (.t 59))], none⟩,
⟨(some 61), .app 1 16 (.t 56) (.t 60) false false, none⟩,
⟨(some 5), .mv (.t 61), none⟩]) ( .skip))) (
.seq (
.seq ( .region [
 ⟨(some 62), .mv (.t 5), none⟩,
⟨(some 63), .lenV (.t 62), none⟩,
⟨(some 64), .bin .gtr (.t 63) (.c (.i .i64 1000)), none⟩]) ( .cond (.t 64) (
.seq ( .region [
 ⟨(some 2), .mv (.c .nilsl), none⟩,
⟨(some 3), .mv (.c (.i .i64 10)), none⟩]) ( .ret)) ( .skip))) (
.seq ( .region [
 ⟨(some 65), .mv (.t 5), none⟩,
⟨(some 2), .mv (.t 65), none⟩,
⟨(some 3), .mv (.c (.i .i64 0)), none⟩]) ( .ret))))))))), [.tmp 2, .tmp 3], false, none⟩
theorem k122 : CodeOk Tryz.prog 122 c122 := codeOk (hs := []) Tryz.func122 (by kernel_rfl)
def c123_L1 : ACode :=
.seq (
.seq ( .region [
 ⟨(some 30), .mv (.t 6), none⟩,
⟨(some 31), .mv (.t 9), none⟩,
⟨(some 32), .bin .add (.t 30) (.t 31), none⟩,
⟨(some 33), .mv (.t 0), none⟩,
⟨(some 34), .lenS (.t 33), none⟩,
⟨(some 35), .bin .lss (.t 32) (.t 34), none⟩,
⟨(some 36), .mv (.t 35), none⟩,
⟨(some 37), .mv (.t 0), (some (36, true))⟩,
⟨(some 38), .mv (.t 6), (some (36, true))⟩,
⟨(some 39), .mv (.t 9), (some (36, true))⟩,
⟨(some 40), .bin .add (.t 38) (.t 39), (some (36, true))⟩,
⟨(some 41), .ixS (.t 37) (.t 40), (some (36, true))⟩,
⟨(some 42), .callf 187 [(.t 41)], (some (36, true))⟩,
⟨(some 43), .pick (.t 36) (.t 42) (.c (.b false)), none⟩]) ( .cond (.t 43) ( .skip) ( .exit 2))) ( .block 3 ( .region [
 ⟨(some 44), .mv (.t 9), none⟩,
⟨(some 45), .bin .add (.t 44) (.c (.i .i64 1)), none⟩,
⟨(some 9), .mv (.t 45), none⟩]))
def c123_L2 : ACode :=
.seq (
.seq ( .region [
 ⟨(some 10), .mv (.t 6), none⟩,
⟨(some 11), .mv (.t 0), none⟩,
⟨(some 12), .lenS (.t 11), none⟩,
⟨(some 13), .bin .lss (.t 10) (.t 12), none⟩,
⟨(some 14), .mv (.t 13), none⟩,
⟨(some 15), .mv (.t 0), (some (14, true))⟩,
⟨(some 16), .mv (.t 6), (some (14, true))⟩,
⟨(some 17), .ixS (.t 15) (.t 16), (some (14, true))⟩,
⟨(some 18), .bin .neq (.t 17) (.c (.i .u8 35)), (some (14, true))⟩,
⟨(some 19), .pick (.t 14) (.t 18) (.c (.b false)), none⟩]) ( .cond (.t 19) ( .skip) ( .exit 0))) ( .block 1 (
.seq (
.seq ( .region [
 ⟨(some 20), .mv (.t 0), none⟩,
⟨(some 21), .mv (.t 6), none⟩,
⟨(some 22), .ixS (.t 20) (.t 21), none⟩,
⟨(some 23), .bin .eql (.t 22) (.c (.i .u8 32)), none⟩]) ( .cond (.t 23) (
.seq ( .region [
 ⟨(some 24), .mv (.t 6), none⟩,
⟨(some 25), .bin .add (.t 24) (.c (.i .i64 1)), none⟩,
⟨(some 6), .mv (.t 25), none⟩]) ( .exit 1)) ( .skip))) (
.seq ( .region [
 ⟨(some 7), .alloc [(.i .i64 0), (.s []), (.i .i64 0), (.i .i64 0)] false, none⟩]) (
.seq ( .region [
 ⟨(some 8), .mv (.c (.b false)), none⟩,
⟨(some 9), .mv (.c (.i .i64 0)), none⟩]) (
.seq (
.seq ( .region [
 ⟨(some 26), .mv (.t 0), none⟩,
⟨(some 27), .mv (.t 6), none⟩,
⟨(some 28), .ixS (.t 26) (.t 27), none⟩,
⟨(some 29), .callf 187 [(.t 28)], none⟩]) ( .cond (.t 29) (
.seq ( .block 2 ( .loop c123_L1)) ( .region [
 ⟨(some 47), .mv (.t 0), none⟩,
⟨(some 48), .mv (.t 6), none⟩,
⟨(some 49), .mv (.t 6), none⟩,
⟨(some 50), .mv (.t 9), none⟩,
⟨(some 51), .bin .add (.t 49) (.t 50), none⟩,
⟨(some 52), .slS (.t 47) (some (.t 48)) (some (.t 51)), none⟩,
⟨(some 53), .callf 188 [(.t 52)], none⟩,
⟨(some 46), .mv (.t 53), none⟩,
⟨(some 54), .ext (.t 46) 0, none⟩,
⟨(some 55), .ext (.t 46) 1, none⟩,
⟨none, .st (.t 7) (.t 54) 4, none⟩,
⟨(some 8), .mv (.t 55), none⟩])) (
.seq ( .region [
 ⟨(some 56), .mv (.t 0), none⟩,
⟨(some 57), .mv (.t 6), none⟩,
⟨(some 58), .slS (.t 56) (some (.t 57)) none, none⟩,
⟨(some 59), .callf 189 [(.t 58)], none⟩,
⟨(some 60), .build [(.i .i64 0), (.s []), (.i .i64 0), (.i .i64 0)] [(0, 1, (.c (.i .i64 5))), (1, 1, (.t 59))], none⟩,
⟨none, .st (.t 7) (.t 60) 4, none⟩]) (
.seq ( .region [
 ⟨(some 61), .fa (.t 7) 1, none⟩,
⟨(some 62), .ld (.t 61) 1 false, none⟩,
⟨(some 63), .lenS (.t 62), none⟩,
⟨(some 9), .mv (.t 63), none⟩]) ( .region [
 ⟨(some 64), .mv (.t 9), none⟩,
⟨(some 65), .bin .gtr (.t 64) (.c (.i .i64 0)), none⟩,
⟨(some 8), .mv (.t 65), none⟩]))))) (
.seq (
.seq ( .region [
 ⟨(some 66), .mv (.t 8), none⟩,
⟨(some 67), .un .not (.t 66), none⟩]) ( .cond (.t 67) (
.seq ( .region [
 ⟨(some 68), .mv (.t 6), none⟩,
⟨(some 2), .mv (.c .nilsl), none⟩,
⟨(some 3), .mv (.t 68), none⟩,
⟨(some 4), .mv (.c (.i .i64 1)), none⟩]) ( .ret)) ( .skip))) (
.seq (
.seq ( .region [
 ⟨(some 69), .mv (.t 5), none⟩,
⟨(some 70), .lenV (.t 69), none⟩,
⟨(some 71), .bin .geq (.t 70) (.c (.i .i64 400)), none⟩]) ( .cond (.t 71) (
.seq ( .region [
 ⟨(some 72), .mv (.t 6), none⟩,
⟨(some 2), .mv (.c .nilsl), none⟩,
⟨(some 3), .mv (.t 72), none⟩,
⟨(some 4), .mv (.c (.i .i64 10)), none⟩]) ( .ret)) ( .skip))) (
.seq ( .region [
 ⟨(some 73), .mv (.t 6), none⟩,
⟨(some 74), .fa (.t 7) 3, none⟩,
⟨none, .st (.t 74) (.t 73) 1, none⟩]) (
.seq ( .region [
 ⟨(some 75), .mv (.t 5), none⟩,
⟨(some 76), .ld (.t 7) 4 true, none⟩,
⟨(some 77), .bsl [(.i .i64 0), (.s []), (.i .i64 0), (.i .i64 0)] 1 [(0, (.t 76))], none⟩,
⟨(some 78), .app 4 40 (.t 75) (.t 77) false false, none⟩,
⟨(some 5), .mv (.t 78), none⟩]) ( .region [
 ⟨(some 79), .mv (.t 6), none⟩,
⟨(some 80), .mv (.t 9), none⟩,
⟨(some 81), .bin .add (.t 79) (.t 80), none⟩,
⟨(some 6), .mv (.t 81), none⟩]))))))))))
def c123 : AFunc := ⟨83,
.seq ( .region [
 ⟨(some 2), .mv (.c .nilsl), none⟩,
⟨(some 3), .mv (.c (.i .i64 0)), none⟩,
⟨(some 4), .mv (.c (.i .i64 0)), none⟩]) (
.seq ( .region [
 ⟨(some 5), .mv (.c .nilsl), none⟩]) (
.seq (
.seq ( .region [
 ⟨(some 6), .mv (.c (.i .i64 0)), none⟩]) ( .block 0 ( .loop c123_L2))) (
.seq ( .region [
 ⟨(some 82), .mv (.t 5), none⟩,
⟨(some 2), .mv (.t 82), none⟩,
⟨(some 3), .mv (.c (.i .i64 0)), none⟩,
⟨(some 4), .mv (.c (.i .i64 0)), none⟩]) ( .ret)))), [.tmp 2, .tmp 3, .tmp 4], false, none⟩
theorem k123 : CodeOk Tryz.prog 123 c123 := codeOk (hs := []) Tryz.func123 (by kernel_rfl)
def c124_L1 : ACode :=
.seq (
.seq ( .region [
 ⟨(some 22), .mv (.t 8), none⟩,
⟨(some 23), .bin .lss (.t 22) (.c (.i .i64 7)), none⟩]) ( .cond (.t 23) ( .skip) ( .exit 0))) (
.seq ( .block 1 (
.seq ( .draws [ ([], ⟨(some 26), .mv (.t 2), none⟩),
([], ⟨(some 27), .ia (.t 26) (.c (.i .i64 0)) 4, none⟩),
([], ⟨(some 28), .fa (.t 27) 1, none⟩),
([], ⟨(some 29), .ld (.t 28) 1 false, none⟩),
([], ⟨(some 30), .mv (.t 7), none⟩),
([], ⟨(some 31), .mv (.t 8), none⟩),
([], ⟨(some 32), .ia (.t 30) (.t 31) 1, none⟩),
([3], ⟨(some 33), .ld (.t 32) 1 false, none⟩),
([], ⟨(some 34), .bin .eql (.t 29) (.t 33), none⟩)]) ( .cond (.t 34) (
.seq ( .region [
 ⟨(some 35), .mv (.t 0), none⟩,
⟨(some 36), .mv (.t 1), none⟩,
⟨(some 37), .mv (.t 2), none⟩,
⟨(some 38), .mv (.t 8), none⟩,
⟨(some 39), .callf 191 [(.t 35), (.t 36), (.t 37), (.t 38)], none⟩,
⟨(some 6), .mv (.t 39), none⟩]) ( .ret)) ( .skip)))) ( .region [
 ⟨(some 24), .mv (.t 8), none⟩,
⟨(some 25), .bin .add (.t 24) (.c (.i .i64 1)), none⟩,
⟨(some 8), .mv (.t 25), none⟩]))
def c124 : AFunc := ⟨335,
.seq ( .region [
 ⟨(some 6), .mv (.c (.i .i64 0)), none⟩]) (
.seq (
.seq ( .region [
 ⟨(some 18), .mv (.t 2), none⟩,
⟨(some 19), .callf 190 [(.t 18), (.c (.i .i64 0)), (.c (.i .i64 1))], none⟩,
⟨(some 20), .un .not (.t 19), none⟩]) ( .cond (.t 20) (
.seq ( .region [
 ⟨(some 6), .mv (.c (.i .i64 1)), none⟩]) ( .ret)) ( .skip))) (
.seq ( .region [
 ⟨(some 21), .bsl [(.s [])] 7 [(0, (.c (.s [114, 101, 112, 111, 114, 116]))), (1, (.c (.s [114, 101, 108, 101, 97, 115, 101]))), (2, (.c (.s [99, 111, 110, 110, 101, 99, 116]))), (3, (.c (.s [115, 105, 116]))), (4, (.c (.s [108, 97, 121, 111, 118, 101, 114]))), (5, (.c (.s [103, 117, 97, 114, 97, 110, 116, 101, 101]))), (6, (.c (.s [110, 105, 103, 104, 116])))], none⟩,
⟨(some 7), .mv (.t 21), none⟩]) (
.seq (
.seq ( .region [
 ⟨(some 8), .mv (.c (.i .i64 0)), none⟩]) ( .block 0 ( .loop c124_L1))) (
.seq ( .block 2 (
.seq ( .region [
 ⟨(some 41), .mv (.t 2), none⟩,
⟨(some 42), .ia (.t 41) (.c (.i .i64 0)) 4, none⟩,
⟨(some 43), .fa (.t 42) 1, none⟩,
⟨(some 44), .ld (.t 43) 1 false, none⟩,
⟨(some 45), .bin .eql (.t 44) (.c (.s [99, 111, 110, 115, 116])), none⟩,
⟨(some 46), .mv (.t 45), none⟩,
⟨(some 47), .mv (.t 2), (some (46, true))⟩,
⟨(some 48), .callf 192 [(.t 47), (.c (.i .i64 1))], (some (46, true))⟩,
⟨(some 49), .pick (.t 46) (.t 48) (.c (.b false)), none⟩,
⟨(some 50), .mv (.t 49), none⟩,
⟨(some 51), .mv (.t 2), (some (50, true))⟩,
⟨(some 52), .callf 193 [(.t 51), (.c (.i .i64 2)), (.c (.s [105, 115]))], (some (50, true))⟩,
⟨(some 53), .pick (.t 50) (.t 52) (.c (.b false)), none⟩,
⟨(some 40), .mv (.t 53), none⟩]) ( .cond (.t 40) (
.seq ( .region [
 ⟨(some 55), .mv (.t 2), none⟩,
⟨(some 56), .slV 4 (.t 55) (some (.c (.i .i64 3))) none none, none⟩,
⟨(some 57), .callf 194 [(.t 56)], none⟩,
⟨(some 54), .mv (.t 57), none⟩,
⟨(some 58), .ext (.t 54) 0, none⟩,
⟨(some 59), .ext (.t 54) 1, none⟩,
⟨(some 9), .alloc [(.i .i64 0), (.i .i64 0), (.s []), .nilsl] false, none⟩,
⟨none, .st (.t 9) (.t 58) 4, none⟩,
⟨(some 10), .mv (.t 59), none⟩]) (
.seq (
.seq ( .region [
 ⟨(some 60), .mv (.t 10), none⟩,
⟨(some 61), .bin .geq (.t 60) (.c (.i .i64 0)), none⟩]) ( .cond (.t 61) (
.seq ( .region [
 ⟨(some 6), .mv (.c (.i .i64 1)), none⟩]) ( .ret)) ( .skip))) ( .draws [ ([], ⟨(some 62), .mv (.t 0), none⟩),
([], ⟨(some 63), .mv (.t 0), none⟩),
([], ⟨(some 64), .nck (.t 63), none⟩),
([], ⟨(some 65), .fa (.t 64) 7, none⟩),
([], ⟨(some 66), .ld (.t 65) 1 false, none⟩),
([], ⟨(some 67), .mv (.t 2), none⟩),
([], ⟨(some 68), .ia (.t 67) (.c (.i .i64 1)) 4, none⟩),
([], ⟨(some 69), .fa (.t 68) 1, none⟩),
([4], ⟨(some 70), .ld (.t 69) 1 false, none⟩),
([4, 8], ⟨(some 71), .ld (.t 9) 4 true, none⟩),
([], ⟨(some 72), .build [(.s []), (.i .i64 0), (.i .i64 0), (.s []), .nilsl] [(0, 1, (.t 70)), (1, 4, (.t 71))], none⟩),
([4], ⟨(some 73), .bsl [(.s []), (.i .i64 0), (.i .i64 0), (.s []), .nilsl] 1 [(0, (.t 72))], none⟩),
([], ⟨(some 74), .app 5 72 (.t 66) (.t 73) false false, none⟩),
([], ⟨(some 75), .nck (.t 62), none⟩),
([], ⟨(some 76), .fa (.t 75) 7, none⟩),
([], ⟨none, .st (.t 76) (.t 74) 1, none⟩)]))) (
.seq ( .region [
 ⟨(some 78), .mv (.t 2), none⟩,
⟨(some 79), .ia (.t 78) (.c (.i .i64 0)) 4, none⟩,
⟨(some 80), .fa (.t 79) 1, none⟩,
⟨(some 81), .ld (.t 80) 1 false, none⟩,
⟨(some 82), .callf 195 [(.t 81)], none⟩,
⟨(some 83), .bin .neq (.t 82) (.c (.i .i64 0)), none⟩,
⟨(some 84), .mv (.t 83), none⟩,
⟨(some 85), .mv (.t 2), (some (84, true))⟩,
⟨(some 86), .callf 193 [(.t 85), (.c (.i .i64 1)), (.c (.s [114, 117, 108, 101]))], (some (84, true))⟩,
⟨(some 87), .pick (.t 84) (.t 86) (.c (.b false)), none⟩,
⟨(some 88), .mv (.t 87), none⟩,
⟨(some 89), .mv (.t 2), (some (88, true))⟩,
⟨(some 90), .callf 192 [(.t 89), (.c (.i .i64 2))], (some (88, true))⟩,
⟨(some 91), .pick (.t 88) (.t 90) (.c (.b false)), none⟩,
⟨(some 92), .mv (.t 91), none⟩,
⟨(some 93), .mv (.t 2), (some (92, true))⟩,
⟨(some 94), .callf 193 [(.t 93), (.c (.i .i64 3)), (.c (.s [105, 115]))], (some (92, true))⟩,
⟨(some 95), .pick (.t 92) (.t 94) (.c (.b false)), none⟩,
⟨(some 77), .mv (.t 95), none⟩]) ( .cond (.t 77) (
.seq ( .region [
 ⟨(some 97), .mv (.t 2), none⟩,
⟨(some 98), .slV 4 (.t 97) (some (.c (.i .i64 4))) none none, none⟩,
⟨(some 99), .callf 194 [(.t 98)], none⟩,
⟨(some 96), .mv (.t 99), none⟩,
⟨(some 100), .ext (.t 96) 0, none⟩,
⟨(some 101), .ext (.t 96) 1, none⟩,
⟨(some 11), .alloc [(.i .i64 0), (.i .i64 0), (.s []), .nilsl] false, none⟩,
⟨none, .st (.t 11) (.t 100) 4, none⟩,
⟨(some 12), .mv (.t 101), none⟩]) (
.seq (
.seq ( .region [
 ⟨(some 102), .mv (.t 12), none⟩,
⟨(some 103), .bin .geq (.t 102) (.c (.i .i64 0)), none⟩]) ( .cond (.t 103) (
.seq ( .region [
 ⟨(some 6), .mv (.c (.i .i64 1)), none⟩]) ( .ret)) ( .skip))) ( .draws [ ([], ⟨(some 104), .mv (.t 0), none⟩),
([], ⟨(some 105), .mv (.t 0), none⟩),
([], ⟨(some 106), .nck (.t 105), none⟩),
([], ⟨(some 107), .fa (.t 106) 8, none⟩),
([], ⟨(some 108), .ld (.t 107) 1 false, none⟩),
([], ⟨(some 109), .mv (.t 2), none⟩),
([], ⟨(some 110), .ia (.t 109) (.c (.i .i64 0)) 4, none⟩),
([], ⟨(some 111), .fa (.t 110) 1, none⟩),
([4], ⟨(some 112), .ld (.t 111) 1 false, none⟩),
([4], ⟨(some 113), .callf 195 [(.t 112)], none⟩),
([], ⟨(some 114), .mv (.t 2), none⟩),
([], ⟨(some 115), .ia (.t 114) (.c (.i .i64 2)) 4, none⟩),
([], ⟨(some 116), .fa (.t 115) 1, none⟩),
([4, 8, 9], ⟨(some 117), .ld (.t 116) 1 false, none⟩),
([4, 8, 9, 13], ⟨(some 118), .ld (.t 11) 4 true, none⟩),
([], ⟨(some 119), .build [(.i .i64 0), (.s []), (.i .i64 0), (.i .i64 0), (.s []), .nilsl] [(0, 1, (.t 113)), (1, 1, (.t 117)), (2, 4, (.t 118))], none⟩),
([4], ⟨(some 120), .bsl [(.i .i64 0), (.s []), (.i .i64 0), (.i .i64 0), (.s []), .nilsl] 1 [(0, (.t 119))], none⟩),
([], ⟨(some 121), .app 6 80 (.t 108) (.t 120) false false, none⟩),
([], ⟨(some 122), .nck (.t 104), none⟩),
([], ⟨(some 123), .fa (.t 122) 8, none⟩),
([], ⟨none, .st (.t 123) (.t 121) 1, none⟩)]))) (
.seq ( .region [
 ⟨(some 125), .mv (.t 2), none⟩,
⟨(some 126), .ia (.t 125) (.c (.i .i64 0)) 4, none⟩,
⟨(some 127), .fa (.t 126) 1, none⟩,
⟨(some 128), .ld (.t 127) 1 false, none⟩,
⟨(some 129), .callf 195 [(.t 128)], none⟩,
⟨(some 130), .bin .neq (.t 129) (.c (.i .i64 0)), none⟩,
⟨(some 131), .mv (.t 130), none⟩,
⟨(some 132), .mv (.t 2), (some (131, true))⟩,
⟨(some 133), .callf 193 [(.t 132), (.c (.i .i64 1)), (.c (.s [99, 111, 115, 116]))], (some (131, true))⟩,
⟨(some 134), .pick (.t 131) (.t 133) (.c (.b false)), none⟩,
⟨(some 135), .mv (.t 134), none⟩,
⟨(some 136), .mv (.t 2), (some (135, true))⟩,
⟨(some 137), .callf 193 [(.t 136), (.c (.i .i64 2)), (.c (.s [105, 115]))], (some (135, true))⟩,
⟨(some 138), .pick (.t 135) (.t 137) (.c (.b false)), none⟩,
⟨(some 124), .mv (.t 138), none⟩]) ( .cond (.t 124) (
.seq ( .region [
 ⟨(some 140), .mv (.t 2), none⟩,
⟨(some 141), .slV 4 (.t 140) (some (.c (.i .i64 3))) none none, none⟩,
⟨(some 142), .callf 194 [(.t 141)], none⟩,
⟨(some 139), .mv (.t 142), none⟩,
⟨(some 143), .ext (.t 139) 0, none⟩,
⟨(some 144), .ext (.t 139) 1, none⟩,
⟨(some 13), .alloc [(.i .i64 0), (.i .i64 0), (.s []), .nilsl] false, none⟩,
⟨none, .st (.t 13) (.t 143) 4, none⟩,
⟨(some 14), .mv (.t 144), none⟩]) (
.seq (
.seq ( .region [
 ⟨(some 145), .mv (.t 14), none⟩,
⟨(some 146), .bin .geq (.t 145) (.c (.i .i64 0)), none⟩]) ( .cond (.t 146) (
.seq ( .region [
 ⟨(some 6), .mv (.c (.i .i64 1)), none⟩]) ( .ret)) ( .skip))) ( .draws [ ([], ⟨(some 147), .mv (.t 0), none⟩),
([], ⟨(some 148), .mv (.t 0), none⟩),
([], ⟨(some 149), .nck (.t 148), none⟩),
([], ⟨(some 150), .fa (.t 149) 9, none⟩),
([], ⟨(some 151), .ld (.t 150) 1 false, none⟩),
([], ⟨(some 152), .mv (.t 2), none⟩),
([], ⟨(some 153), .ia (.t 152) (.c (.i .i64 0)) 4, none⟩),
([], ⟨(some 154), .fa (.t 153) 1, none⟩),
([4], ⟨(some 155), .ld (.t 154) 1 false, none⟩),
([4], ⟨(some 156), .callf 195 [(.t 155)], none⟩),
([4, 8, 9], ⟨(some 157), .ld (.t 13) 4 true, none⟩),
([], ⟨(some 158), .build [(.i .i64 0), (.i .i64 0), (.i .i64 0), (.s []), .nilsl] [(0, 1, (.t 156)), (1, 4, (.t 157))], none⟩),
([4], ⟨(some 159), .bsl [(.i .i64 0), (.i .i64 0), (.i .i64 0), (.s []), .nilsl] 1 [(0, (.t 158))], none⟩),
([], ⟨(some 160), .app 5 64 (.t 151) (.t 159) true false, none⟩),
([], ⟨(some 161), .nck (.t 147), none⟩),
([], ⟨(some 162), .fa (.t 161) 9, none⟩),
([], ⟨none, .st (.t 162) (.t 160) 1, none⟩)]))) (
.seq ( .region [
 ⟨(some 164), .mv (.t 2), none⟩,
⟨(some 165), .ia (.t 164) (.c (.i .i64 0)) 4, none⟩,
⟨(some 166), .fa (.t 165) 1, none⟩,
⟨(some 167), .ld (.t 166) 1 false, none⟩,
⟨(some 168), .bin .eql (.t 167) (.c (.s [100, 117, 116, 121])), none⟩,
⟨(some 169), .mv (.t 168), none⟩,
⟨(some 170), .mv (.t 2), (some (169, true))⟩,
⟨(some 171), .callf 193 [(.t 170), (.c (.i .i64 1)), (.c (.s [99, 114, 101, 100, 105, 116]))], (some (169, true))⟩,
⟨(some 172), .pick (.t 169) (.t 171) (.c (.b false)), none⟩,
⟨(some 173), .mv (.t 172), none⟩,
⟨(some 174), .mv (.t 2), (some (173, true))⟩,
⟨(some 175), .callf 193 [(.t 174), (.c (.i .i64 2)), (.c (.s [105, 115]))], (some (173, true))⟩,
⟨(some 176), .pick (.t 173) (.t 175) (.c (.b false)), none⟩,
⟨(some 163), .mv (.t 176), none⟩]) ( .cond (.t 163) (
.seq ( .region [
 ⟨(some 178), .mv (.t 2), none⟩,
⟨(some 179), .slV 4 (.t 178) (some (.c (.i .i64 3))) none none, none⟩,
⟨(some 180), .callf 194 [(.t 179)], none⟩,
⟨(some 177), .mv (.t 180), none⟩,
⟨(some 181), .ext (.t 177) 0, none⟩,
⟨(some 182), .ext (.t 177) 1, none⟩,
⟨(some 15), .alloc [(.i .i64 0), (.i .i64 0), (.s []), .nilsl] false, none⟩,
⟨none, .st (.t 15) (.t 181) 4, none⟩,
⟨(some 16), .mv (.t 182), none⟩]) (
.seq (
.seq ( .region [
 ⟨(some 183), .mv (.t 16), none⟩,
⟨(some 184), .bin .geq (.t 183) (.c (.i .i64 0)), none⟩]) ( .cond (.t 184) (
.seq ( .region [
 ⟨(some 6), .mv (.c (.i .i64 1)), none⟩]) ( .ret)) ( .skip))) ( .draws [ ([], ⟨(some 185), .mv (.t 0), none⟩),
([], ⟨(some 186), .nck (.t 185), none⟩),
([], ⟨(some 187), .fa (.t 186) 10, none⟩),
([], ⟨(some 188), .ld (.t 187) 1 false, none⟩),
([3], ⟨(some 189), .ld (.t 15) 4 true, none⟩),
([], ⟨(some 190), .lenV (.t 188), none⟩),
([3, 4], ⟨(some 191), .bsl [(.i .i64 0), (.i .i64 0), (.s []), .nilsl] 1 [(0, (.c (.agg [(.i .i64 0), (.i .i64 0), (.s []), .nilsl])))], none⟩),
([], ⟨(some 192), .app 4 56 (.t 188) (.t 191) true false, none⟩),
([], ⟨(some 193), .ia (.t 192) (.t 190) 4, none⟩),
([], ⟨none, .st (.t 193) (.t 189) 4, none⟩),
([], ⟨(some 194), .nck (.t 185), none⟩),
([], ⟨(some 195), .fa (.t 194) 10, none⟩),
([9], ⟨none, .st (.t 195) (.t 192) 1, none⟩)]))) (
.seq ( .region [
 ⟨(some 197), .mv (.t 2), none⟩,
⟨(some 198), .ia (.t 197) (.c (.i .i64 0)) 4, none⟩,
⟨(some 199), .fa (.t 198) 1, none⟩,
⟨(some 200), .ld (.t 199) 1 false, none⟩,
⟨(some 201), .bin .eql (.t 200) (.c (.s [108, 105, 109, 105, 116])), none⟩,
⟨(some 202), .mv (.t 201), none⟩,
⟨(some 203), .mv (.t 2), (some (202, true))⟩,
⟨(some 204), .lenV (.t 203), (some (202, true))⟩,
⟨(some 205), .bin .eql (.t 204) (.c (.i .i64 8)), (some (202, true))⟩,
⟨(some 206), .pick (.t 202) (.t 205) (.c (.b false)), none⟩,
⟨(some 207), .mv (.t 206), none⟩,
⟨(some 208), .mv (.t 2), (some (207, true))⟩,
⟨(some 209), .callf 192 [(.t 208), (.c (.i .i64 1))], (some (207, true))⟩,
⟨(some 210), .pick (.t 207) (.t 209) (.c (.b false)), none⟩,
⟨(some 211), .mv (.t 210), none⟩,
⟨(some 212), .mv (.t 2), (some (211, true))⟩,
⟨(some 213), .callf 193 [(.t 212), (.c (.i .i64 2)), (.c (.s [105, 115]))], (some (211, true))⟩,
⟨(some 214), .pick (.t 211) (.t 213) (.c (.b false)), none⟩,
⟨(some 215), .mv (.t 214), none⟩,
⟨(some 216), .mv (.t 2), (some (215, true))⟩,
⟨(some 217), .callf 190 [(.t 216), (.c (.i .i64 3)), (.c (.i .i64 1))], (some (215, true))⟩,
⟨(some 218), .pick (.t 215) (.t 217) (.c (.b false)), none⟩,
⟨(some 219), .mv (.t 218), none⟩,
⟨(some 220), .mv (.t 2), (some (219, true))⟩,
⟨(some 221), .callf 193 [(.t 220), (.c (.i .i64 5)), (.c (.s [105, 110]))], (some (219, true))⟩,
⟨(some 222), .pick (.t 219) (.t 221) (.c (.b false)), none⟩,
⟨(some 223), .mv (.t 222), none⟩,
⟨(some 224), .mv (.t 2), (some (223, true))⟩,
⟨(some 225), .callf 190 [(.t 224), (.c (.i .i64 6)), (.c (.i .i64 2))], (some (223, true))⟩,
⟨(some 226), .pick (.t 223) (.t 225) (.c (.b false)), none⟩,
⟨(some 227), .mv (.t 226), none⟩,
⟨(some 228), .mv (.t 2), (some (227, true))⟩,
⟨(some 229), .callf 193 [(.t 228), (.c (.i .i64 7)), (.c (.s [100, 97, 121, 115]))], (some (227, true))⟩,
⟨(some 230), .pick (.t 227) (.t 229) (.c (.b false)), none⟩,
⟨(some 196), .mv (.t 230), none⟩]) ( .cond (.t 196) (
.seq ( .region [
 ⟨(some 231), .mv (.t 2), none⟩,
⟨(some 232), .ia (.t 231) (.c (.i .i64 3)) 4, none⟩,
⟨(some 233), .fa (.t 232) 1, none⟩,
⟨(some 234), .ld (.t 233) 1 false, none⟩,
⟨(some 235), .callf 196 [(.t 234)], none⟩,
⟨(some 17), .mv (.t 235), none⟩]) (
.seq (
.seq ( .region [
 ⟨(some 236), .mv (.t 17), none⟩,
⟨(some 237), .bin .eql (.t 236) (.c (.i .i64 2)), none⟩,
⟨(some 238), .mv (.t 237), none⟩,
⟨(some 239), .mv (.t 2), (some (238, true))⟩,
⟨(some 240), .callf 190 [(.t 239), (.c (.i .i64 4)), (.c (.i .i64 3))], (some (238, true))⟩,
⟨(some 241), .pick (.t 238) (.t 240) (.c (.b false)), none⟩,
⟨(some 242), .un .not (.t 241), none⟩,
⟨(some 243), .mv (.t 242), none⟩,
⟨(some 244), .mv (.t 17), (some (243, true))⟩,
⟨(some 245), .bin .eql (.t 244) (.c (.i .i64 1)), (some (243, true))⟩,
⟨(some 246), .mv (.t 245), (some (243, true))⟩,
⟨(some 247), .mv (.t 2), (some (246, true))⟩,
⟨(some 248), .callf 190 [(.t 247), (.c (.i .i64 4)), (.c (.i .i64 2))], (some (246, true))⟩,
⟨(some 249), .pick (.t 246) (.t 248) (.c (.b false)), (some (243, true))⟩,
⟨(some 250), .un .not (.t 249), (some (243, true))⟩,
⟨(some 251), .pick (.t 243) (.t 250) (.c (.b false)), none⟩]) ( .cond (.t 251) (
.seq ( .region [
 ⟨(some 6), .mv (.c (.i .i64 1)), none⟩]) ( .ret)) ( .skip))) ( .draws [ ([], ⟨(some 252), .mv (.t 0), none⟩),
([], ⟨(some 253), .mv (.t 0), none⟩),
([], ⟨(some 254), .nck (.t 253), none⟩),
([], ⟨(some 255), .fa (.t 254) 11, none⟩),
([], ⟨(some 256), .ld (.t 255) 1 false, none⟩),
([], ⟨(some 257), .mv (.t 2), none⟩),
([], ⟨(some 258), .ia (.t 257) (.c (.i .i64 1)) 4, none⟩),
([], ⟨(some 259), .fa (.t 258) 1, none⟩),
([4], ⟨(some 260), .ld (.t 259) 1 false, none⟩),
([], ⟨(some 261), .mv (.t 2), none⟩),
([], ⟨(some 262), .ia (.t 261) (.c (.i .i64 3)) 4, none⟩),
([], ⟨(some 263), .fa (.t 262) 1, none⟩),
([4, 8], ⟨(some 264), .ld (.t 263) 1 false, none⟩),
([], ⟨(some 265), .mv (.t 2), none⟩),
([], ⟨(some 266), .ia (.t 265) (.c (.i .i64 4)) 4, none⟩),
([], ⟨(some 267), .fa (.t 266) 2, none⟩),
([4, 8, 12], ⟨(some 268), .ld (.t 267) 1 false, none⟩),
([], ⟨(some 269), .mv (.t 2), none⟩),
([], ⟨(some 270), .ia (.t 269) (.c (.i .i64 6)) 4, none⟩),
([], ⟨(some 271), .fa (.t 270) 2, none⟩),
([4, 8, 12, 16], ⟨(some 272), .ld (.t 271) 1 false, none⟩),
([], ⟨(some 273), .build [(.s []), (.s []), (.i .i64 0), (.i .i64 0)] [(0, 1, (.t 260)), (1, 1, (.t 264)), (2, 1, (.t 268)), (3, 1, (.t 272))], none⟩),
([4], ⟨(some 274), .bsl [(.s []), (.s []), (.i .i64 0), (.i .i64 0)] 1 [(0, (.t 273))], none⟩),
([], ⟨(some 275), .app 4 48 (.t 256) (.t 274) true false, none⟩),
([], ⟨(some 276), .nck (.t 252), none⟩),
([], ⟨(some 277), .fa (.t 276) 11, none⟩),
([], ⟨none, .st (.t 277) (.t 275) 1, none⟩)]))) (
.seq ( .region [
 ⟨(some 279), .mv (.t 2), none⟩,
⟨(some 280), .ia (.t 279) (.c (.i .i64 0)) 4, none⟩,
⟨(some 281), .fa (.t 280) 1, none⟩,
⟨(some 282), .ld (.t 281) 1 false, none⟩,
⟨(some 283), .bin .eql (.t 282) (.c (.s [111, 102, 102])), none⟩,
⟨(some 284), .mv (.t 283), none⟩,
⟨(some 285), .mv (.t 2), (some (284, true))⟩,
⟨(some 286), .lenV (.t 285), (some (284, true))⟩,
⟨(some 287), .bin .eql (.t 286) (.c (.i .i64 7)), (some (284, true))⟩,
⟨(some 288), .pick (.t 284) (.t 287) (.c (.b false)), none⟩,
⟨(some 289), .mv (.t 288), none⟩,
⟨(some 290), .mv (.t 2), (some (289, true))⟩,
⟨(some 291), .callf 192 [(.t 290), (.c (.i .i64 1))], (some (289, true))⟩,
⟨(some 292), .pick (.t 289) (.t 291) (.c (.b false)), none⟩,
⟨(some 293), .mv (.t 292), none⟩,
⟨(some 294), .mv (.t 2), (some (293, true))⟩,
⟨(some 295), .callf 193 [(.t 294), (.c (.i .i64 2)), (.c (.s [105, 115]))], (some (293, true))⟩,
⟨(some 296), .pick (.t 293) (.t 295) (.c (.b false)), none⟩,
⟨(some 297), .mv (.t 296), none⟩,
⟨(some 298), .mv (.t 2), (some (297, true))⟩,
⟨(some 299), .callf 190 [(.t 298), (.c (.i .i64 3)), (.c (.i .i64 2))], (some (297, true))⟩,
⟨(some 300), .pick (.t 297) (.t 299) (.c (.b false)), none⟩,
⟨(some 301), .mv (.t 300), none⟩,
⟨(some 302), .mv (.t 2), (some (301, true))⟩,
⟨(some 303), .callf 193 [(.t 302), (.c (.i .i64 4)), (.c (.s [105, 110]))], (some (301, true))⟩,
⟨(some 304), .pick (.t 301) (.t 303) (.c (.b false)), none⟩,
⟨(some 305), .mv (.t 304), none⟩,
⟨(some 306), .mv (.t 2), (some (305, true))⟩,
⟨(some 307), .callf 190 [(.t 306), (.c (.i .i64 5)), (.c (.i .i64 2))], (some (305, true))⟩,
⟨(some 308), .pick (.t 305) (.t 307) (.c (.b false)), none⟩,
⟨(some 309), .mv (.t 308), none⟩,
⟨(some 310), .mv (.t 2), (some (309, true))⟩,
⟨(some 311), .callf 193 [(.t 310), (.c (.i .i64 6)), (.c (.s [100, 97, 121, 115]))], (some (309, true))⟩,
⟨(some 312), .pick (.t 309) (.t 311) (.c (.b false)), none⟩,
⟨(some 278), .mv (.t 312), none⟩]) ( .cond (.t 278) ( .draws [ ([], ⟨(some 313), .mv (.t 0), none⟩),
([], ⟨(some 314), .mv (.t 0), none⟩),
([], ⟨(some 315), .nck (.t 314), none⟩),
([], ⟨(some 316), .fa (.t 315) 12, none⟩),
([], ⟨(some 317), .ld (.t 316) 1 false, none⟩),
([], ⟨(some 318), .mv (.t 2), none⟩),
([], ⟨(some 319), .ia (.t 318) (.c (.i .i64 1)) 4, none⟩),
([], ⟨(some 320), .fa (.t 319) 1, none⟩),
([4], ⟨(some 321), .ld (.t 320) 1 false, none⟩),
([], ⟨(some 322), .mv (.t 2), none⟩),
([], ⟨(some 323), .ia (.t 322) (.c (.i .i64 3)) 4, none⟩),
([], ⟨(some 324), .fa (.t 323) 2, none⟩),
([4, 8], ⟨(some 325), .ld (.t 324) 1 false, none⟩),
([], ⟨(some 326), .mv (.t 2), none⟩),
([], ⟨(some 327), .ia (.t 326) (.c (.i .i64 5)) 4, none⟩),
([], ⟨(some 328), .fa (.t 327) 2, none⟩),
([4, 8, 12], ⟨(some 329), .ld (.t 328) 1 false, none⟩),
([], ⟨(some 330), .build [(.s []), (.i .i64 0), (.i .i64 0)] [(0, 1, (.t 321)), (1, 1, (.t 325)), (2, 1, (.t 329))], none⟩),
([4], ⟨(some 331), .bsl [(.s []), (.i .i64 0), (.i .i64 0)] 1 [(0, (.t 330))], none⟩),
([], ⟨(some 332), .app 3 32 (.t 317) (.t 331) false false, none⟩),
([], ⟨(some 333), .nck (.t 313), none⟩),
([], ⟨(some 334), .fa (.t 333) 12, none⟩),
([], ⟨none, .st (.t 334) (.t 332) 1, none⟩)]) (
.seq ( .region [
 ⟨(some 6), .mv (.c (.i .i64 1)), none⟩]) ( .ret))))))))))))))) (
.seq ( .region [
 ⟨(some 6), .mv (.c (.i .i64 0)), none⟩]) ( .ret)))))), [.tmp 6], true, none⟩
theorem k124 : CodeOk Tryz.prog 124 c124 := codeOk (hs := [160, 192, 275]) Tryz.func124 (by kernel_rfl)
def c125 : AFunc := ⟨15,
.seq ( .region [
 ⟨(some 6), .mv (.c (.b false)), none⟩]) (
.seq ( .region [
 ⟨(some 7), .mv (.t 0), none⟩,
⟨(some 8), .mv (.t 1), none⟩,
⟨(some 9), .bin .geq (.t 7) (.t 8), none⟩,
⟨(some 10), .mv (.t 9), none⟩,
⟨(some 11), .mv (.t 0), (some (10, true))⟩,
⟨(some 12), .mv (.t 2), (some (10, true))⟩,
⟨(some 13), .bin .leq (.t 11) (.t 12), (some (10, true))⟩,
⟨(some 14), .pick (.t 10) (.t 13) (.c (.b false)), none⟩,
⟨(some 6), .mv (.t 14), none⟩]) ( .ret)), [.tmp 6], false, none⟩
theorem k125 : CodeOk Tryz.prog 125 c125 := codeOk (hs := []) Tryz.func125 (by kernel_rfl)
def c126 : AFunc := ⟨10,
.seq ( .region [
 ⟨(some 2), .mv (.c (.b false)), none⟩]) (
.seq ( .region [
 ⟨(some 3), .mv (.t 0), none⟩,
⟨(some 4), .callf 182 [(.t 3)], none⟩,
⟨(some 5), .mv (.t 4), none⟩,
⟨(some 6), .mv (.t 0), (some (5, true))⟩,
⟨(some 7), .callf 197 [(.t 6)], (some (5, true))⟩,
⟨(some 8), .un .not (.t 7), (some (5, true))⟩,
⟨(some 9), .pick (.t 5) (.t 8) (.c (.b false)), none⟩,
⟨(some 2), .mv (.t 9), none⟩]) ( .ret)), [.tmp 2], false, none⟩
theorem k126 : CodeOk Tryz.prog 126 c126 := codeOk (hs := []) Tryz.func126 (by kernel_rfl)
def c127_L1 : ACode :=
.seq (
.seq ( .region [
 ⟨(some 86), .mv (.t 9), none⟩,
⟨(some 87), .mv (.t 6), none⟩,
⟨(some 88), .bin .lss (.t 86) (.t 87), none⟩]) ( .cond (.t 88) ( .skip) ( .exit 8))) (
.seq ( .block 9 (
.seq ( .draws [ ([], ⟨(some 91), .fa (.t 1) 12, none⟩),
([], ⟨(some 92), .ld (.t 91) 1 false, none⟩),
([], ⟨(some 93), .mv (.t 9), none⟩),
([], ⟨(some 94), .ia (.t 92) (.t 93) 3, none⟩),
([], ⟨(some 95), .fa (.t 94) 0, none⟩),
([], ⟨(some 96), .ld (.t 95) 1 false, none⟩),
([], ⟨(some 97), .fa (.t 7) 0, none⟩),
([1, 5], ⟨(some 98), .ld (.t 97) 1 false, none⟩),
([], ⟨(some 99), .bin .eql (.t 96) (.t 98), none⟩)]) ( .cond (.t 99) (
.seq ( .region [
 ⟨(some 2), .mv (.c (.i .i64 7)), none⟩]) ( .ret)) ( .skip)))) ( .region [
 ⟨(some 89), .mv (.t 9), none⟩,
⟨(some 90), .bin .add (.t 89) (.c (.i .i64 1)), none⟩,
⟨(some 9), .mv (.t 90), none⟩]))
def c127_L2 : ACode :=
.seq (
.seq ( .region [
 ⟨(some 70), .mv (.t 8), none⟩,
⟨(some 71), .fa (.t 1) 11, none⟩,
⟨(some 72), .ld (.t 71) 1 false, none⟩,
⟨(some 73), .lenV (.t 72), none⟩,
⟨(some 74), .bin .lss (.t 70) (.t 73), none⟩]) ( .cond (.t 74) ( .skip) ( .exit 6))) (
.seq ( .block 7 (
.seq ( .draws [ ([], ⟨(some 77), .fa (.t 1) 11, none⟩),
([], ⟨(some 78), .ld (.t 77) 1 false, none⟩),
([], ⟨(some 79), .mv (.t 8), none⟩),
([], ⟨(some 80), .ia (.t 78) (.t 79) 4, none⟩),
([], ⟨(some 81), .fa (.t 80) 0, none⟩),
([], ⟨(some 82), .ld (.t 81) 1 false, none⟩),
([], ⟨(some 83), .fa (.t 7) 0, none⟩),
([1, 5], ⟨(some 84), .ld (.t 83) 1 false, none⟩),
([], ⟨(some 85), .bin .eql (.t 82) (.t 84), none⟩)]) ( .cond (.t 85) (
.seq ( .region [
 ⟨(some 2), .mv (.c (.i .i64 7)), none⟩]) ( .ret)) ( .skip)))) ( .region [
 ⟨(some 75), .mv (.t 8), none⟩,
⟨(some 76), .bin .add (.t 75) (.c (.i .i64 1)), none⟩,
⟨(some 8), .mv (.t 76), none⟩]))
def c127_L3 : ACode :=
.seq (
.seq ( .region [
 ⟨(some 54), .mv (.t 6), none⟩,
⟨(some 55), .fa (.t 1) 12, none⟩,
⟨(some 56), .ld (.t 55) 1 false, none⟩,
⟨(some 57), .lenV (.t 56), none⟩,
⟨(some 58), .bin .lss (.t 54) (.t 57), none⟩]) ( .cond (.t 58) ( .skip) ( .exit 4))) (
.seq ( .block 5 (
.seq ( .region [
 ⟨(some 61), .fa (.t 1) 12, none⟩,
⟨(some 62), .ld (.t 61) 1 false, none⟩,
⟨(some 63), .mv (.t 6), none⟩,
⟨(some 64), .ia (.t 62) (.t 63) 3, none⟩,
⟨(some 65), .ld (.t 64) 3 true, none⟩,
⟨(some 7), .alloc [(.s []), (.i .i64 0), (.i .i64 0)] false, none⟩,
⟨none, .st (.t 7) (.t 65) 3, none⟩]) (
.seq (
.seq ( .region [
 ⟨(some 66), .fa (.t 7) 0, none⟩,
⟨(some 67), .ld (.t 66) 1 false, none⟩,
⟨(some 68), .callf 126 [(.t 67)], none⟩,
⟨(some 69), .un .not (.t 68), none⟩]) ( .cond (.t 69) (
.seq ( .region [
 ⟨(some 2), .mv (.c (.i .i64 1)), none⟩]) ( .ret)) ( .skip))) (
.seq (
.seq ( .region [
 ⟨(some 8), .mv (.c (.i .i64 0)), none⟩]) ( .block 6 ( .loop c127_L2))) (
.seq (
.seq ( .region [
 ⟨(some 9), .mv (.c (.i .i64 0)), none⟩]) ( .block 8 ( .loop c127_L1))) (
.seq ( .region [
 ⟨(some 100), .fa (.t 7) 2, none⟩,
⟨(some 101), .ld (.t 100) 1 false, none⟩,
⟨(some 102), .callf 125 [(.t 101), (.c (.i .i64 1)), (.c (.i .i64 31))], none⟩,
⟨(some 103), .un .not (.t 102), none⟩,
⟨(some 104), .mv (.t 103), none⟩,
⟨(some 105), .fa (.t 7) 1, (some (104, false))⟩,
⟨(some 106), .ld (.t 105) 1 false, (some (104, false))⟩,
⟨(some 107), .fa (.t 7) 2, (some (104, false))⟩,
⟨(some 108), .ld (.t 107) 1 false, (some (104, false))⟩,
⟨(some 109), .callf 125 [(.t 106), (.c (.i .i64 1)), (.t 108)], (some (104, false))⟩,
⟨(some 110), .un .not (.t 109), (some (104, false))⟩,
⟨(some 111), .pick (.t 104) (.c (.b true)) (.t 110), none⟩]) ( .cond (.t 111) (
.seq ( .region [
 ⟨(some 2), .mv (.c (.i .i64 5)), none⟩]) ( .ret)) ( .skip)))))))) ( .region [
 ⟨(some 59), .mv (.t 6), none⟩,
⟨(some 60), .bin .add (.t 59) (.c (.i .i64 1)), none⟩,
⟨(some 6), .mv (.t 60), none⟩]))
def c127_L4 : ACode :=
.seq (
.seq ( .region [
 ⟨(some 26), .mv (.t 5), none⟩,
⟨(some 27), .mv (.t 3), none⟩,
⟨(some 28), .bin .lss (.t 26) (.t 27), none⟩]) ( .cond (.t 28) ( .skip) ( .exit 2))) (
.seq ( .block 3 (
.seq ( .draws [ ([], ⟨(some 31), .fa (.t 1) 11, none⟩),
([], ⟨(some 32), .ld (.t 31) 1 false, none⟩),
([], ⟨(some 33), .mv (.t 5), none⟩),
([], ⟨(some 34), .ia (.t 32) (.t 33) 4, none⟩),
([], ⟨(some 35), .fa (.t 34) 0, none⟩),
([], ⟨(some 36), .ld (.t 35) 1 false, none⟩),
([], ⟨(some 37), .fa (.t 4) 0, none⟩),
([1, 5], ⟨(some 38), .ld (.t 37) 1 false, none⟩),
([], ⟨(some 39), .bin .eql (.t 36) (.t 38), none⟩)]) ( .cond (.t 39) (
.seq ( .region [
 ⟨(some 2), .mv (.c (.i .i64 7)), none⟩]) ( .ret)) ( .skip)))) ( .region [
 ⟨(some 29), .mv (.t 5), none⟩,
⟨(some 30), .bin .add (.t 29) (.c (.i .i64 1)), none⟩,
⟨(some 5), .mv (.t 30), none⟩]))
def c127_L5 : ACode :=
.seq (
.seq ( .region [
 ⟨(some 10), .mv (.t 3), none⟩,
⟨(some 11), .fa (.t 1) 11, none⟩,
⟨(some 12), .ld (.t 11) 1 false, none⟩,
⟨(some 13), .lenV (.t 12), none⟩,
⟨(some 14), .bin .lss (.t 10) (.t 13), none⟩]) ( .cond (.t 14) ( .skip) ( .exit 0))) (
.seq ( .block 1 (
.seq ( .region [
 ⟨(some 17), .fa (.t 1) 11, none⟩,
⟨(some 18), .ld (.t 17) 1 false, none⟩,
⟨(some 19), .mv (.t 3), none⟩,
⟨(some 20), .ia (.t 18) (.t 19) 4, none⟩,
⟨(some 21), .ld (.t 20) 4 true, none⟩,
⟨(some 4), .alloc [(.s []), (.s []), (.i .i64 0), (.i .i64 0)] false, none⟩,
⟨none, .st (.t 4) (.t 21) 4, none⟩]) (
.seq (
.seq ( .region [
 ⟨(some 22), .fa (.t 4) 0, none⟩,
⟨(some 23), .ld (.t 22) 1 false, none⟩,
⟨(some 24), .callf 126 [(.t 23)], none⟩,
⟨(some 25), .un .not (.t 24), none⟩]) ( .cond (.t 25) (
.seq ( .region [
 ⟨(some 2), .mv (.c (.i .i64 1)), none⟩]) ( .ret)) ( .skip))) (
.seq (
.seq ( .region [
 ⟨(some 5), .mv (.c (.i .i64 0)), none⟩]) ( .block 2 ( .loop c127_L4))) (
.seq (
.seq ( .region [
 ⟨(some 40), .fa (.t 4) 1, none⟩,
⟨(some 41), .ld (.t 40) 1 false, none⟩,
⟨(some 42), .callf 196 [(.t 41)], none⟩,
⟨(some 43), .bin .eql (.t 42) (.c (.i .i64 0)), none⟩]) ( .cond (.t 43) (
.seq ( .region [
 ⟨(some 2), .mv (.c (.i .i64 6)), none⟩]) ( .ret)) ( .skip))) (
.seq ( .region [
 ⟨(some 44), .fa (.t 4) 2, none⟩,
⟨(some 45), .ld (.t 44) 1 false, none⟩,
⟨(some 46), .callf 125 [(.t 45), (.c (.i .i64 0)), (.c (.i .i64 599999))], none⟩,
⟨(some 47), .un .not (.t 46), none⟩,
⟨(some 48), .mv (.t 47), none⟩,
⟨(some 49), .fa (.t 4) 3, (some (48, false))⟩,
⟨(some 50), .ld (.t 49) 1 false, (some (48, false))⟩,
⟨(some 51), .callf 125 [(.t 50), (.c (.i .i64 1)), (.c (.i .i64 31))], (some (48, false))⟩,
⟨(some 52), .un .not (.t 51), (some (48, false))⟩,
⟨(some 53), .pick (.t 48) (.c (.b true)) (.t 52), none⟩]) ( .cond (.t 53) (
.seq ( .region [
 ⟨(some 2), .mv (.c (.i .i64 5)), none⟩]) ( .ret)) ( .skip)))))))) ( .region [
 ⟨(some 15), .mv (.t 3), none⟩,
⟨(some 16), .bin .add (.t 15) (.c (.i .i64 1)), none⟩,
⟨(some 3), .mv (.t 16), none⟩]))
def c127 : AFunc := ⟨112,
.seq ( .region [
 ⟨(some 1), .box (.t 0) false, none⟩,
⟨(some 2), .mv (.c (.i .i64 0)), none⟩]) (
.seq (
.seq ( .region [
 ⟨(some 3), .mv (.c (.i .i64 0)), none⟩]) ( .block 0 ( .loop c127_L5))) (
.seq (
.seq ( .region [
 ⟨(some 6), .mv (.c (.i .i64 0)), none⟩]) ( .block 4 ( .loop c127_L3))) (
.seq ( .region [
 ⟨(some 2), .mv (.c (.i .i64 0)), none⟩]) ( .ret)))), [.tmp 2], false, none⟩
theorem k127 : CodeOk Tryz.prog 127 c127 := codeOk (hs := []) Tryz.func127 (by kernel_rfl)
def c132 : AFunc := ⟨2,
.seq ( .region [
 ⟨(some 0), .mv (.c .nilsl), none⟩]) (
.seq ( .region [
 ⟨(some 1), .bsl [(.s [])] 11 [(0, (.c (.s [108, 101, 103, 115]))), (1, (.c (.s [104, 101, 97, 100, 115]))), (2, (.c (.s [116, 121, 112, 101, 115]))), (3, (.c (.s [98, 108, 111, 99, 107]))), (4, (.c (.s [115, 112, 97, 110]))), (5, (.c (.s [110, 105, 103, 104, 116]))), (6, (.c (.s [108, 111, 110, 103, 101, 115, 116]))), (7, (.c (.s [115, 104, 111, 114, 116, 101, 115, 116]))), (8, (.c (.s [115, 104, 105, 102, 116]))), (9, (.c (.s [115, 116, 97, 114, 116]))), (10, (.c (.s [101, 110, 100])))], none⟩,
⟨(some 0), .mv (.t 1), none⟩]) ( .ret)), [.tmp 0], false, none⟩
theorem k132 : CodeOk Tryz.prog 132 c132 := codeOk (hs := []) Tryz.func132 (by kernel_rfl)
def c133 : AFunc := ⟨18,
.seq ( .region [
 ⟨(some 2), .mv (.c (.i .i64 0)), none⟩]) (
.seq (
.seq ( .region [
 ⟨(some 3), .mv (.t 0), none⟩]) ( .block 0 (
.seq (
.seq ( .region [
 ⟨(some 5), .bin .eql (.t 3) (.c (.s [108, 101, 103, 115])), none⟩,
⟨(some 4), .mv (.t 5), none⟩]) ( .cond (.t 4) ( .skip) (
.seq ( .region [
 ⟨(some 6), .bin .eql (.t 3) (.c (.s [104, 101, 97, 100, 115])), none⟩,
⟨(some 4), .mv (.t 6), none⟩]) ( .cond (.t 4) ( .skip) ( .region [
 ⟨(some 7), .bin .eql (.t 3) (.c (.s [116, 121, 112, 101, 115])), none⟩,
⟨(some 4), .mv (.t 7), none⟩]))))) ( .cond (.t 4) (
.seq ( .region [
 ⟨(some 2), .mv (.c (.i .i64 1)), none⟩]) ( .ret)) (
.seq (
.seq ( .region [
 ⟨(some 9), .bin .eql (.t 3) (.c (.s [98, 108, 111, 99, 107])), none⟩,
⟨(some 8), .mv (.t 9), none⟩]) ( .cond (.t 8) ( .skip) (
.seq ( .region [
 ⟨(some 10), .bin .eql (.t 3) (.c (.s [115, 112, 97, 110])), none⟩,
⟨(some 8), .mv (.t 10), none⟩]) ( .cond (.t 8) ( .skip) (
.seq ( .region [
 ⟨(some 11), .bin .eql (.t 3) (.c (.s [110, 105, 103, 104, 116])), none⟩,
⟨(some 8), .mv (.t 11), none⟩]) ( .cond (.t 8) ( .skip) (
.seq ( .region [
 ⟨(some 12), .bin .eql (.t 3) (.c (.s [108, 111, 110, 103, 101, 115, 116])), none⟩,
⟨(some 8), .mv (.t 12), none⟩]) ( .cond (.t 8) ( .skip) (
.seq ( .region [
 ⟨(some 13), .bin .eql (.t 3) (.c (.s [115, 104, 111, 114, 116, 101, 115, 116])), none⟩,
⟨(some 8), .mv (.t 13), none⟩]) ( .cond (.t 8) ( .skip) ( .region [
 ⟨(some 14), .bin .eql (.t 3) (.c (.s [115, 104, 105, 102, 116])), none⟩,
⟨(some 8), .mv (.t 14), none⟩]))))))))))) ( .cond (.t 8) (
.seq ( .region [
 ⟨(some 2), .mv (.c (.i .i64 2)), none⟩]) ( .ret)) (
.seq (
.seq ( .region [
 ⟨(some 16), .bin .eql (.t 3) (.c (.s [115, 116, 97, 114, 116])), none⟩,
⟨(some 15), .mv (.t 16), none⟩]) ( .cond (.t 15) ( .skip) ( .region [
 ⟨(some 17), .bin .eql (.t 3) (.c (.s [101, 110, 100])), none⟩,
⟨(some 15), .mv (.t 17), none⟩]))) ( .cond (.t 15) (
.seq ( .region [
 ⟨(some 2), .mv (.c (.i .i64 3)), none⟩]) ( .ret)) ( .skip))))))))) (
.seq ( .region [
 ⟨(some 2), .mv (.c (.i .i64 0)), none⟩]) ( .ret))), [.tmp 2], false, none⟩
theorem k133 : CodeOk Tryz.prog 133 c133 := codeOk (hs := []) Tryz.func133 (by kernel_rfl)
def c134 : AFunc := ⟨30,
.seq ( .region [
 ⟨(some 2), .mv (.c (.i .i64 0)), none⟩]) (
.seq (
.seq ( .region [
 ⟨(some 7), .mv (.t 0), none⟩]) ( .block 0 (
.seq ( .region [
 ⟨(some 9), .bin .eql (.t 7) (.c (.s [114, 101, 115, 116])), none⟩,
⟨(some 8), .mv (.t 9), none⟩]) ( .cond (.t 8) (
.seq ( .region [
 ⟨(some 2), .mv (.c (.i .i64 2)), none⟩]) ( .ret)) (
.seq ( .region [
 ⟨(some 11), .bin .eql (.t 7) (.c (.s [110, 105, 103, 104, 116, 115])), none⟩,
⟨(some 10), .mv (.t 11), none⟩]) ( .cond (.t 10) (
.seq ( .region [
 ⟨(some 2), .mv (.c (.i .i64 1)), none⟩]) ( .ret)) (
.seq ( .region [
 ⟨(some 13), .bin .eql (.t 7) (.c (.s [104, 111, 109, 101])), none⟩,
⟨(some 12), .mv (.t 13), none⟩]) ( .cond (.t 12) (
.seq ( .region [
 ⟨(some 2), .mv (.c (.i .i64 4)), none⟩]) ( .ret)) ( .skip))))))))) (
.seq (
.seq ( .region [
 ⟨(some 15), .mv (.t 0), none⟩,
⟨(some 16), .callf 212 [(.t 15), (.c (.s [98, 101, 102, 111, 114, 101, 46]))], none⟩,
⟨(some 14), .mv (.t 16), none⟩,
⟨(some 17), .ext (.t 14) 0, none⟩,
⟨(some 18), .ext (.t 14) 1, none⟩,
⟨(some 3), .mv (.t 17), none⟩,
⟨(some 4), .mv (.t 18), none⟩]) (
.seq ( .region [
 ⟨(some 19), .mv (.t 4), none⟩]) ( .cond (.t 19) (
.seq ( .region [
 ⟨(some 20), .mv (.t 3), none⟩,
⟨(some 21), .callf 133 [(.t 20)], none⟩,
⟨(some 2), .mv (.t 21), none⟩]) ( .ret)) ( .skip)))) (
.seq (
.seq ( .region [
 ⟨(some 23), .mv (.t 0), none⟩,
⟨(some 24), .callf 212 [(.t 23), (.c (.s [97, 102, 116, 101, 114, 46]))], none⟩,
⟨(some 22), .mv (.t 24), none⟩,
⟨(some 25), .ext (.t 22) 0, none⟩,
⟨(some 26), .ext (.t 22) 1, none⟩,
⟨(some 5), .mv (.t 25), none⟩,
⟨(some 6), .mv (.t 26), none⟩]) (
.seq ( .region [
 ⟨(some 27), .mv (.t 6), none⟩]) ( .cond (.t 27) (
.seq ( .region [
 ⟨(some 28), .mv (.t 5), none⟩,
⟨(some 29), .callf 133 [(.t 28)], none⟩,
⟨(some 2), .mv (.t 29), none⟩]) ( .ret)) ( .skip)))) (
.seq ( .region [
 ⟨(some 2), .mv (.c (.i .i64 0)), none⟩]) ( .ret))))), [.tmp 2], false, none⟩
theorem k134 : CodeOk Tryz.prog 134 c134 := codeOk (hs := []) Tryz.func134 (by kernel_rfl)
def c135 : AFunc := ⟨13,
.seq ( .region [
 ⟨(some 2), .mv (.c (.i .i64 0)), none⟩]) (
.seq (
.seq ( .region [
 ⟨(some 3), .mv (.t 0), none⟩]) ( .block 0 (
.seq (
.seq ( .region [
 ⟨(some 5), .bin .eql (.t 3) (.c (.s [100, 117, 116, 105, 101, 115])), none⟩,
⟨(some 4), .mv (.t 5), none⟩]) ( .cond (.t 4) ( .skip) (
.seq ( .region [
 ⟨(some 6), .bin .eql (.t 3) (.c (.s [108, 101, 103, 115])), none⟩,
⟨(some 4), .mv (.t 6), none⟩]) ( .cond (.t 4) ( .skip) (
.seq ( .region [
 ⟨(some 7), .bin .eql (.t 3) (.c (.s [104, 101, 97, 100, 115])), none⟩,
⟨(some 4), .mv (.t 7), none⟩]) ( .cond (.t 4) ( .skip) ( .region [
 ⟨(some 8), .bin .eql (.t 3) (.c (.s [100, 97, 121, 115])), none⟩,
⟨(some 4), .mv (.t 8), none⟩]))))))) ( .cond (.t 4) (
.seq ( .region [
 ⟨(some 2), .mv (.c (.i .i64 1)), none⟩]) ( .ret)) (
.seq (
.seq ( .region [
 ⟨(some 10), .bin .eql (.t 3) (.c (.s [98, 108, 111, 99, 107])), none⟩,
⟨(some 9), .mv (.t 10), none⟩]) ( .cond (.t 9) ( .skip) (
.seq ( .region [
 ⟨(some 11), .bin .eql (.t 3) (.c (.s [115, 112, 97, 110])), none⟩,
⟨(some 9), .mv (.t 11), none⟩]) ( .cond (.t 9) ( .skip) ( .region [
 ⟨(some 12), .bin .eql (.t 3) (.c (.s [99, 114, 101, 100, 105, 116])), none⟩,
⟨(some 9), .mv (.t 12), none⟩]))))) ( .cond (.t 9) (
.seq ( .region [
 ⟨(some 2), .mv (.c (.i .i64 2)), none⟩]) ( .ret)) ( .skip))))))) (
.seq ( .region [
 ⟨(some 2), .mv (.c (.i .i64 0)), none⟩]) ( .ret))), [.tmp 2], false, none⟩
theorem k135 : CodeOk Tryz.prog 135 c135 := codeOk (hs := []) Tryz.func135 (by kernel_rfl)
def c142_L1 : ACode :=
.seq ( .region [
 ⟨(some 62), .bin .lss (.t 61) (.t 60), none⟩]) (
.seq ( .cond (.t 62) ( .skip) ( .exit 0)) (
.seq ( .block 1 (
.seq ( .region [
 ⟨(some 63), .mv (.t 61), none⟩,
⟨(some 64), .ia (.t 59) (.t 61) 4, none⟩,
⟨(some 65), .ld (.t 64) 4 true, none⟩,
⟨(some 16), .alloc [(.i .i64 0), (.i .i64 0), (.s []), .nilsl] false, none⟩,
⟨(some 15), .mv (.t 63), none⟩,
⟨none, .st (.t 16) (.t 65) 4, none⟩]) (
.seq ( .region [
 ⟨(some 67), .mv (.t 0), none⟩,
⟨(some 68), .mv (.t 1), none⟩,
⟨(some 69), .mv (.t 2), none⟩,
⟨(some 70), .ld (.t 16) 4 true, none⟩,
⟨(some 71), .callf 142 [(.t 67), (.t 68), (.t 69), (.t 70)], none⟩,
⟨(some 66), .mv (.t 71), none⟩,
⟨(some 72), .ext (.t 66) 0, none⟩,
⟨(some 73), .ext (.t 66) 1, none⟩,
⟨(some 17), .mv (.t 72), none⟩,
⟨(some 18), .mv (.t 73), none⟩]) (
.seq (
.seq ( .region [
 ⟨(some 74), .mv (.t 18), none⟩,
⟨(some 75), .bin .neq (.t 74) (.c (.i .i64 0)), none⟩]) ( .cond (.t 75) (
.seq ( .region [
 ⟨(some 76), .mv (.t 18), none⟩,
⟨(some 8), .mv (.c (.i .i64 0)), none⟩,
⟨(some 9), .mv (.t 76), none⟩]) ( .ret)) ( .skip))) ( .region [
 ⟨(some 77), .mv (.t 14), none⟩,
⟨(some 78), .mv (.t 15), none⟩,
⟨(some 79), .mv (.t 17), none⟩,
⟨(some 80), .ia (.t 77) (.t 78) 1, none⟩,
⟨none, .st (.t 80) (.t 79) 1, none⟩]))))) ( .region [
 ⟨(some 81), .bin .add (.t 61) (.c (.i .i64 1)), none⟩,
⟨(some 61), .mv (.t 81), none⟩])))
def c142 : AFunc := ⟨89,
.seq ( .region [
 ⟨(some 7), .box (.t 3) false, none⟩,
⟨(some 8), .mv (.c (.i .i64 0)), none⟩,
⟨(some 9), .mv (.c (.i .i64 0)), none⟩]) (
.seq (
.seq ( .region [
 ⟨(some 20), .fa (.t 7) 0, none⟩,
⟨(some 21), .ld (.t 20) 1 false, none⟩,
⟨(some 22), .bin .eql (.t 21) (.c (.i .i64 6)), none⟩]) ( .cond (.t 22) (
.seq (
.seq ( .region [
 ⟨(some 24), .mv (.t 1), none⟩,
⟨(some 25), .fa (.t 7) 2, none⟩,
⟨(some 26), .ld (.t 25) 1 false, none⟩,
⟨(some 27), .callf 89 [(.t 24), (.t 26)], none⟩,
⟨(some 23), .mv (.t 27), none⟩,
⟨(some 28), .ext (.t 23) 0, none⟩,
⟨(some 29), .ext (.t 23) 1, none⟩,
⟨(some 10), .mv (.t 28), none⟩,
⟨(some 11), .mv (.t 29), none⟩]) (
.seq ( .region [
 ⟨(some 30), .mv (.t 11), none⟩,
⟨(some 31), .bin .eql (.t 30) (.c (.i .i64 0)), none⟩]) ( .cond (.t 31) (
.seq ( .region [
 ⟨(some 32), .mv (.t 10), none⟩,
⟨(some 8), .mv (.t 32), none⟩,
⟨(some 9), .mv (.c (.i .i64 0)), none⟩]) ( .ret)) ( .skip)))) (
.seq (
.seq ( .draws [ ([], ⟨(some 34), .mv (.t 0), none⟩),
([], ⟨(some 35), .nck (.t 34), none⟩),
([], ⟨(some 36), .fa (.t 35) 1, none⟩),
([], ⟨(some 37), .ld (.t 36) 1 false, none⟩),
([], ⟨(some 38), .fa (.t 7) 2, none⟩),
([3], ⟨(some 39), .ld (.t 38) 1 false, none⟩),
([], ⟨(some 40), .lk (.one .str) (.t 37) (.t 39) (.i .i64 0) true, none⟩),
([], ⟨(some 33), .mv (.t 40), none⟩),
([], ⟨(some 41), .ext (.t 33) 0, none⟩),
([], ⟨(some 42), .ext (.t 33) 1, none⟩),
([], ⟨(some 12), .mv (.t 41), none⟩),
([], ⟨(some 13), .mv (.t 42), none⟩)]) (
.seq ( .region [
 ⟨(some 43), .mv (.t 13), none⟩,
⟨(some 44), .mv (.t 43), none⟩,
⟨(some 45), .mv (.t 12), (some (44, true))⟩,
⟨(some 46), .mv (.t 2), (some (44, true))⟩,
⟨(some 47), .bin .lss (.t 45) (.t 46), (some (44, true))⟩,
⟨(some 48), .pick (.t 44) (.t 47) (.c (.b false)), none⟩]) ( .cond (.t 48) (
.seq ( .region [
 ⟨(some 49), .mv (.t 0), none⟩,
⟨(some 50), .mv (.t 12), none⟩,
⟨(some 51), .callf 114 [(.t 49), (.t 50)], none⟩,
⟨(some 52), .ext (.t 51) 0, none⟩,
⟨(some 53), .ext (.t 51) 1, none⟩,
⟨(some 8), .mv (.t 52), none⟩,
⟨(some 9), .mv (.t 53), none⟩]) ( .ret)) ( .skip)))) (
.seq ( .region [
 ⟨(some 8), .mv (.c (.i .i64 0)), none⟩,
⟨(some 9), .mv (.c (.i .i64 6)), none⟩]) ( .ret)))) ( .skip))) (
.seq ( .region [
 ⟨(some 54), .fa (.t 7) 3, none⟩,
⟨(some 55), .ld (.t 54) 1 false, none⟩,
⟨(some 56), .lenV (.t 55), none⟩,
⟨(some 57), .mksl [(.i .i64 0)] 8 (.t 56) false, none⟩,
⟨(some 14), .mv (.t 57), none⟩]) (
.seq (
.seq ( .region [
 ⟨(some 58), .fa (.t 7) 3, none⟩,
⟨(some 59), .ld (.t 58) 1 false, none⟩,
⟨(some 60), .lenV (.t 59), none⟩,
⟨(some 61), .mv (.c (.i .i64 0)), none⟩]) ( .block 0 ( .loop c142_L1))) (
.seq (
.seq ( .region [
 ⟨(some 82), .fa (.t 7) 0, none⟩,
⟨(some 83), .ld (.t 82) 1 false, none⟩,
⟨(some 84), .mv (.t 14), none⟩,
⟨(some 85), .callf 215 [(.t 83), (.t 84)], none⟩,
⟨(some 19), .mv (.t 85), none⟩]) (
.seq ( .region [
 ⟨(some 86), .mv (.t 19), none⟩,
⟨(some 87), .bin .neq (.t 86) (.c (.i .i64 0)), none⟩]) ( .cond (.t 87) (
.seq ( .region [
 ⟨(some 88), .mv (.t 19), none⟩,
⟨(some 8), .mv (.t 88), none⟩,
⟨(some 9), .mv (.c (.i .i64 0)), none⟩]) ( .ret)) ( .skip)))) (
.seq ( .region [
 ⟨(some 8), .mv (.c (.i .i64 0)), none⟩,
⟨(some 9), .mv (.c (.i .i64 9)), none⟩]) ( .ret)))))), [.tmp 8, .tmp 9], false, none⟩
theorem k142 : CodeOk Tryz.prog 142 c142 := codeOk (hs := []) Tryz.func142 (by kernel_rfl)
def c155 : AFunc := ⟨32,
.seq ( .region [
 ⟨(some 4), .mv (.c (.b false)), none⟩]) (
.seq (
.seq ( .region [
 ⟨(some 5), .mv (.t 0), none⟩]) ( .block 0 (
.seq (
.seq ( .region [
 ⟨(some 7), .bin .eql (.t 5) (.c (.i .i64 1)), none⟩,
⟨(some 6), .mv (.t 7), none⟩]) ( .cond (.t 6) ( .skip) (
.seq ( .region [
 ⟨(some 8), .bin .eql (.t 5) (.c (.i .i64 2)), none⟩,
⟨(some 6), .mv (.t 8), none⟩]) ( .cond (.t 6) ( .skip) (
.seq ( .region [
 ⟨(some 9), .bin .eql (.t 5) (.c (.i .i64 3)), none⟩,
⟨(some 6), .mv (.t 9), none⟩]) ( .cond (.t 6) ( .skip) (
.seq ( .region [
 ⟨(some 10), .bin .eql (.t 5) (.c (.i .i64 4)), none⟩,
⟨(some 6), .mv (.t 10), none⟩]) ( .cond (.t 6) ( .skip) (
.seq ( .region [
 ⟨(some 11), .bin .eql (.t 5) (.c (.i .i64 5)), none⟩,
⟨(some 6), .mv (.t 11), none⟩]) ( .cond (.t 6) ( .skip) ( .region [
 ⟨(some 12), .bin .eql (.t 5) (.c (.i .i64 6)), none⟩,
⟨(some 6), .mv (.t 12), none⟩]))))))))))) ( .cond (.t 6) (
.seq ( .region [
 ⟨(some 13), .mv (.t 1), none⟩,
⟨(some 14), .bin .eql (.t 13) (.c (.i .i64 0)), none⟩,
⟨(some 4), .mv (.t 14), none⟩]) ( .ret)) (
.seq (
.seq ( .region [
 ⟨(some 16), .bin .eql (.t 5) (.c (.i .i64 7)), none⟩,
⟨(some 15), .mv (.t 16), none⟩]) ( .cond (.t 15) ( .skip) ( .region [
 ⟨(some 17), .bin .eql (.t 5) (.c (.i .i64 19)), none⟩,
⟨(some 15), .mv (.t 17), none⟩]))) ( .cond (.t 15) (
.seq ( .region [
 ⟨(some 18), .mv (.t 1), none⟩,
⟨(some 19), .bin .eql (.t 18) (.c (.i .i64 1)), none⟩,
⟨(some 4), .mv (.t 19), none⟩]) ( .ret)) (
.seq (
.seq ( .region [
 ⟨(some 21), .bin .eql (.t 5) (.c (.i .i64 12)), none⟩,
⟨(some 20), .mv (.t 21), none⟩]) ( .cond (.t 20) ( .skip) ( .region [
 ⟨(some 22), .bin .eql (.t 5) (.c (.i .i64 13)), none⟩,
⟨(some 20), .mv (.t 22), none⟩]))) ( .cond (.t 20) (
.seq ( .region [
 ⟨(some 23), .mv (.t 1), none⟩,
⟨(some 24), .bin .geq (.t 23) (.c (.i .i64 2)), none⟩,
⟨(some 4), .mv (.t 24), none⟩]) ( .ret)) (
.seq (
.seq ( .region [
 ⟨(some 26), .bin .eql (.t 5) (.c (.i .i64 14)), none⟩,
⟨(some 25), .mv (.t 26), none⟩]) ( .cond (.t 25) ( .skip) ( .region [
 ⟨(some 27), .bin .eql (.t 5) (.c (.i .i64 15)), none⟩,
⟨(some 25), .mv (.t 27), none⟩]))) ( .cond (.t 25) (
.seq ( .region [
 ⟨(some 28), .mv (.t 1), none⟩,
⟨(some 29), .bin .eql (.t 28) (.c (.i .i64 3)), none⟩,
⟨(some 4), .mv (.t 29), none⟩]) ( .ret)) ( .skip))))))))))) (
.seq ( .region [
 ⟨(some 30), .mv (.t 1), none⟩,
⟨(some 31), .bin .eql (.t 30) (.c (.i .i64 2)), none⟩,
⟨(some 4), .mv (.t 31), none⟩]) ( .ret))), [.tmp 4], false, none⟩
theorem k155 : CodeOk Tryz.prog 155 c155 := codeOk (hs := []) Tryz.func155 (by kernel_rfl)
def c156 : AFunc := ⟨21,
.seq ( .region [
 ⟨(some 2), .mv (.c (.b false)), none⟩]) (
.seq (
.seq ( .region [
 ⟨(some 7), .mv (.t 0), none⟩,
⟨(some 8), .callf 217 [(.t 7), (.c (.s [46]))], none⟩,
⟨(some 6), .mv (.t 8), none⟩,
⟨(some 9), .ext (.t 6) 0, none⟩,
⟨(some 10), .ext (.t 6) 1, none⟩,
⟨(some 11), .ext (.t 6) 2, none⟩,
⟨(some 3), .mv (.t 9), none⟩,
⟨(some 4), .mv (.t 10), none⟩,
⟨(some 5), .mv (.t 11), none⟩]) (
.seq ( .region [
 ⟨(some 12), .mv (.t 5), none⟩]) ( .cond (.t 12) (
.seq ( .region [
 ⟨(some 13), .mv (.t 3), none⟩,
⟨(some 14), .callf 174 [(.t 13)], none⟩,
⟨(some 15), .mv (.t 14), none⟩,
⟨(some 16), .mv (.t 4), (some (15, true))⟩,
⟨(some 17), .callf 174 [(.t 16)], (some (15, true))⟩,
⟨(some 18), .pick (.t 15) (.t 17) (.c (.b false)), none⟩,
⟨(some 2), .mv (.t 18), none⟩]) ( .ret)) ( .skip)))) (
.seq ( .region [
 ⟨(some 19), .mv (.t 0), none⟩,
⟨(some 20), .callf 218 [(.t 19)], none⟩,
⟨(some 2), .mv (.t 20), none⟩]) ( .ret))), [.tmp 2], false, none⟩
theorem k156 : CodeOk Tryz.prog 156 c156 := codeOk (hs := []) Tryz.func156 (by kernel_rfl)
def c157 : AFunc := ⟨115,
.seq ( .region [
 ⟨(some 4), .mv (.c (.i .i64 0)), none⟩]) (
.seq (
.seq ( .region [
 ⟨(some 5), .mv (.t 0), none⟩]) ( .block 0 (
.seq ( .region [
 ⟨(some 9), .bin .eql (.t 5) (.c (.i .i64 1)), none⟩,
⟨(some 8), .mv (.t 9), none⟩]) ( .cond (.t 8) (
.seq ( .region [
 ⟨(some 4), .mv (.c (.i .i64 1)), none⟩]) ( .ret)) (
.seq ( .region [
 ⟨(some 11), .bin .eql (.t 5) (.c (.i .i64 2)), none⟩,
⟨(some 10), .mv (.t 11), none⟩]) ( .cond (.t 10) (
.seq ( .region [
 ⟨(some 4), .mv (.c (.i .i64 2)), none⟩]) ( .ret)) (
.seq ( .region [
 ⟨(some 13), .bin .eql (.t 5) (.c (.i .i64 3)), none⟩,
⟨(some 12), .mv (.t 13), none⟩]) ( .cond (.t 12) (
.seq ( .region [
 ⟨(some 4), .mv (.c (.i .i64 3)), none⟩]) ( .ret)) (
.seq (
.seq ( .region [
 ⟨(some 15), .bin .eql (.t 5) (.c (.i .i64 4)), none⟩,
⟨(some 14), .mv (.t 15), none⟩]) ( .cond (.t 14) ( .skip) ( .region [
 ⟨(some 16), .bin .eql (.t 5) (.c (.i .i64 5)), none⟩,
⟨(some 14), .mv (.t 16), none⟩]))) ( .cond (.t 14) (
.seq ( .region [
 ⟨(some 4), .mv (.c (.i .i64 4)), none⟩]) ( .ret)) (
.seq (
.seq ( .region [
 ⟨(some 18), .bin .eql (.t 5) (.c (.i .i64 7)), none⟩,
⟨(some 17), .mv (.t 18), none⟩]) ( .cond (.t 17) ( .skip) (
.seq ( .region [
 ⟨(some 19), .bin .eql (.t 5) (.c (.i .i64 8)), none⟩,
⟨(some 17), .mv (.t 19), none⟩]) ( .cond (.t 17) ( .skip) (
.seq ( .region [
 ⟨(some 20), .bin .eql (.t 5) (.c (.i .i64 9)), none⟩,
⟨(some 17), .mv (.t 20), none⟩]) ( .cond (.t 17) ( .skip) (
.seq ( .region [
 ⟨(some 21), .bin .eql (.t 5) (.c (.i .i64 12)), none⟩,
⟨(some 17), .mv (.t 21), none⟩]) ( .cond (.t 17) ( .skip) ( .region [
 ⟨(some 22), .bin .eql (.t 5) (.c (.i .i64 13)), none⟩,
⟨(some 17), .mv (.t 22), none⟩]))))))))) ( .cond (.t 17) (
.seq (
.seq ( .region [
 ⟨(some 23), .mv (.t 1), none⟩,
⟨(some 24), .callf 219 [(.t 23), (.c (.i .i64 1))], none⟩]) ( .cond (.t 24) (
.seq ( .region [
 ⟨(some 4), .mv (.c (.i .i64 1)), none⟩]) ( .ret)) ( .skip))) (
.seq ( .region [
 ⟨(some 25), .mv (.t 1), none⟩,
⟨(some 26), .callf 219 [(.t 25), (.c (.i .i64 2))], none⟩]) ( .cond (.t 26) (
.seq ( .region [
 ⟨(some 4), .mv (.c (.i .i64 2)), none⟩]) ( .ret)) ( .skip)))) (
.seq ( .region [
 ⟨(some 28), .bin .eql (.t 5) (.c (.i .i64 10)), none⟩,
⟨(some 27), .mv (.t 28), none⟩]) ( .cond (.t 27) ( .block 1 (
.seq ( .region [
 ⟨(some 30), .mv (.t 1), none⟩,
⟨(some 31), .callf 219 [(.t 30), (.c (.i .i64 1))], none⟩,
⟨(some 29), .mv (.t 31), none⟩]) ( .cond (.t 29) (
.seq ( .region [
 ⟨(some 4), .mv (.c (.i .i64 1)), none⟩]) ( .ret)) (
.seq ( .region [
 ⟨(some 33), .mv (.t 1), none⟩,
⟨(some 34), .ia (.t 33) (.c (.i .i64 0)) 1, none⟩,
⟨(some 35), .ld (.t 34) 1 false, none⟩,
⟨(some 36), .bin .eql (.t 35) (.c (.i .i64 1)), none⟩,
⟨(some 37), .mv (.t 36), none⟩,
⟨(some 38), .mv (.t 1), (some (37, true))⟩,
⟨(some 39), .ia (.t 38) (.c (.i .i64 1)) 1, (some (37, true))⟩,
⟨(some 40), .ld (.t 39) 1 false, (some (37, true))⟩,
⟨(some 41), .bin .eql (.t 40) (.c (.i .i64 2)), (some (37, true))⟩,
⟨(some 42), .pick (.t 37) (.t 41) (.c (.b false)), none⟩,
⟨(some 43), .mv (.t 42), none⟩,
⟨(some 44), .mv (.t 1), (some (43, false))⟩,
⟨(some 45), .ia (.t 44) (.c (.i .i64 0)) 1, (some (43, false))⟩,
⟨(some 46), .ld (.t 45) 1 false, (some (43, false))⟩,
⟨(some 47), .bin .eql (.t 46) (.c (.i .i64 2)), (some (43, false))⟩,
⟨(some 48), .mv (.t 47), (some (43, false))⟩,
⟨(some 49), .mv (.t 1), (some (48, true))⟩,
⟨(some 50), .ia (.t 49) (.c (.i .i64 1)) 1, (some (48, true))⟩,
⟨(some 51), .ld (.t 50) 1 false, (some (48, true))⟩,
⟨(some 52), .bin .eql (.t 51) (.c (.i .i64 1)), (some (48, true))⟩,
⟨(some 53), .pick (.t 48) (.t 52) (.c (.b false)), (some (43, false))⟩,
⟨(some 54), .pick (.t 43) (.c (.b true)) (.t 53), none⟩,
⟨(some 32), .mv (.t 54), none⟩]) ( .cond (.t 32) (
.seq ( .region [
 ⟨(some 4), .mv (.c (.i .i64 2)), none⟩]) ( .ret)) ( .skip)))))) (
.seq ( .region [
 ⟨(some 56), .bin .eql (.t 5) (.c (.i .i64 11)), none⟩,
⟨(some 55), .mv (.t 56), none⟩]) ( .cond (.t 55) ( .block 2 (
.seq ( .region [
 ⟨(some 58), .mv (.t 1), none⟩,
⟨(some 59), .callf 219 [(.t 58), (.c (.i .i64 1))], none⟩,
⟨(some 60), .mv (.t 59), none⟩,
⟨(some 61), .mv (.t 1), (some (60, false))⟩,
⟨(some 62), .callf 219 [(.t 61), (.c (.i .i64 2))], (some (60, false))⟩,
⟨(some 63), .pick (.t 60) (.c (.b true)) (.t 62), none⟩,
⟨(some 57), .mv (.t 63), none⟩]) ( .cond (.t 57) (
.seq ( .region [
 ⟨(some 4), .mv (.c (.i .i64 1)), none⟩]) ( .ret)) (
.seq ( .region [
 ⟨(some 65), .mv (.t 1), none⟩,
⟨(some 66), .ia (.t 65) (.c (.i .i64 0)) 1, none⟩,
⟨(some 67), .ld (.t 66) 1 false, none⟩,
⟨(some 68), .bin .eql (.t 67) (.c (.i .i64 2)), none⟩,
⟨(some 69), .mv (.t 68), none⟩,
⟨(some 70), .mv (.t 1), (some (69, true))⟩,
⟨(some 71), .ia (.t 70) (.c (.i .i64 1)) 1, (some (69, true))⟩,
⟨(some 72), .ld (.t 71) 1 false, (some (69, true))⟩,
⟨(some 73), .bin .eql (.t 72) (.c (.i .i64 1)), (some (69, true))⟩,
⟨(some 74), .pick (.t 69) (.t 73) (.c (.b false)), none⟩,
⟨(some 64), .mv (.t 74), none⟩]) ( .cond (.t 64) (
.seq ( .region [
 ⟨(some 4), .mv (.c (.i .i64 2)), none⟩]) ( .ret)) ( .skip)))))) (
.seq ( .region [
 ⟨(some 76), .bin .eql (.t 5) (.c (.i .i64 14)), none⟩,
⟨(some 75), .mv (.t 76), none⟩]) ( .cond (.t 75) (
.seq ( .draws [ ([], ⟨(some 77), .mv (.t 1), none⟩),
([], ⟨(some 78), .ia (.t 77) (.c (.i .i64 0)) 1, none⟩),
([], ⟨(some 79), .ld (.t 78) 1 false, none⟩),
([], ⟨(some 80), .bin .eql (.t 79) (.c (.i .i64 4)), none⟩),
([], ⟨(some 81), .mv (.t 80), none⟩),
([], ⟨(some 82), .mv (.t 1), (some (81, true))⟩),
([], ⟨(some 83), .ia (.t 82) (.c (.i .i64 1)) 1, (some (81, true))⟩),
([], ⟨(some 84), .ld (.t 83) 1 false, (some (81, true))⟩),
([], ⟨(some 85), .mv (.t 1), (some (81, true))⟩),
([], ⟨(some 86), .ia (.t 85) (.c (.i .i64 2)) 1, (some (81, true))⟩),
([7], ⟨(some 87), .ld (.t 86) 1 false, (some (81, true))⟩),
([], ⟨(some 88), .bin .eql (.t 84) (.t 87), (some (81, true))⟩),
([], ⟨(some 89), .pick (.t 81) (.t 88) (.c (.b false)), none⟩)]) ( .cond (.t 89) (
.seq ( .region [
 ⟨(some 90), .mv (.t 1), none⟩,
⟨(some 91), .ia (.t 90) (.c (.i .i64 1)) 1, none⟩,
⟨(some 92), .ld (.t 91) 1 false, none⟩,
⟨(some 4), .mv (.t 92), none⟩]) ( .ret)) ( .skip))) (
.seq ( .region [
 ⟨(some 94), .bin .eql (.t 5) (.c (.i .i64 15)), none⟩,
⟨(some 93), .mv (.t 94), none⟩]) ( .cond (.t 93) (
.seq ( .region [
 ⟨(some 95), .mv (.t 1), none⟩,
⟨(some 96), .callf 219 [(.t 95), (.c (.i .i64 3))], none⟩]) ( .cond (.t 96) (
.seq ( .region [
 ⟨(some 4), .mv (.c (.i .i64 4)), none⟩]) ( .ret)) ( .skip))) (
.seq (
.seq ( .region [
 ⟨(some 98), .bin .eql (.t 5) (.c (.i .i64 16)), none⟩,
⟨(some 97), .mv (.t 98), none⟩]) ( .cond (.t 97) ( .skip) ( .region [
 ⟨(some 99), .bin .eql (.t 5) (.c (.i .i64 17)), none⟩,
⟨(some 97), .mv (.t 99), none⟩]))) ( .cond (.t 97) (
.seq ( .region [
 ⟨(some 100), .mv (.t 1), none⟩,
⟨(some 101), .callf 219 [(.t 100), (.c (.i .i64 1))], none⟩,
⟨(some 102), .mv (.t 101), none⟩,
⟨(some 103), .mv (.t 1), (some (102, false))⟩,
⟨(some 104), .callf 219 [(.t 103), (.c (.i .i64 2))], (some (102, false))⟩,
⟨(some 105), .pick (.t 102) (.c (.b true)) (.t 104), none⟩]) ( .cond (.t 105) (
.seq ( .region [
 ⟨(some 4), .mv (.c (.i .i64 4)), none⟩]) ( .ret)) ( .skip))) (
.seq ( .region [
 ⟨(some 107), .bin .eql (.t 5) (.c (.i .i64 18)), none⟩,
⟨(some 106), .mv (.t 107), none⟩]) ( .cond (.t 106) (
.seq ( .draws [ ([], ⟨(some 108), .mv (.t 1), none⟩),
([], ⟨(some 109), .ia (.t 108) (.c (.i .i64 0)) 1, none⟩),
([], ⟨(some 110), .ld (.t 109) 1 false, none⟩),
([], ⟨(some 111), .mv (.t 1), none⟩),
([], ⟨(some 112), .ia (.t 111) (.c (.i .i64 1)) 1, none⟩),
([2], ⟨(some 113), .ld (.t 112) 1 false, none⟩),
([], ⟨(some 114), .bin .eql (.t 110) (.t 113), none⟩)]) ( .cond (.t 114) (
.seq ( .region [
 ⟨(some 4), .mv (.c (.i .i64 4)), none⟩]) ( .ret)) ( .skip))) (
.seq ( .region [
 ⟨(some 6), .mv (.t 1), none⟩,
⟨(some 7), .callf 219 [(.t 6), (.c (.i .i64 4))], none⟩]) ( .cond (.t 7) (
.seq ( .region [
 ⟨(some 4), .mv (.c (.i .i64 4)), none⟩]) ( .ret)) ( .skip))))))))))))))))))))))))))) (
.seq ( .region [
 ⟨(some 4), .mv (.c (.i .i64 0)), none⟩]) ( .ret))), [.tmp 4], false, none⟩
theorem k157 : CodeOk Tryz.prog 157 c157 := codeOk (hs := []) Tryz.func157 (by kernel_rfl)
end Go.Proofs.YtfenhjpkomldcaaGreat
