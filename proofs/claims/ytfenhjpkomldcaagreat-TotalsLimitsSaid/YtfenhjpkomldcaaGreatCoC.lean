/- The codes of functions of the program, as the evaluator reads them; that each is what its compiler makes of the model's function. Conditions: none. -/
import Derived.Test.YtfenhjpkomldcaaGreatEvF
import Derived.Test.YtfenhjpkomldcaaGreatChecked
import Derived.KernelRfl
set_option maxRecDepth 100000
namespace Go.Proofs.YtfenhjpkomldcaaGreat
open Go Go.Ev
def c166_L1 : ACode :=
.seq (
.seq ( .region [
 ⟨(some 13), .mv (.t 8), none⟩,
⟨(some 14), .fa (.t 2) 3, none⟩,
⟨(some 15), .ld (.t 14) 1 false, none⟩,
⟨(some 16), .lenV (.t 15), none⟩,
⟨(some 17), .bin .lss (.t 13) (.t 16), none⟩,
⟨(some 18), .mv (.t 17), none⟩,
⟨(some 19), .mv (.t 6), (some (18, true))⟩,
⟨(some 20), .bin .leq (.t 19) (.c (.i .i64 200)), (some (18, true))⟩,
⟨(some 21), .pick (.t 18) (.t 20) (.c (.b false)), none⟩]) ( .cond (.t 21) ( .skip) ( .exit 0))) (
.seq ( .block 1 (
.seq ( .region [
 ⟨(some 25), .fa (.t 2) 3, none⟩,
⟨(some 26), .ld (.t 25) 1 false, none⟩,
⟨(some 27), .mv (.t 8), none⟩,
⟨(some 28), .ia (.t 26) (.t 27) 4, none⟩,
⟨(some 29), .ld (.t 28) 4 true, none⟩,
⟨(some 30), .mv (.t 1), none⟩,
⟨(some 31), .bin .add (.t 30) (.c (.i .i64 1)), none⟩,
⟨(some 32), .callf 166 [(.t 29), (.t 31)], none⟩,
⟨(some 24), .mv (.t 32), none⟩,
⟨(some 33), .ext (.t 24) 0, none⟩,
⟨(some 34), .ext (.t 24) 1, none⟩,
⟨(some 9), .mv (.t 33), none⟩,
⟨(some 10), .mv (.t 34), none⟩]) ( .region [
 ⟨(some 35), .mv (.t 6), none⟩,
⟨(some 36), .mv (.t 9), none⟩,
⟨(some 37), .bin .add (.t 35) (.t 36), none⟩,
⟨(some 38), .mv (.t 7), none⟩,
⟨(some 39), .mv (.t 10), none⟩,
⟨(some 40), .bin .add (.t 39) (.c (.i .i64 1)), none⟩,
⟨(some 41), .mm true [(.t 38), (.t 40)], none⟩,
⟨(some 6), .mv (.t 37), none⟩,
⟨(some 7), .mv (.t 41), none⟩]))) ( .region [
 ⟨(some 22), .mv (.t 8), none⟩,
⟨(some 23), .bin .add (.t 22) (.c (.i .i64 1)), none⟩,
⟨(some 8), .mv (.t 23), none⟩]))
def c166 : AFunc := ⟨44,
.seq ( .region [
 ⟨(some 2), .box (.t 0) false, none⟩,
⟨(some 4), .mv (.c (.i .i64 0)), none⟩,
⟨(some 5), .mv (.c (.i .i64 0)), none⟩]) (
.seq ( .region [
 ⟨(some 6), .mv (.c (.i .i64 1)), none⟩,
⟨(some 7), .mv (.c (.i .i64 1)), none⟩]) (
.seq (
.seq ( .region [
 ⟨(some 11), .mv (.t 1), none⟩,
⟨(some 12), .bin .gtr (.t 11) (.c (.i .i64 16)), none⟩]) ( .cond (.t 12) (
.seq ( .region [
 ⟨(some 4), .mv (.c (.i .i64 1)), none⟩,
⟨(some 5), .mv (.c (.i .i64 1)), none⟩]) ( .ret)) ( .skip))) (
.seq (
.seq ( .region [
 ⟨(some 8), .mv (.c (.i .i64 0)), none⟩]) ( .block 0 ( .loop c166_L1))) (
.seq ( .region [
 ⟨(some 42), .mv (.t 6), none⟩,
⟨(some 43), .mv (.t 7), none⟩,
⟨(some 4), .mv (.t 42), none⟩,
⟨(some 5), .mv (.t 43), none⟩]) ( .ret))))), [.tmp 4, .tmp 5], false, none⟩
theorem k166 : CodeOk Tryz.prog 166 c166 := codeOk (hs := []) Tryz.func166 (by kernel_rfl)
def c167 : AFunc := ⟨21,
.seq ( .region [
 ⟨(some 2), .mv (.c (.i .i64 0)), none⟩,
⟨(some 3), .mv (.c (.i .i64 0)), none⟩]) (
.seq (
.seq ( .region [
 ⟨(some 4), .mv (.t 0), none⟩]) ( .block 0 (
.seq (
.seq ( .region [
 ⟨(some 6), .bin .eql (.t 4) (.c (.i .i64 1)), none⟩,
⟨(some 5), .mv (.t 6), none⟩]) ( .cond (.t 5) ( .skip) (
.seq ( .region [
 ⟨(some 7), .bin .eql (.t 4) (.c (.i .i64 2)), none⟩,
⟨(some 5), .mv (.t 7), none⟩]) ( .cond (.t 5) ( .skip) (
.seq ( .region [
 ⟨(some 8), .bin .eql (.t 4) (.c (.i .i64 3)), none⟩,
⟨(some 5), .mv (.t 8), none⟩]) ( .cond (.t 5) ( .skip) (
.seq ( .region [
 ⟨(some 9), .bin .eql (.t 4) (.c (.i .i64 4)), none⟩,
⟨(some 5), .mv (.t 9), none⟩]) ( .cond (.t 5) ( .skip) (
.seq ( .region [
 ⟨(some 10), .bin .eql (.t 4) (.c (.i .i64 5)), none⟩,
⟨(some 5), .mv (.t 10), none⟩]) ( .cond (.t 5) ( .skip) ( .region [
 ⟨(some 11), .bin .eql (.t 4) (.c (.i .i64 6)), none⟩,
⟨(some 5), .mv (.t 11), none⟩]))))))))))) ( .cond (.t 5) (
.seq ( .region [
 ⟨(some 2), .mv (.c (.i .i64 0)), none⟩,
⟨(some 3), .mv (.c (.i .i64 0)), none⟩]) ( .ret)) (
.seq (
.seq ( .region [
 ⟨(some 13), .bin .eql (.t 4) (.c (.i .i64 7)), none⟩,
⟨(some 12), .mv (.t 13), none⟩]) ( .cond (.t 12) ( .skip) ( .region [
 ⟨(some 14), .bin .eql (.t 4) (.c (.i .i64 19)), none⟩,
⟨(some 12), .mv (.t 14), none⟩]))) ( .cond (.t 12) (
.seq ( .region [
 ⟨(some 2), .mv (.c (.i .i64 1)), none⟩,
⟨(some 3), .mv (.c (.i .i64 1)), none⟩]) ( .ret)) (
.seq (
.seq ( .region [
 ⟨(some 16), .bin .eql (.t 4) (.c (.i .i64 12)), none⟩,
⟨(some 15), .mv (.t 16), none⟩]) ( .cond (.t 15) ( .skip) ( .region [
 ⟨(some 17), .bin .eql (.t 4) (.c (.i .i64 13)), none⟩,
⟨(some 15), .mv (.t 17), none⟩]))) ( .cond (.t 15) (
.seq ( .region [
 ⟨(some 2), .mv (.c (.i .i64 2)), none⟩,
⟨(some 3), .mv (.c (.i .i64 200)), none⟩]) ( .ret)) (
.seq (
.seq ( .region [
 ⟨(some 19), .bin .eql (.t 4) (.c (.i .i64 14)), none⟩,
⟨(some 18), .mv (.t 19), none⟩]) ( .cond (.t 18) ( .skip) ( .region [
 ⟨(some 20), .bin .eql (.t 4) (.c (.i .i64 15)), none⟩,
⟨(some 18), .mv (.t 20), none⟩]))) ( .cond (.t 18) (
.seq ( .region [
 ⟨(some 2), .mv (.c (.i .i64 3)), none⟩,
⟨(some 3), .mv (.c (.i .i64 3)), none⟩]) ( .ret)) ( .skip))))))))))) (
.seq ( .region [
 ⟨(some 2), .mv (.c (.i .i64 2)), none⟩,
⟨(some 3), .mv (.c (.i .i64 2)), none⟩]) ( .ret))), [.tmp 2, .tmp 3], false, none⟩
theorem k167 : CodeOk Tryz.prog 167 c167 := codeOk (hs := []) Tryz.func167 (by kernel_rfl)
def c168 : AFunc := ⟨21,
.seq ( .region [
 ⟨(some 2), .mv (.c (.b false)), none⟩]) (
.seq ( .region [
 ⟨(some 4), .mv (.t 0), none⟩,
⟨(some 5), .callf 223 [(.t 4), (.c (.i .u8 46))], none⟩,
⟨(some 3), .mv (.t 5), none⟩]) (
.seq (
.seq ( .region [
 ⟨(some 6), .mv (.t 3), none⟩,
⟨(some 7), .bin .lss (.t 6) (.c (.i .i64 0)), none⟩]) ( .cond (.t 7) (
.seq ( .region [
 ⟨(some 8), .mv (.t 0), none⟩,
⟨(some 9), .callf 126 [(.t 8)], none⟩,
⟨(some 2), .mv (.t 9), none⟩]) ( .ret)) ( .skip))) (
.seq ( .region [
 ⟨(some 10), .mv (.t 0), none⟩,
⟨(some 11), .mv (.t 3), none⟩,
⟨(some 12), .slS (.t 10) none (some (.t 11)), none⟩,
⟨(some 13), .callf 182 [(.t 12)], none⟩,
⟨(some 14), .mv (.t 13), none⟩,
⟨(some 15), .mv (.t 0), (some (14, true))⟩,
⟨(some 16), .mv (.t 3), (some (14, true))⟩,
⟨(some 17), .bin .add (.t 16) (.c (.i .i64 1)), (some (14, true))⟩,
⟨(some 18), .slS (.t 15) (some (.t 17)) none, (some (14, true))⟩,
⟨(some 19), .callf 182 [(.t 18)], (some (14, true))⟩,
⟨(some 20), .pick (.t 14) (.t 19) (.c (.b false)), none⟩,
⟨(some 2), .mv (.t 20), none⟩]) ( .ret)))), [.tmp 2], false, none⟩
theorem k168 : CodeOk Tryz.prog 168 c168 := codeOk (hs := []) Tryz.func168 (by kernel_rfl)
def c169 : AFunc := ⟨15,
.seq ( .region [
 ⟨(some 6), .mv (.c (.b false)), none⟩]) (
.seq ( .region [
 ⟨(some 7), .mv (.t 0), none⟩,
⟨(some 8), .mv (.t 1), none⟩,
⟨(some 9), .bin .geq (.t 7) (.t 8), none⟩,
⟨(some 10), .mv (.t 9), none⟩,
⟨(some 11), .mv (.t 0), (some (10, true))⟩,
⟨(some 12), .mv (.t 2), (some (10, true))⟩,
⟨(some 13), .bin .leq (.t 11) (.t 12), (some (10, true))⟩,
⟨(some 14), .pick (.t 10) (.t 13) (.c (.b false)), none⟩,
⟨(some 6), .mv (.t 14), none⟩]) ( .ret)), [.tmp 6], false, none⟩
theorem k169 : CodeOk Tryz.prog 169 c169 := codeOk (hs := []) Tryz.func169 (by kernel_rfl)
def c170_L1 : ACode :=
.seq ( .region [
 ⟨(some 11), .bin .lss (.t 10) (.t 9), none⟩]) (
.seq ( .cond (.t 11) ( .skip) ( .exit 0)) (
.seq ( .block 1 (
.seq ( .region [
 ⟨(some 12), .ia (.t 8) (.t 10) 5, none⟩,
⟨(some 13), .ld (.t 12) 5 true, none⟩,
⟨(some 5), .alloc [(.s []), (.i .i64 0), (.i .i64 0), (.s []), .nilsl] false, none⟩,
⟨none, .st (.t 5) (.t 13) 5, none⟩]) (
.seq (
.seq ( .region [
 ⟨(some 14), .fa (.t 5) 0, none⟩,
⟨(some 15), .ld (.t 14) 1 false, none⟩,
⟨(some 16), .callf 218 [(.t 15)], none⟩,
⟨(some 17), .un .not (.t 16), none⟩]) ( .cond (.t 17) (
.seq ( .region [
 ⟨(some 2), .mv (.c (.i .i64 1)), none⟩]) ( .ret)) ( .skip))) (
.seq (
.seq ( .region [
 ⟨(some 18), .mv (.t 3), none⟩,
⟨(some 19), .fa (.t 5) 0, none⟩,
⟨(some 20), .ld (.t 19) 1 false, none⟩,
⟨(some 21), .lk (.one .str) (.t 18) (.t 20) (.b false) false, none⟩]) ( .cond (.t 21) (
.seq ( .region [
 ⟨(some 2), .mv (.c (.i .i64 7)), none⟩]) ( .ret)) ( .skip))) (
.seq ( .region [
 ⟨(some 22), .mv (.t 3), none⟩,
⟨(some 23), .fa (.t 5) 0, none⟩,
⟨(some 24), .ld (.t 23) 1 false, none⟩,
⟨none, .mu (.one .str) (.t 22) (.t 24) (.c (.b true)), none⟩]) (
.seq ( .region [
 ⟨(some 25), .fa (.t 5) 1, none⟩,
⟨(some 26), .ld (.t 25) 4 true, none⟩,
⟨(some 27), .callf 55 [(.t 26)], none⟩,
⟨(some 6), .mv (.t 27), none⟩]) (
.seq ( .region [
 ⟨(some 28), .mv (.t 6), none⟩,
⟨(some 29), .bin .neq (.t 28) (.c (.i .i64 0)), none⟩]) ( .cond (.t 29) (
.seq ( .region [
 ⟨(some 30), .mv (.t 6), none⟩,
⟨(some 2), .mv (.t 30), none⟩]) ( .ret)) ( .skip))))))))) ( .region [
 ⟨(some 31), .bin .add (.t 10) (.c (.i .i64 1)), none⟩,
⟨(some 10), .mv (.t 31), none⟩])))
def c170 : AFunc := ⟨32,
.seq ( .region [
 ⟨(some 2), .mv (.c (.i .i64 0)), none⟩]) (
.seq ( .region [
 ⟨(some 7), .mkmap false, none⟩,
⟨(some 3), .mv (.t 7), none⟩]) (
.seq (
.seq ( .region [
 ⟨(some 8), .mv (.t 0), none⟩,
⟨(some 9), .lenV (.t 8), none⟩,
⟨(some 10), .mv (.c (.i .i64 0)), none⟩]) ( .block 0 ( .loop c170_L1))) (
.seq ( .region [
 ⟨(some 2), .mv (.c (.i .i64 0)), none⟩]) ( .ret)))), [.tmp 2], false, none⟩
theorem k170 : CodeOk Tryz.prog 170 c170 := codeOk (hs := []) Tryz.func170 (by kernel_rfl)
def c171_L1 : ACode :=
.seq ( .region [
 ⟨(some 12), .bin .lss (.t 11) (.t 10), none⟩]) (
.seq ( .cond (.t 12) ( .skip) ( .exit 0)) (
.seq ( .block 1 (
.seq ( .region [
 ⟨(some 13), .ia (.t 9) (.t 11) 6, none⟩,
⟨(some 14), .ld (.t 13) 6 true, none⟩,
⟨(some 5), .alloc [(.i .i64 0), (.s []), (.i .i64 0), (.i .i64 0), (.s []), .nilsl] false, none⟩,
⟨none, .st (.t 5) (.t 14) 6, none⟩]) (
.seq (
.seq ( .region [
 ⟨(some 15), .fa (.t 5) 0, none⟩,
⟨(some 16), .ld (.t 15) 1 false, none⟩,
⟨(some 17), .callf 172 [(.t 16)], none⟩,
⟨(some 18), .un .not (.t 17), none⟩,
⟨(some 19), .mv (.t 18), none⟩,
⟨(some 20), .fa (.t 5) 1, (some (19, false))⟩,
⟨(some 21), .ld (.t 20) 1 false, (some (19, false))⟩,
⟨(some 22), .callf 218 [(.t 21)], (some (19, false))⟩,
⟨(some 23), .un .not (.t 22), (some (19, false))⟩,
⟨(some 24), .pick (.t 19) (.c (.b true)) (.t 23), none⟩]) ( .cond (.t 24) (
.seq ( .region [
 ⟨(some 2), .mv (.c (.i .i64 1)), none⟩]) ( .ret)) ( .skip))) (
.seq ( .region [
 ⟨(some 25), .fa (.t 5) 0, none⟩,
⟨(some 26), .ld (.t 25) 1 false, none⟩,
⟨(some 27), .fa (.t 5) 1, none⟩,
⟨(some 28), .ld (.t 27) 1 false, none⟩,
⟨(some 29), .build [(.i .i64 0), (.s [])] [(0, 1, (.t 26)), (1, 1, (.t 28))], none⟩,
⟨(some 6), .alloc [(.i .i64 0), (.s [])] false, none⟩,
⟨none, .st (.t 6) (.t 29) 2, none⟩]) (
.seq (
.seq ( .region [
 ⟨(some 30), .mv (.t 3), none⟩,
⟨(some 31), .ld (.t 6) 2 true, none⟩,
⟨(some 32), .lk (.flat [.int, .str]) (.t 30) (.t 31) (.b false) false, none⟩]) ( .cond (.t 32) (
.seq ( .region [
 ⟨(some 2), .mv (.c (.i .i64 7)), none⟩]) ( .ret)) ( .skip))) (
.seq ( .region [
 ⟨(some 33), .mv (.t 3), none⟩,
⟨(some 34), .ld (.t 6) 2 true, none⟩,
⟨none, .mu (.flat [.int, .str]) (.t 33) (.t 34) (.c (.b true)), none⟩]) (
.seq ( .region [
 ⟨(some 35), .fa (.t 5) 2, none⟩,
⟨(some 36), .ld (.t 35) 4 true, none⟩,
⟨(some 37), .callf 55 [(.t 36)], none⟩,
⟨(some 7), .mv (.t 37), none⟩]) (
.seq ( .region [
 ⟨(some 38), .mv (.t 7), none⟩,
⟨(some 39), .bin .neq (.t 38) (.c (.i .i64 0)), none⟩]) ( .cond (.t 39) (
.seq ( .region [
 ⟨(some 40), .mv (.t 7), none⟩,
⟨(some 2), .mv (.t 40), none⟩]) ( .ret)) ( .skip)))))))))) ( .region [
 ⟨(some 41), .bin .add (.t 11) (.c (.i .i64 1)), none⟩,
⟨(some 11), .mv (.t 41), none⟩])))
def c171 : AFunc := ⟨42,
.seq ( .region [
 ⟨(some 2), .mv (.c (.i .i64 0)), none⟩]) (
.seq ( .region [
 ⟨(some 8), .mkmap false, none⟩,
⟨(some 3), .mv (.t 8), none⟩]) (
.seq (
.seq ( .region [
 ⟨(some 9), .mv (.t 0), none⟩,
⟨(some 10), .lenV (.t 9), none⟩,
⟨(some 11), .mv (.c (.i .i64 0)), none⟩]) ( .block 0 ( .loop c171_L1))) (
.seq ( .region [
 ⟨(some 2), .mv (.c (.i .i64 0)), none⟩]) ( .ret)))), [.tmp 2], false, none⟩
theorem k171 : CodeOk Tryz.prog 171 c171 := codeOk (hs := []) Tryz.func171 (by kernel_rfl)
def c172 : AFunc := ⟨5,
.seq ( .region [
 ⟨(some 2), .mv (.c (.b false)), none⟩]) (
.seq ( .region [
 ⟨(some 3), .mv (.t 0), none⟩,
⟨(some 4), .callf 169 [(.t 3), (.c (.i .i64 1)), (.c (.i .i64 3))], none⟩,
⟨(some 2), .mv (.t 4), none⟩]) ( .ret)), [.tmp 2], false, none⟩
theorem k172 : CodeOk Tryz.prog 172 c172 := codeOk (hs := []) Tryz.func172 (by kernel_rfl)
def c173_L1 : ACode :=
.seq ( .region [
 ⟨(some 50), .bin .lss (.t 49) (.t 48), none⟩]) (
.seq ( .cond (.t 50) ( .skip) ( .exit 3)) (
.seq ( .block 4 (
.seq ( .region [
 ⟨(some 51), .ia (.t 47) (.t 49) 3, none⟩,
⟨(some 52), .ld (.t 51) 3 true, none⟩,
⟨(some 7), .alloc [(.s []), (.i .i64 0), (.i .i64 0)] false, none⟩,
⟨none, .st (.t 7) (.t 52) 3, none⟩]) (
.seq ( .block 5 (
.seq ( .region [
 ⟨(some 54), .fa (.t 7) 0, none⟩,
⟨(some 55), .ld (.t 54) 1 false, none⟩,
⟨(some 56), .callf 218 [(.t 55)], none⟩,
⟨(some 57), .un .not (.t 56), none⟩,
⟨(some 53), .mv (.t 57), none⟩]) ( .cond (.t 53) (
.seq ( .region [
 ⟨(some 2), .mv (.c (.i .i64 1)), none⟩]) ( .ret)) (
.seq ( .region [
 ⟨(some 59), .mv (.t 3), none⟩,
⟨(some 60), .fa (.t 7) 0, none⟩,
⟨(some 61), .ld (.t 60) 1 false, none⟩,
⟨(some 62), .lk (.one .str) (.t 59) (.t 61) (.b false) false, none⟩,
⟨(some 58), .mv (.t 62), none⟩]) ( .cond (.t 58) (
.seq ( .region [
 ⟨(some 2), .mv (.c (.i .i64 7)), none⟩]) ( .ret)) (
.seq ( .region [
 ⟨(some 64), .fa (.t 7) 2, none⟩,
⟨(some 65), .ld (.t 64) 1 false, none⟩,
⟨(some 66), .callf 169 [(.t 65), (.c (.i .i64 1)), (.c (.i .i64 31))], none⟩,
⟨(some 67), .un .not (.t 66), none⟩,
⟨(some 68), .mv (.t 67), none⟩,
⟨(some 69), .fa (.t 7) 1, (some (68, false))⟩,
⟨(some 70), .ld (.t 69) 1 false, (some (68, false))⟩,
⟨(some 71), .fa (.t 7) 2, (some (68, false))⟩,
⟨(some 72), .ld (.t 71) 1 false, (some (68, false))⟩,
⟨(some 73), .callf 169 [(.t 70), (.c (.i .i64 1)), (.t 72)], (some (68, false))⟩,
⟨(some 74), .un .not (.t 73), (some (68, false))⟩,
⟨(some 75), .pick (.t 68) (.c (.b true)) (.t 74), none⟩,
⟨(some 63), .mv (.t 75), none⟩]) ( .cond (.t 63) (
.seq ( .region [
 ⟨(some 2), .mv (.c (.i .i64 5)), none⟩]) ( .ret)) ( .skip)))))))) ( .region [
 ⟨(some 76), .mv (.t 3), none⟩,
⟨(some 77), .fa (.t 7) 0, none⟩,
⟨(some 78), .ld (.t 77) 1 false, none⟩,
⟨none, .mu (.one .str) (.t 76) (.t 78) (.c (.b true)), none⟩])))) ( .region [
 ⟨(some 79), .bin .add (.t 49) (.c (.i .i64 1)), none⟩,
⟨(some 49), .mv (.t 79), none⟩])))
def c173_L2 : ACode :=
.seq ( .region [
 ⟨(some 13), .bin .lss (.t 12) (.t 11), none⟩]) (
.seq ( .cond (.t 13) ( .skip) ( .exit 0)) (
.seq ( .block 1 (
.seq ( .region [
 ⟨(some 14), .ia (.t 10) (.t 12) 4, none⟩,
⟨(some 15), .ld (.t 14) 4 true, none⟩,
⟨(some 5), .alloc [(.s []), (.s []), (.i .i64 0), (.i .i64 0)] false, none⟩,
⟨none, .st (.t 5) (.t 15) 4, none⟩]) (
.seq ( .block 2 (
.seq ( .region [
 ⟨(some 17), .fa (.t 5) 0, none⟩,
⟨(some 18), .ld (.t 17) 1 false, none⟩,
⟨(some 19), .callf 218 [(.t 18)], none⟩,
⟨(some 20), .un .not (.t 19), none⟩,
⟨(some 16), .mv (.t 20), none⟩]) ( .cond (.t 16) (
.seq ( .region [
 ⟨(some 2), .mv (.c (.i .i64 1)), none⟩]) ( .ret)) (
.seq ( .region [
 ⟨(some 22), .mv (.t 3), none⟩,
⟨(some 23), .fa (.t 5) 0, none⟩,
⟨(some 24), .ld (.t 23) 1 false, none⟩,
⟨(some 25), .lk (.one .str) (.t 22) (.t 24) (.b false) false, none⟩,
⟨(some 21), .mv (.t 25), none⟩]) ( .cond (.t 21) (
.seq ( .region [
 ⟨(some 2), .mv (.c (.i .i64 7)), none⟩]) ( .ret)) (
.seq ( .region [
 ⟨(some 27), .fa (.t 5) 1, none⟩,
⟨(some 28), .ld (.t 27) 1 false, none⟩,
⟨(some 29), .callf 224 [(.t 28)], none⟩,
⟨(some 30), .bin .eql (.t 29) (.c (.i .i64 0)), none⟩,
⟨(some 26), .mv (.t 30), none⟩]) ( .cond (.t 26) (
.seq ( .region [
 ⟨(some 2), .mv (.c (.i .i64 6)), none⟩]) ( .ret)) (
.seq ( .region [
 ⟨(some 32), .fa (.t 5) 2, none⟩,
⟨(some 33), .ld (.t 32) 1 false, none⟩,
⟨(some 34), .callf 169 [(.t 33), (.c (.i .i64 0)), (.c (.i .i64 599999))], none⟩,
⟨(some 35), .un .not (.t 34), none⟩,
⟨(some 36), .mv (.t 35), none⟩,
⟨(some 37), .fa (.t 5) 3, (some (36, false))⟩,
⟨(some 38), .ld (.t 37) 1 false, (some (36, false))⟩,
⟨(some 39), .callf 169 [(.t 38), (.c (.i .i64 1)), (.c (.i .i64 31))], (some (36, false))⟩,
⟨(some 40), .un .not (.t 39), (some (36, false))⟩,
⟨(some 41), .pick (.t 36) (.c (.b true)) (.t 40), none⟩,
⟨(some 31), .mv (.t 41), none⟩]) ( .cond (.t 31) (
.seq ( .region [
 ⟨(some 2), .mv (.c (.i .i64 5)), none⟩]) ( .ret)) ( .skip)))))))))) ( .region [
 ⟨(some 42), .mv (.t 3), none⟩,
⟨(some 43), .fa (.t 5) 0, none⟩,
⟨(some 44), .ld (.t 43) 1 false, none⟩,
⟨none, .mu (.one .str) (.t 42) (.t 44) (.c (.b true)), none⟩])))) ( .region [
 ⟨(some 45), .bin .add (.t 12) (.c (.i .i64 1)), none⟩,
⟨(some 12), .mv (.t 45), none⟩])))
def c173 : AFunc := ⟨80,
.seq ( .region [
 ⟨(some 1), .box (.t 0) false, none⟩,
⟨(some 2), .mv (.c (.i .i64 0)), none⟩]) (
.seq ( .region [
 ⟨(some 8), .mkmap false, none⟩,
⟨(some 3), .mv (.t 8), none⟩]) (
.seq (
.seq ( .region [
 ⟨(some 9), .fa (.t 1) 11, none⟩,
⟨(some 10), .ld (.t 9) 1 false, none⟩,
⟨(some 11), .lenV (.t 10), none⟩,
⟨(some 12), .mv (.c (.i .i64 0)), none⟩]) ( .block 0 ( .loop c173_L2))) (
.seq (
.seq ( .region [
 ⟨(some 46), .fa (.t 1) 12, none⟩,
⟨(some 47), .ld (.t 46) 1 false, none⟩,
⟨(some 48), .lenV (.t 47), none⟩,
⟨(some 49), .mv (.c (.i .i64 0)), none⟩]) ( .block 3 ( .loop c173_L1))) (
.seq ( .region [
 ⟨(some 2), .mv (.c (.i .i64 0)), none⟩]) ( .ret))))), [.tmp 2], false, none⟩
theorem k173 : CodeOk Tryz.prog 173 c173 := codeOk (hs := []) Tryz.func173 (by kernel_rfl)
def c174_L1 : ACode :=
.seq ( .region [
 ⟨(some 16), .bin .lss (.t 15) (.t 14), none⟩]) (
.seq ( .cond (.t 16) ( .skip) ( .exit 0)) (
.seq ( .block 1 (
.seq ( .region [
 ⟨(some 17), .mv (.t 15), none⟩,
⟨(some 3), .mv (.t 17), none⟩]) (
.seq ( .region [
 ⟨(some 18), .mv (.t 0), none⟩,
⟨(some 19), .mv (.t 3), none⟩,
⟨(some 20), .ixS (.t 18) (.t 19), none⟩,
⟨(some 4), .mv (.t 20), none⟩]) ( .block 2 (
.seq ( .region [
 ⟨(some 22), .mv (.t 4), none⟩,
⟨(some 23), .bin .geq (.t 22) (.c (.i .u8 97)), none⟩,
⟨(some 24), .mv (.t 23), none⟩,
⟨(some 25), .mv (.t 4), (some (24, true))⟩,
⟨(some 26), .bin .leq (.t 25) (.c (.i .u8 122)), (some (24, true))⟩,
⟨(some 27), .pick (.t 24) (.t 26) (.c (.b false)), none⟩,
⟨(some 21), .mv (.t 27), none⟩]) ( .cond (.t 21) ( .skip) (
.seq ( .region [
 ⟨(some 29), .mv (.t 3), none⟩,
⟨(some 30), .bin .gtr (.t 29) (.c (.i .i64 0)), none⟩,
⟨(some 31), .mv (.t 30), none⟩,
⟨(some 32), .mv (.t 4), (some (31, true))⟩,
⟨(some 33), .bin .geq (.t 32) (.c (.i .u8 48)), (some (31, true))⟩,
⟨(some 34), .mv (.t 33), (some (31, true))⟩,
⟨(some 35), .mv (.t 4), (some (34, true))⟩,
⟨(some 36), .bin .leq (.t 35) (.c (.i .u8 57)), (some (34, true))⟩,
⟨(some 37), .pick (.t 34) (.t 36) (.c (.b false)), (some (31, true))⟩,
⟨(some 38), .mv (.t 37), (some (31, true))⟩,
⟨(some 39), .mv (.t 4), (some (38, false))⟩,
⟨(some 40), .bin .eql (.t 39) (.c (.i .u8 95)), (some (38, false))⟩,
⟨(some 41), .pick (.t 38) (.c (.b true)) (.t 40), (some (31, true))⟩,
⟨(some 42), .pick (.t 31) (.t 41) (.c (.b false)), none⟩,
⟨(some 28), .mv (.t 42), none⟩]) ( .cond (.t 28) ( .skip) (
.seq ( .region [
 ⟨(some 2), .mv (.c (.b false)), none⟩]) ( .ret)))))))))) ( .region [
 ⟨(some 43), .bin .add (.t 15) (.c (.i .i64 1)), none⟩,
⟨(some 15), .mv (.t 43), none⟩])))
def c174 : AFunc := ⟨44,
.seq ( .region [
 ⟨(some 2), .mv (.c (.b false)), none⟩]) (
.seq (
.seq ( .region [
 ⟨(some 5), .mv (.t 0), none⟩,
⟨(some 6), .lenS (.t 5), none⟩,
⟨(some 7), .bin .lss (.t 6) (.c (.i .i64 1)), none⟩,
⟨(some 8), .mv (.t 7), none⟩,
⟨(some 9), .mv (.t 0), (some (8, false))⟩,
⟨(some 10), .lenS (.t 9), (some (8, false))⟩,
⟨(some 11), .bin .gtr (.t 10) (.c (.i .i64 16)), (some (8, false))⟩,
⟨(some 12), .pick (.t 8) (.c (.b true)) (.t 11), none⟩]) ( .cond (.t 12) (
.seq ( .region [
 ⟨(some 2), .mv (.c (.b false)), none⟩]) ( .ret)) ( .skip))) (
.seq (
.seq ( .region [
 ⟨(some 13), .mv (.t 0), none⟩,
⟨(some 14), .lenS (.t 13), none⟩,
⟨(some 15), .mv (.c (.i .i64 0)), none⟩]) ( .block 0 ( .loop c174_L1))) (
.seq ( .region [
 ⟨(some 2), .mv (.c (.b true)), none⟩]) ( .ret)))), [.tmp 2], false, none⟩
theorem k174 : CodeOk Tryz.prog 174 c174 := codeOk (hs := []) Tryz.func174 (by kernel_rfl)
def c175 : AFunc := ⟨9,
.seq ( .region [
 ⟨(some 2), .mv (.c (.b false)), none⟩]) (
.seq ( .region [
 ⟨(some 3), .mv (.t 0), none⟩,
⟨(some 4), .bin .geq (.t 3) (.c (.i .i64 (-840))), none⟩,
⟨(some 5), .mv (.t 4), none⟩,
⟨(some 6), .mv (.t 0), (some (5, true))⟩,
⟨(some 7), .bin .leq (.t 6) (.c (.i .i64 840)), (some (5, true))⟩,
⟨(some 8), .pick (.t 5) (.t 7) (.c (.b false)), none⟩,
⟨(some 2), .mv (.t 8), none⟩]) ( .ret)), [.tmp 2], false, none⟩
theorem k175 : CodeOk Tryz.prog 175 c175 := codeOk (hs := []) Tryz.func175 (by kernel_rfl)
def c176 : AFunc := ⟨9,
.seq ( .region [
 ⟨(some 2), .mv (.c (.b false)), none⟩]) (
.seq ( .region [
 ⟨(some 3), .mv (.t 0), none⟩,
⟨(some 4), .bin .geq (.t 3) (.c (.i .i64 0)), none⟩,
⟨(some 5), .mv (.t 4), none⟩,
⟨(some 6), .mv (.t 0), (some (5, true))⟩,
⟨(some 7), .bin .lss (.t 6) (.c (.i .i64 52596000)), (some (5, true))⟩,
⟨(some 8), .pick (.t 5) (.t 7) (.c (.b false)), none⟩,
⟨(some 2), .mv (.t 8), none⟩]) ( .ret)), [.tmp 2], false, none⟩
theorem k176 : CodeOk Tryz.prog 176 c176 := codeOk (hs := []) Tryz.func176 (by kernel_rfl)
def c177 : AFunc := ⟨20,
.seq ( .region [
 ⟨(some 2), .box (.t 0) false, none⟩,
⟨(some 4), .mv (.c (.i .i64 0)), none⟩,
⟨(some 5), .mv (.c (.i .i64 0)), none⟩]) (
.seq ( .region [
 ⟨(some 9), .ld (.t 2) 3 true, none⟩,
⟨(some 10), .mv (.t 1), none⟩,
⟨(some 11), .callf 225 [(.t 9), (.t 10)], none⟩,
⟨(some 8), .mv (.t 11), none⟩,
⟨(some 12), .ext (.t 8) 0, none⟩,
⟨(some 13), .ext (.t 8) 1, none⟩,
⟨(some 6), .mv (.t 12), none⟩,
⟨(some 7), .mv (.t 13), none⟩]) (
.seq (
.seq ( .region [
 ⟨(some 14), .mv (.t 7), none⟩,
⟨(some 15), .bin .neq (.t 14) (.c (.i .i64 0)), none⟩]) ( .cond (.t 15) (
.seq ( .region [
 ⟨(some 16), .mv (.t 7), none⟩,
⟨(some 4), .mv (.c (.i .i64 0)), none⟩,
⟨(some 5), .mv (.t 16), none⟩]) ( .ret)) ( .skip))) (
.seq ( .region [
 ⟨(some 17), .mv (.t 1), none⟩,
⟨(some 18), .mv (.t 6), none⟩,
⟨(some 19), .bin .add (.t 17) (.t 18), none⟩,
⟨(some 4), .mv (.t 19), none⟩,
⟨(some 5), .mv (.c (.i .i64 0)), none⟩]) ( .ret)))), [.tmp 4, .tmp 5], false, none⟩
theorem k177 : CodeOk Tryz.prog 177 c177 := codeOk (hs := []) Tryz.func177 (by kernel_rfl)
def c178 : AFunc := ⟨16,
.seq ( .region [
 ⟨(some 2), .mv (.c (.i .i64 0)), none⟩,
⟨(some 3), .mv (.c (.i .i64 0)), none⟩]) (
.seq ( .region [
 ⟨(some 4), .mv (.t 0), none⟩,
⟨(some 5), .bin .quo (.t 4) (.c (.i .i64 1440)), none⟩,
⟨(some 6), .mv (.t 0), none⟩,
⟨(some 7), .bin .rem (.t 6) (.c (.i .i64 1440)), none⟩,
⟨(some 2), .mv (.t 5), none⟩,
⟨(some 3), .mv (.t 7), none⟩]) (
.seq (
.seq ( .region [
 ⟨(some 8), .mv (.t 3), none⟩,
⟨(some 9), .bin .lss (.t 8) (.c (.i .i64 0)), none⟩]) ( .cond (.t 9) (
.seq ( .region [
 ⟨(some 10), .mv (.t 2), none⟩,
⟨(some 11), .bin .sub (.t 10) (.c (.i .i64 1)), none⟩,
⟨(some 2), .mv (.t 11), none⟩]) ( .region [
 ⟨(some 12), .mv (.t 3), none⟩,
⟨(some 13), .bin .add (.t 12) (.c (.i .i64 1440)), none⟩,
⟨(some 3), .mv (.t 13), none⟩])) ( .skip))) (
.seq ( .region [
 ⟨(some 14), .mv (.t 2), none⟩,
⟨(some 15), .mv (.t 3), none⟩,
⟨(some 2), .mv (.t 14), none⟩,
⟨(some 3), .mv (.t 15), none⟩]) ( .ret)))), [.tmp 2, .tmp 3], false, none⟩
theorem k178 : CodeOk Tryz.prog 178 c178 := codeOk (hs := []) Tryz.func178 (by kernel_rfl)
def c182_L1 : ACode :=
.seq (
.seq ( .region [
 ⟨(some 18), .mv (.t 3), none⟩,
⟨(some 19), .mv (.t 0), none⟩,
⟨(some 20), .lenS (.t 19), none⟩,
⟨(some 21), .bin .lss (.t 18) (.t 20), none⟩]) ( .cond (.t 21) ( .skip) ( .exit 0))) (
.seq ( .block 1 (
.seq ( .region [
 ⟨(some 24), .mv (.t 0), none⟩,
⟨(some 25), .mv (.t 3), none⟩,
⟨(some 26), .ixS (.t 24) (.t 25), none⟩,
⟨(some 27), .callf 228 [(.t 26)], none⟩,
⟨(some 28), .un .not (.t 27), none⟩,
⟨(some 29), .mv (.t 28), none⟩,
⟨(some 30), .mv (.t 0), (some (29, true))⟩,
⟨(some 31), .mv (.t 3), (some (29, true))⟩,
⟨(some 32), .ixS (.t 30) (.t 31), (some (29, true))⟩,
⟨(some 33), .callf 229 [(.t 32)], (some (29, true))⟩,
⟨(some 34), .un .not (.t 33), (some (29, true))⟩,
⟨(some 35), .pick (.t 29) (.t 34) (.c (.b false)), none⟩,
⟨(some 36), .mv (.t 35), none⟩,
⟨(some 37), .mv (.t 0), (some (36, true))⟩,
⟨(some 38), .mv (.t 3), (some (36, true))⟩,
⟨(some 39), .ixS (.t 37) (.t 38), (some (36, true))⟩,
⟨(some 40), .bin .neq (.t 39) (.c (.i .u8 95)), (some (36, true))⟩,
⟨(some 41), .pick (.t 36) (.t 40) (.c (.b false)), none⟩]) ( .cond (.t 41) (
.seq ( .region [
 ⟨(some 2), .mv (.c (.b false)), none⟩]) ( .ret)) ( .skip)))) ( .region [
 ⟨(some 22), .mv (.t 3), none⟩,
⟨(some 23), .bin .add (.t 22) (.c (.i .i64 1)), none⟩,
⟨(some 3), .mv (.t 23), none⟩]))
def c182 : AFunc := ⟨42,
.seq ( .region [
 ⟨(some 2), .mv (.c (.b false)), none⟩]) (
.seq (
.seq ( .region [
 ⟨(some 4), .mv (.t 0), none⟩,
⟨(some 5), .lenS (.t 4), none⟩,
⟨(some 6), .bin .lss (.t 5) (.c (.i .i64 1)), none⟩,
⟨(some 7), .mv (.t 6), none⟩,
⟨(some 8), .mv (.t 0), (some (7, false))⟩,
⟨(some 9), .lenS (.t 8), (some (7, false))⟩,
⟨(some 10), .bin .gtr (.t 9) (.c (.i .i64 16)), (some (7, false))⟩,
⟨(some 11), .pick (.t 7) (.c (.b true)) (.t 10), none⟩,
⟨(some 12), .mv (.t 11), none⟩,
⟨(some 13), .mv (.t 0), (some (12, false))⟩,
⟨(some 14), .ixS (.t 13) (.c (.i .i64 0)), (some (12, false))⟩,
⟨(some 15), .callf 228 [(.t 14)], (some (12, false))⟩,
⟨(some 16), .un .not (.t 15), (some (12, false))⟩,
⟨(some 17), .pick (.t 12) (.c (.b true)) (.t 16), none⟩]) ( .cond (.t 17) (
.seq ( .region [
 ⟨(some 2), .mv (.c (.b false)), none⟩]) ( .ret)) ( .skip))) (
.seq (
.seq ( .region [
 ⟨(some 3), .mv (.c (.i .i64 0)), none⟩]) ( .block 0 ( .loop c182_L1))) (
.seq ( .region [
 ⟨(some 2), .mv (.c (.b true)), none⟩]) ( .ret)))), [.tmp 2], false, none⟩
theorem k182 : CodeOk Tryz.prog 182 c182 := codeOk (hs := []) Tryz.func182 (by kernel_rfl)
def c183 : AFunc := ⟨9,
.seq ( .region [
 ⟨(some 2), .mv (.c (.b false)), none⟩]) (
.seq ( .region [
 ⟨(some 3), .mv (.t 0), none⟩,
⟨(some 4), .bin .geq (.t 3) (.c (.i .i64 (-840))), none⟩,
⟨(some 5), .mv (.t 4), none⟩,
⟨(some 6), .mv (.t 0), (some (5, true))⟩,
⟨(some 7), .bin .leq (.t 6) (.c (.i .i64 840)), (some (5, true))⟩,
⟨(some 8), .pick (.t 5) (.t 7) (.c (.b false)), none⟩,
⟨(some 2), .mv (.t 8), none⟩]) ( .ret)), [.tmp 2], false, none⟩
theorem k183 : CodeOk Tryz.prog 183 c183 := codeOk (hs := []) Tryz.func183 (by kernel_rfl)
def c184 : AFunc := ⟨9,
.seq ( .region [
 ⟨(some 2), .mv (.c (.b false)), none⟩]) (
.seq ( .region [
 ⟨(some 3), .mv (.t 0), none⟩,
⟨(some 4), .bin .geq (.t 3) (.c (.i .i64 0)), none⟩,
⟨(some 5), .mv (.t 4), none⟩,
⟨(some 6), .mv (.t 0), (some (5, true))⟩,
⟨(some 7), .bin .lss (.t 6) (.c (.i .i64 52596000)), (some (5, true))⟩,
⟨(some 8), .pick (.t 5) (.t 7) (.c (.b false)), none⟩,
⟨(some 2), .mv (.t 8), none⟩]) ( .ret)), [.tmp 2], false, none⟩
theorem k184 : CodeOk Tryz.prog 184 c184 := codeOk (hs := []) Tryz.func184 (by kernel_rfl)
def c185 : AFunc := ⟨20,
.seq ( .region [
 ⟨(some 2), .box (.t 0) false, none⟩,
⟨(some 4), .mv (.c (.i .i64 0)), none⟩,
⟨(some 5), .mv (.c (.i .i64 0)), none⟩]) (
.seq ( .region [
 ⟨(some 9), .ld (.t 2) 3 true, none⟩,
⟨(some 10), .mv (.t 1), none⟩,
⟨(some 11), .callf 230 [(.t 9), (.t 10)], none⟩,
⟨(some 8), .mv (.t 11), none⟩,
⟨(some 12), .ext (.t 8) 0, none⟩,
⟨(some 13), .ext (.t 8) 1, none⟩,
⟨(some 6), .mv (.t 12), none⟩,
⟨(some 7), .mv (.t 13), none⟩]) (
.seq (
.seq ( .region [
 ⟨(some 14), .mv (.t 7), none⟩,
⟨(some 15), .bin .neq (.t 14) (.c (.i .i64 0)), none⟩]) ( .cond (.t 15) (
.seq ( .region [
 ⟨(some 16), .mv (.t 7), none⟩,
⟨(some 4), .mv (.c (.i .i64 0)), none⟩,
⟨(some 5), .mv (.t 16), none⟩]) ( .ret)) ( .skip))) (
.seq ( .region [
 ⟨(some 17), .mv (.t 1), none⟩,
⟨(some 18), .mv (.t 6), none⟩,
⟨(some 19), .bin .add (.t 17) (.t 18), none⟩,
⟨(some 4), .mv (.t 19), none⟩,
⟨(some 5), .mv (.c (.i .i64 0)), none⟩]) ( .ret)))), [.tmp 4, .tmp 5], false, none⟩
theorem k185 : CodeOk Tryz.prog 185 c185 := codeOk (hs := []) Tryz.func185 (by kernel_rfl)
def c186 : AFunc := ⟨12,
.seq ( .region [
 ⟨(some 2), .mv (.c (.i .i64 0)), none⟩,
⟨(some 3), .mv (.c (.i .i64 0)), none⟩]) (
.seq ( .region [
 ⟨(some 5), .mv (.t 0), none⟩,
⟨(some 6), .callf 231 [(.t 5), (.c (.i .i64 1440))], none⟩,
⟨(some 4), .mv (.t 6), none⟩]) (
.seq ( .region [
 ⟨(some 7), .mv (.t 4), none⟩,
⟨(some 8), .mv (.t 0), none⟩,
⟨(some 9), .mv (.t 4), none⟩,
⟨(some 10), .bin .mul (.c (.i .i64 1440)) (.t 9), none⟩,
⟨(some 11), .bin .sub (.t 8) (.t 10), none⟩,
⟨(some 2), .mv (.t 7), none⟩,
⟨(some 3), .mv (.t 11), none⟩]) ( .ret))), [.tmp 2, .tmp 3], false, none⟩
theorem k186 : CodeOk Tryz.prog 186 c186 := codeOk (hs := []) Tryz.func186 (by kernel_rfl)
def c187 : AFunc := ⟨33,
.seq ( .region [
 ⟨(some 2), .mv (.c (.b false)), none⟩]) (
.seq ( .region [
 ⟨(some 3), .mv (.t 0), none⟩,
⟨(some 4), .bin .geq (.t 3) (.c (.i .u8 97)), none⟩,
⟨(some 5), .mv (.t 4), none⟩,
⟨(some 6), .mv (.t 0), (some (5, true))⟩,
⟨(some 7), .bin .leq (.t 6) (.c (.i .u8 122)), (some (5, true))⟩,
⟨(some 8), .pick (.t 5) (.t 7) (.c (.b false)), none⟩,
⟨(some 9), .mv (.t 8), none⟩,
⟨(some 10), .mv (.t 0), (some (9, false))⟩,
⟨(some 11), .bin .geq (.t 10) (.c (.i .u8 48)), (some (9, false))⟩,
⟨(some 12), .mv (.t 11), (some (9, false))⟩,
⟨(some 13), .mv (.t 0), (some (12, true))⟩,
⟨(some 14), .bin .leq (.t 13) (.c (.i .u8 57)), (some (12, true))⟩,
⟨(some 15), .pick (.t 12) (.t 14) (.c (.b false)), (some (9, false))⟩,
⟨(some 16), .pick (.t 9) (.c (.b true)) (.t 15), none⟩,
⟨(some 17), .mv (.t 16), none⟩,
⟨(some 18), .mv (.t 0), (some (17, false))⟩,
⟨(some 19), .bin .eql (.t 18) (.c (.i .u8 95)), (some (17, false))⟩,
⟨(some 20), .pick (.t 17) (.c (.b true)) (.t 19), none⟩,
⟨(some 21), .mv (.t 20), none⟩,
⟨(some 22), .mv (.t 0), (some (21, false))⟩,
⟨(some 23), .bin .eql (.t 22) (.c (.i .u8 46)), (some (21, false))⟩,
⟨(some 24), .pick (.t 21) (.c (.b true)) (.t 23), none⟩,
⟨(some 25), .mv (.t 24), none⟩,
⟨(some 26), .mv (.t 0), (some (25, false))⟩,
⟨(some 27), .bin .eql (.t 26) (.c (.i .u8 58)), (some (25, false))⟩,
⟨(some 28), .pick (.t 25) (.c (.b true)) (.t 27), none⟩,
⟨(some 29), .mv (.t 28), none⟩,
⟨(some 30), .mv (.t 0), (some (29, false))⟩,
⟨(some 31), .bin .eql (.t 30) (.c (.i .u8 64)), (some (29, false))⟩,
⟨(some 32), .pick (.t 29) (.c (.b true)) (.t 31), none⟩,
⟨(some 2), .mv (.t 32), none⟩]) ( .ret)), [.tmp 2], false, none⟩
theorem k187 : CodeOk Tryz.prog 187 c187 := codeOk (hs := []) Tryz.func187 (by kernel_rfl)
def c188 : AFunc := ⟨83,
.seq ( .region [
 ⟨(some 2), .alloc [(.i .i64 0), (.s []), (.i .i64 0), (.i .i64 0)] false, none⟩,
⟨(some 3), .mv (.c (.b false)), none⟩]) (
.seq (
.seq ( .region [
 ⟨(some 10), .mv (.t 0), none⟩,
⟨(some 11), .ixS (.t 10) (.c (.i .i64 0)), none⟩,
⟨(some 12), .bin .geq (.t 11) (.c (.i .u8 97)), none⟩,
⟨(some 13), .mv (.t 12), none⟩,
⟨(some 14), .mv (.t 0), (some (13, true))⟩,
⟨(some 15), .ixS (.t 14) (.c (.i .i64 0)), (some (13, true))⟩,
⟨(some 16), .bin .leq (.t 15) (.c (.i .u8 122)), (some (13, true))⟩,
⟨(some 17), .pick (.t 13) (.t 16) (.c (.b false)), none⟩]) ( .cond (.t 17) (
.seq (
.seq ( .region [
 ⟨(some 18), .mv (.t 0), none⟩,
⟨(some 19), .lenS (.t 18), none⟩,
⟨(some 20), .bin .gtr (.t 19) (.c (.i .i64 33)), none⟩,
⟨(some 21), .mv (.t 20), none⟩,
⟨(some 22), .mv (.t 0), (some (21, false))⟩,
⟨(some 23), .callf 223 [(.t 22), (.c (.i .u8 58))], (some (21, false))⟩,
⟨(some 24), .bin .geq (.t 23) (.c (.i .i64 0)), (some (21, false))⟩,
⟨(some 25), .pick (.t 21) (.c (.b true)) (.t 24), none⟩,
⟨(some 26), .mv (.t 25), none⟩,
⟨(some 27), .mv (.t 0), (some (26, false))⟩,
⟨(some 28), .callf 223 [(.t 27), (.c (.i .u8 64))], (some (26, false))⟩,
⟨(some 29), .bin .geq (.t 28) (.c (.i .i64 0)), (some (26, false))⟩,
⟨(some 30), .pick (.t 26) (.c (.b true)) (.t 29), none⟩]) ( .cond (.t 30) (
.seq ( .region [
 ⟨(some 31), .build [(.i .i64 0), (.s []), (.i .i64 0), (.i .i64 0)] [], none⟩,
⟨none, .st (.t 2) (.t 31) 4, none⟩,
⟨(some 3), .mv (.c (.b false)), none⟩]) ( .ret)) ( .skip))) (
.seq ( .region [
 ⟨(some 32), .mv (.t 0), none⟩,
⟨(some 33), .build [(.i .i64 0), (.s []), (.i .i64 0), (.i .i64 0)] [(0, 1, (.c (.i .i64 1))), (1, 1, (.t 32))], none⟩,
⟨none, .st (.t 2) (.t 33) 4, none⟩,
⟨(some 3), .mv (.c (.b true)), none⟩]) ( .ret))) ( .skip))) (
.seq (
.seq ( .region [
 ⟨(some 34), .mv (.t 0), none⟩,
⟨(some 35), .ixS (.t 34) (.c (.i .i64 0)), none⟩,
⟨(some 36), .bin .eql (.t 35) (.c (.i .u8 64)), none⟩]) ( .cond (.t 36) (
.seq ( .region [
 ⟨(some 38), .mv (.t 0), none⟩,
⟨(some 39), .slS (.t 38) (some (.c (.i .i64 1))) none, none⟩,
⟨(some 40), .callf 232 [(.t 39)], none⟩,
⟨(some 37), .mv (.t 40), none⟩,
⟨(some 41), .ext (.t 37) 0, none⟩,
⟨(some 42), .ext (.t 37) 1, none⟩,
⟨(some 4), .mv (.t 41), none⟩,
⟨(some 5), .mv (.t 42), none⟩]) (
.seq ( .region [
 ⟨(some 43), .mv (.t 4), none⟩,
⟨(some 44), .build [(.i .i64 0), (.s []), (.i .i64 0), (.i .i64 0)] [(0, 1, (.c (.i .i64 4))), (2, 1, (.t 43))], none⟩,
⟨(some 45), .mv (.t 5), none⟩,
⟨(some 46), .bin .eql (.t 45) (.c (.i .i64 0)), none⟩,
⟨none, .st (.t 2) (.t 44) 4, none⟩,
⟨(some 3), .mv (.t 46), none⟩]) ( .ret))) ( .skip))) (
.seq (
.seq ( .region [
 ⟨(some 47), .mv (.t 0), none⟩,
⟨(some 48), .callf 223 [(.t 47), (.c (.i .u8 58))], none⟩,
⟨(some 49), .bin .geq (.t 48) (.c (.i .i64 0)), none⟩]) ( .cond (.t 49) (
.seq ( .region [
 ⟨(some 51), .mv (.t 0), none⟩,
⟨(some 52), .callf 233 [(.t 51)], none⟩,
⟨(some 50), .mv (.t 52), none⟩,
⟨(some 53), .ext (.t 50) 0, none⟩,
⟨(some 54), .ext (.t 50) 1, none⟩,
⟨(some 6), .mv (.t 53), none⟩,
⟨(some 7), .mv (.t 54), none⟩]) (
.seq ( .region [
 ⟨(some 55), .mv (.t 6), none⟩,
⟨(some 56), .build [(.i .i64 0), (.s []), (.i .i64 0), (.i .i64 0)] [(0, 1, (.c (.i .i64 3))), (2, 1, (.t 55))], none⟩,
⟨(some 57), .mv (.t 7), none⟩,
⟨(some 58), .bin .eql (.t 57) (.c (.i .i64 0)), none⟩,
⟨none, .st (.t 2) (.t 56) 4, none⟩,
⟨(some 3), .mv (.t 58), none⟩]) ( .ret))) ( .skip))) (
.seq ( .region [
 ⟨(some 60), .mv (.t 0), none⟩,
⟨(some 61), .callf 234 [(.t 60), (.c (.i .i64 1)), (.c (.i .i64 13))], none⟩,
⟨(some 59), .mv (.t 61), none⟩,
⟨(some 62), .ext (.t 59) 0, none⟩,
⟨(some 63), .ext (.t 59) 1, none⟩,
⟨(some 8), .mv (.t 62), none⟩,
⟨(some 9), .mv (.t 63), none⟩]) (
.seq (
.seq ( .region [
 ⟨(some 64), .mv (.t 9), none⟩,
⟨(some 65), .un .not (.t 64), none⟩,
⟨(some 66), .mv (.t 65), none⟩,
⟨(some 67), .mv (.t 0), (some (66, false))⟩,
⟨(some 68), .lenS (.t 67), (some (66, false))⟩,
⟨(some 69), .bin .gtr (.t 68) (.c (.i .i64 1)), (some (66, false))⟩,
⟨(some 70), .mv (.t 69), (some (66, false))⟩,
⟨(some 71), .mv (.t 0), (some (70, true))⟩,
⟨(some 72), .ixS (.t 71) (.c (.i .i64 0)), (some (70, true))⟩,
⟨(some 73), .bin .eql (.t 72) (.c (.i .u8 48)), (some (70, true))⟩,
⟨(some 74), .pick (.t 70) (.t 73) (.c (.b false)), (some (66, false))⟩,
⟨(some 75), .pick (.t 66) (.c (.b true)) (.t 74), none⟩,
⟨(some 76), .mv (.t 75), none⟩,
⟨(some 77), .mv (.t 8), (some (76, false))⟩,
⟨(some 78), .bin .gtr (.t 77) (.c (.i .i64 1099511627776)), (some (76, false))⟩,
⟨(some 79), .pick (.t 76) (.c (.b true)) (.t 78), none⟩]) ( .cond (.t 79) (
.seq ( .region [
 ⟨(some 80), .build [(.i .i64 0), (.s []), (.i .i64 0), (.i .i64 0)] [], none⟩,
⟨none, .st (.t 2) (.t 80) 4, none⟩,
⟨(some 3), .mv (.c (.b false)), none⟩]) ( .ret)) ( .skip))) (
.seq ( .region [
 ⟨(some 81), .mv (.t 8), none⟩,
⟨(some 82), .build [(.i .i64 0), (.s []), (.i .i64 0), (.i .i64 0)] [(0, 1, (.c (.i .i64 2))), (2, 1, (.t 81))], none⟩,
⟨none, .st (.t 2) (.t 82) 4, none⟩,
⟨(some 3), .mv (.c (.b true)), none⟩]) ( .ret))))))), [.cell 2 4 true, .tmp 3], false, none⟩
theorem k188 : CodeOk Tryz.prog 188 c188 := codeOk (hs := []) Tryz.func188 (by kernel_rfl)
def c189 : AFunc := ⟨19,
.seq ( .region [
 ⟨(some 2), .mv (.c (.s [])), none⟩]) (
.seq (
.seq ( .region [
 ⟨(some 3), .mv (.t 0), none⟩,
⟨(some 4), .lenS (.t 3), none⟩,
⟨(some 5), .bin .gtr (.t 4) (.c (.i .i64 1)), none⟩,
⟨(some 6), .mv (.t 5), none⟩,
⟨(some 7), .mv (.t 0), (some (6, true))⟩,
⟨(some 8), .slS (.t 7) none (some (.c (.i .i64 2))), (some (6, true))⟩,
⟨(some 9), .bin .eql (.t 8) (.c (.s [60, 61])), (some (6, true))⟩,
⟨(some 10), .pick (.t 6) (.t 9) (.c (.b false)), none⟩]) ( .cond (.t 10) (
.seq ( .region [
 ⟨(some 11), .mv (.t 0), none⟩,
⟨(some 12), .slS (.t 11) none (some (.c (.i .i64 2))), none⟩,
⟨(some 2), .mv (.t 12), none⟩]) ( .ret)) ( .skip))) (
.seq (
.seq ( .region [
 ⟨(some 13), .mv (.t 0), none⟩,
⟨(some 14), .ixS (.t 13) (.c (.i .i64 0)), none⟩,
⟨(some 15), .callf 223 [(.c (.s [43, 45, 42, 47, 40, 41, 44, 60, 61])), (.t 14)], none⟩,
⟨(some 16), .bin .geq (.t 15) (.c (.i .i64 0)), none⟩]) ( .cond (.t 16) (
.seq ( .region [
 ⟨(some 17), .mv (.t 0), none⟩,
⟨(some 18), .slS (.t 17) none (some (.c (.i .i64 1))), none⟩,
⟨(some 2), .mv (.t 18), none⟩]) ( .ret)) ( .skip))) (
.seq ( .region [
 ⟨(some 2), .mv (.c (.s [])), none⟩]) ( .ret)))), [.tmp 2], false, none⟩
theorem k189 : CodeOk Tryz.prog 189 c189 := codeOk (hs := []) Tryz.func189 (by kernel_rfl)
def c190 : AFunc := ⟨20,
.seq ( .region [
 ⟨(some 6), .mv (.c (.b false)), none⟩]) (
.seq ( .region [
 ⟨(some 7), .mv (.t 1), none⟩,
⟨(some 8), .mv (.t 0), none⟩,
⟨(some 9), .lenV (.t 8), none⟩,
⟨(some 10), .bin .lss (.t 7) (.t 9), none⟩,
⟨(some 11), .mv (.t 10), none⟩,
⟨(some 12), .mv (.t 0), (some (11, true))⟩,
⟨(some 13), .mv (.t 1), (some (11, true))⟩,
⟨(some 14), .ia (.t 12) (.t 13) 4, (some (11, true))⟩,
⟨(some 15), .fa (.t 14) 0, (some (11, true))⟩,
⟨(some 16), .ld (.t 15) 1 false, (some (11, true))⟩,
⟨(some 17), .mv (.t 2), (some (11, true))⟩,
⟨(some 18), .bin .eql (.t 16) (.t 17), (some (11, true))⟩,
⟨(some 19), .pick (.t 11) (.t 18) (.c (.b false)), none⟩,
⟨(some 6), .mv (.t 19), none⟩]) ( .ret)), [.tmp 6], false, none⟩
theorem k190 : CodeOk Tryz.prog 190 c190 := codeOk (hs := []) Tryz.func190 (by kernel_rfl)
def c191 : AFunc := ⟨121,
.seq ( .region [
 ⟨(some 8), .mv (.c (.i .i64 0)), none⟩]) (
.seq (
.seq ( .region [
 ⟨(some 9), .mv (.t 3), none⟩,
⟨(some 10), .bin .lss (.t 9) (.c (.i .i64 6)), none⟩,
⟨(some 11), .mv (.t 10), none⟩,
⟨(some 12), .mv (.t 2), (some (11, true))⟩,
⟨(some 13), .lenV (.t 12), (some (11, true))⟩,
⟨(some 14), .bin .neq (.t 13) (.c (.i .i64 2)), (some (11, true))⟩,
⟨(some 15), .mv (.t 14), (some (11, true))⟩,
⟨(some 16), .mv (.t 2), (some (15, false))⟩,
⟨(some 17), .callf 190 [(.t 16), (.c (.i .i64 1)), (.c (.i .i64 3))], (some (15, false))⟩,
⟨(some 18), .un .not (.t 17), (some (15, false))⟩,
⟨(some 19), .pick (.t 15) (.c (.b true)) (.t 18), (some (11, true))⟩,
⟨(some 20), .pick (.t 11) (.t 19) (.c (.b false)), none⟩]) ( .cond (.t 20) (
.seq ( .region [
 ⟨(some 8), .mv (.c (.i .i64 1)), none⟩]) ( .ret)) ( .skip))) (
.seq (
.seq ( .region [
 ⟨(some 21), .mv (.t 3), none⟩,
⟨(some 22), .bin .eql (.t 21) (.c (.i .i64 6)), none⟩,
⟨(some 23), .mv (.t 22), none⟩,
⟨(some 24), .mv (.t 2), (some (23, true))⟩,
⟨(some 25), .lenV (.t 24), (some (23, true))⟩,
⟨(some 26), .bin .neq (.t 25) (.c (.i .i64 4)), (some (23, true))⟩,
⟨(some 27), .mv (.t 26), (some (23, true))⟩,
⟨(some 28), .mv (.t 2), (some (27, false))⟩,
⟨(some 29), .callf 190 [(.t 28), (.c (.i .i64 1)), (.c (.i .i64 4))], (some (27, false))⟩,
⟨(some 30), .un .not (.t 29), (some (27, false))⟩,
⟨(some 31), .pick (.t 27) (.c (.b true)) (.t 30), (some (23, true))⟩,
⟨(some 32), .mv (.t 31), (some (23, true))⟩,
⟨(some 33), .mv (.t 2), (some (32, false))⟩,
⟨(some 34), .callf 193 [(.t 33), (.c (.i .i64 2)), (.c (.s [116, 111]))], (some (32, false))⟩,
⟨(some 35), .un .not (.t 34), (some (32, false))⟩,
⟨(some 36), .pick (.t 32) (.c (.b true)) (.t 35), (some (23, true))⟩,
⟨(some 37), .mv (.t 36), (some (23, true))⟩,
⟨(some 38), .mv (.t 2), (some (37, false))⟩,
⟨(some 39), .callf 190 [(.t 38), (.c (.i .i64 3)), (.c (.i .i64 4))], (some (37, false))⟩,
⟨(some 40), .un .not (.t 39), (some (37, false))⟩,
⟨(some 41), .pick (.t 37) (.c (.b true)) (.t 40), (some (23, true))⟩,
⟨(some 42), .pick (.t 23) (.t 41) (.c (.b false)), none⟩]) ( .cond (.t 42) (
.seq ( .region [
 ⟨(some 8), .mv (.c (.i .i64 1)), none⟩]) ( .ret)) ( .skip))) (
.seq (
.seq ( .region [
 ⟨(some 43), .mv (.t 1), none⟩,
⟨(some 44), .mv (.t 3), none⟩,
⟨(some 45), .nck (.t 43), none⟩,
⟨(some 46), .iaA (.t 45) (.t 44) 7 1, none⟩,
⟨(some 47), .ld (.t 46) 1 false, none⟩]) ( .cond (.t 47) (
.seq ( .region [
 ⟨(some 8), .mv (.c (.i .i64 7)), none⟩]) ( .ret)) ( .skip))) (
.seq ( .region [
 ⟨(some 48), .mv (.t 1), none⟩,
⟨(some 49), .mv (.t 3), none⟩,
⟨(some 50), .nck (.t 48), none⟩,
⟨(some 51), .iaA (.t 50) (.t 49) 7 1, none⟩,
⟨none, .st (.t 51) (.c (.b true)) 1, none⟩]) (
.seq (
.seq ( .region [
 ⟨(some 52), .mv (.t 3), none⟩]) ( .block 0 (
.seq ( .region [
 ⟨(some 68), .bin .eql (.t 52) (.c (.i .i64 0)), none⟩,
⟨(some 67), .mv (.t 68), none⟩]) ( .cond (.t 67) ( .region [
 ⟨(some 69), .mv (.t 0), none⟩,
⟨(some 70), .mv (.t 2), none⟩,
⟨(some 71), .ia (.t 70) (.c (.i .i64 1)) 4, none⟩,
⟨(some 72), .fa (.t 71) 2, none⟩,
⟨(some 73), .ld (.t 72) 1 false, none⟩,
⟨(some 74), .nck (.t 69), none⟩,
⟨(some 75), .fa (.t 74) 0, none⟩,
⟨none, .st (.t 75) (.t 73) 1, none⟩]) (
.seq ( .region [
 ⟨(some 77), .bin .eql (.t 52) (.c (.i .i64 1)), none⟩,
⟨(some 76), .mv (.t 77), none⟩]) ( .cond (.t 76) ( .region [
 ⟨(some 78), .mv (.t 0), none⟩,
⟨(some 79), .mv (.t 2), none⟩,
⟨(some 80), .ia (.t 79) (.c (.i .i64 1)) 4, none⟩,
⟨(some 81), .fa (.t 80) 2, none⟩,
⟨(some 82), .ld (.t 81) 1 false, none⟩,
⟨(some 83), .nck (.t 78), none⟩,
⟨(some 84), .fa (.t 83) 1, none⟩,
⟨none, .st (.t 84) (.t 82) 1, none⟩]) (
.seq ( .region [
 ⟨(some 86), .bin .eql (.t 52) (.c (.i .i64 2)), none⟩,
⟨(some 85), .mv (.t 86), none⟩]) ( .cond (.t 85) ( .region [
 ⟨(some 87), .mv (.t 0), none⟩,
⟨(some 88), .mv (.t 2), none⟩,
⟨(some 89), .ia (.t 88) (.c (.i .i64 1)) 4, none⟩,
⟨(some 90), .fa (.t 89) 2, none⟩,
⟨(some 91), .ld (.t 90) 1 false, none⟩,
⟨(some 92), .nck (.t 87), none⟩,
⟨(some 93), .fa (.t 92) 2, none⟩,
⟨none, .st (.t 93) (.t 91) 1, none⟩]) (
.seq ( .region [
 ⟨(some 95), .bin .eql (.t 52) (.c (.i .i64 3)), none⟩,
⟨(some 94), .mv (.t 95), none⟩]) ( .cond (.t 94) ( .region [
 ⟨(some 96), .mv (.t 0), none⟩,
⟨(some 97), .mv (.t 2), none⟩,
⟨(some 98), .ia (.t 97) (.c (.i .i64 1)) 4, none⟩,
⟨(some 99), .fa (.t 98) 2, none⟩,
⟨(some 100), .ld (.t 99) 1 false, none⟩,
⟨(some 101), .nck (.t 96), none⟩,
⟨(some 102), .fa (.t 101) 3, none⟩,
⟨none, .st (.t 102) (.t 100) 1, none⟩]) (
.seq ( .region [
 ⟨(some 104), .bin .eql (.t 52) (.c (.i .i64 4)), none⟩,
⟨(some 103), .mv (.t 104), none⟩]) ( .cond (.t 103) ( .region [
 ⟨(some 105), .mv (.t 0), none⟩,
⟨(some 106), .mv (.t 2), none⟩,
⟨(some 107), .ia (.t 106) (.c (.i .i64 1)) 4, none⟩,
⟨(some 108), .fa (.t 107) 2, none⟩,
⟨(some 109), .ld (.t 108) 1 false, none⟩,
⟨(some 110), .nck (.t 105), none⟩,
⟨(some 111), .fa (.t 110) 4, none⟩,
⟨none, .st (.t 111) (.t 109) 1, none⟩]) (
.seq ( .region [
 ⟨(some 113), .bin .eql (.t 52) (.c (.i .i64 5)), none⟩,
⟨(some 112), .mv (.t 113), none⟩]) ( .cond (.t 112) ( .region [
 ⟨(some 114), .mv (.t 0), none⟩,
⟨(some 115), .mv (.t 2), none⟩,
⟨(some 116), .ia (.t 115) (.c (.i .i64 1)) 4, none⟩,
⟨(some 117), .fa (.t 116) 2, none⟩,
⟨(some 118), .ld (.t 117) 1 false, none⟩,
⟨(some 119), .nck (.t 114), none⟩,
⟨(some 120), .fa (.t 119) 13, none⟩,
⟨none, .st (.t 120) (.t 118) 1, none⟩]) ( .draws [ ([], ⟨(some 53), .mv (.t 0), none⟩),
([], ⟨(some 54), .mv (.t 0), none⟩),
([], ⟨(some 55), .mv (.t 2), none⟩),
([], ⟨(some 56), .ia (.t 55) (.c (.i .i64 1)) 4, none⟩),
([], ⟨(some 57), .fa (.t 56) 2, none⟩),
([], ⟨(some 58), .ld (.t 57) 1 false, none⟩),
([], ⟨(some 59), .mv (.t 2), none⟩),
([], ⟨(some 60), .ia (.t 59) (.c (.i .i64 3)) 4, none⟩),
([], ⟨(some 61), .fa (.t 60) 2, none⟩),
([5], ⟨(some 62), .ld (.t 61) 1 false, none⟩),
([], ⟨(some 63), .nck (.t 53), none⟩),
([], ⟨(some 64), .fa (.t 63) 5, none⟩),
([], ⟨none, .st (.t 64) (.t 58) 1, none⟩),
([], ⟨(some 65), .nck (.t 54), none⟩),
([], ⟨(some 66), .fa (.t 65) 6, none⟩),
([], ⟨none, .st (.t 66) (.t 62) 1, none⟩)]))))))))))))))) (
.seq ( .region [
 ⟨(some 8), .mv (.c (.i .i64 0)), none⟩]) ( .ret))))))), [.tmp 8], true, none⟩
theorem k191 : CodeOk Tryz.prog 191 c191 := codeOk (hs := []) Tryz.func191 (by kernel_rfl)
def c192 : AFunc := ⟨16,
.seq ( .region [
 ⟨(some 4), .mv (.c (.b false)), none⟩]) (
.seq ( .region [
 ⟨(some 5), .mv (.t 0), none⟩,
⟨(some 6), .mv (.t 1), none⟩,
⟨(some 7), .callf 190 [(.t 5), (.t 6), (.c (.i .i64 1))], none⟩,
⟨(some 8), .mv (.t 7), none⟩,
⟨(some 9), .mv (.t 0), (some (8, true))⟩,
⟨(some 10), .mv (.t 1), (some (8, true))⟩,
⟨(some 11), .ia (.t 9) (.t 10) 4, (some (8, true))⟩,
⟨(some 12), .fa (.t 11) 1, (some (8, true))⟩,
⟨(some 13), .ld (.t 12) 1 false, (some (8, true))⟩,
⟨(some 14), .callf 126 [(.t 13)], (some (8, true))⟩,
⟨(some 15), .pick (.t 8) (.t 14) (.c (.b false)), none⟩,
⟨(some 4), .mv (.t 15), none⟩]) ( .ret)), [.tmp 4], false, none⟩
theorem k192 : CodeOk Tryz.prog 192 c192 := codeOk (hs := []) Tryz.func192 (by kernel_rfl)
def c193 : AFunc := ⟨28,
.seq ( .region [
 ⟨(some 6), .mv (.c (.b false)), none⟩]) (
.seq ( .region [
 ⟨(some 7), .mv (.t 1), none⟩,
⟨(some 8), .mv (.t 0), none⟩,
⟨(some 9), .lenV (.t 8), none⟩,
⟨(some 10), .bin .lss (.t 7) (.t 9), none⟩,
⟨(some 11), .mv (.t 10), none⟩,
⟨(some 12), .mv (.t 0), (some (11, true))⟩,
⟨(some 13), .mv (.t 1), (some (11, true))⟩,
⟨(some 14), .ia (.t 12) (.t 13) 4, (some (11, true))⟩,
⟨(some 15), .fa (.t 14) 0, (some (11, true))⟩,
⟨(some 16), .ld (.t 15) 1 false, (some (11, true))⟩,
⟨(some 17), .bin .eql (.t 16) (.c (.i .i64 1)), (some (11, true))⟩,
⟨(some 18), .pick (.t 11) (.t 17) (.c (.b false)), none⟩,
⟨(some 19), .mv (.t 18), none⟩,
⟨(some 20), .mv (.t 0), (some (19, true))⟩,
⟨(some 21), .mv (.t 1), (some (19, true))⟩,
⟨(some 22), .ia (.t 20) (.t 21) 4, (some (19, true))⟩,
⟨(some 23), .fa (.t 22) 1, (some (19, true))⟩,
⟨(some 24), .ld (.t 23) 1 false, (some (19, true))⟩,
⟨(some 25), .mv (.t 2), (some (19, true))⟩,
⟨(some 26), .bin .eql (.t 24) (.t 25), (some (19, true))⟩,
⟨(some 27), .pick (.t 19) (.t 26) (.c (.b false)), none⟩,
⟨(some 6), .mv (.t 27), none⟩]) ( .ret)), [.tmp 6], false, none⟩
theorem k193 : CodeOk Tryz.prog 193 c193 := codeOk (hs := []) Tryz.func193 (by kernel_rfl)
def c194 : AFunc := ⟨32,
.seq ( .region [
 ⟨(some 2), .alloc [(.i .i64 0), (.i .i64 0), (.s []), .nilsl] false, none⟩,
⟨(some 3), .mv (.c (.i .i64 0)), none⟩]) (
.seq ( .region [
 ⟨(some 6), .mv (.t 0), none⟩,
⟨(some 7), .build [.nilsl, (.i .i64 0), (.i .i64 0)] [(0, 1, (.t 6)), (2, 1, (.c (.i .i64 (-1))))], none⟩,
⟨(some 8), .box (.t 7) true, none⟩,
⟨(some 4), .mv (.t 8), none⟩]) (
.seq ( .region [
 ⟨(some 9), .mv (.t 4), none⟩,
⟨(some 10), .callf 235 [(.t 9)], none⟩,
⟨(some 5), .alloc [(.i .i64 0), (.i .i64 0), (.s []), .nilsl] false, none⟩,
⟨none, .st (.t 5) (.t 10) 4, none⟩]) (
.seq (
.seq ( .region [
 ⟨(some 11), .mv (.t 4), none⟩,
⟨(some 12), .nck (.t 11), none⟩,
⟨(some 13), .fa (.t 12) 2, none⟩,
⟨(some 14), .ld (.t 13) 1 false, none⟩,
⟨(some 15), .bin .lss (.t 14) (.c (.i .i64 0)), none⟩,
⟨(some 16), .mv (.t 15), none⟩,
⟨(some 17), .mv (.t 4), (some (16, true))⟩,
⟨(some 18), .nck (.t 17), (some (16, true))⟩,
⟨(some 19), .fa (.t 18) 1, (some (16, true))⟩,
⟨(some 20), .ld (.t 19) 1 false, (some (16, true))⟩,
⟨(some 21), .mv (.t 0), (some (16, true))⟩,
⟨(some 22), .lenV (.t 21), (some (16, true))⟩,
⟨(some 23), .bin .lss (.t 20) (.t 22), (some (16, true))⟩,
⟨(some 24), .pick (.t 16) (.t 23) (.c (.b false)), none⟩]) ( .cond (.t 24) ( .region [
 ⟨(some 25), .mv (.t 4), none⟩,
⟨(some 26), .callf 236 [(.t 25)], none⟩]) ( .skip))) (
.seq ( .draws [ ([], ⟨(some 27), .ld (.t 5) 4 true, none⟩),
([], ⟨(some 28), .mv (.t 4), none⟩),
([], ⟨(some 29), .nck (.t 28), none⟩),
([], ⟨(some 30), .fa (.t 29) 2, none⟩),
([0], ⟨(some 31), .ld (.t 30) 1 false, none⟩),
([4], ⟨none, .st (.t 2) (.t 27) 4, none⟩),
([], ⟨(some 3), .mv (.t 31), none⟩)]) ( .ret))))), [.cell 2 4 true, .tmp 3], false, none⟩
theorem k194 : CodeOk Tryz.prog 194 c194 := codeOk (hs := [8]) Tryz.func194 (by kernel_rfl)
def c195 : AFunc := ⟨10,
.seq ( .region [
 ⟨(some 2), .mv (.c (.i .i64 0)), none⟩]) (
.seq (
.seq ( .region [
 ⟨(some 3), .mv (.t 0), none⟩]) ( .block 0 (
.seq ( .region [
 ⟨(some 5), .bin .eql (.t 3) (.c (.s [100, 117, 116, 121])), none⟩,
⟨(some 4), .mv (.t 5), none⟩]) ( .cond (.t 4) (
.seq ( .region [
 ⟨(some 2), .mv (.c (.i .i64 1)), none⟩]) ( .ret)) (
.seq ( .region [
 ⟨(some 7), .bin .eql (.t 3) (.c (.s [114, 101, 115, 116])), none⟩,
⟨(some 6), .mv (.t 7), none⟩]) ( .cond (.t 6) (
.seq ( .region [
 ⟨(some 2), .mv (.c (.i .i64 2)), none⟩]) ( .ret)) (
.seq ( .region [
 ⟨(some 9), .bin .eql (.t 3) (.c (.s [112, 97, 105, 114, 105, 110, 103])), none⟩,
⟨(some 8), .mv (.t 9), none⟩]) ( .cond (.t 8) (
.seq ( .region [
 ⟨(some 2), .mv (.c (.i .i64 3)), none⟩]) ( .ret)) ( .skip))))))))) (
.seq ( .region [
 ⟨(some 2), .mv (.c (.i .i64 0)), none⟩]) ( .ret))), [.tmp 2], false, none⟩
theorem k195 : CodeOk Tryz.prog 195 c195 := codeOk (hs := []) Tryz.func195 (by kernel_rfl)
def c196 : AFunc := ⟨13,
.seq ( .region [
 ⟨(some 2), .mv (.c (.i .i64 0)), none⟩]) (
.seq (
.seq ( .region [
 ⟨(some 3), .mv (.t 0), none⟩]) ( .block 0 (
.seq (
.seq ( .region [
 ⟨(some 5), .bin .eql (.t 3) (.c (.s [98, 108, 111, 99, 107])), none⟩,
⟨(some 4), .mv (.t 5), none⟩]) ( .cond (.t 4) ( .skip) (
.seq ( .region [
 ⟨(some 6), .bin .eql (.t 3) (.c (.s [115, 112, 97, 110])), none⟩,
⟨(some 4), .mv (.t 6), none⟩]) ( .cond (.t 4) ( .skip) (
.seq ( .region [
 ⟨(some 7), .bin .eql (.t 3) (.c (.s [110, 105, 103, 104, 116])), none⟩,
⟨(some 4), .mv (.t 7), none⟩]) ( .cond (.t 4) ( .skip) ( .region [
 ⟨(some 8), .bin .eql (.t 3) (.c (.s [99, 114, 101, 100, 105, 116])), none⟩,
⟨(some 4), .mv (.t 8), none⟩]))))))) ( .cond (.t 4) (
.seq ( .region [
 ⟨(some 2), .mv (.c (.i .i64 2)), none⟩]) ( .ret)) (
.seq (
.seq ( .region [
 ⟨(some 10), .bin .eql (.t 3) (.c (.s [108, 101, 103, 115])), none⟩,
⟨(some 9), .mv (.t 10), none⟩]) ( .cond (.t 9) ( .skip) (
.seq ( .region [
 ⟨(some 11), .bin .eql (.t 3) (.c (.s [104, 101, 97, 100, 115])), none⟩,
⟨(some 9), .mv (.t 11), none⟩]) ( .cond (.t 9) ( .skip) ( .region [
 ⟨(some 12), .bin .eql (.t 3) (.c (.s [100, 117, 116, 105, 101, 115])), none⟩,
⟨(some 9), .mv (.t 12), none⟩]))))) ( .cond (.t 9) (
.seq ( .region [
 ⟨(some 2), .mv (.c (.i .i64 1)), none⟩]) ( .ret)) ( .skip))))))) (
.seq ( .region [
 ⟨(some 2), .mv (.c (.i .i64 0)), none⟩]) ( .ret))), [.tmp 2], false, none⟩
theorem k196 : CodeOk Tryz.prog 196 c196 := codeOk (hs := []) Tryz.func196 (by kernel_rfl)
def c197_L1 : ACode :=
.seq (
.seq ( .region [
 ⟨(some 6), .mv (.t 4), none⟩,
⟨(some 7), .mv (.t 3), none⟩,
⟨(some 8), .lenV (.t 7), none⟩,
⟨(some 9), .bin .lss (.t 6) (.t 8), none⟩]) ( .cond (.t 9) ( .skip) ( .exit 0))) (
.seq ( .block 1 (
.seq ( .region [
 ⟨(some 12), .mv (.t 3), none⟩,
⟨(some 13), .mv (.t 4), none⟩,
⟨(some 14), .ia (.t 12) (.t 13) 1, none⟩,
⟨(some 15), .ld (.t 14) 1 false, none⟩,
⟨(some 16), .mv (.t 0), none⟩,
⟨(some 17), .bin .eql (.t 15) (.t 16), none⟩]) ( .cond (.t 17) (
.seq ( .region [
 ⟨(some 2), .mv (.c (.b true)), none⟩]) ( .ret)) ( .skip)))) ( .region [
 ⟨(some 10), .mv (.t 4), none⟩,
⟨(some 11), .bin .add (.t 10) (.c (.i .i64 1)), none⟩,
⟨(some 4), .mv (.t 11), none⟩]))
def c197 : AFunc := ⟨18,
.seq ( .region [
 ⟨(some 2), .mv (.c (.b false)), none⟩]) (
.seq ( .region [
 ⟨(some 5), .bsl [(.s [])] 13 [(0, (.c (.s [97, 110, 100]))), (1, (.c (.s [111, 114]))), (2, (.c (.s [110, 111, 116]))), (3, (.c (.s [105, 109, 112, 108, 105, 101, 115]))), (4, (.c (.s [105, 110]))), (5, (.c (.s [116, 111]))), (6, (.c (.s [116, 114, 117, 101]))), (7, (.c (.s [102, 97, 108, 115, 101]))), (8, (.c (.s [109, 105, 110]))), (9, (.c (.s [109, 97, 120]))), (10, (.c (.s [105, 102]))), (11, (.c (.s [116, 104, 101, 110]))), (12, (.c (.s [101, 108, 115, 101])))], none⟩,
⟨(some 3), .mv (.t 5), none⟩]) (
.seq (
.seq ( .region [
 ⟨(some 4), .mv (.c (.i .i64 0)), none⟩]) ( .block 0 ( .loop c197_L1))) (
.seq ( .region [
 ⟨(some 2), .mv (.c (.b false)), none⟩]) ( .ret)))), [.tmp 2], false, none⟩
theorem k197 : CodeOk Tryz.prog 197 c197 := codeOk (hs := []) Tryz.func197 (by kernel_rfl)
def c199_L1 : ACode :=
.seq ( .region [
 ⟨(some 14), .bin .lss (.t 13) (.t 12), none⟩]) (
.seq ( .cond (.t 14) ( .skip) ( .exit 0)) (
.seq ( .block 1 (
.seq ( .region [
 ⟨(some 15), .ia (.t 11) (.t 13) 2, none⟩,
⟨(some 16), .ld (.t 15) 2 true, none⟩,
⟨(some 7), .alloc [(.i .i64 0), (.i .i64 0)] false, none⟩,
⟨none, .st (.t 7) (.t 16) 2, none⟩]) (
.seq (
.seq ( .region [
 ⟨(some 17), .fa (.t 7) 0, none⟩,
⟨(some 18), .ld (.t 17) 1 false, none⟩,
⟨(some 19), .mv (.t 1), none⟩,
⟨(some 20), .bin .gtr (.t 18) (.t 19), none⟩]) ( .cond (.t 20) ( .exit 0) ( .skip))) ( .region [
 ⟨(some 21), .fa (.t 7) 1, none⟩,
⟨(some 22), .ld (.t 21) 1 false, none⟩,
⟨(some 5), .mv (.t 22), none⟩])))) ( .region [
 ⟨(some 23), .bin .add (.t 13) (.c (.i .i64 1)), none⟩,
⟨(some 13), .mv (.t 23), none⟩])))
def c199 : AFunc := ⟨25,
.seq ( .region [
 ⟨(some 2), .box (.t 0) false, none⟩,
⟨(some 4), .mv (.c (.i .i64 0)), none⟩]) (
.seq ( .region [
 ⟨(some 8), .fa (.t 2) 1, none⟩,
⟨(some 9), .ld (.t 8) 1 false, none⟩,
⟨(some 5), .mv (.t 9), none⟩]) (
.seq (
.seq ( .region [
 ⟨(some 10), .fa (.t 2) 2, none⟩,
⟨(some 11), .ld (.t 10) 1 false, none⟩,
⟨(some 12), .lenV (.t 11), none⟩,
⟨(some 13), .mv (.c (.i .i64 0)), none⟩]) ( .block 0 ( .loop c199_L1))) (
.seq ( .region [
 ⟨(some 24), .mv (.t 5), none⟩,
⟨(some 4), .mv (.t 24), none⟩]) ( .ret)))), [.tmp 4], false, none⟩
theorem k199 : CodeOk Tryz.prog 199 c199 := codeOk (hs := []) Tryz.func199 (by kernel_rfl)
def c212 : AFunc := ⟨11,
.seq ( .region [
 ⟨(some 4), .mv (.c (.s [])), none⟩,
⟨(some 5), .mv (.c (.b false)), none⟩]) (
.seq ( .region [
 ⟨(some 6), .mv (.t 0), none⟩,
⟨(some 7), .mv (.t 1), none⟩,
⟨(some 8), .callf 243 [(.t 6), (.t 7)], none⟩,
⟨(some 9), .ext (.t 8) 0, none⟩,
⟨(some 10), .ext (.t 8) 1, none⟩,
⟨(some 4), .mv (.t 9), none⟩,
⟨(some 5), .mv (.t 10), none⟩]) ( .ret)), [.tmp 4, .tmp 5], false, none⟩
theorem k212 : CodeOk Tryz.prog 212 c212 := codeOk (hs := []) Tryz.func212 (by kernel_rfl)
def c215 : AFunc := ⟨67,
.seq ( .region [
 ⟨(some 4), .mv (.c (.i .i64 0)), none⟩]) (
.seq (
.seq ( .region [
 ⟨(some 5), .mv (.t 0), none⟩]) ( .block 0 (
.seq ( .region [
 ⟨(some 10), .bin .eql (.t 5) (.c (.i .i64 1)), none⟩,
⟨(some 9), .mv (.t 10), none⟩]) ( .cond (.t 9) (
.seq ( .region [
 ⟨(some 4), .mv (.c (.i .i64 1)), none⟩]) ( .ret)) (
.seq ( .region [
 ⟨(some 12), .bin .eql (.t 5) (.c (.i .i64 2)), none⟩,
⟨(some 11), .mv (.t 12), none⟩]) ( .cond (.t 11) (
.seq ( .region [
 ⟨(some 4), .mv (.c (.i .i64 2)), none⟩]) ( .ret)) (
.seq ( .region [
 ⟨(some 14), .bin .eql (.t 5) (.c (.i .i64 3)), none⟩,
⟨(some 13), .mv (.t 14), none⟩]) ( .cond (.t 13) (
.seq ( .region [
 ⟨(some 4), .mv (.c (.i .i64 3)), none⟩]) ( .ret)) (
.seq (
.seq ( .region [
 ⟨(some 16), .bin .eql (.t 5) (.c (.i .i64 4)), none⟩,
⟨(some 15), .mv (.t 16), none⟩]) ( .cond (.t 15) ( .skip) ( .region [
 ⟨(some 17), .bin .eql (.t 5) (.c (.i .i64 5)), none⟩,
⟨(some 15), .mv (.t 17), none⟩]))) ( .cond (.t 15) (
.seq ( .region [
 ⟨(some 4), .mv (.c (.i .i64 4)), none⟩]) ( .ret)) (
.seq (
.seq ( .region [
 ⟨(some 19), .bin .eql (.t 5) (.c (.i .i64 7)), none⟩,
⟨(some 18), .mv (.t 19), none⟩]) ( .cond (.t 18) ( .skip) (
.seq ( .region [
 ⟨(some 20), .bin .eql (.t 5) (.c (.i .i64 8)), none⟩,
⟨(some 18), .mv (.t 20), none⟩]) ( .cond (.t 18) ( .skip) (
.seq ( .region [
 ⟨(some 21), .bin .eql (.t 5) (.c (.i .i64 9)), none⟩,
⟨(some 18), .mv (.t 21), none⟩]) ( .cond (.t 18) ( .skip) (
.seq ( .region [
 ⟨(some 22), .bin .eql (.t 5) (.c (.i .i64 12)), none⟩,
⟨(some 18), .mv (.t 22), none⟩]) ( .cond (.t 18) ( .skip) ( .region [
 ⟨(some 23), .bin .eql (.t 5) (.c (.i .i64 13)), none⟩,
⟨(some 18), .mv (.t 23), none⟩]))))))))) ( .cond (.t 18) (
.seq ( .region [
 ⟨(some 24), .mv (.t 1), none⟩,
⟨(some 25), .ia (.t 24) (.c (.i .i64 0)) 1, none⟩,
⟨(some 26), .ld (.t 25) 1 false, none⟩,
⟨(some 27), .callf 246 [(.t 26)], none⟩,
⟨(some 28), .mv (.t 27), none⟩,
⟨(some 29), .mv (.t 1), (some (28, true))⟩,
⟨(some 30), .mv (.t 1), (some (28, true))⟩,
⟨(some 31), .ia (.t 30) (.c (.i .i64 0)) 1, (some (28, true))⟩,
⟨(some 32), .ld (.t 31) 1 false, (some (28, true))⟩,
⟨(some 33), .callf 247 [(.t 29), (.t 32)], (some (28, true))⟩,
⟨(some 34), .pick (.t 28) (.t 33) (.c (.b false)), none⟩]) ( .cond (.t 34) (
.seq ( .region [
 ⟨(some 35), .mv (.t 1), none⟩,
⟨(some 36), .ia (.t 35) (.c (.i .i64 0)) 1, none⟩,
⟨(some 37), .ld (.t 36) 1 false, none⟩,
⟨(some 4), .mv (.t 37), none⟩]) ( .ret)) ( .skip))) (
.seq (
.seq ( .region [
 ⟨(some 39), .bin .eql (.t 5) (.c (.i .i64 10)), none⟩,
⟨(some 38), .mv (.t 39), none⟩]) ( .cond (.t 38) ( .skip) ( .region [
 ⟨(some 40), .bin .eql (.t 5) (.c (.i .i64 11)), none⟩,
⟨(some 38), .mv (.t 40), none⟩]))) ( .cond (.t 38) (
.seq ( .draws [ ([], ⟨(some 41), .mv (.t 0), none⟩),
([], ⟨(some 42), .mv (.t 1), none⟩),
([], ⟨(some 43), .ia (.t 42) (.c (.i .i64 0)) 1, none⟩),
([], ⟨(some 44), .ld (.t 43) 1 false, none⟩),
([], ⟨(some 45), .mv (.t 1), none⟩),
([], ⟨(some 46), .ia (.t 45) (.c (.i .i64 1)) 1, none⟩),
([3], ⟨(some 47), .ld (.t 46) 1 false, none⟩),
([], ⟨(some 48), .callf 248 [(.t 41), (.t 44), (.t 47)], none⟩),
([], ⟨(some 4), .mv (.t 48), none⟩)]) ( .ret)) (
.seq ( .region [
 ⟨(some 50), .bin .eql (.t 5) (.c (.i .i64 14)), none⟩,
⟨(some 49), .mv (.t 50), none⟩]) ( .cond (.t 49) (
.seq ( .draws [ ([], ⟨(some 51), .mv (.t 1), none⟩),
([], ⟨(some 52), .ia (.t 51) (.c (.i .i64 0)) 1, none⟩),
([], ⟨(some 53), .ld (.t 52) 1 false, none⟩),
([], ⟨(some 54), .bin .eql (.t 53) (.c (.i .i64 4)), none⟩),
([], ⟨(some 55), .mv (.t 54), none⟩),
([], ⟨(some 56), .mv (.t 1), (some (55, true))⟩),
([], ⟨(some 57), .ia (.t 56) (.c (.i .i64 1)) 1, (some (55, true))⟩),
([], ⟨(some 58), .ld (.t 57) 1 false, (some (55, true))⟩),
([], ⟨(some 59), .mv (.t 1), (some (55, true))⟩),
([], ⟨(some 60), .ia (.t 59) (.c (.i .i64 2)) 1, (some (55, true))⟩),
([7], ⟨(some 61), .ld (.t 60) 1 false, (some (55, true))⟩),
([], ⟨(some 62), .bin .eql (.t 58) (.t 61), (some (55, true))⟩),
([], ⟨(some 63), .pick (.t 55) (.t 62) (.c (.b false)), none⟩)]) ( .cond (.t 63) (
.seq ( .region [
 ⟨(some 64), .mv (.t 1), none⟩,
⟨(some 65), .ia (.t 64) (.c (.i .i64 1)) 1, none⟩,
⟨(some 66), .ld (.t 65) 1 false, none⟩,
⟨(some 4), .mv (.t 66), none⟩]) ( .ret)) ( .skip))) (
.seq ( .region [
 ⟨(some 6), .mv (.t 0), none⟩,
⟨(some 7), .mv (.t 1), none⟩,
⟨(some 8), .callf 249 [(.t 6), (.t 7)], none⟩]) ( .cond (.t 8) (
.seq ( .region [
 ⟨(some 4), .mv (.c (.i .i64 4)), none⟩]) ( .ret)) ( .skip))))))))))))))))))) (
.seq ( .region [
 ⟨(some 4), .mv (.c (.i .i64 0)), none⟩]) ( .ret))), [.tmp 4], false, none⟩
theorem k215 : CodeOk Tryz.prog 215 c215 := codeOk (hs := []) Tryz.func215 (by kernel_rfl)
def c217 : AFunc := ⟨13,
.seq ( .region [
 ⟨(some 4), .mv (.c (.s [])), none⟩,
⟨(some 5), .mv (.c (.s [])), none⟩,
⟨(some 6), .mv (.c (.b false)), none⟩]) (
.seq ( .region [
 ⟨(some 7), .mv (.t 0), none⟩,
⟨(some 8), .mv (.t 1), none⟩,
⟨(some 9), .callf 250 [(.t 7), (.t 8)], none⟩,
⟨(some 10), .ext (.t 9) 0, none⟩,
⟨(some 11), .ext (.t 9) 1, none⟩,
⟨(some 12), .ext (.t 9) 2, none⟩,
⟨(some 4), .mv (.t 10), none⟩,
⟨(some 5), .mv (.t 11), none⟩,
⟨(some 6), .mv (.t 12), none⟩]) ( .ret)), [.tmp 4, .tmp 5, .tmp 6], false, none⟩
theorem k217 : CodeOk Tryz.prog 217 c217 := codeOk (hs := []) Tryz.func217 (by kernel_rfl)
def c218 : AFunc := ⟨10,
.seq ( .region [
 ⟨(some 2), .mv (.c (.b false)), none⟩]) (
.seq ( .region [
 ⟨(some 3), .mv (.t 0), none⟩,
⟨(some 4), .callf 174 [(.t 3)], none⟩,
⟨(some 5), .mv (.t 4), none⟩,
⟨(some 6), .mv (.t 0), (some (5, true))⟩,
⟨(some 7), .callf 251 [(.t 6)], (some (5, true))⟩,
⟨(some 8), .un .not (.t 7), (some (5, true))⟩,
⟨(some 9), .pick (.t 5) (.t 8) (.c (.b false)), none⟩,
⟨(some 2), .mv (.t 9), none⟩]) ( .ret)), [.tmp 2], false, none⟩
theorem k218 : CodeOk Tryz.prog 218 c218 := codeOk (hs := []) Tryz.func218 (by kernel_rfl)
def c219_L1 : ACode :=
.seq (
.seq ( .region [
 ⟨(some 6), .mv (.t 5), none⟩,
⟨(some 7), .mv (.t 0), none⟩,
⟨(some 8), .lenV (.t 7), none⟩,
⟨(some 9), .bin .lss (.t 6) (.t 8), none⟩]) ( .cond (.t 9) ( .skip) ( .exit 0))) (
.seq ( .block 1 (
.seq ( .region [
 ⟨(some 12), .mv (.t 0), none⟩,
⟨(some 13), .mv (.t 5), none⟩,
⟨(some 14), .ia (.t 12) (.t 13) 1, none⟩,
⟨(some 15), .ld (.t 14) 1 false, none⟩,
⟨(some 16), .mv (.t 1), none⟩,
⟨(some 17), .bin .neq (.t 15) (.t 16), none⟩]) ( .cond (.t 17) (
.seq ( .region [
 ⟨(some 4), .mv (.c (.b false)), none⟩]) ( .ret)) ( .skip)))) ( .region [
 ⟨(some 10), .mv (.t 5), none⟩,
⟨(some 11), .bin .add (.t 10) (.c (.i .i64 1)), none⟩,
⟨(some 5), .mv (.t 11), none⟩]))
def c219 : AFunc := ⟨18,
.seq ( .region [
 ⟨(some 4), .mv (.c (.b false)), none⟩]) (
.seq (
.seq ( .region [
 ⟨(some 5), .mv (.c (.i .i64 0)), none⟩]) ( .block 0 ( .loop c219_L1))) (
.seq ( .region [
 ⟨(some 4), .mv (.c (.b true)), none⟩]) ( .ret))), [.tmp 4], false, none⟩
theorem k219 : CodeOk Tryz.prog 219 c219 := codeOk (hs := []) Tryz.func219 (by kernel_rfl)
def c223_L1 : ACode :=
.seq (
.seq ( .region [
 ⟨(some 6), .mv (.t 5), none⟩,
⟨(some 7), .mv (.t 0), none⟩,
⟨(some 8), .lenS (.t 7), none⟩,
⟨(some 9), .bin .lss (.t 6) (.t 8), none⟩]) ( .cond (.t 9) ( .skip) ( .exit 0))) (
.seq ( .block 1 (
.seq ( .region [
 ⟨(some 12), .mv (.t 0), none⟩,
⟨(some 13), .mv (.t 5), none⟩,
⟨(some 14), .ixS (.t 12) (.t 13), none⟩,
⟨(some 15), .mv (.t 1), none⟩,
⟨(some 16), .bin .eql (.t 14) (.t 15), none⟩]) ( .cond (.t 16) (
.seq ( .region [
 ⟨(some 17), .mv (.t 5), none⟩,
⟨(some 4), .mv (.t 17), none⟩]) ( .ret)) ( .skip)))) ( .region [
 ⟨(some 10), .mv (.t 5), none⟩,
⟨(some 11), .bin .add (.t 10) (.c (.i .i64 1)), none⟩,
⟨(some 5), .mv (.t 11), none⟩]))
def c223 : AFunc := ⟨18,
.seq ( .region [
 ⟨(some 4), .mv (.c (.i .i64 0)), none⟩]) (
.seq (
.seq ( .region [
 ⟨(some 5), .mv (.c (.i .i64 0)), none⟩]) ( .block 0 ( .loop c223_L1))) (
.seq ( .region [
 ⟨(some 4), .mv (.c (.i .i64 (-1))), none⟩]) ( .ret))), [.tmp 4], false, none⟩
theorem k223 : CodeOk Tryz.prog 223 c223 := codeOk (hs := []) Tryz.func223 (by kernel_rfl)
def c224 : AFunc := ⟨13,
.seq ( .region [
 ⟨(some 2), .mv (.c (.i .i64 0)), none⟩]) (
.seq (
.seq ( .region [
 ⟨(some 3), .mv (.t 0), none⟩]) ( .block 0 (
.seq (
.seq ( .region [
 ⟨(some 5), .bin .eql (.t 3) (.c (.s [98, 108, 111, 99, 107])), none⟩,
⟨(some 4), .mv (.t 5), none⟩]) ( .cond (.t 4) ( .skip) (
.seq ( .region [
 ⟨(some 6), .bin .eql (.t 3) (.c (.s [115, 112, 97, 110])), none⟩,
⟨(some 4), .mv (.t 6), none⟩]) ( .cond (.t 4) ( .skip) (
.seq ( .region [
 ⟨(some 7), .bin .eql (.t 3) (.c (.s [110, 105, 103, 104, 116])), none⟩,
⟨(some 4), .mv (.t 7), none⟩]) ( .cond (.t 4) ( .skip) ( .region [
 ⟨(some 8), .bin .eql (.t 3) (.c (.s [99, 114, 101, 100, 105, 116])), none⟩,
⟨(some 4), .mv (.t 8), none⟩]))))))) ( .cond (.t 4) (
.seq ( .region [
 ⟨(some 2), .mv (.c (.i .i64 3)), none⟩]) ( .ret)) (
.seq (
.seq ( .region [
 ⟨(some 10), .bin .eql (.t 3) (.c (.s [108, 101, 103, 115])), none⟩,
⟨(some 9), .mv (.t 10), none⟩]) ( .cond (.t 9) ( .skip) (
.seq ( .region [
 ⟨(some 11), .bin .eql (.t 3) (.c (.s [104, 101, 97, 100, 115])), none⟩,
⟨(some 9), .mv (.t 11), none⟩]) ( .cond (.t 9) ( .skip) ( .region [
 ⟨(some 12), .bin .eql (.t 3) (.c (.s [100, 117, 116, 105, 101, 115])), none⟩,
⟨(some 9), .mv (.t 12), none⟩]))))) ( .cond (.t 9) (
.seq ( .region [
 ⟨(some 2), .mv (.c (.i .i64 2)), none⟩]) ( .ret)) ( .skip))))))) (
.seq ( .region [
 ⟨(some 2), .mv (.c (.i .i64 0)), none⟩]) ( .ret))), [.tmp 2], false, none⟩
theorem k224 : CodeOk Tryz.prog 224 c224 := codeOk (hs := []) Tryz.func224 (by kernel_rfl)
def c225 : AFunc := ⟨18,
.seq ( .region [
 ⟨(some 2), .box (.t 0) false, none⟩,
⟨(some 4), .mv (.c (.i .i64 0)), none⟩,
⟨(some 5), .mv (.c (.i .i64 0)), none⟩]) (
.seq (
.seq ( .region [
 ⟨(some 7), .ld (.t 2) 3 true, none⟩,
⟨(some 8), .callf 116 [(.t 7)], none⟩,
⟨(some 6), .mv (.t 8), none⟩]) (
.seq ( .region [
 ⟨(some 9), .mv (.t 6), none⟩,
⟨(some 10), .bin .neq (.t 9) (.c (.i .i64 0)), none⟩]) ( .cond (.t 10) (
.seq ( .region [
 ⟨(some 11), .mv (.t 6), none⟩,
⟨(some 4), .mv (.c (.i .i64 0)), none⟩,
⟨(some 5), .mv (.t 11), none⟩]) ( .ret)) ( .skip)))) (
.seq (
.seq ( .region [
 ⟨(some 12), .mv (.t 1), none⟩,
⟨(some 13), .callf 176 [(.t 12)], none⟩,
⟨(some 14), .un .not (.t 13), none⟩]) ( .cond (.t 14) (
.seq ( .region [
 ⟨(some 4), .mv (.c (.i .i64 0)), none⟩,
⟨(some 5), .mv (.c (.i .i64 5)), none⟩]) ( .ret)) ( .skip))) (
.seq ( .region [
 ⟨(some 15), .ld (.t 2) 3 true, none⟩,
⟨(some 16), .mv (.t 1), none⟩,
⟨(some 17), .callf 199 [(.t 15), (.t 16)], none⟩,
⟨(some 4), .mv (.t 17), none⟩,
⟨(some 5), .mv (.c (.i .i64 0)), none⟩]) ( .ret)))), [.tmp 4, .tmp 5], false, none⟩
theorem k225 : CodeOk Tryz.prog 225 c225 := codeOk (hs := []) Tryz.func225 (by kernel_rfl)
def c228 : AFunc := ⟨9,
.seq ( .region [
 ⟨(some 2), .mv (.c (.b false)), none⟩]) (
.seq ( .region [
 ⟨(some 3), .mv (.t 0), none⟩,
⟨(some 4), .bin .geq (.t 3) (.c (.i .u8 97)), none⟩,
⟨(some 5), .mv (.t 4), none⟩,
⟨(some 6), .mv (.t 0), (some (5, true))⟩,
⟨(some 7), .bin .leq (.t 6) (.c (.i .u8 122)), (some (5, true))⟩,
⟨(some 8), .pick (.t 5) (.t 7) (.c (.b false)), none⟩,
⟨(some 2), .mv (.t 8), none⟩]) ( .ret)), [.tmp 2], false, none⟩
theorem k228 : CodeOk Tryz.prog 228 c228 := codeOk (hs := []) Tryz.func228 (by kernel_rfl)
def c229 : AFunc := ⟨9,
.seq ( .region [
 ⟨(some 2), .mv (.c (.b false)), none⟩]) (
.seq ( .region [
 ⟨(some 3), .mv (.t 0), none⟩,
⟨(some 4), .bin .geq (.t 3) (.c (.i .u8 48)), none⟩,
⟨(some 5), .mv (.t 4), none⟩,
⟨(some 6), .mv (.t 0), (some (5, true))⟩,
⟨(some 7), .bin .leq (.t 6) (.c (.i .u8 57)), (some (5, true))⟩,
⟨(some 8), .pick (.t 5) (.t 7) (.c (.b false)), none⟩,
⟨(some 2), .mv (.t 8), none⟩]) ( .ret)), [.tmp 2], false, none⟩
theorem k229 : CodeOk Tryz.prog 229 c229 := codeOk (hs := []) Tryz.func229 (by kernel_rfl)
def c230 : AFunc := ⟨18,
.seq ( .region [
 ⟨(some 2), .box (.t 0) false, none⟩,
⟨(some 4), .mv (.c (.i .i64 0)), none⟩,
⟨(some 5), .mv (.c (.i .i64 0)), none⟩]) (
.seq (
.seq ( .region [
 ⟨(some 7), .ld (.t 2) 3 true, none⟩,
⟨(some 8), .callf 120 [(.t 7)], none⟩,
⟨(some 6), .mv (.t 8), none⟩]) (
.seq ( .region [
 ⟨(some 9), .mv (.t 6), none⟩,
⟨(some 10), .bin .neq (.t 9) (.c (.i .i64 0)), none⟩]) ( .cond (.t 10) (
.seq ( .region [
 ⟨(some 11), .mv (.t 6), none⟩,
⟨(some 4), .mv (.c (.i .i64 0)), none⟩,
⟨(some 5), .mv (.t 11), none⟩]) ( .ret)) ( .skip)))) (
.seq (
.seq ( .region [
 ⟨(some 12), .mv (.t 1), none⟩,
⟨(some 13), .callf 184 [(.t 12)], none⟩,
⟨(some 14), .un .not (.t 13), none⟩]) ( .cond (.t 14) (
.seq ( .region [
 ⟨(some 4), .mv (.c (.i .i64 0)), none⟩,
⟨(some 5), .mv (.c (.i .i64 5)), none⟩]) ( .ret)) ( .skip))) (
.seq ( .region [
 ⟨(some 15), .ld (.t 2) 3 true, none⟩,
⟨(some 16), .mv (.t 1), none⟩,
⟨(some 17), .callf 261 [(.t 15), (.t 16)], none⟩,
⟨(some 4), .mv (.t 17), none⟩,
⟨(some 5), .mv (.c (.i .i64 0)), none⟩]) ( .ret)))), [.tmp 4, .tmp 5], false, none⟩
theorem k230 : CodeOk Tryz.prog 230 c230 := codeOk (hs := []) Tryz.func230 (by kernel_rfl)
def c231 : AFunc := ⟨16,
.seq ( .region [
 ⟨(some 4), .mv (.c (.i .i64 0)), none⟩]) (
.seq ( .region [
 ⟨(some 6), .mv (.t 0), none⟩,
⟨(some 7), .mv (.t 1), none⟩,
⟨(some 8), .bin .quo (.t 6) (.t 7), none⟩,
⟨(some 5), .mv (.t 8), none⟩]) (
.seq (
.seq ( .region [
 ⟨(some 9), .mv (.t 0), none⟩,
⟨(some 10), .mv (.t 1), none⟩,
⟨(some 11), .bin .rem (.t 9) (.t 10), none⟩,
⟨(some 12), .bin .lss (.t 11) (.c (.i .i64 0)), none⟩]) ( .cond (.t 12) ( .region [
 ⟨(some 13), .mv (.t 5), none⟩,
⟨(some 14), .bin .sub (.t 13) (.c (.i .i64 1)), none⟩,
⟨(some 5), .mv (.t 14), none⟩]) ( .skip))) (
.seq ( .region [
 ⟨(some 15), .mv (.t 5), none⟩,
⟨(some 4), .mv (.t 15), none⟩]) ( .ret)))), [.tmp 4], false, none⟩
theorem k231 : CodeOk Tryz.prog 231 c231 := codeOk (hs := []) Tryz.func231 (by kernel_rfl)
def c232 : AFunc := ⟨44,
.seq ( .region [
 ⟨(some 2), .mv (.c (.i .i64 0)), none⟩,
⟨(some 3), .mv (.c (.i .i64 0)), none⟩]) (
.seq (
.seq ( .region [
 ⟨(some 8), .mv (.t 0), none⟩,
⟨(some 9), .lenS (.t 8), none⟩,
⟨(some 10), .bin .neq (.t 9) (.c (.i .i64 5)), none⟩,
⟨(some 11), .mv (.t 10), none⟩,
⟨(some 12), .mv (.t 0), (some (11, false))⟩,
⟨(some 13), .ixS (.t 12) (.c (.i .i64 2)), (some (11, false))⟩,
⟨(some 14), .bin .neq (.t 13) (.c (.i .u8 58)), (some (11, false))⟩,
⟨(some 15), .pick (.t 11) (.c (.b true)) (.t 14), none⟩]) ( .cond (.t 15) (
.seq ( .region [
 ⟨(some 2), .mv (.c (.i .i64 0)), none⟩,
⟨(some 3), .mv (.c (.i .i64 1)), none⟩]) ( .ret)) ( .skip))) (
.seq ( .region [
 ⟨(some 17), .mv (.t 0), none⟩,
⟨(some 18), .slS (.t 17) none (some (.c (.i .i64 2))), none⟩,
⟨(some 19), .callf 234 [(.t 18), (.c (.i .i64 2)), (.c (.i .i64 2))], none⟩,
⟨(some 16), .mv (.t 19), none⟩,
⟨(some 20), .ext (.t 16) 0, none⟩,
⟨(some 21), .ext (.t 16) 1, none⟩,
⟨(some 4), .mv (.t 20), none⟩,
⟨(some 5), .mv (.t 21), none⟩]) (
.seq ( .region [
 ⟨(some 23), .mv (.t 0), none⟩,
⟨(some 24), .slS (.t 23) (some (.c (.i .i64 3))) none, none⟩,
⟨(some 25), .callf 234 [(.t 24), (.c (.i .i64 2)), (.c (.i .i64 2))], none⟩,
⟨(some 22), .mv (.t 25), none⟩,
⟨(some 26), .ext (.t 22) 0, none⟩,
⟨(some 27), .ext (.t 22) 1, none⟩,
⟨(some 6), .mv (.t 26), none⟩,
⟨(some 7), .mv (.t 27), none⟩]) (
.seq (
.seq ( .region [
 ⟨(some 28), .mv (.t 5), none⟩,
⟨(some 29), .un .not (.t 28), none⟩,
⟨(some 30), .mv (.t 29), none⟩,
⟨(some 31), .mv (.t 7), (some (30, false))⟩,
⟨(some 32), .un .not (.t 31), (some (30, false))⟩,
⟨(some 33), .pick (.t 30) (.c (.b true)) (.t 32), none⟩]) ( .cond (.t 33) (
.seq ( .region [
 ⟨(some 2), .mv (.c (.i .i64 0)), none⟩,
⟨(some 3), .mv (.c (.i .i64 1)), none⟩]) ( .ret)) ( .skip))) (
.seq (
.seq ( .region [
 ⟨(some 34), .mv (.t 4), none⟩,
⟨(some 35), .bin .gtr (.t 34) (.c (.i .i64 23)), none⟩,
⟨(some 36), .mv (.t 35), none⟩,
⟨(some 37), .mv (.t 6), (some (36, false))⟩,
⟨(some 38), .bin .gtr (.t 37) (.c (.i .i64 59)), (some (36, false))⟩,
⟨(some 39), .pick (.t 36) (.c (.b true)) (.t 38), none⟩]) ( .cond (.t 39) (
.seq ( .region [
 ⟨(some 2), .mv (.c (.i .i64 0)), none⟩,
⟨(some 3), .mv (.c (.i .i64 5)), none⟩]) ( .ret)) ( .skip))) (
.seq ( .region [
 ⟨(some 40), .mv (.t 4), none⟩,
⟨(some 41), .bin .mul (.c (.i .i64 60)) (.t 40), none⟩,
⟨(some 42), .mv (.t 6), none⟩,
⟨(some 43), .bin .add (.t 41) (.t 42), none⟩,
⟨(some 2), .mv (.t 43), none⟩,
⟨(some 3), .mv (.c (.i .i64 0)), none⟩]) ( .ret))))))), [.tmp 2, .tmp 3], false, none⟩
theorem k232 : CodeOk Tryz.prog 232 c232 := codeOk (hs := []) Tryz.func232 (by kernel_rfl)
def c233 : AFunc := ⟨86,
.seq ( .region [
 ⟨(some 2), .mv (.c (.i .i64 0)), none⟩,
⟨(some 3), .mv (.c (.i .i64 0)), none⟩]) (
.seq ( .region [
 ⟨(some 11), .mv (.t 0), none⟩,
⟨(some 12), .lenS (.t 11), none⟩,
⟨(some 13), .bin .gtr (.t 12) (.c (.i .i64 0)), none⟩,
⟨(some 14), .mv (.t 13), none⟩,
⟨(some 15), .mv (.t 0), (some (14, true))⟩,
⟨(some 16), .ixS (.t 15) (.c (.i .i64 0)), (some (14, true))⟩,
⟨(some 17), .bin .eql (.t 16) (.c (.i .u8 45)), (some (14, true))⟩,
⟨(some 18), .pick (.t 14) (.t 17) (.c (.b false)), none⟩,
⟨(some 4), .mv (.t 18), none⟩]) (
.seq (
.seq ( .region [
 ⟨(some 19), .mv (.t 4), none⟩]) ( .cond (.t 19) ( .region [
 ⟨(some 20), .mv (.t 0), none⟩,
⟨(some 21), .slS (.t 20) (some (.c (.i .i64 1))) none, none⟩,
⟨(some 0), .mv (.t 21), none⟩]) ( .skip))) (
.seq ( .region [
 ⟨(some 22), .mv (.t 0), none⟩,
⟨(some 23), .lenS (.t 22), none⟩,
⟨(some 24), .bin .sub (.t 23) (.c (.i .i64 3)), none⟩,
⟨(some 5), .mv (.t 24), none⟩]) (
.seq (
.seq ( .region [
 ⟨(some 25), .mv (.t 5), none⟩,
⟨(some 26), .bin .lss (.t 25) (.c (.i .i64 1)), none⟩,
⟨(some 27), .mv (.t 26), none⟩,
⟨(some 28), .mv (.t 0), (some (27, false))⟩,
⟨(some 29), .mv (.t 5), (some (27, false))⟩,
⟨(some 30), .ixS (.t 28) (.t 29), (some (27, false))⟩,
⟨(some 31), .bin .neq (.t 30) (.c (.i .u8 58)), (some (27, false))⟩,
⟨(some 32), .pick (.t 27) (.c (.b true)) (.t 31), none⟩]) ( .cond (.t 32) (
.seq ( .region [
 ⟨(some 2), .mv (.c (.i .i64 0)), none⟩,
⟨(some 3), .mv (.c (.i .i64 1)), none⟩]) ( .ret)) ( .skip))) (
.seq ( .region [
 ⟨(some 34), .mv (.t 0), none⟩,
⟨(some 35), .mv (.t 5), none⟩,
⟨(some 36), .slS (.t 34) none (some (.t 35)), none⟩,
⟨(some 37), .callf 234 [(.t 36), (.c (.i .i64 1)), (.c (.i .i64 11))], none⟩,
⟨(some 33), .mv (.t 37), none⟩,
⟨(some 38), .ext (.t 33) 0, none⟩,
⟨(some 39), .ext (.t 33) 1, none⟩,
⟨(some 6), .mv (.t 38), none⟩,
⟨(some 7), .mv (.t 39), none⟩]) (
.seq ( .region [
 ⟨(some 41), .mv (.t 0), none⟩,
⟨(some 42), .mv (.t 5), none⟩,
⟨(some 43), .bin .add (.t 42) (.c (.i .i64 1)), none⟩,
⟨(some 44), .slS (.t 41) (some (.t 43)) none, none⟩,
⟨(some 45), .callf 234 [(.t 44), (.c (.i .i64 2)), (.c (.i .i64 2))], none⟩,
⟨(some 40), .mv (.t 45), none⟩,
⟨(some 46), .ext (.t 40) 0, none⟩,
⟨(some 47), .ext (.t 40) 1, none⟩,
⟨(some 8), .mv (.t 46), none⟩,
⟨(some 9), .mv (.t 47), none⟩]) (
.seq (
.seq ( .region [
 ⟨(some 48), .mv (.t 7), none⟩,
⟨(some 49), .un .not (.t 48), none⟩,
⟨(some 50), .mv (.t 49), none⟩,
⟨(some 51), .mv (.t 9), (some (50, false))⟩,
⟨(some 52), .un .not (.t 51), (some (50, false))⟩,
⟨(some 53), .pick (.t 50) (.c (.b true)) (.t 52), none⟩,
⟨(some 54), .mv (.t 53), none⟩,
⟨(some 55), .mv (.t 0), (some (54, false))⟩,
⟨(some 56), .mv (.t 5), (some (54, false))⟩,
⟨(some 57), .slS (.t 55) none (some (.t 56)), (some (54, false))⟩,
⟨(some 58), .callf 262 [(.t 57)], (some (54, false))⟩,
⟨(some 59), .un .not (.t 58), (some (54, false))⟩,
⟨(some 60), .pick (.t 54) (.c (.b true)) (.t 59), none⟩,
⟨(some 61), .mv (.t 60), none⟩,
⟨(some 62), .mv (.t 4), (some (61, false))⟩,
⟨(some 63), .mv (.t 62), (some (61, false))⟩,
⟨(some 64), .mv (.t 6), (some (63, true))⟩,
⟨(some 65), .bin .eql (.t 64) (.c (.i .i64 0)), (some (63, true))⟩,
⟨(some 66), .pick (.t 63) (.t 65) (.c (.b false)), (some (61, false))⟩,
⟨(some 67), .mv (.t 66), (some (61, false))⟩,
⟨(some 68), .mv (.t 8), (some (67, true))⟩,
⟨(some 69), .bin .eql (.t 68) (.c (.i .i64 0)), (some (67, true))⟩,
⟨(some 70), .pick (.t 67) (.t 69) (.c (.b false)), (some (61, false))⟩,
⟨(some 71), .pick (.t 61) (.c (.b true)) (.t 70), none⟩]) ( .cond (.t 71) (
.seq ( .region [
 ⟨(some 2), .mv (.c (.i .i64 0)), none⟩,
⟨(some 3), .mv (.c (.i .i64 1)), none⟩]) ( .ret)) ( .skip))) (
.seq ( .region [
 ⟨(some 72), .mv (.t 6), none⟩,
⟨(some 73), .bin .mul (.c (.i .i64 60)) (.t 72), none⟩,
⟨(some 74), .mv (.t 8), none⟩,
⟨(some 75), .bin .add (.t 73) (.t 74), none⟩,
⟨(some 10), .mv (.t 75), none⟩]) (
.seq (
.seq ( .region [
 ⟨(some 76), .mv (.t 8), none⟩,
⟨(some 77), .bin .gtr (.t 76) (.c (.i .i64 59)), none⟩,
⟨(some 78), .mv (.t 77), none⟩,
⟨(some 79), .mv (.t 10), (some (78, false))⟩,
⟨(some 80), .bin .gtr (.t 79) (.c (.i .i64 1099511627776)), (some (78, false))⟩,
⟨(some 81), .pick (.t 78) (.c (.b true)) (.t 80), none⟩]) ( .cond (.t 81) (
.seq ( .region [
 ⟨(some 2), .mv (.c (.i .i64 0)), none⟩,
⟨(some 3), .mv (.c (.i .i64 5)), none⟩]) ( .ret)) ( .skip))) (
.seq (
.seq ( .region [
 ⟨(some 82), .mv (.t 4), none⟩]) ( .cond (.t 82) ( .region [
 ⟨(some 83), .mv (.t 10), none⟩,
⟨(some 84), .un .neg (.t 83), none⟩,
⟨(some 10), .mv (.t 84), none⟩]) ( .skip))) (
.seq ( .region [
 ⟨(some 85), .mv (.t 10), none⟩,
⟨(some 2), .mv (.t 85), none⟩,
⟨(some 3), .mv (.c (.i .i64 0)), none⟩]) ( .ret)))))))))))), [.tmp 2, .tmp 3], false, none⟩
theorem k233 : CodeOk Tryz.prog 233 c233 := codeOk (hs := []) Tryz.func233 (by kernel_rfl)
def c234_L1 : ACode :=
.seq (
.seq ( .region [
 ⟨(some 20), .mv (.t 9), none⟩,
⟨(some 21), .mv (.t 0), none⟩,
⟨(some 22), .lenS (.t 21), none⟩,
⟨(some 23), .bin .lss (.t 20) (.t 22), none⟩]) ( .cond (.t 23) ( .skip) ( .exit 0))) (
.seq ( .block 1 (
.seq (
.seq ( .region [
 ⟨(some 26), .mv (.t 0), none⟩,
⟨(some 27), .mv (.t 9), none⟩,
⟨(some 28), .ixS (.t 26) (.t 27), none⟩,
⟨(some 29), .callf 229 [(.t 28)], none⟩,
⟨(some 30), .un .not (.t 29), none⟩]) ( .cond (.t 30) (
.seq ( .region [
 ⟨(some 6), .mv (.c (.i .i64 0)), none⟩,
⟨(some 7), .mv (.c (.b false)), none⟩]) ( .ret)) ( .skip))) ( .region [
 ⟨(some 31), .mv (.t 8), none⟩,
⟨(some 32), .bin .mul (.c (.i .i64 10)) (.t 31), none⟩,
⟨(some 33), .mv (.t 0), none⟩,
⟨(some 34), .mv (.t 9), none⟩,
⟨(some 35), .ixS (.t 33) (.t 34), none⟩,
⟨(some 36), .bin .sub (.t 35) (.c (.i .u8 48)), none⟩,
⟨(some 37), .cvi .i64 (.t 36), none⟩,
⟨(some 38), .bin .add (.t 32) (.t 37), none⟩,
⟨(some 8), .mv (.t 38), none⟩]))) ( .region [
 ⟨(some 24), .mv (.t 9), none⟩,
⟨(some 25), .bin .add (.t 24) (.c (.i .i64 1)), none⟩,
⟨(some 9), .mv (.t 25), none⟩]))
def c234 : AFunc := ⟨40,
.seq ( .region [
 ⟨(some 6), .mv (.c (.i .i64 0)), none⟩,
⟨(some 7), .mv (.c (.b false)), none⟩]) (
.seq (
.seq ( .region [
 ⟨(some 10), .mv (.t 0), none⟩,
⟨(some 11), .lenS (.t 10), none⟩,
⟨(some 12), .mv (.t 1), none⟩,
⟨(some 13), .bin .lss (.t 11) (.t 12), none⟩,
⟨(some 14), .mv (.t 13), none⟩,
⟨(some 15), .mv (.t 0), (some (14, false))⟩,
⟨(some 16), .lenS (.t 15), (some (14, false))⟩,
⟨(some 17), .mv (.t 2), (some (14, false))⟩,
⟨(some 18), .bin .gtr (.t 16) (.t 17), (some (14, false))⟩,
⟨(some 19), .pick (.t 14) (.c (.b true)) (.t 18), none⟩]) ( .cond (.t 19) (
.seq ( .region [
 ⟨(some 6), .mv (.c (.i .i64 0)), none⟩,
⟨(some 7), .mv (.c (.b false)), none⟩]) ( .ret)) ( .skip))) (
.seq ( .region [
 ⟨(some 8), .mv (.c (.i .i64 0)), none⟩]) (
.seq (
.seq ( .region [
 ⟨(some 9), .mv (.c (.i .i64 0)), none⟩]) ( .block 0 ( .loop c234_L1))) (
.seq ( .region [
 ⟨(some 39), .mv (.t 8), none⟩,
⟨(some 6), .mv (.t 39), none⟩,
⟨(some 7), .mv (.c (.b true)), none⟩]) ( .ret))))), [.tmp 6, .tmp 7], false, none⟩
theorem k234 : CodeOk Tryz.prog 234 c234 := codeOk (hs := []) Tryz.func234 (by kernel_rfl)
def c235 : AFunc := ⟨14,
.seq ( .region [
 ⟨(some 2), .alloc [(.i .i64 0), (.i .i64 0), (.s []), .nilsl] false, none⟩]) (
.seq ( .region [
 ⟨(some 4), .mv (.t 0), none⟩,
⟨(some 5), .callf 263 [(.t 4)], none⟩,
⟨(some 3), .alloc [(.i .i64 0), (.i .i64 0), (.s []), .nilsl] false, none⟩,
⟨none, .st (.t 3) (.t 5) 4, none⟩]) (
.seq (
.seq ( .region [
 ⟨(some 6), .mv (.t 0), none⟩,
⟨(some 7), .callf 264 [(.t 6), (.c (.s [105, 109, 112, 108, 105, 101, 115]))], none⟩]) ( .cond (.t 7) (
.seq ( .draws [ ([], ⟨(some 8), .ld (.t 3) 4 true, none⟩),
([], ⟨(some 9), .mv (.t 0), none⟩),
([0], ⟨(some 10), .callf 235 [(.t 9)], none⟩),
([], ⟨(some 11), .bsl [(.i .i64 0), (.i .i64 0), (.s []), .nilsl] 2 [(0, (.t 8)), (1, (.t 10))], none⟩),
([], ⟨(some 12), .build [(.i .i64 0), (.i .i64 0), (.s []), .nilsl] [(0, 1, (.c (.i .i64 22))), (3, 1, (.t 11))], none⟩),
([], ⟨none, .st (.t 2) (.t 12) 4, none⟩)]) ( .ret)) ( .skip))) (
.seq ( .region [
 ⟨(some 13), .ld (.t 3) 4 true, none⟩,
⟨none, .st (.t 2) (.t 13) 4, none⟩]) ( .ret)))), [.cell 2 4 true], true, none⟩
theorem k235 : CodeOk Tryz.prog 235 c235 := codeOk (hs := []) Tryz.func235 (by kernel_rfl)
def c236 : AFunc := ⟨16,
.seq ( .region [
 ⟨(some 2), .alloc [(.i .i64 0), (.i .i64 0), (.s []), .nilsl] false, none⟩]) (
.seq (
.seq ( .region [
 ⟨(some 3), .mv (.t 0), none⟩,
⟨(some 4), .nck (.t 3), none⟩,
⟨(some 5), .fa (.t 4) 2, none⟩,
⟨(some 6), .ld (.t 5) 1 false, none⟩,
⟨(some 7), .bin .lss (.t 6) (.c (.i .i64 0)), none⟩]) ( .cond (.t 7) ( .region [
 ⟨(some 8), .mv (.t 0), none⟩,
⟨(some 9), .mv (.t 0), none⟩,
⟨(some 10), .nck (.t 9), none⟩,
⟨(some 11), .fa (.t 10) 1, none⟩,
⟨(some 12), .ld (.t 11) 1 false, none⟩,
⟨(some 13), .nck (.t 8), none⟩,
⟨(some 14), .fa (.t 13) 2, none⟩,
⟨none, .st (.t 14) (.t 12) 1, none⟩]) ( .skip))) (
.seq ( .region [
 ⟨(some 15), .build [(.i .i64 0), (.i .i64 0), (.s []), .nilsl] [], none⟩,
⟨none, .st (.t 2) (.t 15) 4, none⟩]) ( .ret))), [.cell 2 4 true], false, none⟩
theorem k236 : CodeOk Tryz.prog 236 c236 := codeOk (hs := []) Tryz.func236 (by kernel_rfl)
def c243 : AFunc := ⟨15,
.seq ( .region [
 ⟨(some 4), .mv (.c (.s [])), none⟩,
⟨(some 5), .mv (.c (.b false)), none⟩]) (
.seq (
.seq ( .region [
 ⟨(some 6), .mv (.t 0), none⟩,
⟨(some 7), .mv (.t 1), none⟩,
⟨(some 8), .callf 266 [(.t 6), (.t 7)], none⟩,
⟨(some 9), .un .not (.t 8), none⟩]) ( .cond (.t 9) (
.seq ( .region [
 ⟨(some 10), .mv (.t 0), none⟩,
⟨(some 4), .mv (.t 10), none⟩,
⟨(some 5), .mv (.c (.b false)), none⟩]) ( .ret)) ( .skip))) (
.seq ( .region [
 ⟨(some 11), .mv (.t 0), none⟩,
⟨(some 12), .mv (.t 1), none⟩,
⟨(some 13), .lenS (.t 12), none⟩,
⟨(some 14), .slS (.t 11) (some (.t 13)) none, none⟩,
⟨(some 4), .mv (.t 14), none⟩,
⟨(some 5), .mv (.c (.b true)), none⟩]) ( .ret))), [.tmp 4, .tmp 5], false, none⟩
theorem k243 : CodeOk Tryz.prog 243 c243 := codeOk (hs := []) Tryz.func243 (by kernel_rfl)
def c246 : AFunc := ⟨9,
.seq ( .region [
 ⟨(some 2), .mv (.c (.b false)), none⟩]) (
.seq ( .region [
 ⟨(some 3), .mv (.t 0), none⟩,
⟨(some 4), .bin .eql (.t 3) (.c (.i .i64 1)), none⟩,
⟨(some 5), .mv (.t 4), none⟩,
⟨(some 6), .mv (.t 0), (some (5, false))⟩,
⟨(some 7), .bin .eql (.t 6) (.c (.i .i64 2)), (some (5, false))⟩,
⟨(some 8), .pick (.t 5) (.c (.b true)) (.t 7), none⟩,
⟨(some 2), .mv (.t 8), none⟩]) ( .ret)), [.tmp 2], false, none⟩
theorem k246 : CodeOk Tryz.prog 246 c246 := codeOk (hs := []) Tryz.func246 (by kernel_rfl)
def c247_L1 : ACode :=
.seq ( .region [
 ⟨(some 10), .bin .lss (.t 9) (.t 8), none⟩]) (
.seq ( .cond (.t 10) ( .skip) ( .exit 0)) (
.seq ( .block 1 (
.seq ( .region [
 ⟨(some 11), .ia (.t 7) (.t 9) 1, none⟩,
⟨(some 12), .ld (.t 11) 1 false, none⟩,
⟨(some 6), .mv (.t 12), none⟩]) (
.seq ( .region [
 ⟨(some 13), .mv (.t 6), none⟩,
⟨(some 14), .mv (.t 1), none⟩,
⟨(some 15), .bin .neq (.t 13) (.t 14), none⟩]) ( .cond (.t 15) (
.seq ( .region [
 ⟨(some 4), .mv (.c (.b false)), none⟩]) ( .ret)) ( .skip))))) ( .region [
 ⟨(some 16), .bin .add (.t 9) (.c (.i .i64 1)), none⟩,
⟨(some 9), .mv (.t 16), none⟩])))
def c247 : AFunc := ⟨17,
.seq ( .region [
 ⟨(some 4), .mv (.c (.b false)), none⟩]) (
.seq (
.seq ( .region [
 ⟨(some 7), .mv (.t 0), none⟩,
⟨(some 8), .lenV (.t 7), none⟩,
⟨(some 9), .mv (.c (.i .i64 0)), none⟩]) ( .block 0 ( .loop c247_L1))) (
.seq ( .region [
 ⟨(some 4), .mv (.c (.b true)), none⟩]) ( .ret))), [.tmp 4], false, none⟩
theorem k247 : CodeOk Tryz.prog 247 c247 := codeOk (hs := []) Tryz.func247 (by kernel_rfl)
def c248 : AFunc := ⟨43,
.seq ( .region [
 ⟨(some 6), .mv (.c (.i .i64 0)), none⟩]) (
.seq ( .block 0 (
.seq ( .region [
 ⟨(some 8), .mv (.t 1), none⟩,
⟨(some 9), .bin .eql (.t 8) (.c (.i .i64 1)), none⟩,
⟨(some 10), .mv (.t 9), none⟩,
⟨(some 11), .mv (.t 2), (some (10, true))⟩,
⟨(some 12), .bin .eql (.t 11) (.c (.i .i64 1)), (some (10, true))⟩,
⟨(some 13), .pick (.t 10) (.t 12) (.c (.b false)), none⟩,
⟨(some 7), .mv (.t 13), none⟩]) ( .cond (.t 7) (
.seq ( .region [
 ⟨(some 6), .mv (.c (.i .i64 1)), none⟩]) ( .ret)) (
.seq ( .region [
 ⟨(some 15), .mv (.t 1), none⟩,
⟨(some 16), .bin .eql (.t 15) (.c (.i .i64 2)), none⟩,
⟨(some 17), .mv (.t 16), none⟩,
⟨(some 18), .mv (.t 2), (some (17, true))⟩,
⟨(some 19), .bin .eql (.t 18) (.c (.i .i64 1)), (some (17, true))⟩,
⟨(some 20), .pick (.t 17) (.t 19) (.c (.b false)), none⟩,
⟨(some 14), .mv (.t 20), none⟩]) ( .cond (.t 14) (
.seq ( .region [
 ⟨(some 6), .mv (.c (.i .i64 2)), none⟩]) ( .ret)) (
.seq ( .region [
 ⟨(some 22), .mv (.t 0), none⟩,
⟨(some 23), .bin .eql (.t 22) (.c (.i .i64 10)), none⟩,
⟨(some 24), .mv (.t 23), none⟩,
⟨(some 25), .mv (.t 1), (some (24, true))⟩,
⟨(some 26), .bin .eql (.t 25) (.c (.i .i64 1)), (some (24, true))⟩,
⟨(some 27), .pick (.t 24) (.t 26) (.c (.b false)), none⟩,
⟨(some 28), .mv (.t 27), none⟩,
⟨(some 29), .mv (.t 2), (some (28, true))⟩,
⟨(some 30), .bin .eql (.t 29) (.c (.i .i64 2)), (some (28, true))⟩,
⟨(some 31), .pick (.t 28) (.t 30) (.c (.b false)), none⟩,
⟨(some 21), .mv (.t 31), none⟩]) ( .cond (.t 21) (
.seq ( .region [
 ⟨(some 6), .mv (.c (.i .i64 2)), none⟩]) ( .ret)) (
.seq ( .region [
 ⟨(some 33), .mv (.t 0), none⟩,
⟨(some 34), .bin .eql (.t 33) (.c (.i .i64 11)), none⟩,
⟨(some 35), .mv (.t 34), none⟩,
⟨(some 36), .mv (.t 1), (some (35, true))⟩,
⟨(some 37), .bin .eql (.t 36) (.c (.i .i64 2)), (some (35, true))⟩,
⟨(some 38), .pick (.t 35) (.t 37) (.c (.b false)), none⟩,
⟨(some 39), .mv (.t 38), none⟩,
⟨(some 40), .mv (.t 2), (some (39, true))⟩,
⟨(some 41), .bin .eql (.t 40) (.c (.i .i64 2)), (some (39, true))⟩,
⟨(some 42), .pick (.t 39) (.t 41) (.c (.b false)), none⟩,
⟨(some 32), .mv (.t 42), none⟩]) ( .cond (.t 32) (
.seq ( .region [
 ⟨(some 6), .mv (.c (.i .i64 1)), none⟩]) ( .ret)) ( .skip)))))))))) (
.seq ( .region [
 ⟨(some 6), .mv (.c (.i .i64 0)), none⟩]) ( .ret))), [.tmp 6], false, none⟩
theorem k248 : CodeOk Tryz.prog 248 c248 := codeOk (hs := []) Tryz.func248 (by kernel_rfl)
def c249 : AFunc := ⟨37,
.seq ( .region [
 ⟨(some 4), .mv (.c (.b false)), none⟩]) (
.seq (
.seq ( .region [
 ⟨(some 5), .mv (.t 0), none⟩]) ( .block 0 (
.seq ( .region [
 ⟨(some 7), .bin .eql (.t 5) (.c (.i .i64 15)), none⟩,
⟨(some 6), .mv (.t 7), none⟩]) ( .cond (.t 6) (
.seq ( .region [
 ⟨(some 8), .mv (.t 1), none⟩,
⟨(some 9), .callf 247 [(.t 8), (.c (.i .i64 3))], none⟩,
⟨(some 4), .mv (.t 9), none⟩]) ( .ret)) (
.seq (
.seq ( .region [
 ⟨(some 11), .bin .eql (.t 5) (.c (.i .i64 16)), none⟩,
⟨(some 10), .mv (.t 11), none⟩]) ( .cond (.t 10) ( .skip) ( .region [
 ⟨(some 12), .bin .eql (.t 5) (.c (.i .i64 17)), none⟩,
⟨(some 10), .mv (.t 12), none⟩]))) ( .cond (.t 10) (
.seq ( .draws [ ([], ⟨(some 13), .mv (.t 1), none⟩),
([], ⟨(some 14), .ia (.t 13) (.c (.i .i64 0)) 1, none⟩),
([], ⟨(some 15), .ld (.t 14) 1 false, none⟩),
([], ⟨(some 16), .callf 246 [(.t 15)], none⟩),
([], ⟨(some 17), .mv (.t 16), none⟩),
([], ⟨(some 18), .mv (.t 1), (some (17, true))⟩),
([], ⟨(some 19), .ia (.t 18) (.c (.i .i64 0)) 1, (some (17, true))⟩),
([], ⟨(some 20), .ld (.t 19) 1 false, (some (17, true))⟩),
([], ⟨(some 21), .mv (.t 1), (some (17, true))⟩),
([], ⟨(some 22), .ia (.t 21) (.c (.i .i64 1)) 1, (some (17, true))⟩),
([7], ⟨(some 23), .ld (.t 22) 1 false, (some (17, true))⟩),
([], ⟨(some 24), .bin .eql (.t 20) (.t 23), (some (17, true))⟩),
([], ⟨(some 25), .pick (.t 17) (.t 24) (.c (.b false)), none⟩),
([], ⟨(some 4), .mv (.t 25), none⟩)]) ( .ret)) (
.seq ( .region [
 ⟨(some 27), .bin .eql (.t 5) (.c (.i .i64 18)), none⟩,
⟨(some 26), .mv (.t 27), none⟩]) ( .cond (.t 26) (
.seq ( .draws [ ([], ⟨(some 28), .mv (.t 1), none⟩),
([], ⟨(some 29), .ia (.t 28) (.c (.i .i64 0)) 1, none⟩),
([], ⟨(some 30), .ld (.t 29) 1 false, none⟩),
([], ⟨(some 31), .mv (.t 1), none⟩),
([], ⟨(some 32), .ia (.t 31) (.c (.i .i64 1)) 1, none⟩),
([2], ⟨(some 33), .ld (.t 32) 1 false, none⟩),
([], ⟨(some 34), .bin .eql (.t 30) (.t 33), none⟩),
([], ⟨(some 4), .mv (.t 34), none⟩)]) ( .ret)) ( .skip))))))))) (
.seq ( .region [
 ⟨(some 35), .mv (.t 1), none⟩,
⟨(some 36), .callf 247 [(.t 35), (.c (.i .i64 4))], none⟩,
⟨(some 4), .mv (.t 36), none⟩]) ( .ret))), [.tmp 4], false, none⟩
theorem k249 : CodeOk Tryz.prog 249 c249 := codeOk (hs := []) Tryz.func249 (by kernel_rfl)
def c250 : AFunc := ⟨23,
.seq ( .region [
 ⟨(some 4), .mv (.c (.s [])), none⟩,
⟨(some 5), .mv (.c (.s [])), none⟩,
⟨(some 6), .mv (.c (.b false)), none⟩]) (
.seq (
.seq ( .region [
 ⟨(some 8), .mv (.t 0), none⟩,
⟨(some 9), .mv (.t 1), none⟩,
⟨(some 10), .callf 267 [(.t 8), (.t 9)], none⟩,
⟨(some 7), .mv (.t 10), none⟩]) (
.seq ( .region [
 ⟨(some 11), .mv (.t 7), none⟩,
⟨(some 12), .bin .geq (.t 11) (.c (.i .i64 0)), none⟩]) ( .cond (.t 12) (
.seq ( .draws [ ([], ⟨(some 13), .mv (.t 0), none⟩),
([], ⟨(some 14), .mv (.t 7), none⟩),
([], ⟨(some 15), .slS (.t 13) none (some (.t 14)), none⟩),
([], ⟨(some 16), .mv (.t 0), none⟩),
([], ⟨(some 17), .mv (.t 7), none⟩),
([], ⟨(some 18), .mv (.t 1), none⟩),
([], ⟨(some 19), .lenS (.t 18), none⟩),
([], ⟨(some 20), .bin .add (.t 17) (.t 19), none⟩),
([], ⟨(some 21), .slS (.t 16) (some (.t 20)) none, none⟩),
([], ⟨(some 4), .mv (.t 15), none⟩),
([], ⟨(some 5), .mv (.t 21), none⟩),
([], ⟨(some 6), .mv (.c (.b true)), none⟩)]) ( .ret)) ( .skip)))) (
.seq ( .region [
 ⟨(some 22), .mv (.t 0), none⟩,
⟨(some 4), .mv (.t 22), none⟩,
⟨(some 5), .mv (.c (.s [])), none⟩,
⟨(some 6), .mv (.c (.b false)), none⟩]) ( .ret))), [.tmp 4, .tmp 5, .tmp 6], false, none⟩
theorem k250 : CodeOk Tryz.prog 250 c250 := codeOk (hs := []) Tryz.func250 (by kernel_rfl)
def c251 : AFunc := ⟨18,
.seq ( .region [
 ⟨(some 2), .mv (.c (.b false)), none⟩]) (
.seq (
.seq ( .region [
 ⟨(some 3), .mv (.t 0), none⟩]) ( .block 0 (
.seq (
.seq ( .region [
 ⟨(some 5), .bin .eql (.t 3) (.c (.s [97, 110, 100])), none⟩,
⟨(some 4), .mv (.t 5), none⟩]) ( .cond (.t 4) ( .skip) (
.seq ( .region [
 ⟨(some 6), .bin .eql (.t 3) (.c (.s [111, 114])), none⟩,
⟨(some 4), .mv (.t 6), none⟩]) ( .cond (.t 4) ( .skip) (
.seq ( .region [
 ⟨(some 7), .bin .eql (.t 3) (.c (.s [110, 111, 116])), none⟩,
⟨(some 4), .mv (.t 7), none⟩]) ( .cond (.t 4) ( .skip) (
.seq ( .region [
 ⟨(some 8), .bin .eql (.t 3) (.c (.s [105, 109, 112, 108, 105, 101, 115])), none⟩,
⟨(some 4), .mv (.t 8), none⟩]) ( .cond (.t 4) ( .skip) (
.seq ( .region [
 ⟨(some 9), .bin .eql (.t 3) (.c (.s [105, 110])), none⟩,
⟨(some 4), .mv (.t 9), none⟩]) ( .cond (.t 4) ( .skip) (
.seq ( .region [
 ⟨(some 10), .bin .eql (.t 3) (.c (.s [116, 111])), none⟩,
⟨(some 4), .mv (.t 10), none⟩]) ( .cond (.t 4) ( .skip) (
.seq ( .region [
 ⟨(some 11), .bin .eql (.t 3) (.c (.s [116, 114, 117, 101])), none⟩,
⟨(some 4), .mv (.t 11), none⟩]) ( .cond (.t 4) ( .skip) (
.seq ( .region [
 ⟨(some 12), .bin .eql (.t 3) (.c (.s [102, 97, 108, 115, 101])), none⟩,
⟨(some 4), .mv (.t 12), none⟩]) ( .cond (.t 4) ( .skip) (
.seq ( .region [
 ⟨(some 13), .bin .eql (.t 3) (.c (.s [109, 105, 110])), none⟩,
⟨(some 4), .mv (.t 13), none⟩]) ( .cond (.t 4) ( .skip) (
.seq ( .region [
 ⟨(some 14), .bin .eql (.t 3) (.c (.s [109, 97, 120])), none⟩,
⟨(some 4), .mv (.t 14), none⟩]) ( .cond (.t 4) ( .skip) (
.seq ( .region [
 ⟨(some 15), .bin .eql (.t 3) (.c (.s [105, 102])), none⟩,
⟨(some 4), .mv (.t 15), none⟩]) ( .cond (.t 4) ( .skip) (
.seq ( .region [
 ⟨(some 16), .bin .eql (.t 3) (.c (.s [116, 104, 101, 110])), none⟩,
⟨(some 4), .mv (.t 16), none⟩]) ( .cond (.t 4) ( .skip) ( .region [
 ⟨(some 17), .bin .eql (.t 3) (.c (.s [101, 108, 115, 101])), none⟩,
⟨(some 4), .mv (.t 17), none⟩]))))))))))))))))))))))))) ( .cond (.t 4) (
.seq ( .region [
 ⟨(some 2), .mv (.c (.b true)), none⟩]) ( .ret)) ( .skip))))) (
.seq ( .region [
 ⟨(some 2), .mv (.c (.b false)), none⟩]) ( .ret))), [.tmp 2], false, none⟩
theorem k251 : CodeOk Tryz.prog 251 c251 := codeOk (hs := []) Tryz.func251 (by kernel_rfl)
def c261_L1 : ACode :=
.seq (
.seq ( .region [
 ⟨(some 9), .mv (.t 6), none⟩,
⟨(some 10), .fa (.t 2) 2, none⟩,
⟨(some 11), .ld (.t 10) 1 false, none⟩,
⟨(some 12), .lenV (.t 11), none⟩,
⟨(some 13), .bin .lss (.t 9) (.t 12), none⟩]) ( .cond (.t 13) ( .skip) ( .exit 0))) (
.seq ( .block 1 (
.seq ( .region [
 ⟨(some 16), .fa (.t 2) 2, none⟩,
⟨(some 17), .ld (.t 16) 1 false, none⟩,
⟨(some 18), .mv (.t 6), none⟩,
⟨(some 19), .ia (.t 17) (.t 18) 2, none⟩,
⟨(some 20), .fa (.t 19) 0, none⟩,
⟨(some 21), .ld (.t 20) 1 false, none⟩,
⟨(some 22), .mv (.t 1), none⟩,
⟨(some 23), .bin .leq (.t 21) (.t 22), none⟩]) ( .cond (.t 23) ( .region [
 ⟨(some 24), .fa (.t 2) 2, none⟩,
⟨(some 25), .ld (.t 24) 1 false, none⟩,
⟨(some 26), .mv (.t 6), none⟩,
⟨(some 27), .ia (.t 25) (.t 26) 2, none⟩,
⟨(some 28), .fa (.t 27) 1, none⟩,
⟨(some 29), .ld (.t 28) 1 false, none⟩,
⟨(some 5), .mv (.t 29), none⟩]) ( .skip)))) ( .region [
 ⟨(some 14), .mv (.t 6), none⟩,
⟨(some 15), .bin .add (.t 14) (.c (.i .i64 1)), none⟩,
⟨(some 6), .mv (.t 15), none⟩]))
def c261 : AFunc := ⟨31,
.seq ( .region [
 ⟨(some 2), .box (.t 0) false, none⟩,
⟨(some 4), .mv (.c (.i .i64 0)), none⟩]) (
.seq ( .region [
 ⟨(some 7), .fa (.t 2) 1, none⟩,
⟨(some 8), .ld (.t 7) 1 false, none⟩,
⟨(some 5), .mv (.t 8), none⟩]) (
.seq (
.seq ( .region [
 ⟨(some 6), .mv (.c (.i .i64 0)), none⟩]) ( .block 0 ( .loop c261_L1))) (
.seq ( .region [
 ⟨(some 30), .mv (.t 5), none⟩,
⟨(some 4), .mv (.t 30), none⟩]) ( .ret)))), [.tmp 4], false, none⟩
theorem k261 : CodeOk Tryz.prog 261 c261 := codeOk (hs := []) Tryz.func261 (by kernel_rfl)
def c262 : AFunc := ⟨16,
.seq ( .region [
 ⟨(some 2), .mv (.c (.b false)), none⟩]) (
.seq ( .region [
 ⟨(some 3), .mv (.t 0), none⟩,
⟨(some 4), .lenS (.t 3), none⟩,
⟨(some 5), .bin .eql (.t 4) (.c (.i .i64 1)), none⟩,
⟨(some 6), .mv (.t 5), none⟩,
⟨(some 7), .mv (.t 0), (some (6, false))⟩,
⟨(some 8), .lenS (.t 7), (some (6, false))⟩,
⟨(some 9), .bin .gtr (.t 8) (.c (.i .i64 1)), (some (6, false))⟩,
⟨(some 10), .mv (.t 9), (some (6, false))⟩,
⟨(some 11), .mv (.t 0), (some (10, true))⟩,
⟨(some 12), .ixS (.t 11) (.c (.i .i64 0)), (some (10, true))⟩,
⟨(some 13), .bin .neq (.t 12) (.c (.i .u8 48)), (some (10, true))⟩,
⟨(some 14), .pick (.t 10) (.t 13) (.c (.b false)), (some (6, false))⟩,
⟨(some 15), .pick (.t 6) (.c (.b true)) (.t 14), none⟩,
⟨(some 2), .mv (.t 15), none⟩]) ( .ret)), [.tmp 2], false, none⟩
theorem k262 : CodeOk Tryz.prog 262 c262 := codeOk (hs := []) Tryz.func262 (by kernel_rfl)
def c263_L1 : ACode :=
.seq (
.seq ( .region [
 ⟨(some 6), .mv (.t 0), none⟩,
⟨(some 7), .callf 264 [(.t 6), (.c (.s [111, 114]))], none⟩]) ( .cond (.t 7) ( .skip) ( .exit 0))) ( .block 1 ( .draws [ ([], ⟨(some 8), .ld (.t 3) 4 true, none⟩),
([], ⟨(some 9), .mv (.t 0), none⟩),
([0], ⟨(some 10), .callf 272 [(.t 9)], none⟩),
([], ⟨(some 11), .bsl [(.i .i64 0), (.i .i64 0), (.s []), .nilsl] 2 [(0, (.t 8)), (1, (.t 10))], none⟩),
([], ⟨(some 12), .build [(.i .i64 0), (.i .i64 0), (.s []), .nilsl] [(0, 1, (.c (.i .i64 21))), (3, 1, (.t 11))], none⟩),
([], ⟨none, .st (.t 3) (.t 12) 4, none⟩)]))
def c263 : AFunc := ⟨14,
.seq ( .region [
 ⟨(some 2), .alloc [(.i .i64 0), (.i .i64 0), (.s []), .nilsl] false, none⟩]) (
.seq ( .region [
 ⟨(some 4), .mv (.t 0), none⟩,
⟨(some 5), .callf 272 [(.t 4)], none⟩,
⟨(some 3), .alloc [(.i .i64 0), (.i .i64 0), (.s []), .nilsl] false, none⟩,
⟨none, .st (.t 3) (.t 5) 4, none⟩]) (
.seq ( .block 0 ( .loop c263_L1)) (
.seq ( .region [
 ⟨(some 13), .ld (.t 3) 4 true, none⟩,
⟨none, .st (.t 2) (.t 13) 4, none⟩]) ( .ret)))), [.cell 2 4 true], true, none⟩
theorem k263 : CodeOk Tryz.prog 263 c263 := codeOk (hs := []) Tryz.func263 (by kernel_rfl)
def c264 : AFunc := ⟨15,
.seq ( .region [
 ⟨(some 4), .mv (.c (.b false)), none⟩]) (
.seq (
.seq ( .region [
 ⟨(some 5), .mv (.t 0), none⟩,
⟨(some 6), .mv (.t 1), none⟩,
⟨(some 7), .callf 273 [(.t 5), (.t 6)], none⟩]) ( .cond (.t 7) (
.seq ( .region [
 ⟨(some 8), .mv (.t 0), none⟩,
⟨(some 9), .nck (.t 8), none⟩,
⟨(some 10), .fa (.t 9) 1, none⟩,
⟨(some 11), .ld (.t 10) 1 false, none⟩,
⟨(some 12), .bin .add (.t 11) (.c (.i .i64 1)), none⟩,
⟨(some 13), .nck (.t 8), none⟩,
⟨(some 14), .fa (.t 13) 1, none⟩,
⟨none, .st (.t 14) (.t 12) 1, none⟩]) (
.seq ( .region [
 ⟨(some 4), .mv (.c (.b true)), none⟩]) ( .ret))) ( .skip))) (
.seq ( .region [
 ⟨(some 4), .mv (.c (.b false)), none⟩]) ( .ret))), [.tmp 4], true, none⟩
theorem k264 : CodeOk Tryz.prog 264 c264 := codeOk (hs := []) Tryz.func264 (by kernel_rfl)
def c266 : AFunc := ⟨18,
.seq ( .region [
 ⟨(some 4), .mv (.c (.b false)), none⟩]) (
.seq ( .region [
 ⟨(some 5), .mv (.t 0), none⟩,
⟨(some 6), .lenS (.t 5), none⟩,
⟨(some 7), .mv (.t 1), none⟩,
⟨(some 8), .lenS (.t 7), none⟩,
⟨(some 9), .bin .geq (.t 6) (.t 8), none⟩,
⟨(some 10), .mv (.t 9), none⟩,
⟨(some 11), .mv (.t 0), (some (10, true))⟩,
⟨(some 12), .mv (.t 1), (some (10, true))⟩,
⟨(some 13), .lenS (.t 12), (some (10, true))⟩,
⟨(some 14), .slS (.t 11) none (some (.t 13)), (some (10, true))⟩,
⟨(some 15), .mv (.t 1), (some (10, true))⟩,
⟨(some 16), .bin .eql (.t 14) (.t 15), (some (10, true))⟩,
⟨(some 17), .pick (.t 10) (.t 16) (.c (.b false)), none⟩,
⟨(some 4), .mv (.t 17), none⟩]) ( .ret)), [.tmp 4], false, none⟩
theorem k266 : CodeOk Tryz.prog 266 c266 := codeOk (hs := []) Tryz.func266 (by kernel_rfl)
def c272_L1 : ACode :=
.seq (
.seq ( .region [
 ⟨(some 6), .mv (.t 0), none⟩,
⟨(some 7), .callf 264 [(.t 6), (.c (.s [97, 110, 100]))], none⟩]) ( .cond (.t 7) ( .skip) ( .exit 0))) ( .block 1 ( .draws [ ([], ⟨(some 8), .ld (.t 3) 4 true, none⟩),
([], ⟨(some 9), .mv (.t 0), none⟩),
([0], ⟨(some 10), .callf 279 [(.t 9)], none⟩),
([], ⟨(some 11), .bsl [(.i .i64 0), (.i .i64 0), (.s []), .nilsl] 2 [(0, (.t 8)), (1, (.t 10))], none⟩),
([], ⟨(some 12), .build [(.i .i64 0), (.i .i64 0), (.s []), .nilsl] [(0, 1, (.c (.i .i64 20))), (3, 1, (.t 11))], none⟩),
([], ⟨none, .st (.t 3) (.t 12) 4, none⟩)]))
def c272 : AFunc := ⟨14,
.seq ( .region [
 ⟨(some 2), .alloc [(.i .i64 0), (.i .i64 0), (.s []), .nilsl] false, none⟩]) (
.seq ( .region [
 ⟨(some 4), .mv (.t 0), none⟩,
⟨(some 5), .callf 279 [(.t 4)], none⟩,
⟨(some 3), .alloc [(.i .i64 0), (.i .i64 0), (.s []), .nilsl] false, none⟩,
⟨none, .st (.t 3) (.t 5) 4, none⟩]) (
.seq ( .block 0 ( .loop c272_L1)) (
.seq ( .region [
 ⟨(some 13), .ld (.t 3) 4 true, none⟩,
⟨none, .st (.t 2) (.t 13) 4, none⟩]) ( .ret)))), [.cell 2 4 true], true, none⟩
theorem k272 : CodeOk Tryz.prog 272 c272 := codeOk (hs := []) Tryz.func272 (by kernel_rfl)
def c273 : AFunc := ⟨47,
.seq ( .region [
 ⟨(some 4), .mv (.c (.b false)), none⟩]) (
.seq (
.seq ( .draws [ ([], ⟨(some 6), .mv (.t 0), none⟩),
([], ⟨(some 7), .nck (.t 6), none⟩),
([], ⟨(some 8), .fa (.t 7) 2, none⟩),
([], ⟨(some 9), .ld (.t 8) 1 false, none⟩),
([], ⟨(some 10), .bin .geq (.t 9) (.c (.i .i64 0)), none⟩),
([], ⟨(some 11), .mv (.t 10), none⟩),
([], ⟨(some 12), .mv (.t 0), (some (11, false))⟩),
([], ⟨(some 13), .nck (.t 12), (some (11, false))⟩),
([], ⟨(some 14), .fa (.t 13) 1, (some (11, false))⟩),
([], ⟨(some 15), .ld (.t 14) 1 false, (some (11, false))⟩),
([], ⟨(some 16), .mv (.t 0), (some (11, false))⟩),
([], ⟨(some 17), .nck (.t 16), (some (11, false))⟩),
([], ⟨(some 18), .fa (.t 17) 0, (some (11, false))⟩),
([9], ⟨(some 19), .ld (.t 18) 1 false, (some (11, false))⟩),
([], ⟨(some 20), .lenV (.t 19), (some (11, false))⟩),
([], ⟨(some 21), .bin .geq (.t 15) (.t 20), (some (11, false))⟩),
([], ⟨(some 22), .pick (.t 11) (.c (.b true)) (.t 21), none⟩)]) ( .cond (.t 22) (
.seq ( .region [
 ⟨(some 4), .mv (.c (.b false)), none⟩]) ( .ret)) ( .skip))) (
.seq ( .draws [ ([], ⟨(some 23), .mv (.t 0), none⟩),
([], ⟨(some 24), .nck (.t 23), none⟩),
([], ⟨(some 25), .fa (.t 24) 0, none⟩),
([], ⟨(some 26), .ld (.t 25) 1 false, none⟩),
([], ⟨(some 27), .mv (.t 0), none⟩),
([], ⟨(some 28), .nck (.t 27), none⟩),
([], ⟨(some 29), .fa (.t 28) 1, none⟩),
([3], ⟨(some 30), .ld (.t 29) 1 false, none⟩),
([], ⟨(some 31), .ia (.t 26) (.t 30) 4, none⟩),
([], ⟨(some 32), .ld (.t 31) 4 true, none⟩),
([3, 7, 9], ⟨(some 5), .alloc [(.i .i64 0), (.s []), (.i .i64 0), (.i .i64 0)] false, none⟩),
([], ⟨none, .st (.t 5) (.t 32) 4, none⟩)]) (
.seq ( .region [
 ⟨(some 33), .fa (.t 5) 0, none⟩,
⟨(some 34), .ld (.t 33) 1 false, none⟩,
⟨(some 35), .bin .eql (.t 34) (.c (.i .i64 5)), none⟩,
⟨(some 36), .mv (.t 35), none⟩,
⟨(some 37), .fa (.t 5) 0, (some (36, false))⟩,
⟨(some 38), .ld (.t 37) 1 false, (some (36, false))⟩,
⟨(some 39), .bin .eql (.t 38) (.c (.i .i64 1)), (some (36, false))⟩,
⟨(some 40), .pick (.t 36) (.c (.b true)) (.t 39), none⟩,
⟨(some 41), .mv (.t 40), none⟩,
⟨(some 42), .fa (.t 5) 1, (some (41, true))⟩,
⟨(some 43), .ld (.t 42) 1 false, (some (41, true))⟩,
⟨(some 44), .mv (.t 1), (some (41, true))⟩,
⟨(some 45), .bin .eql (.t 43) (.t 44), (some (41, true))⟩,
⟨(some 46), .pick (.t 41) (.t 45) (.c (.b false)), none⟩,
⟨(some 4), .mv (.t 46), none⟩]) ( .ret)))), [.tmp 4], false, none⟩
theorem k273 : CodeOk Tryz.prog 273 c273 := codeOk (hs := []) Tryz.func273 (by kernel_rfl)
def c279 : AFunc := ⟨11,
.seq ( .region [
 ⟨(some 2), .alloc [(.i .i64 0), (.i .i64 0), (.s []), .nilsl] false, none⟩]) (
.seq (
.seq ( .region [
 ⟨(some 3), .mv (.t 0), none⟩,
⟨(some 4), .callf 264 [(.t 3), (.c (.s [110, 111, 116]))], none⟩]) ( .cond (.t 4) (
.seq ( .region [
 ⟨(some 5), .mv (.t 0), none⟩,
⟨(some 6), .callf 279 [(.t 5)], none⟩,
⟨(some 7), .bsl [(.i .i64 0), (.i .i64 0), (.s []), .nilsl] 1 [(0, (.t 6))], none⟩,
⟨(some 8), .build [(.i .i64 0), (.i .i64 0), (.s []), .nilsl] [(0, 1, (.c (.i .i64 19))), (3, 1, (.t 7))], none⟩,
⟨none, .st (.t 2) (.t 8) 4, none⟩]) ( .ret)) ( .skip))) (
.seq ( .region [
 ⟨(some 9), .mv (.t 0), none⟩,
⟨(some 10), .callf 282 [(.t 9)], none⟩,
⟨none, .st (.t 2) (.t 10) 4, none⟩]) ( .ret))), [.cell 2 4 true], true, none⟩
theorem k279 : CodeOk Tryz.prog 279 c279 := codeOk (hs := []) Tryz.func279 (by kernel_rfl)
def c282 : AFunc := ⟨45,
.seq ( .region [
 ⟨(some 2), .alloc [(.i .i64 0), (.i .i64 0), (.s []), .nilsl] false, none⟩]) (
.seq ( .region [
 ⟨(some 5), .mv (.t 0), none⟩,
⟨(some 6), .callf 283 [(.t 5)], none⟩,
⟨(some 3), .alloc [(.i .i64 0), (.i .i64 0), (.s []), .nilsl] false, none⟩,
⟨none, .st (.t 3) (.t 6) 4, none⟩]) (
.seq ( .block 0 (
.seq ( .region [
 ⟨(some 8), .mv (.t 0), none⟩,
⟨(some 9), .callf 264 [(.t 8), (.c (.s [60]))], none⟩,
⟨(some 7), .mv (.t 9), none⟩]) ( .cond (.t 7) (
.seq ( .draws [ ([], ⟨(some 10), .ld (.t 3) 4 true, none⟩),
([], ⟨(some 11), .mv (.t 0), none⟩),
([0], ⟨(some 12), .callf 283 [(.t 11)], none⟩),
([], ⟨(some 13), .bsl [(.i .i64 0), (.i .i64 0), (.s []), .nilsl] 2 [(0, (.t 10)), (1, (.t 12))], none⟩),
([], ⟨(some 14), .build [(.i .i64 0), (.i .i64 0), (.s []), .nilsl] [(0, 1, (.c (.i .i64 16))), (3, 1, (.t 13))], none⟩),
([], ⟨none, .st (.t 2) (.t 14) 4, none⟩)]) ( .ret)) (
.seq ( .region [
 ⟨(some 16), .mv (.t 0), none⟩,
⟨(some 17), .callf 264 [(.t 16), (.c (.s [60, 61]))], none⟩,
⟨(some 15), .mv (.t 17), none⟩]) ( .cond (.t 15) (
.seq ( .draws [ ([], ⟨(some 18), .ld (.t 3) 4 true, none⟩),
([], ⟨(some 19), .mv (.t 0), none⟩),
([0], ⟨(some 20), .callf 283 [(.t 19)], none⟩),
([], ⟨(some 21), .bsl [(.i .i64 0), (.i .i64 0), (.s []), .nilsl] 2 [(0, (.t 18)), (1, (.t 20))], none⟩),
([], ⟨(some 22), .build [(.i .i64 0), (.i .i64 0), (.s []), .nilsl] [(0, 1, (.c (.i .i64 17))), (3, 1, (.t 21))], none⟩),
([], ⟨none, .st (.t 2) (.t 22) 4, none⟩)]) ( .ret)) (
.seq ( .region [
 ⟨(some 24), .mv (.t 0), none⟩,
⟨(some 25), .callf 264 [(.t 24), (.c (.s [61]))], none⟩,
⟨(some 23), .mv (.t 25), none⟩]) ( .cond (.t 23) (
.seq ( .draws [ ([], ⟨(some 26), .ld (.t 3) 4 true, none⟩),
([], ⟨(some 27), .mv (.t 0), none⟩),
([0], ⟨(some 28), .callf 283 [(.t 27)], none⟩),
([], ⟨(some 29), .bsl [(.i .i64 0), (.i .i64 0), (.s []), .nilsl] 2 [(0, (.t 26)), (1, (.t 28))], none⟩),
([], ⟨(some 30), .build [(.i .i64 0), (.i .i64 0), (.s []), .nilsl] [(0, 1, (.c (.i .i64 18))), (3, 1, (.t 29))], none⟩),
([], ⟨none, .st (.t 2) (.t 30) 4, none⟩)]) ( .ret)) (
.seq ( .region [
 ⟨(some 32), .mv (.t 0), none⟩,
⟨(some 33), .callf 264 [(.t 32), (.c (.s [105, 110]))], none⟩,
⟨(some 31), .mv (.t 33), none⟩]) ( .cond (.t 31) (
.seq ( .region [
 ⟨(some 34), .mv (.t 0), none⟩,
⟨(some 35), .callf 283 [(.t 34)], none⟩,
⟨(some 4), .alloc [(.i .i64 0), (.i .i64 0), (.s []), .nilsl] false, none⟩,
⟨none, .st (.t 4) (.t 35) 4, none⟩]) (
.seq ( .region [
 ⟨(some 36), .mv (.t 0), none⟩,
⟨(some 37), .callf 284 [(.t 36), (.c (.s [116, 111]))], none⟩]) (
.seq ( .draws [ ([], ⟨(some 38), .ld (.t 3) 4 true, none⟩),
([0], ⟨(some 39), .ld (.t 4) 4 true, none⟩),
([], ⟨(some 40), .mv (.t 0), none⟩),
([0, 1], ⟨(some 41), .callf 283 [(.t 40)], none⟩),
([], ⟨(some 42), .bsl [(.i .i64 0), (.i .i64 0), (.s []), .nilsl] 3 [(0, (.t 38)), (1, (.t 39)), (2, (.t 41))], none⟩),
([], ⟨(some 43), .build [(.i .i64 0), (.i .i64 0), (.s []), .nilsl] [(0, 1, (.c (.i .i64 15))), (3, 1, (.t 42))], none⟩),
([], ⟨none, .st (.t 2) (.t 43) 4, none⟩)]) ( .ret)))) ( .skip)))))))))) (
.seq ( .region [
 ⟨(some 44), .ld (.t 3) 4 true, none⟩,
⟨none, .st (.t 2) (.t 44) 4, none⟩]) ( .ret)))), [.cell 2 4 true], true, none⟩
theorem k282 : CodeOk Tryz.prog 282 c282 := codeOk (hs := []) Tryz.func282 (by kernel_rfl)
def c283_L1 : ACode :=
.block 1 ( .block 2 (
.seq ( .region [
 ⟨(some 8), .mv (.t 0), none⟩,
⟨(some 9), .callf 264 [(.t 8), (.c (.s [43]))], none⟩,
⟨(some 7), .mv (.t 9), none⟩]) ( .cond (.t 7) ( .draws [ ([], ⟨(some 10), .ld (.t 3) 4 true, none⟩),
([], ⟨(some 11), .mv (.t 0), none⟩),
([0], ⟨(some 12), .callf 285 [(.t 11)], none⟩),
([], ⟨(some 13), .bsl [(.i .i64 0), (.i .i64 0), (.s []), .nilsl] 2 [(0, (.t 10)), (1, (.t 12))], none⟩),
([], ⟨(some 14), .build [(.i .i64 0), (.i .i64 0), (.s []), .nilsl] [(0, 1, (.c (.i .i64 8))), (3, 1, (.t 13))], none⟩),
([], ⟨none, .st (.t 3) (.t 14) 4, none⟩)]) (
.seq ( .region [
 ⟨(some 16), .mv (.t 0), none⟩,
⟨(some 17), .callf 264 [(.t 16), (.c (.s [45]))], none⟩,
⟨(some 15), .mv (.t 17), none⟩]) ( .cond (.t 15) ( .draws [ ([], ⟨(some 18), .ld (.t 3) 4 true, none⟩),
([], ⟨(some 19), .mv (.t 0), none⟩),
([0], ⟨(some 20), .callf 285 [(.t 19)], none⟩),
([], ⟨(some 21), .bsl [(.i .i64 0), (.i .i64 0), (.s []), .nilsl] 2 [(0, (.t 18)), (1, (.t 20))], none⟩),
([], ⟨(some 22), .build [(.i .i64 0), (.i .i64 0), (.s []), .nilsl] [(0, 1, (.c (.i .i64 9))), (3, 1, (.t 21))], none⟩),
([], ⟨none, .st (.t 3) (.t 22) 4, none⟩)]) (
.seq ( .region [
 ⟨(some 6), .ld (.t 3) 4 true, none⟩,
⟨none, .st (.t 2) (.t 6) 4, none⟩]) ( .ret)))))))
def c283 : AFunc := ⟨23,
.seq ( .region [
 ⟨(some 2), .alloc [(.i .i64 0), (.i .i64 0), (.s []), .nilsl] false, none⟩]) (
.seq ( .region [
 ⟨(some 4), .mv (.t 0), none⟩,
⟨(some 5), .callf 285 [(.t 4)], none⟩,
⟨(some 3), .alloc [(.i .i64 0), (.i .i64 0), (.s []), .nilsl] false, none⟩,
⟨none, .st (.t 3) (.t 5) 4, none⟩]) ( .block 0 ( .loop c283_L1))), [.cell 2 4 true], true, none⟩
theorem k283 : CodeOk Tryz.prog 283 c283 := codeOk (hs := []) Tryz.func283 (by kernel_rfl)
def c284 : AFunc := ⟨10,
.seq ( .region [
 ⟨(some 4), .mv (.t 0), none⟩,
⟨(some 5), .mv (.t 1), none⟩,
⟨(some 6), .callf 264 [(.t 4), (.t 5)], none⟩,
⟨(some 7), .un .not (.t 6), none⟩]) ( .cond (.t 7) ( .region [
 ⟨(some 8), .mv (.t 0), none⟩,
⟨(some 9), .callf 236 [(.t 8)], none⟩]) ( .skip)), [], true, none⟩
theorem k284 : CodeOk Tryz.prog 284 c284 := codeOk (hs := []) Tryz.func284 (by kernel_rfl)
def c285_L1 : ACode :=
.block 1 ( .block 2 (
.seq ( .region [
 ⟨(some 8), .mv (.t 0), none⟩,
⟨(some 9), .callf 264 [(.t 8), (.c (.s [42]))], none⟩,
⟨(some 7), .mv (.t 9), none⟩]) ( .cond (.t 7) ( .draws [ ([], ⟨(some 10), .ld (.t 3) 4 true, none⟩),
([], ⟨(some 11), .mv (.t 0), none⟩),
([0], ⟨(some 12), .callf 286 [(.t 11)], none⟩),
([], ⟨(some 13), .bsl [(.i .i64 0), (.i .i64 0), (.s []), .nilsl] 2 [(0, (.t 10)), (1, (.t 12))], none⟩),
([], ⟨(some 14), .build [(.i .i64 0), (.i .i64 0), (.s []), .nilsl] [(0, 1, (.c (.i .i64 10))), (3, 1, (.t 13))], none⟩),
([], ⟨none, .st (.t 3) (.t 14) 4, none⟩)]) (
.seq ( .region [
 ⟨(some 16), .mv (.t 0), none⟩,
⟨(some 17), .callf 264 [(.t 16), (.c (.s [47]))], none⟩,
⟨(some 15), .mv (.t 17), none⟩]) ( .cond (.t 15) ( .draws [ ([], ⟨(some 18), .ld (.t 3) 4 true, none⟩),
([], ⟨(some 19), .mv (.t 0), none⟩),
([0], ⟨(some 20), .callf 286 [(.t 19)], none⟩),
([], ⟨(some 21), .bsl [(.i .i64 0), (.i .i64 0), (.s []), .nilsl] 2 [(0, (.t 18)), (1, (.t 20))], none⟩),
([], ⟨(some 22), .build [(.i .i64 0), (.i .i64 0), (.s []), .nilsl] [(0, 1, (.c (.i .i64 11))), (3, 1, (.t 21))], none⟩),
([], ⟨none, .st (.t 3) (.t 22) 4, none⟩)]) (
.seq ( .region [
 ⟨(some 6), .ld (.t 3) 4 true, none⟩,
⟨none, .st (.t 2) (.t 6) 4, none⟩]) ( .ret)))))))
def c285 : AFunc := ⟨23,
.seq ( .region [
 ⟨(some 2), .alloc [(.i .i64 0), (.i .i64 0), (.s []), .nilsl] false, none⟩]) (
.seq ( .region [
 ⟨(some 4), .mv (.t 0), none⟩,
⟨(some 5), .callf 286 [(.t 4)], none⟩,
⟨(some 3), .alloc [(.i .i64 0), (.i .i64 0), (.s []), .nilsl] false, none⟩,
⟨none, .st (.t 3) (.t 5) 4, none⟩]) ( .block 0 ( .loop c285_L1))), [.cell 2 4 true], true, none⟩
theorem k285 : CodeOk Tryz.prog 285 c285 := codeOk (hs := []) Tryz.func285 (by kernel_rfl)
def c286 : AFunc := ⟨116,
.seq ( .region [
 ⟨(some 2), .alloc [(.i .i64 0), (.i .i64 0), (.s []), .nilsl] false, none⟩]) (
.seq (
.seq ( .draws [ ([], ⟨(some 8), .mv (.t 0), none⟩),
([], ⟨(some 9), .nck (.t 8), none⟩),
([], ⟨(some 10), .fa (.t 9) 2, none⟩),
([], ⟨(some 11), .ld (.t 10) 1 false, none⟩),
([], ⟨(some 12), .bin .geq (.t 11) (.c (.i .i64 0)), none⟩),
([], ⟨(some 13), .mv (.t 12), none⟩),
([], ⟨(some 14), .mv (.t 0), (some (13, false))⟩),
([], ⟨(some 15), .nck (.t 14), (some (13, false))⟩),
([], ⟨(some 16), .fa (.t 15) 1, (some (13, false))⟩),
([], ⟨(some 17), .ld (.t 16) 1 false, (some (13, false))⟩),
([], ⟨(some 18), .mv (.t 0), (some (13, false))⟩),
([], ⟨(some 19), .nck (.t 18), (some (13, false))⟩),
([], ⟨(some 20), .fa (.t 19) 0, (some (13, false))⟩),
([9], ⟨(some 21), .ld (.t 20) 1 false, (some (13, false))⟩),
([], ⟨(some 22), .lenV (.t 21), (some (13, false))⟩),
([], ⟨(some 23), .bin .geq (.t 17) (.t 22), (some (13, false))⟩),
([], ⟨(some 24), .pick (.t 13) (.c (.b true)) (.t 23), none⟩)]) ( .cond (.t 24) (
.seq ( .region [
 ⟨(some 25), .mv (.t 0), none⟩,
⟨(some 26), .callf 236 [(.t 25)], none⟩,
⟨none, .st (.t 2) (.t 26) 4, none⟩]) ( .ret)) ( .skip))) (
.seq ( .block 0 (
.seq ( .region [
 ⟨(some 28), .mv (.t 0), none⟩,
⟨(some 29), .callf 264 [(.t 28), (.c (.s [45]))], none⟩,
⟨(some 27), .mv (.t 29), none⟩]) ( .cond (.t 27) (
.seq ( .region [
 ⟨(some 30), .mv (.t 0), none⟩,
⟨(some 31), .callf 286 [(.t 30)], none⟩,
⟨(some 32), .bsl [(.i .i64 0), (.i .i64 0), (.s []), .nilsl] 1 [(0, (.t 31))], none⟩,
⟨(some 33), .build [(.i .i64 0), (.i .i64 0), (.s []), .nilsl] [(0, 1, (.c (.i .i64 7))), (3, 1, (.t 32))], none⟩,
⟨none, .st (.t 2) (.t 33) 4, none⟩]) ( .ret)) (
.seq ( .region [
 ⟨(some 35), .mv (.t 0), none⟩,
⟨(some 36), .callf 264 [(.t 35), (.c (.s [116, 114, 117, 101]))], none⟩,
⟨(some 34), .mv (.t 36), none⟩]) ( .cond (.t 34) (
.seq ( .region [
 ⟨(some 37), .build [(.i .i64 0), (.i .i64 0), (.s []), .nilsl] [(0, 1, (.c (.i .i64 4)))], none⟩,
⟨none, .st (.t 2) (.t 37) 4, none⟩]) ( .ret)) (
.seq ( .region [
 ⟨(some 39), .mv (.t 0), none⟩,
⟨(some 40), .callf 264 [(.t 39), (.c (.s [102, 97, 108, 115, 101]))], none⟩,
⟨(some 38), .mv (.t 40), none⟩]) ( .cond (.t 38) (
.seq ( .region [
 ⟨(some 41), .build [(.i .i64 0), (.i .i64 0), (.s []), .nilsl] [(0, 1, (.c (.i .i64 5)))], none⟩,
⟨none, .st (.t 2) (.t 41) 4, none⟩]) ( .ret)) (
.seq ( .region [
 ⟨(some 43), .mv (.t 0), none⟩,
⟨(some 44), .callf 273 [(.t 43), (.c (.s [109, 105, 110]))], none⟩,
⟨(some 45), .mv (.t 44), none⟩,
⟨(some 46), .mv (.t 0), (some (45, false))⟩,
⟨(some 47), .callf 273 [(.t 46), (.c (.s [109, 97, 120]))], (some (45, false))⟩,
⟨(some 48), .pick (.t 45) (.c (.b true)) (.t 47), none⟩,
⟨(some 42), .mv (.t 48), none⟩]) ( .cond (.t 42) (
.seq ( .region [
 ⟨(some 49), .mv (.t 0), none⟩,
⟨(some 50), .callf 287 [(.t 49)], none⟩,
⟨none, .st (.t 2) (.t 50) 4, none⟩]) ( .ret)) (
.seq ( .region [
 ⟨(some 52), .mv (.t 0), none⟩,
⟨(some 53), .callf 264 [(.t 52), (.c (.s [105, 102]))], none⟩,
⟨(some 51), .mv (.t 53), none⟩]) ( .cond (.t 51) (
.seq ( .region [
 ⟨(some 54), .mv (.t 0), none⟩,
⟨(some 55), .callf 235 [(.t 54)], none⟩,
⟨(some 3), .alloc [(.i .i64 0), (.i .i64 0), (.s []), .nilsl] false, none⟩,
⟨none, .st (.t 3) (.t 55) 4, none⟩]) (
.seq ( .region [
 ⟨(some 56), .mv (.t 0), none⟩,
⟨(some 57), .callf 284 [(.t 56), (.c (.s [116, 104, 101, 110]))], none⟩]) (
.seq ( .region [
 ⟨(some 58), .mv (.t 0), none⟩,
⟨(some 59), .callf 235 [(.t 58)], none⟩,
⟨(some 4), .alloc [(.i .i64 0), (.i .i64 0), (.s []), .nilsl] false, none⟩,
⟨none, .st (.t 4) (.t 59) 4, none⟩]) (
.seq ( .region [
 ⟨(some 60), .mv (.t 0), none⟩,
⟨(some 61), .callf 284 [(.t 60), (.c (.s [101, 108, 115, 101]))], none⟩]) (
.seq ( .draws [ ([], ⟨(some 62), .ld (.t 3) 4 true, none⟩),
([0], ⟨(some 63), .ld (.t 4) 4 true, none⟩),
([], ⟨(some 64), .mv (.t 0), none⟩),
([0, 1], ⟨(some 65), .callf 235 [(.t 64)], none⟩),
([], ⟨(some 66), .bsl [(.i .i64 0), (.i .i64 0), (.s []), .nilsl] 3 [(0, (.t 62)), (1, (.t 63)), (2, (.t 65))], none⟩),
([], ⟨(some 67), .build [(.i .i64 0), (.i .i64 0), (.s []), .nilsl] [(0, 1, (.c (.i .i64 14))), (3, 1, (.t 66))], none⟩),
([], ⟨none, .st (.t 2) (.t 67) 4, none⟩)]) ( .ret)))))) (
.seq ( .region [
 ⟨(some 69), .mv (.t 0), none⟩,
⟨(some 70), .callf 264 [(.t 69), (.c (.s [40]))], none⟩,
⟨(some 68), .mv (.t 70), none⟩]) ( .cond (.t 68) (
.seq ( .region [
 ⟨(some 71), .mv (.t 0), none⟩,
⟨(some 72), .callf 235 [(.t 71)], none⟩,
⟨(some 5), .alloc [(.i .i64 0), (.i .i64 0), (.s []), .nilsl] false, none⟩,
⟨none, .st (.t 5) (.t 72) 4, none⟩]) (
.seq ( .region [
 ⟨(some 73), .mv (.t 0), none⟩,
⟨(some 74), .callf 284 [(.t 73), (.c (.s [41]))], none⟩]) (
.seq ( .region [
 ⟨(some 75), .ld (.t 5) 4 true, none⟩,
⟨none, .st (.t 2) (.t 75) 4, none⟩]) ( .ret)))) ( .skip)))))))))))))) (
.seq ( .draws [ ([], ⟨(some 76), .mv (.t 0), none⟩),
([], ⟨(some 77), .nck (.t 76), none⟩),
([], ⟨(some 78), .fa (.t 77) 0, none⟩),
([], ⟨(some 79), .ld (.t 78) 1 false, none⟩),
([], ⟨(some 80), .mv (.t 0), none⟩),
([], ⟨(some 81), .nck (.t 80), none⟩),
([], ⟨(some 82), .fa (.t 81) 1, none⟩),
([3], ⟨(some 83), .ld (.t 82) 1 false, none⟩),
([], ⟨(some 84), .ia (.t 79) (.t 83) 4, none⟩),
([], ⟨(some 85), .ld (.t 84) 4 true, none⟩),
([3, 7, 9], ⟨(some 6), .alloc [(.i .i64 0), (.s []), (.i .i64 0), (.i .i64 0)] false, none⟩),
([], ⟨none, .st (.t 6) (.t 85) 4, none⟩)]) (
.seq ( .region [
 ⟨(some 7), .mv (.c (.i .i64 0)), none⟩]) (
.seq (
.seq ( .region [
 ⟨(some 86), .fa (.t 6) 0, none⟩,
⟨(some 87), .ld (.t 86) 1 false, none⟩]) ( .block 1 (
.seq ( .region [
 ⟨(some 89), .bin .eql (.t 87) (.c (.i .i64 2)), none⟩,
⟨(some 88), .mv (.t 89), none⟩]) ( .cond (.t 88) ( .region [
 ⟨(some 7), .mv (.c (.i .i64 1)), none⟩]) (
.seq ( .region [
 ⟨(some 91), .bin .eql (.t 87) (.c (.i .i64 3)), none⟩,
⟨(some 90), .mv (.t 91), none⟩]) ( .cond (.t 90) ( .region [
 ⟨(some 7), .mv (.c (.i .i64 2)), none⟩]) (
.seq ( .region [
 ⟨(some 93), .bin .eql (.t 87) (.c (.i .i64 4)), none⟩,
⟨(some 92), .mv (.t 93), none⟩]) ( .cond (.t 92) ( .region [
 ⟨(some 7), .mv (.c (.i .i64 3)), none⟩]) (
.seq ( .region [
 ⟨(some 95), .bin .eql (.t 87) (.c (.i .i64 1)), none⟩,
⟨(some 94), .mv (.t 95), none⟩]) ( .cond (.t 94) (
.seq ( .region [
 ⟨(some 96), .fa (.t 6) 1, none⟩,
⟨(some 97), .ld (.t 96) 1 false, none⟩,
⟨(some 98), .callf 168 [(.t 97)], none⟩]) ( .cond (.t 98) ( .region [
 ⟨(some 7), .mv (.c (.i .i64 6)), none⟩]) ( .skip))) ( .skip))))))))))) (
.seq (
.seq ( .region [
 ⟨(some 99), .mv (.t 7), none⟩,
⟨(some 100), .bin .eql (.t 99) (.c (.i .i64 0)), none⟩]) ( .cond (.t 100) (
.seq ( .region [
 ⟨(some 101), .mv (.t 0), none⟩,
⟨(some 102), .callf 236 [(.t 101)], none⟩,
⟨none, .st (.t 2) (.t 102) 4, none⟩]) ( .ret)) ( .skip))) (
.seq ( .region [
 ⟨(some 103), .mv (.t 0), none⟩,
⟨(some 104), .nck (.t 103), none⟩,
⟨(some 105), .fa (.t 104) 1, none⟩,
⟨(some 106), .ld (.t 105) 1 false, none⟩,
⟨(some 107), .bin .add (.t 106) (.c (.i .i64 1)), none⟩,
⟨(some 108), .nck (.t 103), none⟩,
⟨(some 109), .fa (.t 108) 1, none⟩,
⟨none, .st (.t 109) (.t 107) 1, none⟩]) (
.seq ( .region [
 ⟨(some 110), .mv (.t 7), none⟩,
⟨(some 111), .fa (.t 6) 2, none⟩,
⟨(some 112), .ld (.t 111) 1 false, none⟩,
⟨(some 113), .fa (.t 6) 1, none⟩,
⟨(some 114), .ld (.t 113) 1 false, none⟩,
⟨(some 115), .build [(.i .i64 0), (.i .i64 0), (.s []), .nilsl] [(0, 1, (.t 110)), (1, 1, (.t 112)), (2, 1, (.t 114))], none⟩,
⟨none, .st (.t 2) (.t 115) 4, none⟩]) ( .ret))))))))), [.cell 2 4 true], true, none⟩
theorem k286 : CodeOk Tryz.prog 286 c286 := codeOk (hs := []) Tryz.func286 (by kernel_rfl)
def c287_L1 : ACode :=
.seq (
.seq ( .region [
 ⟨(some 33), .mv (.t 0), none⟩,
⟨(some 34), .callf 264 [(.t 33), (.c (.s [44]))], none⟩]) ( .cond (.t 34) ( .skip) ( .exit 0))) ( .block 1 ( .draws [ ([], ⟨(some 35), .fa (.t 3) 3, none⟩),
([], ⟨(some 36), .ld (.t 35) 1 false, none⟩),
([], ⟨(some 37), .mv (.t 0), none⟩),
([1], ⟨(some 38), .callf 235 [(.t 37)], none⟩),
([1], ⟨(some 39), .bsl [(.i .i64 0), (.i .i64 0), (.s []), .nilsl] 1 [(0, (.t 38))], none⟩),
([], ⟨(some 40), .app 4 56 (.t 36) (.t 39) false false, none⟩),
([], ⟨(some 41), .fa (.t 3) 3, none⟩),
([], ⟨none, .st (.t 41) (.t 40) 1, none⟩)]))
def c287 : AFunc := ⟨45,
.seq ( .region [
 ⟨(some 2), .alloc [(.i .i64 0), (.i .i64 0), (.s []), .nilsl] false, none⟩]) (
.seq ( .region [
 ⟨(some 4), .build [(.i .i64 0), (.i .i64 0), (.s []), .nilsl] [(0, 1, (.c (.i .i64 12)))], none⟩,
⟨(some 3), .alloc [(.i .i64 0), (.i .i64 0), (.s []), .nilsl] false, none⟩,
⟨none, .st (.t 3) (.t 4) 4, none⟩]) (
.seq (
.seq ( .region [
 ⟨(some 5), .mv (.t 0), none⟩,
⟨(some 6), .callf 273 [(.t 5), (.c (.s [109, 97, 120]))], none⟩]) ( .cond (.t 6) ( .region [
 ⟨(some 7), .fa (.t 3) 0, none⟩,
⟨none, .st (.t 7) (.c (.i .i64 13)) 1, none⟩]) ( .skip))) (
.seq ( .region [
 ⟨(some 8), .mv (.t 0), none⟩,
⟨(some 9), .nck (.t 8), none⟩,
⟨(some 10), .fa (.t 9) 1, none⟩,
⟨(some 11), .ld (.t 10) 1 false, none⟩,
⟨(some 12), .bin .add (.t 11) (.c (.i .i64 1)), none⟩,
⟨(some 13), .nck (.t 8), none⟩,
⟨(some 14), .fa (.t 13) 1, none⟩,
⟨none, .st (.t 14) (.t 12) 1, none⟩]) (
.seq ( .region [
 ⟨(some 15), .mv (.t 0), none⟩,
⟨(some 16), .callf 284 [(.t 15), (.c (.s [40]))], none⟩]) (
.seq ( .draws [ ([], ⟨(some 17), .fa (.t 3) 3, none⟩),
([], ⟨(some 18), .ld (.t 17) 1 false, none⟩),
([], ⟨(some 19), .mv (.t 0), none⟩),
([1], ⟨(some 20), .callf 235 [(.t 19)], none⟩),
([1], ⟨(some 21), .bsl [(.i .i64 0), (.i .i64 0), (.s []), .nilsl] 1 [(0, (.t 20))], none⟩),
([], ⟨(some 22), .app 4 56 (.t 18) (.t 21) false false, none⟩),
([], ⟨(some 23), .fa (.t 3) 3, none⟩),
([], ⟨none, .st (.t 23) (.t 22) 1, none⟩)]) (
.seq ( .region [
 ⟨(some 24), .mv (.t 0), none⟩,
⟨(some 25), .callf 284 [(.t 24), (.c (.s [44]))], none⟩]) (
.seq ( .draws [ ([], ⟨(some 26), .fa (.t 3) 3, none⟩),
([], ⟨(some 27), .ld (.t 26) 1 false, none⟩),
([], ⟨(some 28), .mv (.t 0), none⟩),
([1], ⟨(some 29), .callf 235 [(.t 28)], none⟩),
([1], ⟨(some 30), .bsl [(.i .i64 0), (.i .i64 0), (.s []), .nilsl] 1 [(0, (.t 29))], none⟩),
([], ⟨(some 31), .app 4 56 (.t 27) (.t 30) false false, none⟩),
([], ⟨(some 32), .fa (.t 3) 3, none⟩),
([], ⟨none, .st (.t 32) (.t 31) 1, none⟩)]) (
.seq ( .block 0 ( .loop c287_L1)) (
.seq ( .region [
 ⟨(some 42), .mv (.t 0), none⟩,
⟨(some 43), .callf 284 [(.t 42), (.c (.s [41]))], none⟩]) (
.seq ( .region [
 ⟨(some 44), .ld (.t 3) 4 true, none⟩,
⟨none, .st (.t 2) (.t 44) 4, none⟩]) ( .ret))))))))))), [.cell 2 4 true], true, none⟩ 
theorem k287 : CodeOk Tryz.prog 287 c287 := codeOk (hs := []) Tryz.func287 (by kernel_rfl)
end Go.Proofs.YtfenhjpkomldcaaGreat
