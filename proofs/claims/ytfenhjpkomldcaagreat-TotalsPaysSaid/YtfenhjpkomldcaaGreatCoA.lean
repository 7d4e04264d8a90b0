/- The codes of functions of the program, as the evaluator reads them; that each is what its compiler makes of the model's function. Conditions: none. -/
import Derived.Test.YtfenhjpkomldcaaGreatEvD
import Derived.Test.YtfenhjpkomldcaaGreatChecked
import Derived.KernelRfl
set_option maxRecDepth 100000
namespace Go.Proofs.YtfenhjpkomldcaaGreat
open Go Go.Ev
def c119 : AFunc := ⟨4,
.seq ( .region [
 ⟨(some 1), .box (.t 0) false, none⟩,
⟨(some 2), .mv (.c .nilfn), none⟩]) (
.seq ( .region [
 ⟨(some 3), .mkfn 181 [] [(.t 1)], none⟩,
⟨(some 2), .mv (.t 3), none⟩]) ( .ret)), [.tmp 2], false⟩
theorem k119 : CodeOk Tryz.prog 119 c119 := codeOk (hs := []) Tryz.func119 (by kernel_rfl)
def c178 : AFunc := ⟨16,
.seq ( .region [
 ⟨(some 2), .mv (.c (.i .i64 0)), none⟩,
⟨(some 3), .mv (.c (.i .i64 0)), none⟩]) (
.seq ( .region [
 ⟨(some 4), .mv (.t 0), none⟩,
⟨(some 5), .bin .quo (.t 4) (.c (.i .i64 1440)), none⟩,
⟨(some 6), .mv (.t 0), none⟩,
⟨(some 7), .bin .rem (.t 6) (.c (.i .i64 1440)), none⟩,
⟨(some 2), .mv (.t 5), none⟩,
⟨(some 3), .mv (.t 7), none⟩]) (
.seq (
.seq ( .region [
 ⟨(some 8), .mv (.t 3), none⟩,
⟨(some 9), .bin .lss (.t 8) (.c (.i .i64 0)), none⟩]) ( .cond (.t 9) (
.seq ( .region [
 ⟨(some 10), .mv (.t 2), none⟩,
⟨(some 11), .bin .sub (.t 10) (.c (.i .i64 1)), none⟩,
⟨(some 2), .mv (.t 11), none⟩]) ( .region [
 ⟨(some 12), .mv (.t 3), none⟩,
⟨(some 13), .bin .add (.t 12) (.c (.i .i64 1440)), none⟩,
⟨(some 3), .mv (.t 13), none⟩])) ( .skip))) (
.seq ( .region [
 ⟨(some 14), .mv (.t 2), none⟩,
⟨(some 15), .mv (.t 3), none⟩,
⟨(some 2), .mv (.t 14), none⟩,
⟨(some 3), .mv (.t 15), none⟩]) ( .ret)))), [.tmp 2, .tmp 3], false⟩
theorem k178 : CodeOk Tryz.prog 178 c178 := codeOk (hs := []) Tryz.func178 (by kernel_rfl)
def c199 : AFunc := ⟨25,
.seq ( .region [
 ⟨(some 2), .box (.t 0) false, none⟩,
⟨(some 4), .mv (.c (.i .i64 0)), none⟩]) (
.seq ( .region [
 ⟨(some 8), .fa (.t 2) 1, none⟩,
⟨(some 9), .ld (.t 8) 1 false, none⟩,
⟨(some 5), .mv (.t 9), none⟩]) (
.seq (
.seq ( .region [
 ⟨(some 10), .fa (.t 2) 2, none⟩,
⟨(some 11), .ld (.t 10) 1 false, none⟩,
⟨(some 12), .lenV (.t 11), none⟩,
⟨(some 13), .mv (.c (.i .i64 0)), none⟩]) ( .block 0 ( .loop (
.seq ( .region [
 ⟨(some 14), .bin .lss (.t 13) (.t 12), none⟩]) (
.seq ( .cond (.t 14) ( .skip) ( .exit 0)) (
.seq ( .block 1 (
.seq ( .region [
 ⟨(some 15), .ia (.t 11) (.t 13) 2, none⟩,
⟨(some 16), .ld (.t 15) 2 true, none⟩,
⟨(some 7), .alloc [(.i .i64 0), (.i .i64 0)] false, none⟩,
⟨none, .st (.t 7) (.t 16) 2, none⟩]) (
.seq (
.seq ( .region [
 ⟨(some 17), .fa (.t 7) 0, none⟩,
⟨(some 18), .ld (.t 17) 1 false, none⟩,
⟨(some 19), .mv (.t 1), none⟩,
⟨(some 20), .bin .gtr (.t 18) (.t 19), none⟩]) ( .cond (.t 20) ( .exit 0) ( .skip))) ( .region [
 ⟨(some 21), .fa (.t 7) 1, none⟩,
⟨(some 22), .ld (.t 21) 1 false, none⟩,
⟨(some 5), .mv (.t 22), none⟩])))) ( .region [
 ⟨(some 23), .bin .add (.t 13) (.c (.i .i64 1)), none⟩,
⟨(some 13), .mv (.t 23), none⟩]))))))) (
.seq ( .region [
 ⟨(some 24), .mv (.t 5), none⟩,
⟨(some 4), .mv (.t 24), none⟩]) ( .ret)))), [.tmp 4], false⟩
theorem k199 : CodeOk Tryz.prog 199 c199 := codeOk (hs := []) Tryz.func199 (by kernel_rfl)
def c176 : AFunc := ⟨9,
.seq ( .region [
 ⟨(some 2), .mv (.c (.b false)), none⟩]) (
.seq ( .region [
 ⟨(some 3), .mv (.t 0), none⟩,
⟨(some 4), .bin .geq (.t 3) (.c (.i .i64 0)), none⟩,
⟨(some 5), .mv (.t 4), none⟩,
⟨(some 6), .mv (.t 0), (some (5, true))⟩,
⟨(some 7), .bin .lss (.t 6) (.c (.i .i64 52596000)), (some (5, true))⟩,
⟨(some 8), .pick (.t 5) (.t 7) (.c (.b false)), none⟩,
⟨(some 2), .mv (.t 8), none⟩]) ( .ret)), [.tmp 2], false⟩
theorem k176 : CodeOk Tryz.prog 176 c176 := codeOk (hs := []) Tryz.func176 (by kernel_rfl)
def c225 : AFunc := ⟨18,
.seq ( .region [
 ⟨(some 2), .box (.t 0) false, none⟩,
⟨(some 4), .mv (.c (.i .i64 0)), none⟩,
⟨(some 5), .mv (.c (.i .i64 0)), none⟩]) (
.seq (
.seq ( .region [
 ⟨(some 7), .ld (.t 2) 3 true, none⟩,
⟨(some 8), .callf 116 [(.t 7)], none⟩,
⟨(some 6), .mv (.t 8), none⟩]) (
.seq ( .region [
 ⟨(some 9), .mv (.t 6), none⟩,
⟨(some 10), .bin .neq (.t 9) (.c (.i .i64 0)), none⟩]) ( .cond (.t 10) (
.seq ( .region [
 ⟨(some 11), .mv (.t 6), none⟩,
⟨(some 4), .mv (.c (.i .i64 0)), none⟩,
⟨(some 5), .mv (.t 11), none⟩]) ( .ret)) ( .skip)))) (
.seq (
.seq ( .region [
 ⟨(some 12), .mv (.t 1), none⟩,
⟨(some 13), .callf 176 [(.t 12)], none⟩,
⟨(some 14), .un .not (.t 13), none⟩]) ( .cond (.t 14) (
.seq ( .region [
 ⟨(some 4), .mv (.c (.i .i64 0)), none⟩,
⟨(some 5), .mv (.c (.i .i64 5)), none⟩]) ( .ret)) ( .skip))) (
.seq ( .region [
 ⟨(some 15), .ld (.t 2) 3 true, none⟩,
⟨(some 16), .mv (.t 1), none⟩,
⟨(some 17), .callf 199 [(.t 15), (.t 16)], none⟩,
⟨(some 4), .mv (.t 17), none⟩,
⟨(some 5), .mv (.c (.i .i64 0)), none⟩]) ( .ret)))), [.tmp 4, .tmp 5], false⟩
theorem k225 : CodeOk Tryz.prog 225 c225 := codeOk (hs := []) Tryz.func225 (by kernel_rfl)
def c177 : AFunc := ⟨20,
.seq ( .region [
 ⟨(some 2), .box (.t 0) false, none⟩,
⟨(some 4), .mv (.c (.i .i64 0)), none⟩,
⟨(some 5), .mv (.c (.i .i64 0)), none⟩]) (
.seq ( .region [
 ⟨(some 9), .ld (.t 2) 3 true, none⟩,
⟨(some 10), .mv (.t 1), none⟩,
⟨(some 11), .callf 225 [(.t 9), (.t 10)], none⟩,
⟨(some 8), .mv (.t 11), none⟩,
⟨(some 12), .ext (.t 8) 0, none⟩,
⟨(some 13), .ext (.t 8) 1, none⟩,
⟨(some 6), .mv (.t 12), none⟩,
⟨(some 7), .mv (.t 13), none⟩]) (
.seq (
.seq ( .region [
 ⟨(some 14), .mv (.t 7), none⟩,
⟨(some 15), .bin .neq (.t 14) (.c (.i .i64 0)), none⟩]) ( .cond (.t 15) (
.seq ( .region [
 ⟨(some 16), .mv (.t 7), none⟩,
⟨(some 4), .mv (.c (.i .i64 0)), none⟩,
⟨(some 5), .mv (.t 16), none⟩]) ( .ret)) ( .skip))) (
.seq ( .region [
 ⟨(some 17), .mv (.t 1), none⟩,
⟨(some 18), .mv (.t 6), none⟩,
⟨(some 19), .bin .add (.t 17) (.t 18), none⟩,
⟨(some 4), .mv (.t 19), none⟩,
⟨(some 5), .mv (.c (.i .i64 0)), none⟩]) ( .ret)))), [.tmp 4, .tmp 5], false⟩
theorem k177 : CodeOk Tryz.prog 177 c177 := codeOk (hs := []) Tryz.func177 (by kernel_rfl)
def c117 : AFunc := ⟨24,
.seq ( .region [
 ⟨(some 2), .box (.t 0) false, none⟩,
⟨(some 4), .mv (.c (.i .i64 0)), none⟩,
⟨(some 5), .mv (.c (.i .i64 0)), none⟩,
⟨(some 6), .mv (.c (.i .i64 0)), none⟩]) (
.seq ( .region [
 ⟨(some 9), .ld (.t 2) 3 true, none⟩,
⟨(some 10), .mv (.t 1), none⟩,
⟨(some 11), .callf 177 [(.t 9), (.t 10)], none⟩,
⟨(some 8), .mv (.t 11), none⟩,
⟨(some 12), .ext (.t 8) 0, none⟩,
⟨(some 13), .ext (.t 8) 1, none⟩,
⟨(some 7), .mv (.t 12), none⟩,
⟨(some 6), .mv (.t 13), none⟩]) (
.seq (
.seq ( .region [
 ⟨(some 14), .mv (.t 6), none⟩,
⟨(some 15), .bin .neq (.t 14) (.c (.i .i64 0)), none⟩]) ( .cond (.t 15) (
.seq ( .region [
 ⟨(some 16), .mv (.t 6), none⟩,
⟨(some 4), .mv (.c (.i .i64 0)), none⟩,
⟨(some 5), .mv (.c (.i .i64 0)), none⟩,
⟨(some 6), .mv (.t 16), none⟩]) ( .ret)) ( .skip))) (
.seq ( .region [
 ⟨(some 18), .mv (.t 7), none⟩,
⟨(some 19), .callf 178 [(.t 18)], none⟩,
⟨(some 17), .mv (.t 19), none⟩,
⟨(some 20), .ext (.t 17) 0, none⟩,
⟨(some 21), .ext (.t 17) 1, none⟩,
⟨(some 4), .mv (.t 20), none⟩,
⟨(some 5), .mv (.t 21), none⟩]) (
.seq ( .region [
 ⟨(some 22), .mv (.t 4), none⟩,
⟨(some 23), .mv (.t 5), none⟩,
⟨(some 4), .mv (.t 22), none⟩,
⟨(some 5), .mv (.t 23), none⟩,
⟨(some 6), .mv (.c (.i .i64 0)), none⟩]) ( .ret))))), [.tmp 4, .tmp 5, .tmp 6], false⟩
theorem k117 : CodeOk Tryz.prog 117 c117 := codeOk (hs := []) Tryz.func117 (by kernel_rfl)
def c69 : AFunc := ⟨111,
.seq ( .region [
 ⟨(some 3), .box (.t 0) false, none⟩,
⟨(some 4), .box (.t 1) false, none⟩,
⟨(some 6), .mv (.c .nilsl), none⟩]) (
.seq (
.seq ( .region [
 ⟨(some 19), .fa (.t 4) 11, none⟩,
⟨(some 20), .ld (.t 19) 1 false, none⟩,
⟨(some 21), .lenV (.t 20), none⟩,
⟨(some 22), .bin .eql (.t 21) (.c (.i .i64 0)), none⟩]) ( .cond (.t 22) (
.seq ( .region [
 ⟨(some 6), .mv (.c .nilsl), none⟩]) ( .ret)) ( .skip))) (
.seq ( .region [
 ⟨(some 23), .mv (.t 2), none⟩,
⟨(some 24), .lenV (.t 23), none⟩,
⟨(some 25), .mksl [(.i .i64 0)] 8 (.t 24) false, none⟩,
⟨(some 7), .mv (.t 25), none⟩]) (
.seq (
.seq ( .region [
 ⟨(some 26), .mv (.t 2), none⟩,
⟨(some 27), .lenV (.t 26), none⟩,
⟨(some 28), .mv (.c (.i .i64 0)), none⟩]) ( .block 0 ( .loop (
.seq ( .region [
 ⟨(some 29), .bin .lss (.t 28) (.t 27), none⟩]) (
.seq ( .cond (.t 29) ( .skip) ( .exit 0)) (
.seq ( .block 1 (
.seq ( .region [
 ⟨(some 30), .mv (.t 28), none⟩,
⟨(some 31), .ia (.t 26) (.t 28) 3, none⟩,
⟨(some 32), .ld (.t 31) 3 true, none⟩,
⟨(some 9), .alloc [(.i .i64 0), (.i .i64 0), .nilsl] false, none⟩,
⟨(some 8), .mv (.t 30), none⟩,
⟨none, .st (.t 9) (.t 32) 3, none⟩]) ( .region [
 ⟨(some 34), .mv (.t 7), none⟩,
⟨(some 35), .mv (.t 8), none⟩,
⟨(some 36), .ld (.t 3) 3 true, none⟩,
⟨(some 37), .fa (.t 9) 0, none⟩,
⟨(some 38), .fa (.t 37) 0, none⟩,
⟨(some 39), .ld (.t 38) 1 false, none⟩,
⟨(some 40), .callf 117 [(.t 36), (.t 39)], none⟩,
⟨(some 33), .mv (.t 40), none⟩,
⟨(some 41), .ext (.t 33) 0, none⟩,
⟨(some 42), .ext (.t 33) 1, none⟩,
⟨(some 43), .ext (.t 33) 2, none⟩,
⟨(some 44), .ia (.t 34) (.t 35) 1, none⟩,
⟨none, .st (.t 44) (.t 41) 1, none⟩]))) ( .region [
 ⟨(some 45), .bin .add (.t 28) (.c (.i .i64 1)), none⟩,
⟨(some 28), .mv (.t 45), none⟩]))))))) (
.seq ( .region [
 ⟨(some 10), .mv (.c .nilsl), none⟩]) (
.seq (
.seq ( .region [
 ⟨(some 46), .fa (.t 4) 11, none⟩,
⟨(some 47), .ld (.t 46) 1 false, none⟩,
⟨(some 48), .lenV (.t 47), none⟩,
⟨(some 49), .mv (.c (.i .i64 0)), none⟩]) ( .block 2 ( .loop (
.seq ( .region [
 ⟨(some 50), .bin .lss (.t 49) (.t 48), none⟩]) (
.seq ( .cond (.t 50) ( .skip) ( .exit 2)) (
.seq ( .block 3 (
.seq ( .region [
 ⟨(some 51), .mv (.t 49), none⟩,
⟨(some 52), .ia (.t 47) (.t 49) 4, none⟩,
⟨(some 53), .ld (.t 52) 4 true, none⟩,
⟨(some 12), .alloc [(.s []), (.s []), (.i .i64 0), (.i .i64 0)] false, none⟩,
⟨(some 11), .mv (.t 51), none⟩,
⟨none, .st (.t 12) (.t 53) 4, none⟩]) (
.seq ( .region [
 ⟨(some 54), .mkmap false, none⟩,
⟨(some 13), .mv (.t 54), none⟩]) (
.seq (
.seq ( .region [
 ⟨(some 55), .mv (.t 2), none⟩,
⟨(some 56), .lenV (.t 55), none⟩,
⟨(some 57), .mv (.c (.i .i64 0)), none⟩]) ( .block 4 ( .loop (
.seq ( .region [
 ⟨(some 58), .bin .lss (.t 57) (.t 56), none⟩]) (
.seq ( .cond (.t 58) ( .skip) ( .exit 4)) (
.seq ( .block 5 (
.seq ( .region [
 ⟨(some 59), .mv (.t 57), none⟩,
⟨(some 60), .ia (.t 55) (.t 57) 3, none⟩,
⟨(some 61), .ld (.t 60) 3 true, none⟩,
⟨(some 15), .alloc [(.i .i64 0), (.i .i64 0), .nilsl] false, none⟩,
⟨(some 14), .mv (.t 59), none⟩,
⟨none, .st (.t 15) (.t 61) 3, none⟩]) (
.seq ( .draws [ ([], ⟨(some 62), .mv (.t 7), none⟩), ([], ⟨(some 63), .mv (.t 14), none⟩), ([], ⟨(some 64), .ia (.t 62) (.t 63) 1, none⟩), ([], ⟨(some 65), .ld (.t 64) 1 false, none⟩), ([], ⟨(some 66), .fa (.t 12) 3, none⟩), ([3], ⟨(some 67), .ld (.t 66) 1 false, none⟩), ([], ⟨(some 68), .bin .sub (.t 65) (.t 67), none⟩), ([], ⟨(some 69), .bin .add (.t 68) (.c (.i .i64 1)), none⟩), ([], ⟨(some 16), .mv (.t 69), none⟩)]) ( .block 6 ( .loop (
.seq (
.seq ( .region [
 ⟨(some 70), .mv (.t 16), none⟩,
⟨(some 71), .mv (.t 7), none⟩,
⟨(some 72), .mv (.t 14), none⟩,
⟨(some 73), .ia (.t 71) (.t 72) 1, none⟩,
⟨(some 74), .ld (.t 73) 1 false, none⟩,
⟨(some 75), .bin .leq (.t 70) (.t 74), none⟩]) ( .cond (.t 75) ( .skip) ( .exit 6))) (
.seq ( .block 7 ( .draws [ ([], ⟨(some 78), .mv (.t 13), none⟩), ([], ⟨(some 79), .mv (.t 16), none⟩), ([], ⟨(some 80), .lk (.one .int) (.t 78) (.t 79) (.i .i64 0) false, none⟩), ([], ⟨(some 81), .fa (.t 15) 2, none⟩), ([2], ⟨(some 82), .ld (.t 81) 1 false, none⟩), ([], ⟨(some 83), .mv (.t 11), none⟩), ([], ⟨(some 84), .ia (.t 82) (.t 83) 1, none⟩), ([2], ⟨(some 85), .ld (.t 84) 1 false, none⟩), ([], ⟨(some 86), .bin .add (.t 80) (.t 85), none⟩), ([], ⟨none, .mu (.one .int) (.t 78) (.t 79) (.t 86), none⟩)])) ( .region [
 ⟨(some 76), .mv (.t 16), none⟩,
⟨(some 77), .bin .add (.t 76) (.c (.i .i64 1)), none⟩,
⟨(some 16), .mv (.t 77), none⟩])))))))) ( .region [
 ⟨(some 87), .bin .add (.t 57) (.c (.i .i64 1)), none⟩,
⟨(some 57), .mv (.t 87), none⟩]))))))) (
.seq ( .region [
 ⟨(some 88), .mv (.t 13), none⟩,
⟨(some 89), .callf 119 [(.t 88)], none⟩,
⟨(some 90), .callf 118 [(.t 89)], none⟩,
⟨(some 91), .lenV (.t 90), none⟩,
⟨(some 92), .mv (.c (.i .i64 0)), none⟩]) ( .block 8 ( .loop (
.seq ( .region [
 ⟨(some 93), .bin .lss (.t 92) (.t 91), none⟩]) (
.seq ( .cond (.t 93) ( .skip) ( .exit 8)) (
.seq ( .block 9 (
.seq ( .region [
 ⟨(some 94), .ia (.t 90) (.t 92) 1, none⟩,
⟨(some 95), .ld (.t 94) 1 false, none⟩,
⟨(some 18), .mv (.t 95), none⟩]) (
.seq ( .region [
 ⟨(some 96), .mv (.t 13), none⟩,
⟨(some 97), .mv (.t 18), none⟩,
⟨(some 98), .lk (.one .int) (.t 96) (.t 97) (.i .i64 0) false, none⟩,
⟨(some 99), .fa (.t 12) 2, none⟩,
⟨(some 100), .ld (.t 99) 1 false, none⟩,
⟨(some 101), .bin .gtr (.t 98) (.t 100), none⟩]) ( .cond (.t 101) ( .region [
 ⟨(some 102), .mv (.t 10), none⟩,
⟨(some 103), .mv (.t 11), none⟩,
⟨(some 104), .mv (.t 18), none⟩,
⟨(some 105), .build [(.b false), (.i .i64 0), (.i .i64 0)] [(1, 1, (.t 103)), (2, 1, (.t 104))], none⟩,
⟨(some 106), .bsl [(.b false), (.i .i64 0), (.i .i64 0)] 1 [(0, (.t 105))], none⟩,
⟨(some 107), .app 3 24 (.t 102) (.t 106) false, none⟩,
⟨(some 10), .mv (.t 107), none⟩]) ( .skip))))) ( .region [
 ⟨(some 108), .bin .add (.t 92) (.c (.i .i64 1)), none⟩,
⟨(some 92), .mv (.t 108), none⟩]))))))))))) ( .region [
 ⟨(some 109), .bin .add (.t 49) (.c (.i .i64 1)), none⟩,
⟨(some 49), .mv (.t 109), none⟩]))))))) (
.seq ( .region [
 ⟨(some 110), .mv (.t 10), none⟩,
⟨(some 6), .mv (.t 110), none⟩]) ( .ret))))))), [.tmp 6], false⟩
theorem k69 : CodeOk Tryz.prog 69 c69 := codeOk (hs := []) Tryz.func69 (by kernel_rfl)
def c30 : AFunc := ⟨75,
.seq ( .region [
 ⟨(some 2), .box (.t 0) false, none⟩,
⟨(some 4), .mv (.c (.i .i64 0)), none⟩]) (
.seq (
.seq ( .region [
 ⟨(some 9), .mv (.t 1), none⟩,
⟨(some 10), .lenV (.t 9), none⟩,
⟨(some 11), .bin .gtr (.t 10) (.c (.i .i64 200)), none⟩]) ( .cond (.t 11) (
.seq ( .region [
 ⟨(some 4), .mv (.c (.i .i64 10)), none⟩]) ( .ret)) ( .skip))) (
.seq (
.seq ( .region [
 ⟨(some 12), .mv (.t 1), none⟩,
⟨(some 13), .lenV (.t 12), none⟩,
⟨(some 14), .mv (.c (.i .i64 0)), none⟩]) ( .block 0 ( .loop (
.seq ( .region [
 ⟨(some 15), .bin .lss (.t 14) (.t 13), none⟩]) (
.seq ( .cond (.t 15) ( .skip) ( .exit 0)) (
.seq ( .block 1 (
.seq ( .region [
 ⟨(some 16), .mv (.t 14), none⟩,
⟨(some 17), .ia (.t 12) (.t 14) 3, none⟩,
⟨(some 18), .ld (.t 17) 3 true, none⟩,
⟨(some 6), .alloc [(.i .i64 0), (.i .i64 0), .nilsl] false, none⟩,
⟨(some 5), .mv (.t 16), none⟩,
⟨none, .st (.t 6) (.t 18) 3, none⟩]) (
.seq (
.seq ( .region [
 ⟨(some 19), .fa (.t 6) 0, none⟩,
⟨(some 20), .fa (.t 19) 0, none⟩,
⟨(some 21), .ld (.t 20) 1 false, none⟩,
⟨(some 22), .bin .lss (.t 21) (.c (.i .i64 0)), none⟩,
⟨(some 23), .mv (.t 22), none⟩,
⟨(some 24), .fa (.t 6) 0, (some (23, false))⟩,
⟨(some 25), .fa (.t 24) 0, (some (23, false))⟩,
⟨(some 26), .ld (.t 25) 1 false, (some (23, false))⟩,
⟨(some 27), .fa (.t 6) 0, (some (23, false))⟩,
⟨(some 28), .fa (.t 27) 1, (some (23, false))⟩,
⟨(some 29), .ld (.t 28) 1 false, (some (23, false))⟩,
⟨(some 30), .bin .geq (.t 26) (.t 29), (some (23, false))⟩,
⟨(some 31), .pick (.t 23) (.c (.b true)) (.t 30), none⟩,
⟨(some 32), .mv (.t 31), none⟩,
⟨(some 33), .fa (.t 6) 0, (some (32, false))⟩,
⟨(some 34), .fa (.t 33) 1, (some (32, false))⟩,
⟨(some 35), .ld (.t 34) 1 false, (some (32, false))⟩,
⟨(some 36), .bin .gtr (.t 35) (.c (.i .i64 52596000)), (some (32, false))⟩,
⟨(some 37), .pick (.t 32) (.c (.b true)) (.t 36), none⟩]) ( .cond (.t 37) (
.seq ( .region [
 ⟨(some 4), .mv (.c (.i .i64 5)), none⟩]) ( .ret)) ( .skip))) (
.seq (
.seq ( .region [
 ⟨(some 38), .fa (.t 6) 2, none⟩,
⟨(some 39), .ld (.t 38) 1 false, none⟩,
⟨(some 40), .lenV (.t 39), none⟩,
⟨(some 41), .fa (.t 2) 11, none⟩,
⟨(some 42), .ld (.t 41) 1 false, none⟩,
⟨(some 43), .lenV (.t 42), none⟩,
⟨(some 44), .bin .neq (.t 40) (.t 43), none⟩]) ( .cond (.t 44) (
.seq ( .region [
 ⟨(some 4), .mv (.c (.i .i64 12)), none⟩]) ( .ret)) ( .skip))) (
.seq (
.seq ( .region [
 ⟨(some 45), .fa (.t 6) 2, none⟩,
⟨(some 46), .ld (.t 45) 1 false, none⟩,
⟨(some 47), .lenV (.t 46), none⟩,
⟨(some 48), .mv (.c (.i .i64 0)), none⟩]) ( .block 2 ( .loop (
.seq ( .region [
 ⟨(some 49), .bin .lss (.t 48) (.t 47), none⟩]) (
.seq ( .cond (.t 49) ( .skip) ( .exit 2)) (
.seq ( .block 3 (
.seq ( .region [
 ⟨(some 50), .ia (.t 46) (.t 48) 1, none⟩,
⟨(some 51), .ld (.t 50) 1 false, none⟩,
⟨(some 8), .mv (.t 51), none⟩]) (
.seq ( .region [
 ⟨(some 52), .mv (.t 8), none⟩,
⟨(some 53), .bin .lss (.t 52) (.c (.i .i64 (-1099511627776))), none⟩,
⟨(some 54), .mv (.t 53), none⟩,
⟨(some 55), .mv (.t 8), (some (54, false))⟩,
⟨(some 56), .bin .gtr (.t 55) (.c (.i .i64 1099511627776)), (some (54, false))⟩,
⟨(some 57), .pick (.t 54) (.c (.b true)) (.t 56), none⟩]) ( .cond (.t 57) (
.seq ( .region [
 ⟨(some 4), .mv (.c (.i .i64 5)), none⟩]) ( .ret)) ( .skip))))) ( .region [
 ⟨(some 58), .bin .add (.t 48) (.c (.i .i64 1)), none⟩,
⟨(some 48), .mv (.t 58), none⟩]))))))) (
.seq ( .draws [ ([], ⟨(some 59), .mv (.t 5), none⟩), ([], ⟨(some 60), .bin .gtr (.t 59) (.c (.i .i64 0)), none⟩), ([], ⟨(some 61), .mv (.t 60), none⟩), ([], ⟨(some 62), .fa (.t 6) 0, (some (61, true))⟩), ([], ⟨(some 63), .fa (.t 62) 0, (some (61, true))⟩), ([], ⟨(some 64), .ld (.t 63) 1 false, (some (61, true))⟩), ([], ⟨(some 65), .mv (.t 1), (some (61, true))⟩), ([], ⟨(some 66), .mv (.t 5), (some (61, true))⟩), ([], ⟨(some 67), .bin .sub (.t 66) (.c (.i .i64 1)), (some (61, true))⟩), ([], ⟨(some 68), .ia (.t 65) (.t 67) 3, (some (61, true))⟩), ([], ⟨(some 69), .fa (.t 68) 0, (some (61, true))⟩), ([], ⟨(some 70), .fa (.t 69) 1, (some (61, true))⟩), ([5], ⟨(some 71), .ld (.t 70) 1 false, (some (61, true))⟩), ([], ⟨(some 72), .bin .lss (.t 64) (.t 71), (some (61, true))⟩), ([], ⟨(some 73), .pick (.t 61) (.t 72) (.c (.b false)), none⟩)]) ( .cond (.t 73) (
.seq ( .region [
 ⟨(some 4), .mv (.c (.i .i64 8)), none⟩]) ( .ret)) ( .skip)))))))) ( .region [
 ⟨(some 74), .bin .add (.t 14) (.c (.i .i64 1)), none⟩,
⟨(some 14), .mv (.t 74), none⟩]))))))) (
.seq ( .region [
 ⟨(some 4), .mv (.c (.i .i64 0)), none⟩]) ( .ret)))), [.tmp 4], false⟩
theorem k30 : CodeOk Tryz.prog 30 c30 := codeOk (hs := []) Tryz.func30 (by kernel_rfl)
def c96 : AFunc := ⟨41,
.seq ( .region [
 ⟨(some 2), .mv (.c .nilptr), none⟩]) (
.seq ( .region [
 ⟨(some 8), .mv (.t 0), none⟩,
⟨(some 9), .mkmap false, none⟩,
⟨(some 10), .mkmap false, none⟩,
⟨(some 11), .build [.nilsl, .nilmp, .nilmp] [(0, 1, (.t 8)), (1, 1, (.t 9)), (2, 1, (.t 10))], none⟩,
⟨(some 12), .box (.t 11) false, none⟩,
⟨(some 3), .mv (.t 12), none⟩]) (
.seq (
.seq ( .region [
 ⟨(some 13), .mv (.t 0), none⟩,
⟨(some 14), .lenV (.t 13), none⟩,
⟨(some 15), .mv (.c (.i .i64 0)), none⟩]) ( .block 0 ( .loop (
.seq ( .region [
 ⟨(some 16), .bin .lss (.t 15) (.t 14), none⟩]) (
.seq ( .cond (.t 16) ( .skip) ( .exit 0)) (
.seq ( .block 1 (
.seq ( .region [
 ⟨(some 17), .mv (.t 15), none⟩,
⟨(some 18), .ia (.t 13) (.t 15) 5, none⟩,
⟨(some 19), .ld (.t 18) 5 true, none⟩,
⟨(some 5), .alloc [(.s []), (.i .i64 0), (.i .i64 0), (.s []), .nilsl] false, none⟩,
⟨(some 4), .mv (.t 17), none⟩,
⟨none, .st (.t 5) (.t 19) 5, none⟩]) (
.seq ( .draws [ ([], ⟨(some 21), .mv (.t 3), none⟩), ([], ⟨(some 22), .nck (.t 21), none⟩), ([], ⟨(some 23), .fa (.t 22) 1, none⟩), ([], ⟨(some 24), .ld (.t 23) 1 false, none⟩), ([], ⟨(some 25), .fa (.t 5) 0, none⟩), ([3], ⟨(some 26), .ld (.t 25) 1 false, none⟩), ([], ⟨(some 27), .lk (.one .str) (.t 24) (.t 26) (.i .i64 0) true, none⟩), ([], ⟨(some 20), .mv (.t 27), none⟩), ([], ⟨(some 28), .ext (.t 20) 0, none⟩), ([], ⟨(some 29), .ext (.t 20) 1, none⟩), ([], ⟨(some 6), .mv (.t 28), none⟩), ([], ⟨(some 7), .mv (.t 29), none⟩)]) (
.seq ( .region [
 ⟨(some 30), .mv (.t 7), none⟩,
⟨(some 31), .un .not (.t 30), none⟩]) ( .cond (.t 31) ( .draws [ ([], ⟨(some 32), .mv (.t 3), none⟩), ([], ⟨(some 33), .nck (.t 32), none⟩), ([], ⟨(some 34), .fa (.t 33) 1, none⟩), ([], ⟨(some 35), .ld (.t 34) 1 false, none⟩), ([], ⟨(some 36), .fa (.t 5) 0, none⟩), ([3], ⟨(some 37), .ld (.t 36) 1 false, none⟩), ([], ⟨(some 38), .mv (.t 4), none⟩), ([], ⟨none, .mu (.one .str) (.t 35) (.t 37) (.t 38), none⟩)]) ( .skip)))))) ( .region [
 ⟨(some 39), .bin .add (.t 15) (.c (.i .i64 1)), none⟩,
⟨(some 15), .mv (.t 39), none⟩]))))))) (
.seq ( .region [
 ⟨(some 40), .mv (.t 3), none⟩,
⟨(some 2), .mv (.t 40), none⟩]) ( .ret)))), [.tmp 2], false⟩
theorem k96 : CodeOk Tryz.prog 96 c96 := codeOk (hs := []) Tryz.func96 (by kernel_rfl)
def c224 : AFunc := ⟨13,
.seq ( .region [
 ⟨(some 2), .mv (.c (.i .i64 0)), none⟩]) (
.seq (
.seq ( .region [
 ⟨(some 3), .mv (.t 0), none⟩]) ( .block 0 (
.seq (
.seq ( .region [
 ⟨(some 5), .bin .eql (.t 3) (.c (.s [98, 108, 111, 99, 107])), none⟩,
⟨(some 4), .mv (.t 5), none⟩]) ( .cond (.t 4) ( .skip) (
.seq ( .region [
 ⟨(some 6), .bin .eql (.t 3) (.c (.s [115, 112, 97, 110])), none⟩,
⟨(some 4), .mv (.t 6), none⟩]) ( .cond (.t 4) ( .skip) (
.seq ( .region [
 ⟨(some 7), .bin .eql (.t 3) (.c (.s [110, 105, 103, 104, 116])), none⟩,
⟨(some 4), .mv (.t 7), none⟩]) ( .cond (.t 4) ( .skip) ( .region [
 ⟨(some 8), .bin .eql (.t 3) (.c (.s [99, 114, 101, 100, 105, 116])), none⟩,
⟨(some 4), .mv (.t 8), none⟩]))))))) ( .cond (.t 4) (
.seq ( .region [
 ⟨(some 2), .mv (.c (.i .i64 3)), none⟩]) ( .ret)) (
.seq (
.seq ( .region [
 ⟨(some 10), .bin .eql (.t 3) (.c (.s [108, 101, 103, 115])), none⟩,
⟨(some 9), .mv (.t 10), none⟩]) ( .cond (.t 9) ( .skip) (
.seq ( .region [
 ⟨(some 11), .bin .eql (.t 3) (.c (.s [104, 101, 97, 100, 115])), none⟩,
⟨(some 9), .mv (.t 11), none⟩]) ( .cond (.t 9) ( .skip) ( .region [
 ⟨(some 12), .bin .eql (.t 3) (.c (.s [100, 117, 116, 105, 101, 115])), none⟩,
⟨(some 9), .mv (.t 12), none⟩]))))) ( .cond (.t 9) (
.seq ( .region [
 ⟨(some 2), .mv (.c (.i .i64 2)), none⟩]) ( .ret)) ( .skip))))))) (
.seq ( .region [
 ⟨(some 2), .mv (.c (.i .i64 0)), none⟩]) ( .ret))), [.tmp 2], false⟩
theorem k224 : CodeOk Tryz.prog 224 c224 := codeOk (hs := []) Tryz.func224 (by kernel_rfl)
def c251 : AFunc := ⟨18,
.seq ( .region [
 ⟨(some 2), .mv (.c (.b false)), none⟩]) (
.seq (
.seq ( .region [
 ⟨(some 3), .mv (.t 0), none⟩]) ( .block 0 (
.seq (
.seq ( .region [
 ⟨(some 5), .bin .eql (.t 3) (.c (.s [97, 110, 100])), none⟩,
⟨(some 4), .mv (.t 5), none⟩]) ( .cond (.t 4) ( .skip) (
.seq ( .region [
 ⟨(some 6), .bin .eql (.t 3) (.c (.s [111, 114])), none⟩,
⟨(some 4), .mv (.t 6), none⟩]) ( .cond (.t 4) ( .skip) (
.seq ( .region [
 ⟨(some 7), .bin .eql (.t 3) (.c (.s [110, 111, 116])), none⟩,
⟨(some 4), .mv (.t 7), none⟩]) ( .cond (.t 4) ( .skip) (
.seq ( .region [
 ⟨(some 8), .bin .eql (.t 3) (.c (.s [105, 109, 112, 108, 105, 101, 115])), none⟩,
⟨(some 4), .mv (.t 8), none⟩]) ( .cond (.t 4) ( .skip) (
.seq ( .region [
 ⟨(some 9), .bin .eql (.t 3) (.c (.s [105, 110])), none⟩,
⟨(some 4), .mv (.t 9), none⟩]) ( .cond (.t 4) ( .skip) (
.seq ( .region [
 ⟨(some 10), .bin .eql (.t 3) (.c (.s [116, 111])), none⟩,
⟨(some 4), .mv (.t 10), none⟩]) ( .cond (.t 4) ( .skip) (
.seq ( .region [
 ⟨(some 11), .bin .eql (.t 3) (.c (.s [116, 114, 117, 101])), none⟩,
⟨(some 4), .mv (.t 11), none⟩]) ( .cond (.t 4) ( .skip) (
.seq ( .region [
 ⟨(some 12), .bin .eql (.t 3) (.c (.s [102, 97, 108, 115, 101])), none⟩,
⟨(some 4), .mv (.t 12), none⟩]) ( .cond (.t 4) ( .skip) (
.seq ( .region [
 ⟨(some 13), .bin .eql (.t 3) (.c (.s [109, 105, 110])), none⟩,
⟨(some 4), .mv (.t 13), none⟩]) ( .cond (.t 4) ( .skip) (
.seq ( .region [
 ⟨(some 14), .bin .eql (.t 3) (.c (.s [109, 97, 120])), none⟩,
⟨(some 4), .mv (.t 14), none⟩]) ( .cond (.t 4) ( .skip) (
.seq ( .region [
 ⟨(some 15), .bin .eql (.t 3) (.c (.s [105, 102])), none⟩,
⟨(some 4), .mv (.t 15), none⟩]) ( .cond (.t 4) ( .skip) (
.seq ( .region [
 ⟨(some 16), .bin .eql (.t 3) (.c (.s [116, 104, 101, 110])), none⟩,
⟨(some 4), .mv (.t 16), none⟩]) ( .cond (.t 4) ( .skip) ( .region [
 ⟨(some 17), .bin .eql (.t 3) (.c (.s [101, 108, 115, 101])), none⟩,
⟨(some 4), .mv (.t 17), none⟩]))))))))))))))))))))))))) ( .cond (.t 4) (
.seq ( .region [
 ⟨(some 2), .mv (.c (.b true)), none⟩]) ( .ret)) ( .skip))))) (
.seq ( .region [
 ⟨(some 2), .mv (.c (.b false)), none⟩]) ( .ret))), [.tmp 2], false⟩
theorem k251 : CodeOk Tryz.prog 251 c251 := codeOk (hs := []) Tryz.func251 (by kernel_rfl)
def c218 : AFunc := ⟨10,
.seq ( .region [
 ⟨(some 2), .mv (.c (.b false)), none⟩]) (
.seq ( .region [
 ⟨(some 3), .mv (.t 0), none⟩,
⟨(some 4), .callf 174 [(.t 3)], none⟩,
⟨(some 5), .mv (.t 4), none⟩,
⟨(some 6), .mv (.t 0), (some (5, true))⟩,
⟨(some 7), .callf 251 [(.t 6)], (some (5, true))⟩,
⟨(some 8), .un .not (.t 7), (some (5, true))⟩,
⟨(some 9), .pick (.t 5) (.t 8) (.c (.b false)), none⟩,
⟨(some 2), .mv (.t 9), none⟩]) ( .ret)), [.tmp 2], false⟩
theorem k218 : CodeOk Tryz.prog 218 c218 := codeOk (hs := []) Tryz.func218 (by kernel_rfl)
def c173 : AFunc := ⟨80,
.seq ( .region [
 ⟨(some 1), .box (.t 0) false, none⟩,
⟨(some 2), .mv (.c (.i .i64 0)), none⟩]) (
.seq ( .region [
 ⟨(some 8), .mkmap false, none⟩,
⟨(some 3), .mv (.t 8), none⟩]) (
.seq (
.seq ( .region [
 ⟨(some 9), .fa (.t 1) 11, none⟩,
⟨(some 10), .ld (.t 9) 1 false, none⟩,
⟨(some 11), .lenV (.t 10), none⟩,
⟨(some 12), .mv (.c (.i .i64 0)), none⟩]) ( .block 0 ( .loop (
.seq ( .region [
 ⟨(some 13), .bin .lss (.t 12) (.t 11), none⟩]) (
.seq ( .cond (.t 13) ( .skip) ( .exit 0)) (
.seq ( .block 1 (
.seq ( .region [
 ⟨(some 14), .ia (.t 10) (.t 12) 4, none⟩,
⟨(some 15), .ld (.t 14) 4 true, none⟩,
⟨(some 5), .alloc [(.s []), (.s []), (.i .i64 0), (.i .i64 0)] false, none⟩,
⟨none, .st (.t 5) (.t 15) 4, none⟩]) (
.seq ( .block 2 (
.seq ( .region [
 ⟨(some 17), .fa (.t 5) 0, none⟩,
⟨(some 18), .ld (.t 17) 1 false, none⟩,
⟨(some 19), .callf 218 [(.t 18)], none⟩,
⟨(some 20), .un .not (.t 19), none⟩,
⟨(some 16), .mv (.t 20), none⟩]) ( .cond (.t 16) (
.seq ( .region [
 ⟨(some 2), .mv (.c (.i .i64 1)), none⟩]) ( .ret)) (
.seq ( .region [
 ⟨(some 22), .mv (.t 3), none⟩,
⟨(some 23), .fa (.t 5) 0, none⟩,
⟨(some 24), .ld (.t 23) 1 false, none⟩,
⟨(some 25), .lk (.one .str) (.t 22) (.t 24) (.b false) false, none⟩,
⟨(some 21), .mv (.t 25), none⟩]) ( .cond (.t 21) (
.seq ( .region [
 ⟨(some 2), .mv (.c (.i .i64 7)), none⟩]) ( .ret)) (
.seq ( .region [
 ⟨(some 27), .fa (.t 5) 1, none⟩,
⟨(some 28), .ld (.t 27) 1 false, none⟩,
⟨(some 29), .callf 224 [(.t 28)], none⟩,
⟨(some 30), .bin .eql (.t 29) (.c (.i .i64 0)), none⟩,
⟨(some 26), .mv (.t 30), none⟩]) ( .cond (.t 26) (
.seq ( .region [
 ⟨(some 2), .mv (.c (.i .i64 6)), none⟩]) ( .ret)) (
.seq ( .region [
 ⟨(some 32), .fa (.t 5) 2, none⟩,
⟨(some 33), .ld (.t 32) 1 false, none⟩,
⟨(some 34), .callf 169 [(.t 33), (.c (.i .i64 0)), (.c (.i .i64 599999))], none⟩,
⟨(some 35), .un .not (.t 34), none⟩,
⟨(some 36), .mv (.t 35), none⟩,
⟨(some 37), .fa (.t 5) 3, (some (36, false))⟩,
⟨(some 38), .ld (.t 37) 1 false, (some (36, false))⟩,
⟨(some 39), .callf 169 [(.t 38), (.c (.i .i64 1)), (.c (.i .i64 31))], (some (36, false))⟩,
⟨(some 40), .un .not (.t 39), (some (36, false))⟩,
⟨(some 41), .pick (.t 36) (.c (.b true)) (.t 40), none⟩,
⟨(some 31), .mv (.t 41), none⟩]) ( .cond (.t 31) (
.seq ( .region [
 ⟨(some 2), .mv (.c (.i .i64 5)), none⟩]) ( .ret)) ( .skip)))))))))) ( .region [
 ⟨(some 42), .mv (.t 3), none⟩,
⟨(some 43), .fa (.t 5) 0, none⟩,
⟨(some 44), .ld (.t 43) 1 false, none⟩,
⟨none, .mu (.one .str) (.t 42) (.t 44) (.c (.b true)), none⟩])))) ( .region [
 ⟨(some 45), .bin .add (.t 12) (.c (.i .i64 1)), none⟩,
⟨(some 12), .mv (.t 45), none⟩]))))))) (
.seq (
.seq ( .region [
 ⟨(some 46), .fa (.t 1) 12, none⟩,
⟨(some 47), .ld (.t 46) 1 false, none⟩,
⟨(some 48), .lenV (.t 47), none⟩,
⟨(some 49), .mv (.c (.i .i64 0)), none⟩]) ( .block 3 ( .loop (
.seq ( .region [
 ⟨(some 50), .bin .lss (.t 49) (.t 48), none⟩]) (
.seq ( .cond (.t 50) ( .skip) ( .exit 3)) (
.seq ( .block 4 (
.seq ( .region [
 ⟨(some 51), .ia (.t 47) (.t 49) 3, none⟩,
⟨(some 52), .ld (.t 51) 3 true, none⟩,
⟨(some 7), .alloc [(.s []), (.i .i64 0), (.i .i64 0)] false, none⟩,
⟨none, .st (.t 7) (.t 52) 3, none⟩]) (
.seq ( .block 5 (
.seq ( .region [
 ⟨(some 54), .fa (.t 7) 0, none⟩,
⟨(some 55), .ld (.t 54) 1 false, none⟩,
⟨(some 56), .callf 218 [(.t 55)], none⟩,
⟨(some 57), .un .not (.t 56), none⟩,
⟨(some 53), .mv (.t 57), none⟩]) ( .cond (.t 53) (
.seq ( .region [
 ⟨(some 2), .mv (.c (.i .i64 1)), none⟩]) ( .ret)) (
.seq ( .region [
 ⟨(some 59), .mv (.t 3), none⟩,
⟨(some 60), .fa (.t 7) 0, none⟩,
⟨(some 61), .ld (.t 60) 1 false, none⟩,
⟨(some 62), .lk (.one .str) (.t 59) (.t 61) (.b false) false, none⟩,
⟨(some 58), .mv (.t 62), none⟩]) ( .cond (.t 58) (
.seq ( .region [
 ⟨(some 2), .mv (.c (.i .i64 7)), none⟩]) ( .ret)) (
.seq ( .region [
 ⟨(some 64), .fa (.t 7) 2, none⟩,
⟨(some 65), .ld (.t 64) 1 false, none⟩,
⟨(some 66), .callf 169 [(.t 65), (.c (.i .i64 1)), (.c (.i .i64 31))], none⟩,
⟨(some 67), .un .not (.t 66), none⟩,
⟨(some 68), .mv (.t 67), none⟩,
⟨(some 69), .fa (.t 7) 1, (some (68, false))⟩,
⟨(some 70), .ld (.t 69) 1 false, (some (68, false))⟩,
⟨(some 71), .fa (.t 7) 2, (some (68, false))⟩,
⟨(some 72), .ld (.t 71) 1 false, (some (68, false))⟩,
⟨(some 73), .callf 169 [(.t 70), (.c (.i .i64 1)), (.t 72)], (some (68, false))⟩,
⟨(some 74), .un .not (.t 73), (some (68, false))⟩,
⟨(some 75), .pick (.t 68) (.c (.b true)) (.t 74), none⟩,
⟨(some 63), .mv (.t 75), none⟩]) ( .cond (.t 63) (
.seq ( .region [
 ⟨(some 2), .mv (.c (.i .i64 5)), none⟩]) ( .ret)) ( .skip)))))))) ( .region [
 ⟨(some 76), .mv (.t 3), none⟩,
⟨(some 77), .fa (.t 7) 0, none⟩,
⟨(some 78), .ld (.t 77) 1 false, none⟩,
⟨none, .mu (.one .str) (.t 76) (.t 78) (.c (.b true)), none⟩])))) ( .region [
 ⟨(some 79), .bin .add (.t 49) (.c (.i .i64 1)), none⟩,
⟨(some 49), .mv (.t 79), none⟩]))))))) (
.seq ( .region [
 ⟨(some 2), .mv (.c (.i .i64 0)), none⟩]) ( .ret))))), [.tmp 2], false⟩
theorem k173 : CodeOk Tryz.prog 173 c173 := codeOk (hs := []) Tryz.func173 (by kernel_rfl)
def c171 : AFunc := ⟨42,
.seq ( .region [
 ⟨(some 2), .mv (.c (.i .i64 0)), none⟩]) (
.seq ( .region [
 ⟨(some 8), .mkmap false, none⟩,
⟨(some 3), .mv (.t 8), none⟩]) (
.seq (
.seq ( .region [
 ⟨(some 9), .mv (.t 0), none⟩,
⟨(some 10), .lenV (.t 9), none⟩,
⟨(some 11), .mv (.c (.i .i64 0)), none⟩]) ( .block 0 ( .loop (
.seq ( .region [
 ⟨(some 12), .bin .lss (.t 11) (.t 10), none⟩]) (
.seq ( .cond (.t 12) ( .skip) ( .exit 0)) (
.seq ( .block 1 (
.seq ( .region [
 ⟨(some 13), .ia (.t 9) (.t 11) 6, none⟩,
⟨(some 14), .ld (.t 13) 6 true, none⟩,
⟨(some 5), .alloc [(.i .i64 0), (.s []), (.i .i64 0), (.i .i64 0), (.s []), .nilsl] false, none⟩,
⟨none, .st (.t 5) (.t 14) 6, none⟩]) (
.seq (
.seq ( .region [
 ⟨(some 15), .fa (.t 5) 0, none⟩,
⟨(some 16), .ld (.t 15) 1 false, none⟩,
⟨(some 17), .callf 172 [(.t 16)], none⟩,
⟨(some 18), .un .not (.t 17), none⟩,
⟨(some 19), .mv (.t 18), none⟩,
⟨(some 20), .fa (.t 5) 1, (some (19, false))⟩,
⟨(some 21), .ld (.t 20) 1 false, (some (19, false))⟩,
⟨(some 22), .callf 218 [(.t 21)], (some (19, false))⟩,
⟨(some 23), .un .not (.t 22), (some (19, false))⟩,
⟨(some 24), .pick (.t 19) (.c (.b true)) (.t 23), none⟩]) ( .cond (.t 24) (
.seq ( .region [
 ⟨(some 2), .mv (.c (.i .i64 1)), none⟩]) ( .ret)) ( .skip))) (
.seq ( .region [
 ⟨(some 25), .fa (.t 5) 0, none⟩,
⟨(some 26), .ld (.t 25) 1 false, none⟩,
⟨(some 27), .fa (.t 5) 1, none⟩,
⟨(some 28), .ld (.t 27) 1 false, none⟩,
⟨(some 29), .build [(.i .i64 0), (.s [])] [(0, 1, (.t 26)), (1, 1, (.t 28))], none⟩,
⟨(some 6), .alloc [(.i .i64 0), (.s [])] false, none⟩,
⟨none, .st (.t 6) (.t 29) 2, none⟩]) (
.seq (
.seq ( .region [
 ⟨(some 30), .mv (.t 3), none⟩,
⟨(some 31), .ld (.t 6) 2 true, none⟩,
⟨(some 32), .lk (.flat [.int, .str]) (.t 30) (.t 31) (.b false) false, none⟩]) ( .cond (.t 32) (
.seq ( .region [
 ⟨(some 2), .mv (.c (.i .i64 7)), none⟩]) ( .ret)) ( .skip))) (
.seq ( .region [
 ⟨(some 33), .mv (.t 3), none⟩,
⟨(some 34), .ld (.t 6) 2 true, none⟩,
⟨none, .mu (.flat [.int, .str]) (.t 33) (.t 34) (.c (.b true)), none⟩]) (
.seq ( .region [
 ⟨(some 35), .fa (.t 5) 2, none⟩,
⟨(some 36), .ld (.t 35) 4 true, none⟩,
⟨(some 37), .callf 55 [(.t 36)], none⟩,
⟨(some 7), .mv (.t 37), none⟩]) (
.seq ( .region [
 ⟨(some 38), .mv (.t 7), none⟩,
⟨(some 39), .bin .neq (.t 38) (.c (.i .i64 0)), none⟩]) ( .cond (.t 39) (
.seq ( .region [
 ⟨(some 40), .mv (.t 7), none⟩,
⟨(some 2), .mv (.t 40), none⟩]) ( .ret)) ( .skip)))))))))) ( .region [
 ⟨(some 41), .bin .add (.t 11) (.c (.i .i64 1)), none⟩,
⟨(some 11), .mv (.t 41), none⟩]))))))) (
.seq ( .region [
 ⟨(some 2), .mv (.c (.i .i64 0)), none⟩]) ( .ret)))), [.tmp 2], false⟩
theorem k171 : CodeOk Tryz.prog 171 c171 := codeOk (hs := []) Tryz.func171 (by kernel_rfl)
def c170 : AFunc := ⟨32,
.seq ( .region [
 ⟨(some 2), .mv (.c (.i .i64 0)), none⟩]) (
.seq ( .region [
 ⟨(some 7), .mkmap false, none⟩,
⟨(some 3), .mv (.t 7), none⟩]) (
.seq (
.seq ( .region [
 ⟨(some 8), .mv (.t 0), none⟩,
⟨(some 9), .lenV (.t 8), none⟩,
⟨(some 10), .mv (.c (.i .i64 0)), none⟩]) ( .block 0 ( .loop (
.seq ( .region [
 ⟨(some 11), .bin .lss (.t 10) (.t 9), none⟩]) (
.seq ( .cond (.t 11) ( .skip) ( .exit 0)) (
.seq ( .block 1 (
.seq ( .region [
 ⟨(some 12), .ia (.t 8) (.t 10) 5, none⟩,
⟨(some 13), .ld (.t 12) 5 true, none⟩,
⟨(some 5), .alloc [(.s []), (.i .i64 0), (.i .i64 0), (.s []), .nilsl] false, none⟩,
⟨none, .st (.t 5) (.t 13) 5, none⟩]) (
.seq (
.seq ( .region [
 ⟨(some 14), .fa (.t 5) 0, none⟩,
⟨(some 15), .ld (.t 14) 1 false, none⟩,
⟨(some 16), .callf 218 [(.t 15)], none⟩,
⟨(some 17), .un .not (.t 16), none⟩]) ( .cond (.t 17) (
.seq ( .region [
 ⟨(some 2), .mv (.c (.i .i64 1)), none⟩]) ( .ret)) ( .skip))) (
.seq (
.seq ( .region [
 ⟨(some 18), .mv (.t 3), none⟩,
⟨(some 19), .fa (.t 5) 0, none⟩,
⟨(some 20), .ld (.t 19) 1 false, none⟩,
⟨(some 21), .lk (.one .str) (.t 18) (.t 20) (.b false) false, none⟩]) ( .cond (.t 21) (
.seq ( .region [
 ⟨(some 2), .mv (.c (.i .i64 7)), none⟩]) ( .ret)) ( .skip))) (
.seq ( .region [
 ⟨(some 22), .mv (.t 3), none⟩,
⟨(some 23), .fa (.t 5) 0, none⟩,
⟨(some 24), .ld (.t 23) 1 false, none⟩,
⟨none, .mu (.one .str) (.t 22) (.t 24) (.c (.b true)), none⟩]) (
.seq ( .region [
 ⟨(some 25), .fa (.t 5) 1, none⟩,
⟨(some 26), .ld (.t 25) 4 true, none⟩,
⟨(some 27), .callf 55 [(.t 26)], none⟩,
⟨(some 6), .mv (.t 27), none⟩]) (
.seq ( .region [
 ⟨(some 28), .mv (.t 6), none⟩,
⟨(some 29), .bin .neq (.t 28) (.c (.i .i64 0)), none⟩]) ( .cond (.t 29) (
.seq ( .region [
 ⟨(some 30), .mv (.t 6), none⟩,
⟨(some 2), .mv (.t 30), none⟩]) ( .ret)) ( .skip))))))))) ( .region [
 ⟨(some 31), .bin .add (.t 10) (.c (.i .i64 1)), none⟩,
⟨(some 10), .mv (.t 31), none⟩]))))))) (
.seq ( .region [
 ⟨(some 2), .mv (.c (.i .i64 0)), none⟩]) ( .ret)))), [.tmp 2], false⟩
theorem k170 : CodeOk Tryz.prog 170 c170 := codeOk (hs := []) Tryz.func170 (by kernel_rfl)
def c169 : AFunc := ⟨15,
.seq ( .region [
 ⟨(some 6), .mv (.c (.b false)), none⟩]) (
.seq ( .region [
 ⟨(some 7), .mv (.t 0), none⟩,
⟨(some 8), .mv (.t 1), none⟩,
⟨(some 9), .bin .geq (.t 7) (.t 8), none⟩,
⟨(some 10), .mv (.t 9), none⟩,
⟨(some 11), .mv (.t 0), (some (10, true))⟩,
⟨(some 12), .mv (.t 2), (some (10, true))⟩,
⟨(some 13), .bin .leq (.t 11) (.t 12), (some (10, true))⟩,
⟨(some 14), .pick (.t 10) (.t 13) (.c (.b false)), none⟩,
⟨(some 6), .mv (.t 14), none⟩]) ( .ret)), [.tmp 6], false⟩
theorem k169 : CodeOk Tryz.prog 169 c169 := codeOk (hs := []) Tryz.func169 (by kernel_rfl)
def c113 : AFunc := ⟨116,
.seq ( .region [
 ⟨(some 1), .box (.t 0) false, none⟩,
⟨(some 2), .mv (.c (.i .i64 0)), none⟩]) (
.seq ( .block 0 (
.seq (
.seq ( .region [
 ⟨(some 12), .fa (.t 1) 0, none⟩,
⟨(some 13), .ld (.t 12) 1 false, none⟩,
⟨(some 14), .callf 169 [(.t 13), (.c (.i .i64 0)), (.c (.i .i64 1440))], none⟩,
⟨(some 15), .un .not (.t 14), none⟩,
⟨(some 11), .mv (.t 15), none⟩]) ( .cond (.t 11) ( .skip) (
.seq ( .region [
 ⟨(some 16), .fa (.t 1) 1, none⟩,
⟨(some 17), .ld (.t 16) 1 false, none⟩,
⟨(some 18), .callf 169 [(.t 17), (.c (.i .i64 0)), (.c (.i .i64 1440))], none⟩,
⟨(some 19), .un .not (.t 18), none⟩,
⟨(some 11), .mv (.t 19), none⟩]) ( .cond (.t 11) ( .skip) (
.seq ( .region [
 ⟨(some 20), .fa (.t 1) 2, none⟩,
⟨(some 21), .ld (.t 20) 1 false, none⟩,
⟨(some 22), .callf 169 [(.t 21), (.c (.i .i64 0)), (.c (.i .i64 1440))], none⟩,
⟨(some 23), .un .not (.t 22), none⟩,
⟨(some 11), .mv (.t 23), none⟩]) ( .cond (.t 11) ( .skip) (
.seq ( .region [
 ⟨(some 24), .fa (.t 1) 3, none⟩,
⟨(some 25), .ld (.t 24) 1 false, none⟩,
⟨(some 26), .fa (.t 1) 2, none⟩,
⟨(some 27), .ld (.t 26) 1 false, none⟩,
⟨(some 28), .callf 169 [(.t 25), (.t 27), (.c (.i .i64 1440))], none⟩,
⟨(some 29), .un .not (.t 28), none⟩,
⟨(some 11), .mv (.t 29), none⟩]) ( .cond (.t 11) ( .skip) (
.seq ( .region [
 ⟨(some 30), .fa (.t 1) 4, none⟩,
⟨(some 31), .ld (.t 30) 1 false, none⟩,
⟨(some 32), .callf 169 [(.t 31), (.c (.i .i64 0)), (.c (.i .i64 10080))], none⟩,
⟨(some 33), .un .not (.t 32), none⟩,
⟨(some 11), .mv (.t 33), none⟩]) ( .cond (.t 11) ( .skip) (
.seq ( .region [
 ⟨(some 34), .fa (.t 1) 5, none⟩,
⟨(some 35), .ld (.t 34) 1 false, none⟩,
⟨(some 36), .callf 169 [(.t 35), (.c (.i .i64 0)), (.c (.i .i64 1439))], none⟩,
⟨(some 37), .un .not (.t 36), none⟩,
⟨(some 11), .mv (.t 37), none⟩]) ( .cond (.t 11) ( .skip) (
.seq ( .region [
 ⟨(some 38), .fa (.t 1) 6, none⟩,
⟨(some 39), .ld (.t 38) 1 false, none⟩,
⟨(some 40), .callf 169 [(.t 39), (.c (.i .i64 0)), (.c (.i .i64 1439))], none⟩,
⟨(some 41), .un .not (.t 40), none⟩,
⟨(some 11), .mv (.t 41), none⟩]) ( .cond (.t 11) ( .skip) ( .region [
 ⟨(some 42), .fa (.t 1) 13, none⟩,
⟨(some 43), .ld (.t 42) 1 false, none⟩,
⟨(some 44), .callf 169 [(.t 43), (.c (.i .i64 0)), (.c (.i .i64 599999))], none⟩,
⟨(some 45), .un .not (.t 44), none⟩,
⟨(some 11), .mv (.t 45), none⟩]))))))))))))))) ( .cond (.t 11) (
.seq ( .region [
 ⟨(some 2), .mv (.c (.i .i64 5)), none⟩]) ( .ret)) (
.seq (
.seq ( .region [
 ⟨(some 47), .fa (.t 1) 7, none⟩,
⟨(some 48), .ld (.t 47) 1 false, none⟩,
⟨(some 49), .lenV (.t 48), none⟩,
⟨(some 50), .bin .gtr (.t 49) (.c (.i .i64 32)), none⟩,
⟨(some 46), .mv (.t 50), none⟩]) ( .cond (.t 46) ( .skip) (
.seq ( .region [
 ⟨(some 51), .fa (.t 1) 8, none⟩,
⟨(some 52), .ld (.t 51) 1 false, none⟩,
⟨(some 53), .lenV (.t 52), none⟩,
⟨(some 54), .bin .gtr (.t 53) (.c (.i .i64 40)), none⟩,
⟨(some 46), .mv (.t 54), none⟩]) ( .cond (.t 46) ( .skip) (
.seq ( .region [
 ⟨(some 55), .fa (.t 1) 9, none⟩,
⟨(some 56), .ld (.t 55) 1 false, none⟩,
⟨(some 57), .lenV (.t 56), none⟩,
⟨(some 58), .bin .gtr (.t 57) (.c (.i .i64 16)), none⟩,
⟨(some 46), .mv (.t 58), none⟩]) ( .cond (.t 46) ( .skip) (
.seq ( .region [
 ⟨(some 59), .fa (.t 1) 10, none⟩,
⟨(some 60), .ld (.t 59) 1 false, none⟩,
⟨(some 61), .lenV (.t 60), none⟩,
⟨(some 62), .bin .gtr (.t 61) (.c (.i .i64 1)), none⟩,
⟨(some 46), .mv (.t 62), none⟩]) ( .cond (.t 46) ( .skip) (
.seq ( .region [
 ⟨(some 63), .fa (.t 1) 11, none⟩,
⟨(some 64), .ld (.t 63) 1 false, none⟩,
⟨(some 65), .lenV (.t 64), none⟩,
⟨(some 66), .bin .gtr (.t 65) (.c (.i .i64 16)), none⟩,
⟨(some 46), .mv (.t 66), none⟩]) ( .cond (.t 46) ( .skip) ( .region [
 ⟨(some 67), .fa (.t 1) 12, none⟩,
⟨(some 68), .ld (.t 67) 1 false, none⟩,
⟨(some 69), .lenV (.t 68), none⟩,
⟨(some 70), .bin .gtr (.t 69) (.c (.i .i64 16)), none⟩,
⟨(some 46), .mv (.t 70), none⟩]))))))))))) ( .cond (.t 46) (
.seq ( .region [
 ⟨(some 2), .mv (.c (.i .i64 10)), none⟩]) ( .ret)) ( .skip)))))) (
.seq (
.seq ( .region [
 ⟨(some 71), .fa (.t 1) 7, none⟩,
⟨(some 72), .ld (.t 71) 1 false, none⟩,
⟨(some 73), .callf 170 [(.t 72)], none⟩,
⟨(some 3), .mv (.t 73), none⟩]) (
.seq ( .region [
 ⟨(some 74), .mv (.t 3), none⟩,
⟨(some 75), .bin .neq (.t 74) (.c (.i .i64 0)), none⟩]) ( .cond (.t 75) (
.seq ( .region [
 ⟨(some 76), .mv (.t 3), none⟩,
⟨(some 2), .mv (.t 76), none⟩]) ( .ret)) ( .skip)))) (
.seq (
.seq ( .region [
 ⟨(some 77), .fa (.t 1) 8, none⟩,
⟨(some 78), .ld (.t 77) 1 false, none⟩,
⟨(some 79), .callf 171 [(.t 78)], none⟩,
⟨(some 4), .mv (.t 79), none⟩]) (
.seq ( .region [
 ⟨(some 80), .mv (.t 4), none⟩,
⟨(some 81), .bin .neq (.t 80) (.c (.i .i64 0)), none⟩]) ( .cond (.t 81) (
.seq ( .region [
 ⟨(some 82), .mv (.t 4), none⟩,
⟨(some 2), .mv (.t 82), none⟩]) ( .ret)) ( .skip)))) (
.seq (
.seq ( .region [
 ⟨(some 83), .fa (.t 1) 9, none⟩,
⟨(some 84), .ld (.t 83) 1 false, none⟩,
⟨(some 85), .lenV (.t 84), none⟩,
⟨(some 86), .mv (.c (.i .i64 0)), none⟩]) ( .block 1 ( .loop (
.seq ( .region [
 ⟨(some 87), .bin .lss (.t 86) (.t 85), none⟩]) (
.seq ( .cond (.t 87) ( .skip) ( .exit 1)) (
.seq ( .block 2 (
.seq ( .region [
 ⟨(some 88), .ia (.t 84) (.t 86) 5, none⟩,
⟨(some 89), .ld (.t 88) 5 true, none⟩,
⟨(some 6), .alloc [(.i .i64 0), (.i .i64 0), (.i .i64 0), (.s []), .nilsl] false, none⟩,
⟨none, .st (.t 6) (.t 89) 5, none⟩]) (
.seq (
.seq ( .region [
 ⟨(some 90), .fa (.t 6) 0, none⟩,
⟨(some 91), .ld (.t 90) 1 false, none⟩,
⟨(some 92), .callf 172 [(.t 91)], none⟩,
⟨(some 93), .un .not (.t 92), none⟩]) ( .cond (.t 93) (
.seq ( .region [
 ⟨(some 2), .mv (.c (.i .i64 1)), none⟩]) ( .ret)) ( .skip))) (
.seq ( .region [
 ⟨(some 94), .fa (.t 6) 1, none⟩,
⟨(some 95), .ld (.t 94) 4 true, none⟩,
⟨(some 96), .callf 55 [(.t 95)], none⟩,
⟨(some 7), .mv (.t 96), none⟩]) (
.seq ( .region [
 ⟨(some 97), .mv (.t 7), none⟩,
⟨(some 98), .bin .neq (.t 97) (.c (.i .i64 0)), none⟩]) ( .cond (.t 98) (
.seq ( .region [
 ⟨(some 99), .mv (.t 7), none⟩,
⟨(some 2), .mv (.t 99), none⟩]) ( .ret)) ( .skip))))))) ( .region [
 ⟨(some 100), .bin .add (.t 86) (.c (.i .i64 1)), none⟩,
⟨(some 86), .mv (.t 100), none⟩]))))))) (
.seq (
.seq ( .region [
 ⟨(some 101), .fa (.t 1) 10, none⟩,
⟨(some 102), .ld (.t 101) 1 false, none⟩,
⟨(some 103), .lenV (.t 102), none⟩,
⟨(some 104), .mv (.c (.i .i64 0)), none⟩]) ( .block 3 ( .loop (
.seq ( .region [
 ⟨(some 105), .bin .lss (.t 104) (.t 103), none⟩]) (
.seq ( .cond (.t 105) ( .skip) ( .exit 3)) (
.seq ( .block 4 (
.seq ( .region [
 ⟨(some 106), .ia (.t 102) (.t 104) 4, none⟩,
⟨(some 107), .ld (.t 106) 4 true, none⟩,
⟨(some 9), .alloc [(.i .i64 0), (.i .i64 0), (.s []), .nilsl] false, none⟩,
⟨none, .st (.t 9) (.t 107) 4, none⟩]) (
.seq ( .region [
 ⟨(some 108), .ld (.t 9) 4 true, none⟩,
⟨(some 109), .callf 55 [(.t 108)], none⟩,
⟨(some 10), .mv (.t 109), none⟩]) (
.seq ( .region [
 ⟨(some 110), .mv (.t 10), none⟩,
⟨(some 111), .bin .neq (.t 110) (.c (.i .i64 0)), none⟩]) ( .cond (.t 111) (
.seq ( .region [
 ⟨(some 112), .mv (.t 10), none⟩,
⟨(some 2), .mv (.t 112), none⟩]) ( .ret)) ( .skip)))))) ( .region [
 ⟨(some 113), .bin .add (.t 104) (.c (.i .i64 1)), none⟩,
⟨(some 104), .mv (.t 113), none⟩]))))))) (
.seq ( .region [
 ⟨(some 114), .ld (.t 1) 14 true, none⟩,
⟨(some 115), .callf 173 [(.t 114)], none⟩,
⟨(some 2), .mv (.t 115), none⟩]) ( .ret))))))), [.tmp 2], false⟩
theorem k113 : CodeOk Tryz.prog 113 c113 := codeOk (hs := []) Tryz.func113 (by kernel_rfl)
def c62 : AFunc := ⟨115,
.seq ( .region [
 ⟨(some 1), .box (.t 0) false, none⟩,
⟨(some 2), .mv (.c (.i .i64 0)), none⟩]) (
.seq (
.seq ( .region [
 ⟨(some 22), .ld (.t 1) 14 true, none⟩,
⟨(some 23), .callf 113 [(.t 22)], none⟩,
⟨(some 3), .mv (.t 23), none⟩]) (
.seq ( .region [
 ⟨(some 24), .mv (.t 3), none⟩,
⟨(some 25), .bin .neq (.t 24) (.c (.i .i64 0)), none⟩]) ( .cond (.t 25) (
.seq ( .region [
 ⟨(some 26), .mv (.t 3), none⟩,
⟨(some 2), .mv (.t 26), none⟩]) ( .ret)) ( .skip)))) (
.seq ( .region [
 ⟨(some 27), .fa (.t 1) 7, none⟩,
⟨(some 28), .ld (.t 27) 1 false, none⟩,
⟨(some 29), .callf 96 [(.t 28)], none⟩,
⟨(some 4), .mv (.t 29), none⟩]) (
.seq (
.seq ( .region [
 ⟨(some 30), .fa (.t 1) 7, none⟩,
⟨(some 31), .ld (.t 30) 1 false, none⟩,
⟨(some 32), .lenV (.t 31), none⟩,
⟨(some 33), .mv (.c (.i .i64 0)), none⟩]) ( .block 0 ( .loop (
.seq ( .region [
 ⟨(some 34), .bin .lss (.t 33) (.t 32), none⟩]) (
.seq ( .cond (.t 34) ( .skip) ( .exit 0)) (
.seq ( .block 1 (
.seq ( .region [
 ⟨(some 35), .mv (.t 33), none⟩,
⟨(some 36), .ia (.t 31) (.t 33) 5, none⟩,
⟨(some 37), .ld (.t 36) 5 true, none⟩,
⟨(some 6), .alloc [(.s []), (.i .i64 0), (.i .i64 0), (.s []), .nilsl] false, none⟩,
⟨(some 5), .mv (.t 35), none⟩,
⟨none, .st (.t 6) (.t 37) 5, none⟩]) (
.seq (
.seq ( .region [
 ⟨(some 7), .mv (.c (.i .i64 1)), none⟩]) ( .block 2 ( .loop (
.seq (
.seq ( .region [
 ⟨(some 38), .mv (.t 7), none⟩,
⟨(some 39), .bin .leq (.t 38) (.c (.i .i64 3)), none⟩]) ( .cond (.t 39) ( .skip) ( .exit 2))) (
.seq ( .block 3 (
.seq ( .region [
 ⟨(some 43), .mv (.t 7), none⟩,
⟨(some 44), .fa (.t 6) 0, none⟩,
⟨(some 45), .ld (.t 44) 1 false, none⟩,
⟨(some 46), .callf 89 [(.t 43), (.t 45)], none⟩,
⟨(some 42), .mv (.t 46), none⟩,
⟨(some 47), .ext (.t 42) 0, none⟩,
⟨(some 48), .ext (.t 42) 1, none⟩,
⟨(some 8), .mv (.t 47), none⟩,
⟨(some 9), .mv (.t 48), none⟩]) (
.seq ( .region [
 ⟨(some 49), .mv (.t 9), none⟩,
⟨(some 50), .bin .eql (.t 49) (.c (.i .i64 0)), none⟩]) ( .cond (.t 50) (
.seq ( .region [
 ⟨(some 2), .mv (.c (.i .i64 7)), none⟩]) ( .ret)) ( .skip))))) ( .region [
 ⟨(some 40), .mv (.t 7), none⟩,
⟨(some 41), .bin .add (.t 40) (.c (.i .i64 1)), none⟩,
⟨(some 7), .mv (.t 41), none⟩])))))) (
.seq ( .region [
 ⟨(some 52), .mv (.t 4), none⟩,
⟨(some 53), .mv (.t 5), none⟩,
⟨(some 54), .callf 114 [(.t 52), (.t 53)], none⟩,
⟨(some 51), .mv (.t 54), none⟩,
⟨(some 55), .ext (.t 51) 0, none⟩,
⟨(some 56), .ext (.t 51) 1, none⟩,
⟨(some 10), .mv (.t 55), none⟩,
⟨(some 11), .mv (.t 56), none⟩]) (
.seq ( .region [
 ⟨(some 57), .mv (.t 11), none⟩,
⟨(some 58), .bin .neq (.t 57) (.c (.i .i64 0)), none⟩]) ( .cond (.t 58) (
.seq ( .region [
 ⟨(some 59), .mv (.t 11), none⟩,
⟨(some 2), .mv (.t 59), none⟩]) ( .ret)) ( .skip))))))) ( .region [
 ⟨(some 60), .bin .add (.t 33) (.c (.i .i64 1)), none⟩,
⟨(some 33), .mv (.t 60), none⟩]))))))) (
.seq ( .region [
 ⟨(some 61), .fa (.t 1) 7, none⟩,
⟨(some 62), .ld (.t 61) 1 false, none⟩,
⟨(some 63), .lenV (.t 62), none⟩,
⟨(some 12), .mv (.t 63), none⟩]) (
.seq (
.seq ( .region [
 ⟨(some 64), .fa (.t 1) 8, none⟩,
⟨(some 65), .ld (.t 64) 1 false, none⟩,
⟨(some 66), .lenV (.t 65), none⟩,
⟨(some 67), .mv (.c (.i .i64 0)), none⟩]) ( .block 4 ( .loop (
.seq ( .region [
 ⟨(some 68), .bin .lss (.t 67) (.t 66), none⟩]) (
.seq ( .cond (.t 68) ( .skip) ( .exit 4)) (
.seq ( .block 5 (
.seq ( .region [
 ⟨(some 69), .ia (.t 65) (.t 67) 6, none⟩,
⟨(some 70), .ld (.t 69) 6 true, none⟩,
⟨(some 14), .alloc [(.i .i64 0), (.s []), (.i .i64 0), (.i .i64 0), (.s []), .nilsl] false, none⟩,
⟨none, .st (.t 14) (.t 70) 6, none⟩]) (
.seq ( .region [
 ⟨(some 71), .mv (.t 4), none⟩,
⟨(some 72), .fa (.t 14) 0, none⟩,
⟨(some 73), .ld (.t 72) 1 false, none⟩,
⟨(some 74), .mv (.t 12), none⟩,
⟨(some 75), .fa (.t 14) 2, none⟩,
⟨(some 76), .ld (.t 75) 4 true, none⟩,
⟨(some 77), .callf 115 [(.t 71), (.t 73), (.t 74), (.t 76), (.c (.i .i64 4))], none⟩,
⟨(some 15), .mv (.t 77), none⟩]) (
.seq ( .region [
 ⟨(some 78), .mv (.t 15), none⟩,
⟨(some 79), .bin .neq (.t 78) (.c (.i .i64 0)), none⟩]) ( .cond (.t 79) (
.seq ( .region [
 ⟨(some 80), .mv (.t 15), none⟩,
⟨(some 2), .mv (.t 80), none⟩]) ( .ret)) ( .skip)))))) ( .region [
 ⟨(some 81), .bin .add (.t 67) (.c (.i .i64 1)), none⟩,
⟨(some 67), .mv (.t 81), none⟩]))))))) (
.seq (
.seq ( .region [
 ⟨(some 82), .fa (.t 1) 9, none⟩,
⟨(some 83), .ld (.t 82) 1 false, none⟩,
⟨(some 84), .lenV (.t 83), none⟩,
⟨(some 85), .mv (.c (.i .i64 0)), none⟩]) ( .block 6 ( .loop (
.seq ( .region [
 ⟨(some 86), .bin .lss (.t 85) (.t 84), none⟩]) (
.seq ( .cond (.t 86) ( .skip) ( .exit 6)) (
.seq ( .block 7 (
.seq ( .region [
 ⟨(some 87), .ia (.t 83) (.t 85) 5, none⟩,
⟨(some 88), .ld (.t 87) 5 true, none⟩,
⟨(some 17), .alloc [(.i .i64 0), (.i .i64 0), (.i .i64 0), (.s []), .nilsl] false, none⟩,
⟨none, .st (.t 17) (.t 88) 5, none⟩]) (
.seq ( .region [
 ⟨(some 89), .mv (.t 4), none⟩,
⟨(some 90), .fa (.t 17) 0, none⟩,
⟨(some 91), .ld (.t 90) 1 false, none⟩,
⟨(some 92), .mv (.t 12), none⟩,
⟨(some 93), .fa (.t 17) 1, none⟩,
⟨(some 94), .ld (.t 93) 4 true, none⟩,
⟨(some 95), .callf 115 [(.t 89), (.t 91), (.t 92), (.t 94), (.c (.i .i64 1))], none⟩,
⟨(some 18), .mv (.t 95), none⟩]) (
.seq ( .region [
 ⟨(some 96), .mv (.t 18), none⟩,
⟨(some 97), .bin .neq (.t 96) (.c (.i .i64 0)), none⟩]) ( .cond (.t 97) (
.seq ( .region [
 ⟨(some 98), .mv (.t 18), none⟩,
⟨(some 2), .mv (.t 98), none⟩]) ( .ret)) ( .skip)))))) ( .region [
 ⟨(some 99), .bin .add (.t 85) (.c (.i .i64 1)), none⟩,
⟨(some 85), .mv (.t 99), none⟩]))))))) (
.seq (
.seq ( .region [
 ⟨(some 100), .fa (.t 1) 10, none⟩,
⟨(some 101), .ld (.t 100) 1 false, none⟩,
⟨(some 102), .lenV (.t 101), none⟩,
⟨(some 103), .mv (.c (.i .i64 0)), none⟩]) ( .block 8 ( .loop (
.seq ( .region [
 ⟨(some 104), .bin .lss (.t 103) (.t 102), none⟩]) (
.seq ( .cond (.t 104) ( .skip) ( .exit 8)) (
.seq ( .block 9 (
.seq ( .region [
 ⟨(some 105), .ia (.t 101) (.t 103) 4, none⟩,
⟨(some 106), .ld (.t 105) 4 true, none⟩,
⟨(some 20), .alloc [(.i .i64 0), (.i .i64 0), (.s []), .nilsl] false, none⟩,
⟨none, .st (.t 20) (.t 106) 4, none⟩]) (
.seq ( .region [
 ⟨(some 107), .mv (.t 4), none⟩,
⟨(some 108), .mv (.t 12), none⟩,
⟨(some 109), .ld (.t 20) 4 true, none⟩,
⟨(some 110), .callf 115 [(.t 107), (.c (.i .i64 1)), (.t 108), (.t 109), (.c (.i .i64 2))], none⟩,
⟨(some 21), .mv (.t 110), none⟩]) (
.seq ( .region [
 ⟨(some 111), .mv (.t 21), none⟩,
⟨(some 112), .bin .neq (.t 111) (.c (.i .i64 0)), none⟩]) ( .cond (.t 112) (
.seq ( .region [
 ⟨(some 113), .mv (.t 21), none⟩,
⟨(some 2), .mv (.t 113), none⟩]) ( .ret)) ( .skip)))))) ( .region [
 ⟨(some 114), .bin .add (.t 103) (.c (.i .i64 1)), none⟩,
⟨(some 103), .mv (.t 114), none⟩]))))))) (
.seq ( .region [
 ⟨(some 2), .mv (.c (.i .i64 0)), none⟩]) ( .ret))))))))), [.tmp 2], false⟩
theorem k62 : CodeOk Tryz.prog 62 c62 := codeOk (hs := []) Tryz.func62 (by kernel_rfl)
def c175 : AFunc := ⟨9,
.seq ( .region [
 ⟨(some 2), .mv (.c (.b false)), none⟩]) (
.seq ( .region [
 ⟨(some 3), .mv (.t 0), none⟩,
⟨(some 4), .bin .geq (.t 3) (.c (.i .i64 (-840))), none⟩,
⟨(some 5), .mv (.t 4), none⟩,
⟨(some 6), .mv (.t 0), (some (5, true))⟩,
⟨(some 7), .bin .leq (.t 6) (.c (.i .i64 840)), (some (5, true))⟩,
⟨(some 8), .pick (.t 5) (.t 7) (.c (.b false)), none⟩,
⟨(some 2), .mv (.t 8), none⟩]) ( .ret)), [.tmp 2], false⟩
theorem k175 : CodeOk Tryz.prog 175 c175 := codeOk (hs := []) Tryz.func175 (by kernel_rfl)
def c174 : AFunc := ⟨44,
.seq ( .region [
 ⟨(some 2), .mv (.c (.b false)), none⟩]) (
.seq (
.seq ( .region [
 ⟨(some 5), .mv (.t 0), none⟩,
⟨(some 6), .lenS (.t 5), none⟩,
⟨(some 7), .bin .lss (.t 6) (.c (.i .i64 1)), none⟩,
⟨(some 8), .mv (.t 7), none⟩,
⟨(some 9), .mv (.t 0), (some (8, false))⟩,
⟨(some 10), .lenS (.t 9), (some (8, false))⟩,
⟨(some 11), .bin .gtr (.t 10) (.c (.i .i64 16)), (some (8, false))⟩,
⟨(some 12), .pick (.t 8) (.c (.b true)) (.t 11), none⟩]) ( .cond (.t 12) (
.seq ( .region [
 ⟨(some 2), .mv (.c (.b false)), none⟩]) ( .ret)) ( .skip))) (
.seq (
.seq ( .region [
 ⟨(some 13), .mv (.t 0), none⟩,
⟨(some 14), .lenS (.t 13), none⟩,
⟨(some 15), .mv (.c (.i .i64 0)), none⟩]) ( .block 0 ( .loop (
.seq ( .region [
 ⟨(some 16), .bin .lss (.t 15) (.t 14), none⟩]) (
.seq ( .cond (.t 16) ( .skip) ( .exit 0)) (
.seq ( .block 1 (
.seq ( .region [
 ⟨(some 17), .mv (.t 15), none⟩,
⟨(some 3), .mv (.t 17), none⟩]) (
.seq ( .region [
 ⟨(some 18), .mv (.t 0), none⟩,
⟨(some 19), .mv (.t 3), none⟩,
⟨(some 20), .ixS (.t 18) (.t 19), none⟩,
⟨(some 4), .mv (.t 20), none⟩]) ( .block 2 (
.seq ( .region [
 ⟨(some 22), .mv (.t 4), none⟩,
⟨(some 23), .bin .geq (.t 22) (.c (.i .u8 97)), none⟩,
⟨(some 24), .mv (.t 23), none⟩,
⟨(some 25), .mv (.t 4), (some (24, true))⟩,
⟨(some 26), .bin .leq (.t 25) (.c (.i .u8 122)), (some (24, true))⟩,
⟨(some 27), .pick (.t 24) (.t 26) (.c (.b false)), none⟩,
⟨(some 21), .mv (.t 27), none⟩]) ( .cond (.t 21) ( .skip) (
.seq ( .region [
 ⟨(some 29), .mv (.t 3), none⟩,
⟨(some 30), .bin .gtr (.t 29) (.c (.i .i64 0)), none⟩,
⟨(some 31), .mv (.t 30), none⟩,
⟨(some 32), .mv (.t 4), (some (31, true))⟩,
⟨(some 33), .bin .geq (.t 32) (.c (.i .u8 48)), (some (31, true))⟩,
⟨(some 34), .mv (.t 33), (some (31, true))⟩,
⟨(some 35), .mv (.t 4), (some (34, true))⟩,
⟨(some 36), .bin .leq (.t 35) (.c (.i .u8 57)), (some (34, true))⟩,
⟨(some 37), .pick (.t 34) (.t 36) (.c (.b false)), (some (31, true))⟩,
⟨(some 38), .mv (.t 37), (some (31, true))⟩,
⟨(some 39), .mv (.t 4), (some (38, false))⟩,
⟨(some 40), .bin .eql (.t 39) (.c (.i .u8 95)), (some (38, false))⟩,
⟨(some 41), .pick (.t 38) (.c (.b true)) (.t 40), (some (31, true))⟩,
⟨(some 42), .pick (.t 31) (.t 41) (.c (.b false)), none⟩,
⟨(some 28), .mv (.t 42), none⟩]) ( .cond (.t 28) ( .skip) (
.seq ( .region [
 ⟨(some 2), .mv (.c (.b false)), none⟩]) ( .ret)))))))))) ( .region [
 ⟨(some 43), .bin .add (.t 15) (.c (.i .i64 1)), none⟩,
⟨(some 15), .mv (.t 43), none⟩]))))))) (
.seq ( .region [
 ⟨(some 2), .mv (.c (.b true)), none⟩]) ( .ret)))), [.tmp 2], false⟩
theorem k174 : CodeOk Tryz.prog 174 c174 := codeOk (hs := []) Tryz.func174 (by kernel_rfl)
def c116 : AFunc := ⟨50,
.seq ( .region [
 ⟨(some 1), .box (.t 0) false, none⟩,
⟨(some 2), .mv (.c (.i .i64 0)), none⟩]) (
.seq (
.seq ( .region [
 ⟨(some 5), .fa (.t 1) 0, none⟩,
⟨(some 6), .ld (.t 5) 1 false, none⟩,
⟨(some 7), .callf 174 [(.t 6)], none⟩,
⟨(some 8), .un .not (.t 7), none⟩]) ( .cond (.t 8) (
.seq ( .region [
 ⟨(some 2), .mv (.c (.i .i64 1)), none⟩]) ( .ret)) ( .skip))) (
.seq (
.seq ( .region [
 ⟨(some 9), .fa (.t 1) 1, none⟩,
⟨(some 10), .ld (.t 9) 1 false, none⟩,
⟨(some 11), .callf 175 [(.t 10)], none⟩,
⟨(some 12), .un .not (.t 11), none⟩]) ( .cond (.t 12) (
.seq ( .region [
 ⟨(some 2), .mv (.c (.i .i64 5)), none⟩]) ( .ret)) ( .skip))) (
.seq (
.seq ( .region [
 ⟨(some 13), .fa (.t 1) 2, none⟩,
⟨(some 14), .ld (.t 13) 1 false, none⟩,
⟨(some 15), .lenV (.t 14), none⟩,
⟨(some 16), .bin .gtr (.t 15) (.c (.i .i64 16)), none⟩]) ( .cond (.t 16) (
.seq ( .region [
 ⟨(some 2), .mv (.c (.i .i64 10)), none⟩]) ( .ret)) ( .skip))) (
.seq (
.seq ( .region [
 ⟨(some 17), .fa (.t 1) 2, none⟩,
⟨(some 18), .ld (.t 17) 1 false, none⟩,
⟨(some 19), .lenV (.t 18), none⟩,
⟨(some 20), .mv (.c (.i .i64 0)), none⟩]) ( .block 0 ( .loop (
.seq ( .region [
 ⟨(some 21), .bin .lss (.t 20) (.t 19), none⟩]) (
.seq ( .cond (.t 21) ( .skip) ( .exit 0)) (
.seq ( .block 1 (
.seq ( .region [
 ⟨(some 22), .mv (.t 20), none⟩,
⟨(some 23), .ia (.t 18) (.t 20) 2, none⟩,
⟨(some 24), .ld (.t 23) 2 true, none⟩,
⟨(some 4), .alloc [(.i .i64 0), (.i .i64 0)] false, none⟩,
⟨(some 3), .mv (.t 22), none⟩,
⟨none, .st (.t 4) (.t 24) 2, none⟩]) (
.seq (
.seq ( .region [
 ⟨(some 25), .fa (.t 4) 0, none⟩,
⟨(some 26), .ld (.t 25) 1 false, none⟩,
⟨(some 27), .callf 176 [(.t 26)], none⟩,
⟨(some 28), .un .not (.t 27), none⟩,
⟨(some 29), .mv (.t 28), none⟩,
⟨(some 30), .fa (.t 4) 1, (some (29, false))⟩,
⟨(some 31), .ld (.t 30) 1 false, (some (29, false))⟩,
⟨(some 32), .callf 175 [(.t 31)], (some (29, false))⟩,
⟨(some 33), .un .not (.t 32), (some (29, false))⟩,
⟨(some 34), .pick (.t 29) (.c (.b true)) (.t 33), none⟩]) ( .cond (.t 34) (
.seq ( .region [
 ⟨(some 2), .mv (.c (.i .i64 5)), none⟩]) ( .ret)) ( .skip))) (
.seq ( .draws [ ([], ⟨(some 35), .mv (.t 3), none⟩), ([], ⟨(some 36), .bin .gtr (.t 35) (.c (.i .i64 0)), none⟩), ([], ⟨(some 37), .mv (.t 36), none⟩), ([], ⟨(some 38), .fa (.t 4) 0, (some (37, true))⟩), ([], ⟨(some 39), .ld (.t 38) 1 false, (some (37, true))⟩), ([], ⟨(some 40), .fa (.t 1) 2, (some (37, true))⟩), ([4], ⟨(some 41), .ld (.t 40) 1 false, (some (37, true))⟩), ([], ⟨(some 42), .mv (.t 3), (some (37, true))⟩), ([], ⟨(some 43), .bin .sub (.t 42) (.c (.i .i64 1)), (some (37, true))⟩), ([], ⟨(some 44), .ia (.t 41) (.t 43) 2, (some (37, true))⟩), ([], ⟨(some 45), .fa (.t 44) 0, (some (37, true))⟩), ([4], ⟨(some 46), .ld (.t 45) 1 false, (some (37, true))⟩), ([], ⟨(some 47), .bin .leq (.t 39) (.t 46), (some (37, true))⟩), ([], ⟨(some 48), .pick (.t 37) (.t 47) (.c (.b false)), none⟩)]) ( .cond (.t 48) (
.seq ( .region [
 ⟨(some 2), .mv (.c (.i .i64 8)), none⟩]) ( .ret)) ( .skip)))))) ( .region [
 ⟨(some 49), .bin .add (.t 20) (.c (.i .i64 1)), none⟩,
⟨(some 20), .mv (.t 49), none⟩]))))))) (
.seq ( .region [
 ⟨(some 2), .mv (.c (.i .i64 0)), none⟩]) ( .ret)))))), [.tmp 2], false⟩
theorem k116 : CodeOk Tryz.prog 116 c116 := codeOk (hs := []) Tryz.func116 (by kernel_rfl)
def c68 : AFunc := ⟨22,
.seq ( .region [
 ⟨(some 3), .box (.t 0) false, none⟩,
⟨(some 4), .box (.t 1) false, none⟩,
⟨(some 6), .mv (.c (.i .i64 0)), none⟩]) (
.seq (
.seq ( .region [
 ⟨(some 9), .ld (.t 3) 3 true, none⟩,
⟨(some 10), .callf 116 [(.t 9)], none⟩,
⟨(some 7), .mv (.t 10), none⟩]) (
.seq ( .region [
 ⟨(some 11), .mv (.t 7), none⟩,
⟨(some 12), .bin .neq (.t 11) (.c (.i .i64 0)), none⟩]) ( .cond (.t 12) (
.seq ( .region [
 ⟨(some 13), .mv (.t 7), none⟩,
⟨(some 6), .mv (.t 13), none⟩]) ( .ret)) ( .skip)))) (
.seq (
.seq ( .region [
 ⟨(some 14), .ld (.t 4) 14 true, none⟩,
⟨(some 15), .callf 62 [(.t 14)], none⟩,
⟨(some 8), .mv (.t 15), none⟩]) (
.seq ( .region [
 ⟨(some 16), .mv (.t 8), none⟩,
⟨(some 17), .bin .neq (.t 16) (.c (.i .i64 0)), none⟩]) ( .cond (.t 17) (
.seq ( .region [
 ⟨(some 18), .mv (.t 8), none⟩,
⟨(some 6), .mv (.t 18), none⟩]) ( .ret)) ( .skip)))) (
.seq ( .region [
 ⟨(some 19), .ld (.t 4) 14 true, none⟩,
⟨(some 20), .mv (.t 2), none⟩,
⟨(some 21), .callf 30 [(.t 19), (.t 20)], none⟩,
⟨(some 6), .mv (.t 21), none⟩]) ( .ret)))), [.tmp 6], false⟩
theorem k68 : CodeOk Tryz.prog 68 c68 := codeOk (hs := []) Tryz.func68 (by kernel_rfl)
def c34 : AFunc := ⟨20,
.seq ( .region [
 ⟨(some 3), .box (.t 0) false, none⟩,
⟨(some 4), .box (.t 1) false, none⟩,
⟨(some 6), .mv (.c .nilsl), none⟩,
⟨(some 7), .mv (.c (.i .i64 0)), none⟩]) (
.seq (
.seq ( .region [
 ⟨(some 9), .ld (.t 3) 3 true, none⟩,
⟨(some 10), .ld (.t 4) 14 true, none⟩,
⟨(some 11), .mv (.t 2), none⟩,
⟨(some 12), .callf 68 [(.t 9), (.t 10), (.t 11)], none⟩,
⟨(some 8), .mv (.t 12), none⟩]) (
.seq ( .region [
 ⟨(some 13), .mv (.t 8), none⟩,
⟨(some 14), .bin .neq (.t 13) (.c (.i .i64 0)), none⟩]) ( .cond (.t 14) (
.seq ( .region [
 ⟨(some 15), .mv (.t 8), none⟩,
⟨(some 6), .mv (.c .nilsl), none⟩,
⟨(some 7), .mv (.t 15), none⟩]) ( .ret)) ( .skip)))) (
.seq ( .region [
 ⟨(some 16), .ld (.t 3) 3 true, none⟩,
⟨(some 17), .ld (.t 4) 14 true, none⟩,
⟨(some 18), .mv (.t 2), none⟩,
⟨(some 19), .callf 69 [(.t 16), (.t 17), (.t 18)], none⟩,
⟨(some 6), .mv (.t 19), none⟩,
⟨(some 7), .mv (.c (.i .i64 0)), none⟩]) ( .ret))), [.tmp 6, .tmp 7], false⟩
theorem k34 : CodeOk Tryz.prog 34 c34 := codeOk (hs := []) Tryz.func34 (by kernel_rfl)
def c32 : AFunc := ⟨50,
.seq ( .region [
 ⟨(some 0), .mv (.c (.b false)), none⟩]) (
.seq ( .region [
 ⟨(some 6), .build [(.s []), (.s []), (.i .i64 0), (.i .i64 0)] [(0, 1, (.c (.s [102, 108, 121, 105, 110, 103]))), (1, 1, (.c (.s [98, 108, 111, 99, 107]))), (2, 1, (.c (.i .i64 1800))), (3, 1, (.c (.i .i64 7)))], none⟩,
⟨(some 7), .bsl [(.s []), (.s []), (.i .i64 0), (.i .i64 0)] 1 [(0, (.t 6))], none⟩,
⟨(some 8), .build [(.i .i64 0), (.i .i64 0), (.i .i64 0), (.i .i64 0), (.i .i64 0), (.i .i64 0), (.i .i64 0), .nilsl, .nilsl, .nilsl, .nilsl, .nilsl, .nilsl, (.i .i64 0)] [(3, 1, (.c (.i .i64 1440))), (4, 1, (.c (.i .i64 2880))), (11, 1, (.t 7))], none⟩,
⟨(some 1), .alloc [(.i .i64 0), (.i .i64 0), (.i .i64 0), (.i .i64 0), (.i .i64 0), (.i .i64 0), (.i .i64 0), .nilsl, .nilsl, .nilsl, .nilsl, .nilsl, .nilsl, (.i .i64 0)] false, none⟩,
⟨none, .st (.t 1) (.t 8) 14, none⟩]) (
.seq ( .region [
 ⟨(some 9), .build [(.s []), (.i .i64 0), .nilsl] [(0, 1, (.c (.s [117, 116, 99])))], none⟩,
⟨(some 2), .alloc [(.s []), (.i .i64 0), .nilsl] false, none⟩,
⟨none, .st (.t 2) (.t 9) 3, none⟩]) (
.seq ( .region [
 ⟨(some 10), .build [(.i .i64 0), (.i .i64 0)] [(0, 1, (.c (.i .i64 14400))), (1, 1, (.c (.i .i64 15400)))], none⟩,
⟨(some 11), .bsl [(.i .i64 0)] 1 [(0, (.c (.i .i64 960)))], none⟩,
⟨(some 12), .build [(.i .i64 0), (.i .i64 0), .nilsl] [(0, 2, (.t 10)), (2, 1, (.t 11))], none⟩,
⟨(some 13), .build [(.i .i64 0), (.i .i64 0)] [(0, 1, (.c (.i .i64 23040))), (1, 1, (.c (.i .i64 24040)))], none⟩,
⟨(some 14), .bsl [(.i .i64 0)] 1 [(0, (.c (.i .i64 960)))], none⟩,
⟨(some 15), .build [(.i .i64 0), (.i .i64 0), .nilsl] [(0, 2, (.t 13)), (2, 1, (.t 14))], none⟩,
⟨(some 16), .bsl [(.i .i64 0), (.i .i64 0), .nilsl] 2 [(0, (.t 12)), (1, (.t 15))], none⟩,
⟨(some 3), .mv (.t 16), none⟩]) (
.seq ( .region [
 ⟨(some 18), .ld (.t 2) 3 true, none⟩,
⟨(some 19), .ld (.t 1) 14 true, none⟩,
⟨(some 20), .mv (.t 3), none⟩,
⟨(some 21), .callf 34 [(.t 18), (.t 19), (.t 20)], none⟩,
⟨(some 17), .mv (.t 21), none⟩,
⟨(some 22), .ext (.t 17) 0, none⟩,
⟨(some 23), .ext (.t 17) 1, none⟩,
⟨(some 4), .mv (.t 22), none⟩,
⟨(some 5), .mv (.t 23), none⟩]) (
.seq ( .region [
 ⟨(some 24), .mv (.t 5), none⟩,
⟨(some 25), .bin .eql (.t 24) (.c (.i .i64 0)), none⟩,
⟨(some 26), .mv (.t 25), none⟩,
⟨(some 27), .mv (.t 4), (some (26, true))⟩,
⟨(some 28), .lenV (.t 27), (some (26, true))⟩,
⟨(some 29), .bin .eql (.t 28) (.c (.i .i64 1)), (some (26, true))⟩,
⟨(some 30), .pick (.t 26) (.t 29) (.c (.b false)), none⟩,
⟨(some 31), .mv (.t 30), none⟩,
⟨(some 32), .mv (.t 4), (some (31, true))⟩,
⟨(some 33), .ia (.t 32) (.c (.i .i64 0)) 3, (some (31, true))⟩,
⟨(some 34), .fa (.t 33) 2, (some (31, true))⟩,
⟨(some 35), .ld (.t 34) 1 false, (some (31, true))⟩,
⟨(some 36), .bin .eql (.t 35) (.c (.i .i64 10)), (some (31, true))⟩,
⟨(some 37), .pick (.t 31) (.t 36) (.c (.b false)), none⟩,
⟨(some 38), .mv (.t 37), none⟩,
⟨(some 39), .mv (.t 4), (some (38, true))⟩,
⟨(some 40), .ia (.t 39) (.c (.i .i64 0)) 3, (some (38, true))⟩,
⟨(some 41), .fa (.t 40) 0, (some (38, true))⟩,
⟨(some 42), .ld (.t 41) 1 false, (some (38, true))⟩,
⟨(some 43), .un .not (.t 42), (some (38, true))⟩,
⟨(some 44), .pick (.t 38) (.t 43) (.c (.b false)), none⟩,
⟨(some 45), .mv (.t 44), none⟩,
⟨(some 46), .build [(.i .i64 0), (.i .i64 0), (.i .i64 0), (.i .i64 0), (.i .i64 0), (.i .i64 0), (.i .i64 0), .nilsl, .nilsl, .nilsl, .nilsl, .nilsl, .nilsl, (.i .i64 0)] [(13, 1, (.c (.i .i64 7)))], (some (45, true))⟩,
⟨(some 47), .callf 39 [(.t 46), (.c (.i .i64 3))], (some (45, true))⟩,
⟨(some 48), .bin .eql (.t 47) (.c (.i .i64 7)), (some (45, true))⟩,
⟨(some 49), .pick (.t 45) (.t 48) (.c (.b false)), none⟩,
⟨(some 0), .mv (.t 49), none⟩]) ( .ret)))))), [.tmp 0], false⟩
theorem k32 : CodeOk Tryz.prog 32 c32 := codeOk (hs := []) Tryz.func32 (by kernel_rfl)
def c39 : AFunc := ⟨9,
.seq ( .region [
 ⟨(some 2), .box (.t 0) false, none⟩,
⟨(some 4), .mv (.c (.i .i64 0)), none⟩]) (
.seq ( .region [
 ⟨(some 5), .mv (.t 1), none⟩,
⟨(some 6), .fa (.t 2) 13, none⟩,
⟨(some 7), .ld (.t 6) 1 false, none⟩,
⟨(some 8), .mm true [(.t 5), (.t 7)], none⟩,
⟨(some 4), .mv (.t 8), none⟩]) ( .ret)), [.tmp 4], false⟩
theorem k39 : CodeOk Tryz.prog 39 c39 := codeOk (hs := []) Tryz.func39 (by kernel_rfl)
end Go.Proofs.YtfenhjpkomldcaaGreat
