/- The codes of functions of the program, as the evaluator reads them; that each is what its compiler makes of the model's function. Conditions: none. -/
import Derived.Test.YtfenhjpkomldcaaGreatEvF
import Derived.Test.YtfenhjpkomldcaaGreatChecked
import Derived.KernelRfl
set_option maxRecDepth 100000
namespace Go.Proofs.YtfenhjpkomldcaaGreat
open Go Go.Ev
def c124_L1 : ACode :=
.seq (
.seq ( .region [
 ⟨(some 22), .mv (.t 8), none⟩,
⟨(some 23), .bin .lss (.t 22) (.c (.i .i64 7)), none⟩]) ( .cond (.t 23) ( .skip) ( .exit 0))) (
.seq ( .block 1 (
.seq ( .draws [ ([], ⟨(some 26), .mv (.t 2), none⟩),
([], ⟨(some 27), .ia (.t 26) (.c (.i .i64 0)) 4, none⟩),
([], ⟨(some 28), .fa (.t 27) 1, none⟩),
([], ⟨(some 29), .ld (.t 28) 1 false, none⟩),
([], ⟨(some 30), .mv (.t 7), none⟩),
([], ⟨(some 31), .mv (.t 8), none⟩),
([], ⟨(some 32), .ia (.t 30) (.t 31) 1, none⟩),
([3], ⟨(some 33), .ld (.t 32) 1 false, none⟩),
([], ⟨(some 34), .bin .eql (.t 29) (.t 33), none⟩)]) ( .cond (.t 34) (
.seq ( .region [
 ⟨(some 35), .mv (.t 0), none⟩,
⟨(some 36), .mv (.t 1), none⟩,
⟨(some 37), .mv (.t 2), none⟩,
⟨(some 38), .mv (.t 8), none⟩,
⟨(some 39), .callf 191 [(.t 35), (.t 36), (.t 37), (.t 38)], none⟩,
⟨(some 6), .mv (.t 39), none⟩]) ( .ret)) ( .skip)))) ( .region [
 ⟨(some 24), .mv (.t 8), none⟩,
⟨(some 25), .bin .add (.t 24) (.c (.i .i64 1)), none⟩,
⟨(some 8), .mv (.t 25), none⟩]))
theorem c124_L1_w : wrM (wrC (.loop c124_L1)) = 1099507433792 := nr rfl
def c124 : AFunc := ⟨335,
.seq ( .region [
 ⟨(some 6), .mv (.c (.i .i64 0)), none⟩]) (
.seq (
.seq ( .region [
 ⟨(some 18), .mv (.t 2), none⟩,
⟨(some 19), .callf 190 [(.t 18), (.c (.i .i64 0)), (.c (.i .i64 1))], none⟩,
⟨(some 20), .un .not (.t 19), none⟩]) ( .cond (.t 20) (
.seq ( .region [
 ⟨(some 6), .mv (.c (.i .i64 1)), none⟩]) ( .ret)) ( .skip))) (
.seq ( .region [
 ⟨(some 21), .bsl [(.s [])] 7 [(0, (.c (.s [114, 101, 112, 111, 114, 116]))), (1, (.c (.s [114, 101, 108, 101, 97, 115, 101]))), (2, (.c (.s [99, 111, 110, 110, 101, 99, 116]))), (3, (.c (.s [115, 105, 116]))), (4, (.c (.s [108, 97, 121, 111, 118, 101, 114]))), (5, (.c (.s [103, 117, 97, 114, 97, 110, 116, 101, 101]))), (6, (.c (.s [110, 105, 103, 104, 116])))], none⟩,
⟨(some 7), .mv (.t 21), none⟩]) (
.seq (
.seq ( .region [
 ⟨(some 8), .mv (.c (.i .i64 0)), none⟩]) ( .block 0 ( .loop c124_L1))) (
.seq ( .block 2 (
.seq ( .region [
 ⟨(some 41), .mv (.t 2), none⟩,
⟨(some 42), .ia (.t 41) (.c (.i .i64 0)) 4, none⟩,
⟨(some 43), .fa (.t 42) 1, none⟩,
⟨(some 44), .ld (.t 43) 1 false, none⟩,
⟨(some 45), .bin .eql (.t 44) (.c (.s [99, 111, 110, 115, 116])), none⟩,
⟨(some 46), .mv (.t 45), none⟩,
⟨(some 47), .mv (.t 2), (some (46, true))⟩,
⟨(some 48), .callf 192 [(.t 47), (.c (.i .i64 1))], (some (46, true))⟩,
⟨(some 49), .pick (.t 46) (.t 48) (.c (.b false)), none⟩,
⟨(some 50), .mv (.t 49), none⟩,
⟨(some 51), .mv (.t 2), (some (50, true))⟩,
⟨(some 52), .callf 193 [(.t 51), (.c (.i .i64 2)), (.c (.s [105, 115]))], (some (50, true))⟩,
⟨(some 53), .pick (.t 50) (.t 52) (.c (.b false)), none⟩,
⟨(some 40), .mv (.t 53), none⟩]) ( .cond (.t 40) (
.seq ( .region [
 ⟨(some 55), .mv (.t 2), none⟩,
⟨(some 56), .slV 4 (.t 55) (some (.c (.i .i64 3))) none none, none⟩,
⟨(some 57), .callf 194 [(.t 56)], none⟩,
⟨(some 54), .mv (.t 57), none⟩,
⟨(some 58), .ext (.t 54) 0, none⟩,
⟨(some 59), .ext (.t 54) 1, none⟩,
⟨(some 9), .alloc [(.i .i64 0), (.i .i64 0), (.s []), .nilsl] false, none⟩,
⟨none, .st (.t 9) (.t 58) 4, none⟩,
⟨(some 10), .mv (.t 59), none⟩]) (
.seq (
.seq ( .region [
 ⟨(some 60), .mv (.t 10), none⟩,
⟨(some 61), .bin .geq (.t 60) (.c (.i .i64 0)), none⟩]) ( .cond (.t 61) (
.seq ( .region [
 ⟨(some 6), .mv (.c (.i .i64 1)), none⟩]) ( .ret)) ( .skip))) ( .draws [ ([], ⟨(some 62), .mv (.t 0), none⟩),
([], ⟨(some 63), .mv (.t 0), none⟩),
([], ⟨(some 64), .nck (.t 63), none⟩),
([], ⟨(some 65), .fa (.t 64) 7, none⟩),
([], ⟨(some 66), .ld (.t 65) 1 false, none⟩),
([], ⟨(some 67), .mv (.t 2), none⟩),
([], ⟨(some 68), .ia (.t 67) (.c (.i .i64 1)) 4, none⟩),
([], ⟨(some 69), .fa (.t 68) 1, none⟩),
([4], ⟨(some 70), .ld (.t 69) 1 false, none⟩),
([4, 8], ⟨(some 71), .ld (.t 9) 4 true, none⟩),
([], ⟨(some 72), .build [(.s []), (.i .i64 0), (.i .i64 0), (.s []), .nilsl] [(0, 1, (.t 70)), (1, 4, (.t 71))], none⟩),
([4], ⟨(some 73), .bsl [(.s []), (.i .i64 0), (.i .i64 0), (.s []), .nilsl] 1 [(0, (.t 72))], none⟩),
([], ⟨(some 74), .app 5 72 (.t 66) (.t 73) false, none⟩),
([], ⟨(some 75), .nck (.t 62), none⟩),
([], ⟨(some 76), .fa (.t 75) 7, none⟩),
([], ⟨none, .st (.t 76) (.t 74) 1, none⟩)]))) (
.seq ( .region [
 ⟨(some 78), .mv (.t 2), none⟩,
⟨(some 79), .ia (.t 78) (.c (.i .i64 0)) 4, none⟩,
⟨(some 80), .fa (.t 79) 1, none⟩,
⟨(some 81), .ld (.t 80) 1 false, none⟩,
⟨(some 82), .callf 195 [(.t 81)], none⟩,
⟨(some 83), .bin .neq (.t 82) (.c (.i .i64 0)), none⟩,
⟨(some 84), .mv (.t 83), none⟩,
⟨(some 85), .mv (.t 2), (some (84, true))⟩,
⟨(some 86), .callf 193 [(.t 85), (.c (.i .i64 1)), (.c (.s [114, 117, 108, 101]))], (some (84, true))⟩,
⟨(some 87), .pick (.t 84) (.t 86) (.c (.b false)), none⟩,
⟨(some 88), .mv (.t 87), none⟩,
⟨(some 89), .mv (.t 2), (some (88, true))⟩,
⟨(some 90), .callf 192 [(.t 89), (.c (.i .i64 2))], (some (88, true))⟩,
⟨(some 91), .pick (.t 88) (.t 90) (.c (.b false)), none⟩,
⟨(some 92), .mv (.t 91), none⟩,
⟨(some 93), .mv (.t 2), (some (92, true))⟩,
⟨(some 94), .callf 193 [(.t 93), (.c (.i .i64 3)), (.c (.s [105, 115]))], (some (92, true))⟩,
⟨(some 95), .pick (.t 92) (.t 94) (.c (.b false)), none⟩,
⟨(some 77), .mv (.t 95), none⟩]) ( .cond (.t 77) (
.seq ( .region [
 ⟨(some 97), .mv (.t 2), none⟩,
⟨(some 98), .slV 4 (.t 97) (some (.c (.i .i64 4))) none none, none⟩,
⟨(some 99), .callf 194 [(.t 98)], none⟩,
⟨(some 96), .mv (.t 99), none⟩,
⟨(some 100), .ext (.t 96) 0, none⟩,
⟨(some 101), .ext (.t 96) 1, none⟩,
⟨(some 11), .alloc [(.i .i64 0), (.i .i64 0), (.s []), .nilsl] false, none⟩,
⟨none, .st (.t 11) (.t 100) 4, none⟩,
⟨(some 12), .mv (.t 101), none⟩]) (
.seq (
.seq ( .region [
 ⟨(some 102), .mv (.t 12), none⟩,
⟨(some 103), .bin .geq (.t 102) (.c (.i .i64 0)), none⟩]) ( .cond (.t 103) (
.seq ( .region [
 ⟨(some 6), .mv (.c (.i .i64 1)), none⟩]) ( .ret)) ( .skip))) ( .draws [ ([], ⟨(some 104), .mv (.t 0), none⟩),
([], ⟨(some 105), .mv (.t 0), none⟩),
([], ⟨(some 106), .nck (.t 105), none⟩),
([], ⟨(some 107), .fa (.t 106) 8, none⟩),
([], ⟨(some 108), .ld (.t 107) 1 false, none⟩),
([], ⟨(some 109), .mv (.t 2), none⟩),
([], ⟨(some 110), .ia (.t 109) (.c (.i .i64 0)) 4, none⟩),
([], ⟨(some 111), .fa (.t 110) 1, none⟩),
([4], ⟨(some 112), .ld (.t 111) 1 false, none⟩),
([4], ⟨(some 113), .callf 195 [(.t 112)], none⟩),
([], ⟨(some 114), .mv (.t 2), none⟩),
([], ⟨(some 115), .ia (.t 114) (.c (.i .i64 2)) 4, none⟩),
([], ⟨(some 116), .fa (.t 115) 1, none⟩),
([4, 8, 9], ⟨(some 117), .ld (.t 116) 1 false, none⟩),
([4, 8, 9, 13], ⟨(some 118), .ld (.t 11) 4 true, none⟩),
([], ⟨(some 119), .build [(.i .i64 0), (.s []), (.i .i64 0), (.i .i64 0), (.s []), .nilsl] [(0, 1, (.t 113)), (1, 1, (.t 117)), (2, 4, (.t 118))], none⟩),
([4], ⟨(some 120), .bsl [(.i .i64 0), (.s []), (.i .i64 0), (.i .i64 0), (.s []), .nilsl] 1 [(0, (.t 119))], none⟩),
([], ⟨(some 121), .app 6 80 (.t 108) (.t 120) false, none⟩),
([], ⟨(some 122), .nck (.t 104), none⟩),
([], ⟨(some 123), .fa (.t 122) 8, none⟩),
([], ⟨none, .st (.t 123) (.t 121) 1, none⟩)]))) (
.seq ( .region [
 ⟨(some 125), .mv (.t 2), none⟩,
⟨(some 126), .ia (.t 125) (.c (.i .i64 0)) 4, none⟩,
⟨(some 127), .fa (.t 126) 1, none⟩,
⟨(some 128), .ld (.t 127) 1 false, none⟩,
⟨(some 129), .callf 195 [(.t 128)], none⟩,
⟨(some 130), .bin .neq (.t 129) (.c (.i .i64 0)), none⟩,
⟨(some 131), .mv (.t 130), none⟩,
⟨(some 132), .mv (.t 2), (some (131, true))⟩,
⟨(some 133), .callf 193 [(.t 132), (.c (.i .i64 1)), (.c (.s [99, 111, 115, 116]))], (some (131, true))⟩,
⟨(some 134), .pick (.t 131) (.t 133) (.c (.b false)), none⟩,
⟨(some 135), .mv (.t 134), none⟩,
⟨(some 136), .mv (.t 2), (some (135, true))⟩,
⟨(some 137), .callf 193 [(.t 136), (.c (.i .i64 2)), (.c (.s [105, 115]))], (some (135, true))⟩,
⟨(some 138), .pick (.t 135) (.t 137) (.c (.b false)), none⟩,
⟨(some 124), .mv (.t 138), none⟩]) ( .cond (.t 124) (
.seq ( .region [
 ⟨(some 140), .mv (.t 2), none⟩,
⟨(some 141), .slV 4 (.t 140) (some (.c (.i .i64 3))) none none, none⟩,
⟨(some 142), .callf 194 [(.t 141)], none⟩,
⟨(some 139), .mv (.t 142), none⟩,
⟨(some 143), .ext (.t 139) 0, none⟩,
⟨(some 144), .ext (.t 139) 1, none⟩,
⟨(some 13), .alloc [(.i .i64 0), (.i .i64 0), (.s []), .nilsl] false, none⟩,
⟨none, .st (.t 13) (.t 143) 4, none⟩,
⟨(some 14), .mv (.t 144), none⟩]) (
.seq (
.seq ( .region [
 ⟨(some 145), .mv (.t 14), none⟩,
⟨(some 146), .bin .geq (.t 145) (.c (.i .i64 0)), none⟩]) ( .cond (.t 146) (
.seq ( .region [
 ⟨(some 6), .mv (.c (.i .i64 1)), none⟩]) ( .ret)) ( .skip))) ( .draws [ ([], ⟨(some 147), .mv (.t 0), none⟩),
([], ⟨(some 148), .mv (.t 0), none⟩),
([], ⟨(some 149), .nck (.t 148), none⟩),
([], ⟨(some 150), .fa (.t 149) 9, none⟩),
([], ⟨(some 151), .ld (.t 150) 1 false, none⟩),
([], ⟨(some 152), .mv (.t 2), none⟩),
([], ⟨(some 153), .ia (.t 152) (.c (.i .i64 0)) 4, none⟩),
([], ⟨(some 154), .fa (.t 153) 1, none⟩),
([4], ⟨(some 155), .ld (.t 154) 1 false, none⟩),
([4], ⟨(some 156), .callf 195 [(.t 155)], none⟩),
([4, 8, 9], ⟨(some 157), .ld (.t 13) 4 true, none⟩),
([], ⟨(some 158), .build [(.i .i64 0), (.i .i64 0), (.i .i64 0), (.s []), .nilsl] [(0, 1, (.t 156)), (1, 4, (.t 157))], none⟩),
([4], ⟨(some 159), .bsl [(.i .i64 0), (.i .i64 0), (.i .i64 0), (.s []), .nilsl] 1 [(0, (.t 158))], none⟩),
([], ⟨(some 160), .app 5 64 (.t 151) (.t 159) true, none⟩),
([], ⟨(some 161), .nck (.t 147), none⟩),
([], ⟨(some 162), .fa (.t 161) 9, none⟩),
([], ⟨none, .st (.t 162) (.t 160) 1, none⟩)]))) (
.seq ( .region [
 ⟨(some 164), .mv (.t 2), none⟩,
⟨(some 165), .ia (.t 164) (.c (.i .i64 0)) 4, none⟩,
⟨(some 166), .fa (.t 165) 1, none⟩,
⟨(some 167), .ld (.t 166) 1 false, none⟩,
⟨(some 168), .bin .eql (.t 167) (.c (.s [100, 117, 116, 121])), none⟩,
⟨(some 169), .mv (.t 168), none⟩,
⟨(some 170), .mv (.t 2), (some (169, true))⟩,
⟨(some 171), .callf 193 [(.t 170), (.c (.i .i64 1)), (.c (.s [99, 114, 101, 100, 105, 116]))], (some (169, true))⟩,
⟨(some 172), .pick (.t 169) (.t 171) (.c (.b false)), none⟩,
⟨(some 173), .mv (.t 172), none⟩,
⟨(some 174), .mv (.t 2), (some (173, true))⟩,
⟨(some 175), .callf 193 [(.t 174), (.c (.i .i64 2)), (.c (.s [105, 115]))], (some (173, true))⟩,
⟨(some 176), .pick (.t 173) (.t 175) (.c (.b false)), none⟩,
⟨(some 163), .mv (.t 176), none⟩]) ( .cond (.t 163) (
.seq ( .region [
 ⟨(some 178), .mv (.t 2), none⟩,
⟨(some 179), .slV 4 (.t 178) (some (.c (.i .i64 3))) none none, none⟩,
⟨(some 180), .callf 194 [(.t 179)], none⟩,
⟨(some 177), .mv (.t 180), none⟩,
⟨(some 181), .ext (.t 177) 0, none⟩,
⟨(some 182), .ext (.t 177) 1, none⟩,
⟨(some 15), .alloc [(.i .i64 0), (.i .i64 0), (.s []), .nilsl] false, none⟩,
⟨none, .st (.t 15) (.t 181) 4, none⟩,
⟨(some 16), .mv (.t 182), none⟩]) (
.seq (
.seq ( .region [
 ⟨(some 183), .mv (.t 16), none⟩,
⟨(some 184), .bin .geq (.t 183) (.c (.i .i64 0)), none⟩]) ( .cond (.t 184) (
.seq ( .region [
 ⟨(some 6), .mv (.c (.i .i64 1)), none⟩]) ( .ret)) ( .skip))) ( .draws [ ([], ⟨(some 185), .mv (.t 0), none⟩),
([], ⟨(some 186), .nck (.t 185), none⟩),
([], ⟨(some 187), .fa (.t 186) 10, none⟩),
([], ⟨(some 188), .ld (.t 187) 1 false, none⟩),
([3], ⟨(some 189), .ld (.t 15) 4 true, none⟩),
([], ⟨(some 190), .lenV (.t 188), none⟩),
([3, 4], ⟨(some 191), .bsl [(.i .i64 0), (.i .i64 0), (.s []), .nilsl] 1 [(0, (.c (.agg [(.i .i64 0), (.i .i64 0), (.s []), .nilsl])))], none⟩),
([], ⟨(some 192), .app 4 56 (.t 188) (.t 191) true, none⟩),
([], ⟨(some 193), .ia (.t 192) (.t 190) 4, none⟩),
([], ⟨none, .st (.t 193) (.t 189) 4, none⟩),
([], ⟨(some 194), .nck (.t 185), none⟩),
([], ⟨(some 195), .fa (.t 194) 10, none⟩),
([9], ⟨none, .st (.t 195) (.t 192) 1, none⟩)]))) (
.seq ( .region [
 ⟨(some 197), .mv (.t 2), none⟩,
⟨(some 198), .ia (.t 197) (.c (.i .i64 0)) 4, none⟩,
⟨(some 199), .fa (.t 198) 1, none⟩,
⟨(some 200), .ld (.t 199) 1 false, none⟩,
⟨(some 201), .bin .eql (.t 200) (.c (.s [108, 105, 109, 105, 116])), none⟩,
⟨(some 202), .mv (.t 201), none⟩,
⟨(some 203), .mv (.t 2), (some (202, true))⟩,
⟨(some 204), .lenV (.t 203), (some (202, true))⟩,
⟨(some 205), .bin .eql (.t 204) (.c (.i .i64 8)), (some (202, true))⟩,
⟨(some 206), .pick (.t 202) (.t 205) (.c (.b false)), none⟩,
⟨(some 207), .mv (.t 206), none⟩,
⟨(some 208), .mv (.t 2), (some (207, true))⟩,
⟨(some 209), .callf 192 [(.t 208), (.c (.i .i64 1))], (some (207, true))⟩,
⟨(some 210), .pick (.t 207) (.t 209) (.c (.b false)), none⟩,
⟨(some 211), .mv (.t 210), none⟩,
⟨(some 212), .mv (.t 2), (some (211, true))⟩,
⟨(some 213), .callf 193 [(.t 212), (.c (.i .i64 2)), (.c (.s [105, 115]))], (some (211, true))⟩,
⟨(some 214), .pick (.t 211) (.t 213) (.c (.b false)), none⟩,
⟨(some 215), .mv (.t 214), none⟩,
⟨(some 216), .mv (.t 2), (some (215, true))⟩,
⟨(some 217), .callf 190 [(.t 216), (.c (.i .i64 3)), (.c (.i .i64 1))], (some (215, true))⟩,
⟨(some 218), .pick (.t 215) (.t 217) (.c (.b false)), none⟩,
⟨(some 219), .mv (.t 218), none⟩,
⟨(some 220), .mv (.t 2), (some (219, true))⟩,
⟨(some 221), .callf 193 [(.t 220), (.c (.i .i64 5)), (.c (.s [105, 110]))], (some (219, true))⟩,
⟨(some 222), .pick (.t 219) (.t 221) (.c (.b false)), none⟩,
⟨(some 223), .mv (.t 222), none⟩,
⟨(some 224), .mv (.t 2), (some (223, true))⟩,
⟨(some 225), .callf 190 [(.t 224), (.c (.i .i64 6)), (.c (.i .i64 2))], (some (223, true))⟩,
⟨(some 226), .pick (.t 223) (.t 225) (.c (.b false)), none⟩,
⟨(some 227), .mv (.t 226), none⟩,
⟨(some 228), .mv (.t 2), (some (227, true))⟩,
⟨(some 229), .callf 193 [(.t 228), (.c (.i .i64 7)), (.c (.s [100, 97, 121, 115]))], (some (227, true))⟩,
⟨(some 230), .pick (.t 227) (.t 229) (.c (.b false)), none⟩,
⟨(some 196), .mv (.t 230), none⟩]) ( .cond (.t 196) (
.seq ( .region [
 ⟨(some 231), .mv (.t 2), none⟩,
⟨(some 232), .ia (.t 231) (.c (.i .i64 3)) 4, none⟩,
⟨(some 233), .fa (.t 232) 1, none⟩,
⟨(some 234), .ld (.t 233) 1 false, none⟩,
⟨(some 235), .callf 196 [(.t 234)], none⟩,
⟨(some 17), .mv (.t 235), none⟩]) (
.seq (
.seq ( .region [
 ⟨(some 236), .mv (.t 17), none⟩,
⟨(some 237), .bin .eql (.t 236) (.c (.i .i64 2)), none⟩,
⟨(some 238), .mv (.t 237), none⟩,
⟨(some 239), .mv (.t 2), (some (238, true))⟩,
⟨(some 240), .callf 190 [(.t 239), (.c (.i .i64 4)), (.c (.i .i64 3))], (some (238, true))⟩,
⟨(some 241), .pick (.t 238) (.t 240) (.c (.b false)), none⟩,
⟨(some 242), .un .not (.t 241), none⟩,
⟨(some 243), .mv (.t 242), none⟩,
⟨(some 244), .mv (.t 17), (some (243, true))⟩,
⟨(some 245), .bin .eql (.t 244) (.c (.i .i64 1)), (some (243, true))⟩,
⟨(some 246), .mv (.t 245), (some (243, true))⟩,
⟨(some 247), .mv (.t 2), (some (246, true))⟩,
⟨(some 248), .callf 190 [(.t 247), (.c (.i .i64 4)), (.c (.i .i64 2))], (some (246, true))⟩,
⟨(some 249), .pick (.t 246) (.t 248) (.c (.b false)), (some (243, true))⟩,
⟨(some 250), .un .not (.t 249), (some (243, true))⟩,
⟨(some 251), .pick (.t 243) (.t 250) (.c (.b false)), none⟩]) ( .cond (.t 251) (
.seq ( .region [
 ⟨(some 6), .mv (.c (.i .i64 1)), none⟩]) ( .ret)) ( .skip))) ( .draws [ ([], ⟨(some 252), .mv (.t 0), none⟩),
([], ⟨(some 253), .mv (.t 0), none⟩),
([], ⟨(some 254), .nck (.t 253), none⟩),
([], ⟨(some 255), .fa (.t 254) 11, none⟩),
([], ⟨(some 256), .ld (.t 255) 1 false, none⟩),
([], ⟨(some 257), .mv (.t 2), none⟩),
([], ⟨(some 258), .ia (.t 257) (.c (.i .i64 1)) 4, none⟩),
([], ⟨(some 259), .fa (.t 258) 1, none⟩),
([4], ⟨(some 260), .ld (.t 259) 1 false, none⟩),
([], ⟨(some 261), .mv (.t 2), none⟩),
([], ⟨(some 262), .ia (.t 261) (.c (.i .i64 3)) 4, none⟩),
([], ⟨(some 263), .fa (.t 262) 1, none⟩),
([4, 8], ⟨(some 264), .ld (.t 263) 1 false, none⟩),
([], ⟨(some 265), .mv (.t 2), none⟩),
([], ⟨(some 266), .ia (.t 265) (.c (.i .i64 4)) 4, none⟩),
([], ⟨(some 267), .fa (.t 266) 2, none⟩),
([4, 8, 12], ⟨(some 268), .ld (.t 267) 1 false, none⟩),
([], ⟨(some 269), .mv (.t 2), none⟩),
([], ⟨(some 270), .ia (.t 269) (.c (.i .i64 6)) 4, none⟩),
([], ⟨(some 271), .fa (.t 270) 2, none⟩),
([4, 8, 12, 16], ⟨(some 272), .ld (.t 271) 1 false, none⟩),
([], ⟨(some 273), .build [(.s []), (.s []), (.i .i64 0), (.i .i64 0)] [(0, 1, (.t 260)), (1, 1, (.t 264)), (2, 1, (.t 268)), (3, 1, (.t 272))], none⟩),
([4], ⟨(some 274), .bsl [(.s []), (.s []), (.i .i64 0), (.i .i64 0)] 1 [(0, (.t 273))], none⟩),
([], ⟨(some 275), .app 4 48 (.t 256) (.t 274) true, none⟩),
([], ⟨(some 276), .nck (.t 252), none⟩),
([], ⟨(some 277), .fa (.t 276) 11, none⟩),
([], ⟨none, .st (.t 277) (.t 275) 1, none⟩)]))) (
.seq ( .region [
 ⟨(some 279), .mv (.t 2), none⟩,
⟨(some 280), .ia (.t 279) (.c (.i .i64 0)) 4, none⟩,
⟨(some 281), .fa (.t 280) 1, none⟩,
⟨(some 282), .ld (.t 281) 1 false, none⟩,
⟨(some 283), .bin .eql (.t 282) (.c (.s [111, 102, 102])), none⟩,
⟨(some 284), .mv (.t 283), none⟩,
⟨(some 285), .mv (.t 2), (some (284, true))⟩,
⟨(some 286), .lenV (.t 285), (some (284, true))⟩,
⟨(some 287), .bin .eql (.t 286) (.c (.i .i64 7)), (some (284, true))⟩,
⟨(some 288), .pick (.t 284) (.t 287) (.c (.b false)), none⟩,
⟨(some 289), .mv (.t 288), none⟩,
⟨(some 290), .mv (.t 2), (some (289, true))⟩,
⟨(some 291), .callf 192 [(.t 290), (.c (.i .i64 1))], (some (289, true))⟩,
⟨(some 292), .pick (.t 289) (.t 291) (.c (.b false)), none⟩,
⟨(some 293), .mv (.t 292), none⟩,
⟨(some 294), .mv (.t 2), (some (293, true))⟩,
⟨(some 295), .callf 193 [(.t 294), (.c (.i .i64 2)), (.c (.s [105, 115]))], (some (293, true))⟩,
⟨(some 296), .pick (.t 293) (.t 295) (.c (.b false)), none⟩,
⟨(some 297), .mv (.t 296), none⟩,
⟨(some 298), .mv (.t 2), (some (297, true))⟩,
⟨(some 299), .callf 190 [(.t 298), (.c (.i .i64 3)), (.c (.i .i64 2))], (some (297, true))⟩,
⟨(some 300), .pick (.t 297) (.t 299) (.c (.b false)), none⟩,
⟨(some 301), .mv (.t 300), none⟩,
⟨(some 302), .mv (.t 2), (some (301, true))⟩,
⟨(some 303), .callf 193 [(.t 302), (.c (.i .i64 4)), (.c (.s [105, 110]))], (some (301, true))⟩,
⟨(some 304), .pick (.t 301) (.t 303) (.c (.b false)), none⟩,
⟨(some 305), .mv (.t 304), none⟩,
⟨(some 306), .mv (.t 2), (some (305, true))⟩,
⟨(some 307), .callf 190 [(.t 306), (.c (.i .i64 5)), (.c (.i .i64 2))], (some (305, true))⟩,
⟨(some 308), .pick (.t 305) (.t 307) (.c (.b false)), none⟩,
⟨(some 309), .mv (.t 308), none⟩,
⟨(some 310), .mv (.t 2), (some (309, true))⟩,
⟨(some 311), .callf 193 [(.t 310), (.c (.i .i64 6)), (.c (.s [100, 97, 121, 115]))], (some (309, true))⟩,
⟨(some 312), .pick (.t 309) (.t 311) (.c (.b false)), none⟩,
⟨(some 278), .mv (.t 312), none⟩]) ( .cond (.t 278) ( .draws [ ([], ⟨(some 313), .mv (.t 0), none⟩),
([], ⟨(some 314), .mv (.t 0), none⟩),
([], ⟨(some 315), .nck (.t 314), none⟩),
([], ⟨(some 316), .fa (.t 315) 12, none⟩),
([], ⟨(some 317), .ld (.t 316) 1 false, none⟩),
([], ⟨(some 318), .mv (.t 2), none⟩),
([], ⟨(some 319), .ia (.t 318) (.c (.i .i64 1)) 4, none⟩),
([], ⟨(some 320), .fa (.t 319) 1, none⟩),
([4], ⟨(some 321), .ld (.t 320) 1 false, none⟩),
([], ⟨(some 322), .mv (.t 2), none⟩),
([], ⟨(some 323), .ia (.t 322) (.c (.i .i64 3)) 4, none⟩),
([], ⟨(some 324), .fa (.t 323) 2, none⟩),
([4, 8], ⟨(some 325), .ld (.t 324) 1 false, none⟩),
([], ⟨(some 326), .mv (.t 2), none⟩),
([], ⟨(some 327), .ia (.t 326) (.c (.i .i64 5)) 4, none⟩),
([], ⟨(some 328), .fa (.t 327) 2, none⟩),
([4, 8, 12], ⟨(some 329), .ld (.t 328) 1 false, none⟩),
([], ⟨(some 330), .build [(.s []), (.i .i64 0), (.i .i64 0)] [(0, 1, (.t 321)), (1, 1, (.t 325)), (2, 1, (.t 329))], none⟩),
([4], ⟨(some 331), .bsl [(.s []), (.i .i64 0), (.i .i64 0)] 1 [(0, (.t 330))], none⟩),
([], ⟨(some 332), .app 3 32 (.t 317) (.t 331) false, none⟩),
([], ⟨(some 333), .nck (.t 313), none⟩),
([], ⟨(some 334), .fa (.t 333) 12, none⟩),
([], ⟨none, .st (.t 334) (.t 332) 1, none⟩)]) (
.seq ( .region [
 ⟨(some 6), .mv (.c (.i .i64 1)), none⟩]) ( .ret))))))))))))))) (
.seq ( .region [
 ⟨(some 6), .mv (.c (.i .i64 0)), none⟩]) ( .ret)))))), [.tmp 6], true⟩
theorem k124 : CodeOk Tryz.prog 124 c124 := codeOk (hs := [160, 192, 275]) Tryz.func124 (by kernel_rfl)
def c125 : AFunc := ⟨15,
.seq ( .region [
 ⟨(some 6), .mv (.c (.b false)), none⟩]) (
.seq ( .region [
 ⟨(some 7), .mv (.t 0), none⟩,
⟨(some 8), .mv (.t 1), none⟩,
⟨(some 9), .bin .geq (.t 7) (.t 8), none⟩,
⟨(some 10), .mv (.t 9), none⟩,
⟨(some 11), .mv (.t 0), (some (10, true))⟩,
⟨(some 12), .mv (.t 2), (some (10, true))⟩,
⟨(some 13), .bin .leq (.t 11) (.t 12), (some (10, true))⟩,
⟨(some 14), .pick (.t 10) (.t 13) (.c (.b false)), none⟩,
⟨(some 6), .mv (.t 14), none⟩]) ( .ret)), [.tmp 6], false⟩
theorem k125 : CodeOk Tryz.prog 125 c125 := codeOk (hs := []) Tryz.func125 (by kernel_rfl)
def c126 : AFunc := ⟨10,
.seq ( .region [
 ⟨(some 2), .mv (.c (.b false)), none⟩]) (
.seq ( .region [
 ⟨(some 3), .mv (.t 0), none⟩,
⟨(some 4), .callf 182 [(.t 3)], none⟩,
⟨(some 5), .mv (.t 4), none⟩,
⟨(some 6), .mv (.t 0), (some (5, true))⟩,
⟨(some 7), .callf 197 [(.t 6)], (some (5, true))⟩,
⟨(some 8), .un .not (.t 7), (some (5, true))⟩,
⟨(some 9), .pick (.t 5) (.t 8) (.c (.b false)), none⟩,
⟨(some 2), .mv (.t 9), none⟩]) ( .ret)), [.tmp 2], false⟩
theorem k126 : CodeOk Tryz.prog 126 c126 := codeOk (hs := []) Tryz.func126 (by kernel_rfl)
def c127_L1 : ACode :=
.seq (
.seq ( .region [
 ⟨(some 86), .mv (.t 9), none⟩,
⟨(some 87), .mv (.t 6), none⟩,
⟨(some 88), .bin .lss (.t 86) (.t 87), none⟩]) ( .cond (.t 88) ( .skip) ( .exit 8))) (
.seq ( .block 9 (
.seq ( .draws [ ([], ⟨(some 91), .fa (.t 1) 12, none⟩),
([], ⟨(some 92), .ld (.t 91) 1 false, none⟩),
([], ⟨(some 93), .mv (.t 9), none⟩),
([], ⟨(some 94), .ia (.t 92) (.t 93) 3, none⟩),
([], ⟨(some 95), .fa (.t 94) 0, none⟩),
([], ⟨(some 96), .ld (.t 95) 1 false, none⟩),
([], ⟨(some 97), .fa (.t 7) 0, none⟩),
([1, 5], ⟨(some 98), .ld (.t 97) 1 false, none⟩),
([], ⟨(some 99), .bin .eql (.t 96) (.t 98), none⟩)]) ( .cond (.t 99) (
.seq ( .region [
 ⟨(some 2), .mv (.c (.i .i64 7)), none⟩]) ( .ret)) ( .skip)))) ( .region [
 ⟨(some 89), .mv (.t 9), none⟩,
⟨(some 90), .bin .add (.t 89) (.c (.i .i64 1)), none⟩,
⟨(some 9), .mv (.t 90), none⟩]))
theorem c127_L1_w : wrM (wrC (.loop c127_L1)) = 1267573228975774065229522010628 := nr rfl
def c127_L2 : ACode :=
.seq (
.seq ( .region [
 ⟨(some 70), .mv (.t 8), none⟩,
⟨(some 71), .fa (.t 1) 11, none⟩,
⟨(some 72), .ld (.t 71) 1 false, none⟩,
⟨(some 73), .lenV (.t 72), none⟩,
⟨(some 74), .bin .lss (.t 70) (.t 73), none⟩]) ( .cond (.t 74) ( .skip) ( .exit 6))) (
.seq ( .block 7 (
.seq ( .draws [ ([], ⟨(some 77), .fa (.t 1) 11, none⟩),
([], ⟨(some 78), .ld (.t 77) 1 false, none⟩),
([], ⟨(some 79), .mv (.t 8), none⟩),
([], ⟨(some 80), .ia (.t 78) (.t 79) 4, none⟩),
([], ⟨(some 81), .fa (.t 80) 0, none⟩),
([], ⟨(some 82), .ld (.t 81) 1 false, none⟩),
([], ⟨(some 83), .fa (.t 7) 0, none⟩),
([1, 5], ⟨(some 84), .ld (.t 83) 1 false, none⟩),
([], ⟨(some 85), .bin .eql (.t 82) (.t 84), none⟩)]) ( .cond (.t 85) (
.seq ( .region [
 ⟨(some 2), .mv (.c (.i .i64 7)), none⟩]) ( .ret)) ( .skip)))) ( .region [
 ⟨(some 75), .mv (.t 8), none⟩,
⟨(some 76), .bin .add (.t 75) (.c (.i .i64 1)), none⟩,
⟨(some 8), .mv (.t 76), none⟩]))
theorem c127_L2_w : wrM (wrC (.loop c127_L2)) = 77370071863715549769892100 := nr rfl
def c127_L3 : ACode :=
.seq (
.seq ( .region [
 ⟨(some 54), .mv (.t 6), none⟩,
⟨(some 55), .fa (.t 1) 12, none⟩,
⟨(some 56), .ld (.t 55) 1 false, none⟩,
⟨(some 57), .lenV (.t 56), none⟩,
⟨(some 58), .bin .lss (.t 54) (.t 57), none⟩]) ( .cond (.t 58) ( .skip) ( .exit 4))) (
.seq ( .block 5 (
.seq ( .region [
 ⟨(some 61), .fa (.t 1) 12, none⟩,
⟨(some 62), .ld (.t 61) 1 false, none⟩,
⟨(some 63), .mv (.t 6), none⟩,
⟨(some 64), .ia (.t 62) (.t 63) 3, none⟩,
⟨(some 65), .ld (.t 64) 3 true, none⟩,
⟨(some 7), .alloc [(.s []), (.i .i64 0), (.i .i64 0)] false, none⟩,
⟨none, .st (.t 7) (.t 65) 3, none⟩]) (
.seq (
.seq ( .region [
 ⟨(some 66), .fa (.t 7) 0, none⟩,
⟨(some 67), .ld (.t 66) 1 false, none⟩,
⟨(some 68), .callf 126 [(.t 67)], none⟩,
⟨(some 69), .un .not (.t 68), none⟩]) ( .cond (.t 69) (
.seq ( .region [
 ⟨(some 2), .mv (.c (.i .i64 1)), none⟩]) ( .ret)) ( .skip))) (
.seq (
.seq ( .region [
 ⟨(some 8), .mv (.c (.i .i64 0)), none⟩]) ( .block 6 ( .loop c127_L2))) (
.seq (
.seq ( .region [
 ⟨(some 9), .mv (.c (.i .i64 0)), none⟩]) ( .block 8 ( .loop c127_L1))) (
.seq ( .region [
 ⟨(some 100), .fa (.t 7) 2, none⟩,
⟨(some 101), .ld (.t 100) 1 false, none⟩,
⟨(some 102), .callf 125 [(.t 101), (.c (.i .i64 1)), (.c (.i .i64 31))], none⟩,
⟨(some 103), .un .not (.t 102), none⟩,
⟨(some 104), .mv (.t 103), none⟩,
⟨(some 105), .fa (.t 7) 1, (some (104, false))⟩,
⟨(some 106), .ld (.t 105) 1 false, (some (104, false))⟩,
⟨(some 107), .fa (.t 7) 2, (some (104, false))⟩,
⟨(some 108), .ld (.t 107) 1 false, (some (104, false))⟩,
⟨(some 109), .callf 125 [(.t 106), (.c (.i .i64 1)), (.t 108)], (some (104, false))⟩,
⟨(some 110), .un .not (.t 109), (some (104, false))⟩,
⟨(some 111), .pick (.t 104) (.c (.b true)) (.t 110), none⟩]) ( .cond (.t 111) (
.seq ( .region [
 ⟨(some 2), .mv (.c (.i .i64 5)), none⟩]) ( .ret)) ( .skip)))))))) ( .region [
 ⟨(some 59), .mv (.t 6), none⟩,
⟨(some 60), .bin .add (.t 59) (.c (.i .i64 1)), none⟩,
⟨(some 6), .mv (.t 60), none⟩]))
theorem c127_L3_w : wrM (wrC (.loop c127_L3)) = 5192296858534827610516097819739076 := nr rfl
def c127_L4 : ACode :=
.seq (
.seq ( .region [
 ⟨(some 26), .mv (.t 5), none⟩,
⟨(some 27), .mv (.t 3), none⟩,
⟨(some 28), .bin .lss (.t 26) (.t 27), none⟩]) ( .cond (.t 28) ( .skip) ( .exit 2))) (
.seq ( .block 3 (
.seq ( .draws [ ([], ⟨(some 31), .fa (.t 1) 11, none⟩),
([], ⟨(some 32), .ld (.t 31) 1 false, none⟩),
([], ⟨(some 33), .mv (.t 5), none⟩),
([], ⟨(some 34), .ia (.t 32) (.t 33) 4, none⟩),
([], ⟨(some 35), .fa (.t 34) 0, none⟩),
([], ⟨(some 36), .ld (.t 35) 1 false, none⟩),
([], ⟨(some 37), .fa (.t 4) 0, none⟩),
([1, 5], ⟨(some 38), .ld (.t 37) 1 false, none⟩),
([], ⟨(some 39), .bin .eql (.t 36) (.t 38), none⟩)]) ( .cond (.t 39) (
.seq ( .region [
 ⟨(some 2), .mv (.c (.i .i64 7)), none⟩]) ( .ret)) ( .skip)))) ( .region [
 ⟨(some 29), .mv (.t 5), none⟩,
⟨(some 30), .bin .add (.t 29) (.c (.i .i64 1)), none⟩,
⟨(some 5), .mv (.t 30), none⟩]))
theorem c127_L4_w : wrM (wrC (.loop c127_L4)) = 1099444518948 := nr rfl
def c127_L5 : ACode :=
.seq (
.seq ( .region [
 ⟨(some 10), .mv (.t 3), none⟩,
⟨(some 11), .fa (.t 1) 11, none⟩,
⟨(some 12), .ld (.t 11) 1 false, none⟩,
⟨(some 13), .lenV (.t 12), none⟩,
⟨(some 14), .bin .lss (.t 10) (.t 13), none⟩]) ( .cond (.t 14) ( .skip) ( .exit 0))) (
.seq ( .block 1 (
.seq ( .region [
 ⟨(some 17), .fa (.t 1) 11, none⟩,
⟨(some 18), .ld (.t 17) 1 false, none⟩,
⟨(some 19), .mv (.t 3), none⟩,
⟨(some 20), .ia (.t 18) (.t 19) 4, none⟩,
⟨(some 21), .ld (.t 20) 4 true, none⟩,
⟨(some 4), .alloc [(.s []), (.s []), (.i .i64 0), (.i .i64 0)] false, none⟩,
⟨none, .st (.t 4) (.t 21) 4, none⟩]) (
.seq (
.seq ( .region [
 ⟨(some 22), .fa (.t 4) 0, none⟩,
⟨(some 23), .ld (.t 22) 1 false, none⟩,
⟨(some 24), .callf 126 [(.t 23)], none⟩,
⟨(some 25), .un .not (.t 24), none⟩]) ( .cond (.t 25) (
.seq ( .region [
 ⟨(some 2), .mv (.c (.i .i64 1)), none⟩]) ( .ret)) ( .skip))) (
.seq (
.seq ( .region [
 ⟨(some 5), .mv (.c (.i .i64 0)), none⟩]) ( .block 2 ( .loop c127_L4))) (
.seq (
.seq ( .region [
 ⟨(some 40), .fa (.t 4) 1, none⟩,
⟨(some 41), .ld (.t 40) 1 false, none⟩,
⟨(some 42), .callf 196 [(.t 41)], none⟩,
⟨(some 43), .bin .eql (.t 42) (.c (.i .i64 0)), none⟩]) ( .cond (.t 43) (
.seq ( .region [
 ⟨(some 2), .mv (.c (.i .i64 6)), none⟩]) ( .ret)) ( .skip))) (
.seq ( .region [
 ⟨(some 44), .fa (.t 4) 2, none⟩,
⟨(some 45), .ld (.t 44) 1 false, none⟩,
⟨(some 46), .callf 125 [(.t 45), (.c (.i .i64 0)), (.c (.i .i64 599999))], none⟩,
⟨(some 47), .un .not (.t 46), none⟩,
⟨(some 48), .mv (.t 47), none⟩,
⟨(some 49), .fa (.t 4) 3, (some (48, false))⟩,
⟨(some 50), .ld (.t 49) 1 false, (some (48, false))⟩,
⟨(some 51), .callf 125 [(.t 50), (.c (.i .i64 1)), (.c (.i .i64 31))], (some (48, false))⟩,
⟨(some 52), .un .not (.t 51), (some (48, false))⟩,
⟨(some 53), .pick (.t 48) (.c (.b true)) (.t 52), none⟩]) ( .cond (.t 53) (
.seq ( .region [
 ⟨(some 2), .mv (.c (.i .i64 5)), none⟩]) ( .ret)) ( .skip)))))))) ( .region [
 ⟨(some 15), .mv (.t 3), none⟩,
⟨(some 16), .bin .add (.t 15) (.c (.i .i64 1)), none⟩,
⟨(some 3), .mv (.t 16), none⟩]))
theorem c127_L5_w : wrM (wrC (.loop c127_L5)) = 18014398509481020 := nr rfl
def c127 : AFunc := ⟨112,
.seq ( .region [
 ⟨(some 1), .box (.t 0) false, none⟩,
⟨(some 2), .mv (.c (.i .i64 0)), none⟩]) (
.seq (
.seq ( .region [
 ⟨(some 3), .mv (.c (.i .i64 0)), none⟩]) ( .block 0 ( .loop c127_L5))) (
.seq (
.seq ( .region [
 ⟨(some 6), .mv (.c (.i .i64 0)), none⟩]) ( .block 4 ( .loop c127_L3))) (
.seq ( .region [
 ⟨(some 2), .mv (.c (.i .i64 0)), none⟩]) ( .ret)))), [.tmp 2], false⟩
theorem k127 : CodeOk Tryz.prog 127 c127 := codeOk (hs := []) Tryz.func127 (by kernel_rfl)
def c128 : AFunc := ⟨47,
.seq ( .region [
 ⟨(some 2), .box (.t 0) false, none⟩,
⟨(some 3), .box (.t 1) false, none⟩,
⟨(some 4), .mv (.c (.i .i64 0)), none⟩,
⟨(some 5), .mv (.c (.i .i64 0)), none⟩,
⟨(some 6), .mv (.c (.i .i64 0)), none⟩]) (
.seq (
.seq ( .region [
 ⟨(some 8), .ld (.t 2) 3 true, none⟩,
⟨(some 9), .callf 116 [(.t 8)], none⟩,
⟨(some 7), .mv (.t 9), none⟩]) (
.seq ( .region [
 ⟨(some 10), .mv (.t 7), none⟩,
⟨(some 11), .bin .neq (.t 10) (.c (.i .i64 0)), none⟩]) ( .cond (.t 11) (
.seq ( .region [
 ⟨(some 12), .mv (.t 7), none⟩,
⟨(some 4), .mv (.c (.i .i64 0)), none⟩,
⟨(some 5), .mv (.c (.i .i64 0)), none⟩,
⟨(some 6), .mv (.t 12), none⟩]) ( .ret)) ( .skip)))) (
.seq (
.seq ( .region [
 ⟨(some 13), .ld (.t 3) 2 true, none⟩,
⟨(some 14), .callf 198 [(.t 13)], none⟩,
⟨(some 15), .un .not (.t 14), none⟩]) ( .cond (.t 15) (
.seq ( .region [
 ⟨(some 4), .mv (.c (.i .i64 0)), none⟩,
⟨(some 5), .mv (.c (.i .i64 0)), none⟩,
⟨(some 6), .mv (.c (.i .i64 5)), none⟩]) ( .ret)) ( .skip))) (
.seq (
.seq ( .region [
 ⟨(some 16), .fa (.t 3) 0, none⟩,
⟨(some 17), .ld (.t 16) 1 false, none⟩,
⟨(some 18), .fa (.t 3) 1, none⟩,
⟨(some 19), .ld (.t 18) 1 false, none⟩,
⟨(some 20), .bin .eql (.t 17) (.t 19), none⟩]) ( .cond (.t 20) (
.seq ( .region [
 ⟨(some 4), .mv (.c (.i .i64 0)), none⟩,
⟨(some 5), .mv (.c (.i .i64 0)), none⟩,
⟨(some 6), .mv (.c (.i .i64 8)), none⟩]) ( .ret)) ( .skip))) (
.seq ( .draws [ ([], ⟨(some 22), .fa (.t 3) 0, none⟩),
([], ⟨(some 23), .ld (.t 22) 1 false, none⟩),
([1], ⟨(some 24), .ld (.t 2) 3 true, none⟩),
([], ⟨(some 25), .fa (.t 3) 0, none⟩),
([1, 2], ⟨(some 26), .ld (.t 25) 1 false, none⟩),
([1], ⟨(some 27), .callf 199 [(.t 24), (.t 26)], none⟩),
([], ⟨(some 28), .bin .add (.t 23) (.t 27), none⟩),
([], ⟨(some 29), .callf 178 [(.t 28)], none⟩),
([], ⟨(some 21), .mv (.t 29), none⟩),
([], ⟨(some 30), .ext (.t 21) 0, none⟩),
([], ⟨(some 31), .ext (.t 21) 1, none⟩),
([], ⟨(some 4), .mv (.t 30), none⟩)]) (
.seq ( .draws [ ([], ⟨(some 33), .fa (.t 3) 1, none⟩),
([], ⟨(some 34), .ld (.t 33) 1 false, none⟩),
([], ⟨(some 35), .bin .sub (.t 34) (.c (.i .i64 1)), none⟩),
([1], ⟨(some 36), .ld (.t 2) 3 true, none⟩),
([], ⟨(some 37), .fa (.t 3) 1, none⟩),
([1, 3], ⟨(some 38), .ld (.t 37) 1 false, none⟩),
([], ⟨(some 39), .bin .sub (.t 38) (.c (.i .i64 1)), none⟩),
([1], ⟨(some 40), .callf 199 [(.t 36), (.t 39)], none⟩),
([], ⟨(some 41), .bin .add (.t 35) (.t 40), none⟩),
([], ⟨(some 42), .callf 178 [(.t 41)], none⟩),
([], ⟨(some 32), .mv (.t 42), none⟩),
([], ⟨(some 43), .ext (.t 32) 0, none⟩),
([], ⟨(some 44), .ext (.t 32) 1, none⟩),
([], ⟨(some 5), .mv (.t 43), none⟩)]) (
.seq ( .region [
 ⟨(some 45), .mv (.t 4), none⟩,
⟨(some 46), .mv (.t 5), none⟩,
⟨(some 4), .mv (.t 45), none⟩,
⟨(some 5), .mv (.t 46), none⟩,
⟨(some 6), .mv (.c (.i .i64 0)), none⟩]) ( .ret))))))), [.tmp 4, .tmp 5, .tmp 6], false⟩
theorem k128 : CodeOk Tryz.prog 128 c128 := codeOk (hs := []) Tryz.func128 (by kernel_rfl)
def c129 : AFunc := ⟨46,
.seq ( .region [
 ⟨(some 2), .box (.t 0) false, none⟩,
⟨(some 3), .box (.t 1) false, none⟩,
⟨(some 4), .mv (.c (.i .i64 0)), none⟩,
⟨(some 5), .mv (.c (.i .i64 0)), none⟩,
⟨(some 6), .mv (.c (.i .i64 0)), none⟩]) (
.seq (
.seq ( .region [
 ⟨(some 14), .ld (.t 2) 3 true, none⟩,
⟨(some 15), .callf 120 [(.t 14)], none⟩,
⟨(some 7), .mv (.t 15), none⟩]) (
.seq ( .region [
 ⟨(some 16), .mv (.t 7), none⟩,
⟨(some 17), .bin .neq (.t 16) (.c (.i .i64 0)), none⟩]) ( .cond (.t 17) (
.seq ( .region [
 ⟨(some 18), .mv (.t 7), none⟩,
⟨(some 4), .mv (.c (.i .i64 0)), none⟩,
⟨(some 5), .mv (.c (.i .i64 0)), none⟩,
⟨(some 6), .mv (.t 18), none⟩]) ( .ret)) ( .skip)))) (
.seq (
.seq ( .region [
 ⟨(some 19), .ld (.t 3) 2 true, none⟩,
⟨(some 20), .callf 200 [(.t 19)], none⟩,
⟨(some 21), .un .not (.t 20), none⟩]) ( .cond (.t 21) (
.seq ( .region [
 ⟨(some 4), .mv (.c (.i .i64 0)), none⟩,
⟨(some 5), .mv (.c (.i .i64 0)), none⟩,
⟨(some 6), .mv (.c (.i .i64 5)), none⟩]) ( .ret)) ( .skip))) (
.seq (
.seq ( .region [
 ⟨(some 22), .fa (.t 3) 0, none⟩,
⟨(some 23), .ld (.t 22) 1 false, none⟩,
⟨(some 24), .fa (.t 3) 1, none⟩,
⟨(some 25), .ld (.t 24) 1 false, none⟩,
⟨(some 26), .bin .eql (.t 23) (.t 25), none⟩]) ( .cond (.t 26) (
.seq ( .region [
 ⟨(some 4), .mv (.c (.i .i64 0)), none⟩,
⟨(some 5), .mv (.c (.i .i64 0)), none⟩,
⟨(some 6), .mv (.c (.i .i64 8)), none⟩]) ( .ret)) ( .skip))) (
.seq ( .region [
 ⟨(some 28), .ld (.t 2) 3 true, none⟩,
⟨(some 29), .fa (.t 3) 0, none⟩,
⟨(some 30), .ld (.t 29) 1 false, none⟩,
⟨(some 31), .callf 121 [(.t 28), (.t 30)], none⟩,
⟨(some 27), .mv (.t 31), none⟩,
⟨(some 32), .ext (.t 27) 0, none⟩,
⟨(some 33), .ext (.t 27) 1, none⟩,
⟨(some 34), .ext (.t 27) 2, none⟩,
⟨(some 8), .mv (.t 32), none⟩,
⟨(some 9), .mv (.t 33), none⟩,
⟨(some 10), .mv (.t 34), none⟩]) (
.seq ( .region [
 ⟨(some 36), .ld (.t 2) 3 true, none⟩,
⟨(some 37), .fa (.t 3) 1, none⟩,
⟨(some 38), .ld (.t 37) 1 false, none⟩,
⟨(some 39), .bin .sub (.t 38) (.c (.i .i64 1)), none⟩,
⟨(some 40), .callf 121 [(.t 36), (.t 39)], none⟩,
⟨(some 35), .mv (.t 40), none⟩,
⟨(some 41), .ext (.t 35) 0, none⟩,
⟨(some 42), .ext (.t 35) 1, none⟩,
⟨(some 43), .ext (.t 35) 2, none⟩,
⟨(some 11), .mv (.t 41), none⟩,
⟨(some 12), .mv (.t 42), none⟩,
⟨(some 13), .mv (.t 43), none⟩]) (
.seq ( .region [
 ⟨(some 44), .mv (.t 8), none⟩,
⟨(some 45), .mv (.t 11), none⟩,
⟨(some 4), .mv (.t 44), none⟩,
⟨(some 5), .mv (.t 45), none⟩,
⟨(some 6), .mv (.c (.i .i64 0)), none⟩]) ( .ret))))))), [.tmp 4, .tmp 5, .tmp 6], false⟩
theorem k129 : CodeOk Tryz.prog 129 c129 := codeOk (hs := []) Tryz.func129 (by kernel_rfl)
def c133 : AFunc := ⟨18,
.seq ( .region [
 ⟨(some 2), .mv (.c (.i .i64 0)), none⟩]) (
.seq (
.seq ( .region [
 ⟨(some 3), .mv (.t 0), none⟩]) ( .block 0 (
.seq (
.seq ( .region [
 ⟨(some 5), .bin .eql (.t 3) (.c (.s [108, 101, 103, 115])), none⟩,
⟨(some 4), .mv (.t 5), none⟩]) ( .cond (.t 4) ( .skip) (
.seq ( .region [
 ⟨(some 6), .bin .eql (.t 3) (.c (.s [104, 101, 97, 100, 115])), none⟩,
⟨(some 4), .mv (.t 6), none⟩]) ( .cond (.t 4) ( .skip) ( .region [
 ⟨(some 7), .bin .eql (.t 3) (.c (.s [116, 121, 112, 101, 115])), none⟩,
⟨(some 4), .mv (.t 7), none⟩]))))) ( .cond (.t 4) (
.seq ( .region [
 ⟨(some 2), .mv (.c (.i .i64 1)), none⟩]) ( .ret)) (
.seq (
.seq ( .region [
 ⟨(some 9), .bin .eql (.t 3) (.c (.s [98, 108, 111, 99, 107])), none⟩,
⟨(some 8), .mv (.t 9), none⟩]) ( .cond (.t 8) ( .skip) (
.seq ( .region [
 ⟨(some 10), .bin .eql (.t 3) (.c (.s [115, 112, 97, 110])), none⟩,
⟨(some 8), .mv (.t 10), none⟩]) ( .cond (.t 8) ( .skip) (
.seq ( .region [
 ⟨(some 11), .bin .eql (.t 3) (.c (.s [110, 105, 103, 104, 116])), none⟩,
⟨(some 8), .mv (.t 11), none⟩]) ( .cond (.t 8) ( .skip) (
.seq ( .region [
 ⟨(some 12), .bin .eql (.t 3) (.c (.s [108, 111, 110, 103, 101, 115, 116])), none⟩,
⟨(some 8), .mv (.t 12), none⟩]) ( .cond (.t 8) ( .skip) (
.seq ( .region [
 ⟨(some 13), .bin .eql (.t 3) (.c (.s [115, 104, 111, 114, 116, 101, 115, 116])), none⟩,
⟨(some 8), .mv (.t 13), none⟩]) ( .cond (.t 8) ( .skip) ( .region [
 ⟨(some 14), .bin .eql (.t 3) (.c (.s [115, 104, 105, 102, 116])), none⟩,
⟨(some 8), .mv (.t 14), none⟩]))))))))))) ( .cond (.t 8) (
.seq ( .region [
 ⟨(some 2), .mv (.c (.i .i64 2)), none⟩]) ( .ret)) (
.seq (
.seq ( .region [
 ⟨(some 16), .bin .eql (.t 3) (.c (.s [115, 116, 97, 114, 116])), none⟩,
⟨(some 15), .mv (.t 16), none⟩]) ( .cond (.t 15) ( .skip) ( .region [
 ⟨(some 17), .bin .eql (.t 3) (.c (.s [101, 110, 100])), none⟩,
⟨(some 15), .mv (.t 17), none⟩]))) ( .cond (.t 15) (
.seq ( .region [
 ⟨(some 2), .mv (.c (.i .i64 3)), none⟩]) ( .ret)) ( .skip))))))))) (
.seq ( .region [
 ⟨(some 2), .mv (.c (.i .i64 0)), none⟩]) ( .ret))), [.tmp 2], false⟩
theorem k133 : CodeOk Tryz.prog 133 c133 := codeOk (hs := []) Tryz.func133 (by kernel_rfl)
def c134 : AFunc := ⟨30,
.seq ( .region [
 ⟨(some 2), .mv (.c (.i .i64 0)), none⟩]) (
.seq (
.seq ( .region [
 ⟨(some 7), .mv (.t 0), none⟩]) ( .block 0 (
.seq ( .region [
 ⟨(some 9), .bin .eql (.t 7) (.c (.s [114, 101, 115, 116])), none⟩,
⟨(some 8), .mv (.t 9), none⟩]) ( .cond (.t 8) (
.seq ( .region [
 ⟨(some 2), .mv (.c (.i .i64 2)), none⟩]) ( .ret)) (
.seq ( .region [
 ⟨(some 11), .bin .eql (.t 7) (.c (.s [110, 105, 103, 104, 116, 115])), none⟩,
⟨(some 10), .mv (.t 11), none⟩]) ( .cond (.t 10) (
.seq ( .region [
 ⟨(some 2), .mv (.c (.i .i64 1)), none⟩]) ( .ret)) (
.seq ( .region [
 ⟨(some 13), .bin .eql (.t 7) (.c (.s [104, 111, 109, 101])), none⟩,
⟨(some 12), .mv (.t 13), none⟩]) ( .cond (.t 12) (
.seq ( .region [
 ⟨(some 2), .mv (.c (.i .i64 4)), none⟩]) ( .ret)) ( .skip))))))))) (
.seq (
.seq ( .region [
 ⟨(some 15), .mv (.t 0), none⟩,
⟨(some 16), .callf 212 [(.t 15), (.c (.s [98, 101, 102, 111, 114, 101, 46]))], none⟩,
⟨(some 14), .mv (.t 16), none⟩,
⟨(some 17), .ext (.t 14) 0, none⟩,
⟨(some 18), .ext (.t 14) 1, none⟩,
⟨(some 3), .mv (.t 17), none⟩,
⟨(some 4), .mv (.t 18), none⟩]) (
.seq ( .region [
 ⟨(some 19), .mv (.t 4), none⟩]) ( .cond (.t 19) (
.seq ( .region [
 ⟨(some 20), .mv (.t 3), none⟩,
⟨(some 21), .callf 133 [(.t 20)], none⟩,
⟨(some 2), .mv (.t 21), none⟩]) ( .ret)) ( .skip)))) (
.seq (
.seq ( .region [
 ⟨(some 23), .mv (.t 0), none⟩,
⟨(some 24), .callf 212 [(.t 23), (.c (.s [97, 102, 116, 101, 114, 46]))], none⟩,
⟨(some 22), .mv (.t 24), none⟩,
⟨(some 25), .ext (.t 22) 0, none⟩,
⟨(some 26), .ext (.t 22) 1, none⟩,
⟨(some 5), .mv (.t 25), none⟩,
⟨(some 6), .mv (.t 26), none⟩]) (
.seq ( .region [
 ⟨(some 27), .mv (.t 6), none⟩]) ( .cond (.t 27) (
.seq ( .region [
 ⟨(some 28), .mv (.t 5), none⟩,
⟨(some 29), .callf 133 [(.t 28)], none⟩,
⟨(some 2), .mv (.t 29), none⟩]) ( .ret)) ( .skip)))) (
.seq ( .region [
 ⟨(some 2), .mv (.c (.i .i64 0)), none⟩]) ( .ret))))), [.tmp 2], false⟩
theorem k134 : CodeOk Tryz.prog 134 c134 := codeOk (hs := []) Tryz.func134 (by kernel_rfl)
def c135 : AFunc := ⟨13,
.seq ( .region [
 ⟨(some 2), .mv (.c (.i .i64 0)), none⟩]) (
.seq (
.seq ( .region [
 ⟨(some 3), .mv (.t 0), none⟩]) ( .block 0 (
.seq (
.seq ( .region [
 ⟨(some 5), .bin .eql (.t 3) (.c (.s [100, 117, 116, 105, 101, 115])), none⟩,
⟨(some 4), .mv (.t 5), none⟩]) ( .cond (.t 4) ( .skip) (
.seq ( .region [
 ⟨(some 6), .bin .eql (.t 3) (.c (.s [108, 101, 103, 115])), none⟩,
⟨(some 4), .mv (.t 6), none⟩]) ( .cond (.t 4) ( .skip) (
.seq ( .region [
 ⟨(some 7), .bin .eql (.t 3) (.c (.s [104, 101, 97, 100, 115])), none⟩,
⟨(some 4), .mv (.t 7), none⟩]) ( .cond (.t 4) ( .skip) ( .region [
 ⟨(some 8), .bin .eql (.t 3) (.c (.s [100, 97, 121, 115])), none⟩,
⟨(some 4), .mv (.t 8), none⟩]))))))) ( .cond (.t 4) (
.seq ( .region [
 ⟨(some 2), .mv (.c (.i .i64 1)), none⟩]) ( .ret)) (
.seq (
.seq ( .region [
 ⟨(some 10), .bin .eql (.t 3) (.c (.s [98, 108, 111, 99, 107])), none⟩,
⟨(some 9), .mv (.t 10), none⟩]) ( .cond (.t 9) ( .skip) (
.seq ( .region [
 ⟨(some 11), .bin .eql (.t 3) (.c (.s [115, 112, 97, 110])), none⟩,
⟨(some 9), .mv (.t 11), none⟩]) ( .cond (.t 9) ( .skip) ( .region [
 ⟨(some 12), .bin .eql (.t 3) (.c (.s [99, 114, 101, 100, 105, 116])), none⟩,
⟨(some 9), .mv (.t 12), none⟩]))))) ( .cond (.t 9) (
.seq ( .region [
 ⟨(some 2), .mv (.c (.i .i64 2)), none⟩]) ( .ret)) ( .skip))))))) (
.seq ( .region [
 ⟨(some 2), .mv (.c (.i .i64 0)), none⟩]) ( .ret))), [.tmp 2], false⟩
theorem k135 : CodeOk Tryz.prog 135 c135 := codeOk (hs := []) Tryz.func135 (by kernel_rfl)
def c142_L1 : ACode :=
.seq ( .region [
 ⟨(some 62), .bin .lss (.t 61) (.t 60), none⟩]) (
.seq ( .cond (.t 62) ( .skip) ( .exit 0)) (
.seq ( .block 1 (
.seq ( .region [
 ⟨(some 63), .mv (.t 61), none⟩,
⟨(some 64), .ia (.t 59) (.t 61) 4, none⟩,
⟨(some 65), .ld (.t 64) 4 true, none⟩,
⟨(some 16), .alloc [(.i .i64 0), (.i .i64 0), (.s []), .nilsl] false, none⟩,
⟨(some 15), .mv (.t 63), none⟩,
⟨none, .st (.t 16) (.t 65) 4, none⟩]) (
.seq ( .region [
 ⟨(some 67), .mv (.t 0), none⟩,
⟨(some 68), .mv (.t 1), none⟩,
⟨(some 69), .mv (.t 2), none⟩,
⟨(some 70), .ld (.t 16) 4 true, none⟩,
⟨(some 71), .callf 142 [(.t 67), (.t 68), (.t 69), (.t 70)], none⟩,
⟨(some 66), .mv (.t 71), none⟩,
⟨(some 72), .ext (.t 66) 0, none⟩,
⟨(some 73), .ext (.t 66) 1, none⟩,
⟨(some 17), .mv (.t 72), none⟩,
⟨(some 18), .mv (.t 73), none⟩]) (
.seq (
.seq ( .region [
 ⟨(some 74), .mv (.t 18), none⟩,
⟨(some 75), .bin .neq (.t 74) (.c (.i .i64 0)), none⟩]) ( .cond (.t 75) (
.seq ( .region [
 ⟨(some 76), .mv (.t 18), none⟩,
⟨(some 8), .mv (.c (.i .i64 0)), none⟩,
⟨(some 9), .mv (.t 76), none⟩]) ( .ret)) ( .skip))) ( .region [
 ⟨(some 77), .mv (.t 14), none⟩,
⟨(some 78), .mv (.t 15), none⟩,
⟨(some 79), .mv (.t 17), none⟩,
⟨(some 80), .ia (.t 77) (.t 78) 1, none⟩,
⟨none, .st (.t 80) (.t 79) 1, none⟩]))))) ( .region [
 ⟨(some 81), .bin .add (.t 61) (.c (.i .i64 1)), none⟩,
⟨(some 61), .mv (.t 81), none⟩])))
theorem c142_L1_w : wrM (wrC (.loop c142_L1)) = 4835700972615507485623040 := nr rfl
def c142 : AFunc := ⟨89,
.seq ( .region [
 ⟨(some 7), .box (.t 3) false, none⟩,
⟨(some 8), .mv (.c (.i .i64 0)), none⟩,
⟨(some 9), .mv (.c (.i .i64 0)), none⟩]) (
.seq (
.seq ( .region [
 ⟨(some 20), .fa (.t 7) 0, none⟩,
⟨(some 21), .ld (.t 20) 1 false, none⟩,
⟨(some 22), .bin .eql (.t 21) (.c (.i .i64 6)), none⟩]) ( .cond (.t 22) (
.seq (
.seq ( .region [
 ⟨(some 24), .mv (.t 1), none⟩,
⟨(some 25), .fa (.t 7) 2, none⟩,
⟨(some 26), .ld (.t 25) 1 false, none⟩,
⟨(some 27), .callf 89 [(.t 24), (.t 26)], none⟩,
⟨(some 23), .mv (.t 27), none⟩,
⟨(some 28), .ext (.t 23) 0, none⟩,
⟨(some 29), .ext (.t 23) 1, none⟩,
⟨(some 10), .mv (.t 28), none⟩,
⟨(some 11), .mv (.t 29), none⟩]) (
.seq ( .region [
 ⟨(some 30), .mv (.t 11), none⟩,
⟨(some 31), .bin .eql (.t 30) (.c (.i .i64 0)), none⟩]) ( .cond (.t 31) (
.seq ( .region [
 ⟨(some 32), .mv (.t 10), none⟩,
⟨(some 8), .mv (.t 32), none⟩,
⟨(some 9), .mv (.c (.i .i64 0)), none⟩]) ( .ret)) ( .skip)))) (
.seq (
.seq ( .draws [ ([], ⟨(some 34), .mv (.t 0), none⟩),
([], ⟨(some 35), .nck (.t 34), none⟩),
([], ⟨(some 36), .fa (.t 35) 1, none⟩),
([], ⟨(some 37), .ld (.t 36) 1 false, none⟩),
([], ⟨(some 38), .fa (.t 7) 2, none⟩),
([3], ⟨(some 39), .ld (.t 38) 1 false, none⟩),
([], ⟨(some 40), .lk (.one .str) (.t 37) (.t 39) (.i .i64 0) true, none⟩),
([], ⟨(some 33), .mv (.t 40), none⟩),
([], ⟨(some 41), .ext (.t 33) 0, none⟩),
([], ⟨(some 42), .ext (.t 33) 1, none⟩),
([], ⟨(some 12), .mv (.t 41), none⟩),
([], ⟨(some 13), .mv (.t 42), none⟩)]) (
.seq ( .region [
 ⟨(some 43), .mv (.t 13), none⟩,
⟨(some 44), .mv (.t 43), none⟩,
⟨(some 45), .mv (.t 12), (some (44, true))⟩,
⟨(some 46), .mv (.t 2), (some (44, true))⟩,
⟨(some 47), .bin .lss (.t 45) (.t 46), (some (44, true))⟩,
⟨(some 48), .pick (.t 44) (.t 47) (.c (.b false)), none⟩]) ( .cond (.t 48) (
.seq ( .region [
 ⟨(some 49), .mv (.t 0), none⟩,
⟨(some 50), .mv (.t 12), none⟩,
⟨(some 51), .callf 114 [(.t 49), (.t 50)], none⟩,
⟨(some 52), .ext (.t 51) 0, none⟩,
⟨(some 53), .ext (.t 51) 1, none⟩,
⟨(some 8), .mv (.t 52), none⟩,
⟨(some 9), .mv (.t 53), none⟩]) ( .ret)) ( .skip)))) (
.seq ( .region [
 ⟨(some 8), .mv (.c (.i .i64 0)), none⟩,
⟨(some 9), .mv (.c (.i .i64 6)), none⟩]) ( .ret)))) ( .skip))) (
.seq ( .region [
 ⟨(some 54), .fa (.t 7) 3, none⟩,
⟨(some 55), .ld (.t 54) 1 false, none⟩,
⟨(some 56), .lenV (.t 55), none⟩,
⟨(some 57), .mksl [(.i .i64 0)] 8 (.t 56) false, none⟩,
⟨(some 14), .mv (.t 57), none⟩]) (
.seq (
.seq ( .region [
 ⟨(some 58), .fa (.t 7) 3, none⟩,
⟨(some 59), .ld (.t 58) 1 false, none⟩,
⟨(some 60), .lenV (.t 59), none⟩,
⟨(some 61), .mv (.c (.i .i64 0)), none⟩]) ( .block 0 ( .loop c142_L1))) (
.seq (
.seq ( .region [
 ⟨(some 82), .fa (.t 7) 0, none⟩,
⟨(some 83), .ld (.t 82) 1 false, none⟩,
⟨(some 84), .mv (.t 14), none⟩,
⟨(some 85), .callf 215 [(.t 83), (.t 84)], none⟩,
⟨(some 19), .mv (.t 85), none⟩]) (
.seq ( .region [
 ⟨(some 86), .mv (.t 19), none⟩,
⟨(some 87), .bin .neq (.t 86) (.c (.i .i64 0)), none⟩]) ( .cond (.t 87) (
.seq ( .region [
 ⟨(some 88), .mv (.t 19), none⟩,
⟨(some 8), .mv (.t 88), none⟩,
⟨(some 9), .mv (.c (.i .i64 0)), none⟩]) ( .ret)) ( .skip)))) (
.seq ( .region [
 ⟨(some 8), .mv (.c (.i .i64 0)), none⟩,
⟨(some 9), .mv (.c (.i .i64 9)), none⟩]) ( .ret)))))), [.tmp 8, .tmp 9], false⟩
theorem k142 : CodeOk Tryz.prog 142 c142 := codeOk (hs := []) Tryz.func142 (by kernel_rfl)
def c155 : AFunc := ⟨32,
.seq ( .region [
 ⟨(some 4), .mv (.c (.b false)), none⟩]) (
.seq (
.seq ( .region [
 ⟨(some 5), .mv (.t 0), none⟩]) ( .block 0 (
.seq (
.seq ( .region [
 ⟨(some 7), .bin .eql (.t 5) (.c (.i .i64 1)), none⟩,
⟨(some 6), .mv (.t 7), none⟩]) ( .cond (.t 6) ( .skip) (
.seq ( .region [
 ⟨(some 8), .bin .eql (.t 5) (.c (.i .i64 2)), none⟩,
⟨(some 6), .mv (.t 8), none⟩]) ( .cond (.t 6) ( .skip) (
.seq ( .region [
 ⟨(some 9), .bin .eql (.t 5) (.c (.i .i64 3)), none⟩,
⟨(some 6), .mv (.t 9), none⟩]) ( .cond (.t 6) ( .skip) (
.seq ( .region [
 ⟨(some 10), .bin .eql (.t 5) (.c (.i .i64 4)), none⟩,
⟨(some 6), .mv (.t 10), none⟩]) ( .cond (.t 6) ( .skip) (
.seq ( .region [
 ⟨(some 11), .bin .eql (.t 5) (.c (.i .i64 5)), none⟩,
⟨(some 6), .mv (.t 11), none⟩]) ( .cond (.t 6) ( .skip) ( .region [
 ⟨(some 12), .bin .eql (.t 5) (.c (.i .i64 6)), none⟩,
⟨(some 6), .mv (.t 12), none⟩]))))))))))) ( .cond (.t 6) (
.seq ( .region [
 ⟨(some 13), .mv (.t 1), none⟩,
⟨(some 14), .bin .eql (.t 13) (.c (.i .i64 0)), none⟩,
⟨(some 4), .mv (.t 14), none⟩]) ( .ret)) (
.seq (
.seq ( .region [
 ⟨(some 16), .bin .eql (.t 5) (.c (.i .i64 7)), none⟩,
⟨(some 15), .mv (.t 16), none⟩]) ( .cond (.t 15) ( .skip) ( .region [
 ⟨(some 17), .bin .eql (.t 5) (.c (.i .i64 19)), none⟩,
⟨(some 15), .mv (.t 17), none⟩]))) ( .cond (.t 15) (
.seq ( .region [
 ⟨(some 18), .mv (.t 1), none⟩,
⟨(some 19), .bin .eql (.t 18) (.c (.i .i64 1)), none⟩,
⟨(some 4), .mv (.t 19), none⟩]) ( .ret)) (
.seq (
.seq ( .region [
 ⟨(some 21), .bin .eql (.t 5) (.c (.i .i64 12)), none⟩,
⟨(some 20), .mv (.t 21), none⟩]) ( .cond (.t 20) ( .skip) ( .region [
 ⟨(some 22), .bin .eql (.t 5) (.c (.i .i64 13)), none⟩,
⟨(some 20), .mv (.t 22), none⟩]))) ( .cond (.t 20) (
.seq ( .region [
 ⟨(some 23), .mv (.t 1), none⟩,
⟨(some 24), .bin .geq (.t 23) (.c (.i .i64 2)), none⟩,
⟨(some 4), .mv (.t 24), none⟩]) ( .ret)) (
.seq (
.seq ( .region [
 ⟨(some 26), .bin .eql (.t 5) (.c (.i .i64 14)), none⟩,
⟨(some 25), .mv (.t 26), none⟩]) ( .cond (.t 25) ( .skip) ( .region [
 ⟨(some 27), .bin .eql (.t 5) (.c (.i .i64 15)), none⟩,
⟨(some 25), .mv (.t 27), none⟩]))) ( .cond (.t 25) (
.seq ( .region [
 ⟨(some 28), .mv (.t 1), none⟩,
⟨(some 29), .bin .eql (.t 28) (.c (.i .i64 3)), none⟩,
⟨(some 4), .mv (.t 29), none⟩]) ( .ret)) ( .skip))))))))))) (
.seq ( .region [
 ⟨(some 30), .mv (.t 1), none⟩,
⟨(some 31), .bin .eql (.t 30) (.c (.i .i64 2)), none⟩,
⟨(some 4), .mv (.t 31), none⟩]) ( .ret))), [.tmp 4], false⟩
theorem k155 : CodeOk Tryz.prog 155 c155 := codeOk (hs := []) Tryz.func155 (by kernel_rfl)
def c156 : AFunc := ⟨21,
.seq ( .region [
 ⟨(some 2), .mv (.c (.b false)), none⟩]) (
.seq (
.seq ( .region [
 ⟨(some 7), .mv (.t 0), none⟩,
⟨(some 8), .callf 217 [(.t 7), (.c (.s [46]))], none⟩,
⟨(some 6), .mv (.t 8), none⟩,
⟨(some 9), .ext (.t 6) 0, none⟩,
⟨(some 10), .ext (.t 6) 1, none⟩,
⟨(some 11), .ext (.t 6) 2, none⟩,
⟨(some 3), .mv (.t 9), none⟩,
⟨(some 4), .mv (.t 10), none⟩,
⟨(some 5), .mv (.t 11), none⟩]) (
.seq ( .region [
 ⟨(some 12), .mv (.t 5), none⟩]) ( .cond (.t 12) (
.seq ( .region [
 ⟨(some 13), .mv (.t 3), none⟩,
⟨(some 14), .callf 174 [(.t 13)], none⟩,
⟨(some 15), .mv (.t 14), none⟩,
⟨(some 16), .mv (.t 4), (some (15, true))⟩,
⟨(some 17), .callf 174 [(.t 16)], (some (15, true))⟩,
⟨(some 18), .pick (.t 15) (.t 17) (.c (.b false)), none⟩,
⟨(some 2), .mv (.t 18), none⟩]) ( .ret)) ( .skip)))) (
.seq ( .region [
 ⟨(some 19), .mv (.t 0), none⟩,
⟨(some 20), .callf 218 [(.t 19)], none⟩,
⟨(some 2), .mv (.t 20), none⟩]) ( .ret))), [.tmp 2], false⟩
theorem k156 : CodeOk Tryz.prog 156 c156 := codeOk (hs := []) Tryz.func156 (by kernel_rfl)
def c166_L1 : ACode :=
.seq (
.seq ( .region [
 ⟨(some 13), .mv (.t 8), none⟩,
⟨(some 14), .fa (.t 2) 3, none⟩,
⟨(some 15), .ld (.t 14) 1 false, none⟩,
⟨(some 16), .lenV (.t 15), none⟩,
⟨(some 17), .bin .lss (.t 13) (.t 16), none⟩,
⟨(some 18), .mv (.t 17), none⟩,
⟨(some 19), .mv (.t 6), (some (18, true))⟩,
⟨(some 20), .bin .leq (.t 19) (.c (.i .i64 200)), (some (18, true))⟩,
⟨(some 21), .pick (.t 18) (.t 20) (.c (.b false)), none⟩]) ( .cond (.t 21) ( .skip) ( .exit 0))) (
.seq ( .block 1 (
.seq ( .region [
 ⟨(some 25), .fa (.t 2) 3, none⟩,
⟨(some 26), .ld (.t 25) 1 false, none⟩,
⟨(some 27), .mv (.t 8), none⟩,
⟨(some 28), .ia (.t 26) (.t 27) 4, none⟩,
⟨(some 29), .ld (.t 28) 4 true, none⟩,
⟨(some 30), .mv (.t 1), none⟩,
⟨(some 31), .bin .add (.t 30) (.c (.i .i64 1)), none⟩,
⟨(some 32), .callf 166 [(.t 29), (.t 31)], none⟩,
⟨(some 24), .mv (.t 32), none⟩,
⟨(some 33), .ext (.t 24) 0, none⟩,
⟨(some 34), .ext (.t 24) 1, none⟩,
⟨(some 9), .mv (.t 33), none⟩,
⟨(some 10), .mv (.t 34), none⟩]) ( .region [
 ⟨(some 35), .mv (.t 6), none⟩,
⟨(some 36), .mv (.t 9), none⟩,
⟨(some 37), .bin .add (.t 35) (.t 36), none⟩,
⟨(some 38), .mv (.t 7), none⟩,
⟨(some 39), .mv (.t 10), none⟩,
⟨(some 40), .bin .add (.t 39) (.c (.i .i64 1)), none⟩,
⟨(some 41), .mm true [(.t 38), (.t 40)], none⟩,
⟨(some 6), .mv (.t 37), none⟩,
⟨(some 7), .mv (.t 41), none⟩]))) ( .region [
 ⟨(some 22), .mv (.t 8), none⟩,
⟨(some 23), .bin .add (.t 22) (.c (.i .i64 1)), none⟩,
⟨(some 8), .mv (.t 23), none⟩]))
theorem c166_L1_w : wrM (wrC (.loop c166_L1)) = 4398046504896 := nr rfl
def c166 : AFunc := ⟨44,
.seq ( .region [
 ⟨(some 2), .box (.t 0) false, none⟩,
⟨(some 4), .mv (.c (.i .i64 0)), none⟩,
⟨(some 5), .mv (.c (.i .i64 0)), none⟩]) (
.seq ( .region [
 ⟨(some 6), .mv (.c (.i .i64 1)), none⟩,
⟨(some 7), .mv (.c (.i .i64 1)), none⟩]) (
.seq (
.seq ( .region [
 ⟨(some 11), .mv (.t 1), none⟩,
⟨(some 12), .bin .gtr (.t 11) (.c (.i .i64 16)), none⟩]) ( .cond (.t 12) (
.seq ( .region [
 ⟨(some 4), .mv (.c (.i .i64 1)), none⟩,
⟨(some 5), .mv (.c (.i .i64 1)), none⟩]) ( .ret)) ( .skip))) (
.seq (
.seq ( .region [
 ⟨(some 8), .mv (.c (.i .i64 0)), none⟩]) ( .block 0 ( .loop c166_L1))) (
.seq ( .region [
 ⟨(some 42), .mv (.t 6), none⟩,
⟨(some 43), .mv (.t 7), none⟩,
⟨(some 4), .mv (.t 42), none⟩,
⟨(some 5), .mv (.t 43), none⟩]) ( .ret))))), [.tmp 4, .tmp 5], false⟩
theorem k166 : CodeOk Tryz.prog 166 c166 := codeOk (hs := []) Tryz.func166 (by kernel_rfl)
def c167 : AFunc := ⟨21,
.seq ( .region [
 ⟨(some 2), .mv (.c (.i .i64 0)), none⟩,
⟨(some 3), .mv (.c (.i .i64 0)), none⟩]) (
.seq (
.seq ( .region [
 ⟨(some 4), .mv (.t 0), none⟩]) ( .block 0 (
.seq (
.seq ( .region [
 ⟨(some 6), .bin .eql (.t 4) (.c (.i .i64 1)), none⟩,
⟨(some 5), .mv (.t 6), none⟩]) ( .cond (.t 5) ( .skip) (
.seq ( .region [
 ⟨(some 7), .bin .eql (.t 4) (.c (.i .i64 2)), none⟩,
⟨(some 5), .mv (.t 7), none⟩]) ( .cond (.t 5) ( .skip) (
.seq ( .region [
 ⟨(some 8), .bin .eql (.t 4) (.c (.i .i64 3)), none⟩,
⟨(some 5), .mv (.t 8), none⟩]) ( .cond (.t 5) ( .skip) (
.seq ( .region [
 ⟨(some 9), .bin .eql (.t 4) (.c (.i .i64 4)), none⟩,
⟨(some 5), .mv (.t 9), none⟩]) ( .cond (.t 5) ( .skip) (
.seq ( .region [
 ⟨(some 10), .bin .eql (.t 4) (.c (.i .i64 5)), none⟩,
⟨(some 5), .mv (.t 10), none⟩]) ( .cond (.t 5) ( .skip) ( .region [
 ⟨(some 11), .bin .eql (.t 4) (.c (.i .i64 6)), none⟩,
⟨(some 5), .mv (.t 11), none⟩]))))))))))) ( .cond (.t 5) (
.seq ( .region [
 ⟨(some 2), .mv (.c (.i .i64 0)), none⟩,
⟨(some 3), .mv (.c (.i .i64 0)), none⟩]) ( .ret)) (
.seq (
.seq ( .region [
 ⟨(some 13), .bin .eql (.t 4) (.c (.i .i64 7)), none⟩,
⟨(some 12), .mv (.t 13), none⟩]) ( .cond (.t 12) ( .skip) ( .region [
 ⟨(some 14), .bin .eql (.t 4) (.c (.i .i64 19)), none⟩,
⟨(some 12), .mv (.t 14), none⟩]))) ( .cond (.t 12) (
.seq ( .region [
 ⟨(some 2), .mv (.c (.i .i64 1)), none⟩,
⟨(some 3), .mv (.c (.i .i64 1)), none⟩]) ( .ret)) (
.seq (
.seq ( .region [
 ⟨(some 16), .bin .eql (.t 4) (.c (.i .i64 12)), none⟩,
⟨(some 15), .mv (.t 16), none⟩]) ( .cond (.t 15) ( .skip) ( .region [
 ⟨(some 17), .bin .eql (.t 4) (.c (.i .i64 13)), none⟩,
⟨(some 15), .mv (.t 17), none⟩]))) ( .cond (.t 15) (
.seq ( .region [
 ⟨(some 2), .mv (.c (.i .i64 2)), none⟩,
⟨(some 3), .mv (.c (.i .i64 200)), none⟩]) ( .ret)) (
.seq (
.seq ( .region [
 ⟨(some 19), .bin .eql (.t 4) (.c (.i .i64 14)), none⟩,
⟨(some 18), .mv (.t 19), none⟩]) ( .cond (.t 18) ( .skip) ( .region [
 ⟨(some 20), .bin .eql (.t 4) (.c (.i .i64 15)), none⟩,
⟨(some 18), .mv (.t 20), none⟩]))) ( .cond (.t 18) (
.seq ( .region [
 ⟨(some 2), .mv (.c (.i .i64 3)), none⟩,
⟨(some 3), .mv (.c (.i .i64 3)), none⟩]) ( .ret)) ( .skip))))))))))) (
.seq ( .region [
 ⟨(some 2), .mv (.c (.i .i64 2)), none⟩,
⟨(some 3), .mv (.c (.i .i64 2)), none⟩]) ( .ret))), [.tmp 2, .tmp 3], false⟩
theorem k167 : CodeOk Tryz.prog 167 c167 := codeOk (hs := []) Tryz.func167 (by kernel_rfl)
def c168 : AFunc := ⟨21,
.seq ( .region [
 ⟨(some 2), .mv (.c (.b false)), none⟩]) (
.seq ( .region [
 ⟨(some 4), .mv (.t 0), none⟩,
⟨(some 5), .callf 223 [(.t 4), (.c (.i .u8 46))], none⟩,
⟨(some 3), .mv (.t 5), none⟩]) (
.seq (
.seq ( .region [
 ⟨(some 6), .mv (.t 3), none⟩,
⟨(some 7), .bin .lss (.t 6) (.c (.i .i64 0)), none⟩]) ( .cond (.t 7) (
.seq ( .region [
 ⟨(some 8), .mv (.t 0), none⟩,
⟨(some 9), .callf 126 [(.t 8)], none⟩,
⟨(some 2), .mv (.t 9), none⟩]) ( .ret)) ( .skip))) (
.seq ( .region [
 ⟨(some 10), .mv (.t 0), none⟩,
⟨(some 11), .mv (.t 3), none⟩,
⟨(some 12), .slS (.t 10) none (some (.t 11)), none⟩,
⟨(some 13), .callf 182 [(.t 12)], none⟩,
⟨(some 14), .mv (.t 13), none⟩,
⟨(some 15), .mv (.t 0), (some (14, true))⟩,
⟨(some 16), .mv (.t 3), (some (14, true))⟩,
⟨(some 17), .bin .add (.t 16) (.c (.i .i64 1)), (some (14, true))⟩,
⟨(some 18), .slS (.t 15) (some (.t 17)) none, (some (14, true))⟩,
⟨(some 19), .callf 182 [(.t 18)], (some (14, true))⟩,
⟨(some 20), .pick (.t 14) (.t 19) (.c (.b false)), none⟩,
⟨(some 2), .mv (.t 20), none⟩]) ( .ret)))), [.tmp 2], false⟩
theorem k168 : CodeOk Tryz.prog 168 c168 := codeOk (hs := []) Tryz.func168 (by kernel_rfl)
def c169 : AFunc := ⟨15,
.seq ( .region [
 ⟨(some 6), .mv (.c (.b false)), none⟩]) (
.seq ( .region [
 ⟨(some 7), .mv (.t 0), none⟩,
⟨(some 8), .mv (.t 1), none⟩,
⟨(some 9), .bin .geq (.t 7) (.t 8), none⟩,
⟨(some 10), .mv (.t 9), none⟩,
⟨(some 11), .mv (.t 0), (some (10, true))⟩,
⟨(some 12), .mv (.t 2), (some (10, true))⟩,
⟨(some 13), .bin .leq (.t 11) (.t 12), (some (10, true))⟩,
⟨(some 14), .pick (.t 10) (.t 13) (.c (.b false)), none⟩,
⟨(some 6), .mv (.t 14), none⟩]) ( .ret)), [.tmp 6], false⟩
theorem k169 : CodeOk Tryz.prog 169 c169 := codeOk (hs := []) Tryz.func169 (by kernel_rfl)
def c170_L1 : ACode :=
.seq ( .region [
 ⟨(some 11), .bin .lss (.t 10) (.t 9), none⟩]) (
.seq ( .cond (.t 11) ( .skip) ( .exit 0)) (
.seq ( .block 1 (
.seq ( .region [
 ⟨(some 12), .ia (.t 8) (.t 10) 5, none⟩,
⟨(some 13), .ld (.t 12) 5 true, none⟩,
⟨(some 5), .alloc [(.s []), (.i .i64 0), (.i .i64 0), (.s []), .nilsl] false, none⟩,
⟨none, .st (.t 5) (.t 13) 5, none⟩]) (
.seq (
.seq ( .region [
 ⟨(some 14), .fa (.t 5) 0, none⟩,
⟨(some 15), .ld (.t 14) 1 false, none⟩,
⟨(some 16), .callf 218 [(.t 15)], none⟩,
⟨(some 17), .un .not (.t 16), none⟩]) ( .cond (.t 17) (
.seq ( .region [
 ⟨(some 2), .mv (.c (.i .i64 1)), none⟩]) ( .ret)) ( .skip))) (
.seq (
.seq ( .region [
 ⟨(some 18), .mv (.t 3), none⟩,
⟨(some 19), .fa (.t 5) 0, none⟩,
⟨(some 20), .ld (.t 19) 1 false, none⟩,
⟨(some 21), .lk (.one .str) (.t 18) (.t 20) (.b false) false, none⟩]) ( .cond (.t 21) (
.seq ( .region [
 ⟨(some 2), .mv (.c (.i .i64 7)), none⟩]) ( .ret)) ( .skip))) (
.seq ( .region [
 ⟨(some 22), .mv (.t 3), none⟩,
⟨(some 23), .fa (.t 5) 0, none⟩,
⟨(some 24), .ld (.t 23) 1 false, none⟩,
⟨none, .mu (.one .str) (.t 22) (.t 24) (.c (.b true)), none⟩]) (
.seq ( .region [
 ⟨(some 25), .fa (.t 5) 1, none⟩,
⟨(some 26), .ld (.t 25) 4 true, none⟩,
⟨(some 27), .callf 55 [(.t 26)], none⟩,
⟨(some 6), .mv (.t 27), none⟩]) (
.seq ( .region [
 ⟨(some 28), .mv (.t 6), none⟩,
⟨(some 29), .bin .neq (.t 28) (.c (.i .i64 0)), none⟩]) ( .cond (.t 29) (
.seq ( .region [
 ⟨(some 30), .mv (.t 6), none⟩,
⟨(some 2), .mv (.t 30), none⟩]) ( .ret)) ( .skip))))))))) ( .region [
 ⟨(some 31), .bin .add (.t 10) (.c (.i .i64 1)), none⟩,
⟨(some 10), .mv (.t 31), none⟩])))
theorem c170_L1_w : wrM (wrC (.loop c170_L1)) = 4294966372 := nr rfl
def c170 : AFunc := ⟨32,
.seq ( .region [
 ⟨(some 2), .mv (.c (.i .i64 0)), none⟩]) (
.seq ( .region [
 ⟨(some 7), .mkmap false, none⟩,
⟨(some 3), .mv (.t 7), none⟩]) (
.seq (
.seq ( .region [
 ⟨(some 8), .mv (.t 0), none⟩,
⟨(some 9), .lenV (.t 8), none⟩,
⟨(some 10), .mv (.c (.i .i64 0)), none⟩]) ( .block 0 ( .loop c170_L1))) (
.seq ( .region [
 ⟨(some 2), .mv (.c (.i .i64 0)), none⟩]) ( .ret)))), [.tmp 2], false⟩
theorem k170 : CodeOk Tryz.prog 170 c170 := codeOk (hs := []) Tryz.func170 (by kernel_rfl)
def c171_L1 : ACode :=
.seq ( .region [
 ⟨(some 12), .bin .lss (.t 11) (.t 10), none⟩]) (
.seq ( .cond (.t 12) ( .skip) ( .exit 0)) (
.seq ( .block 1 (
.seq ( .region [
 ⟨(some 13), .ia (.t 9) (.t 11) 6, none⟩,
⟨(some 14), .ld (.t 13) 6 true, none⟩,
⟨(some 5), .alloc [(.i .i64 0), (.s []), (.i .i64 0), (.i .i64 0), (.s []), .nilsl] false, none⟩,
⟨none, .st (.t 5) (.t 14) 6, none⟩]) (
.seq (
.seq ( .region [
 ⟨(some 15), .fa (.t 5) 0, none⟩,
⟨(some 16), .ld (.t 15) 1 false, none⟩,
⟨(some 17), .callf 172 [(.t 16)], none⟩,
⟨(some 18), .un .not (.t 17), none⟩,
⟨(some 19), .mv (.t 18), none⟩,
⟨(some 20), .fa (.t 5) 1, (some (19, false))⟩,
⟨(some 21), .ld (.t 20) 1 false, (some (19, false))⟩,
⟨(some 22), .callf 218 [(.t 21)], (some (19, false))⟩,
⟨(some 23), .un .not (.t 22), (some (19, false))⟩,
⟨(some 24), .pick (.t 19) (.c (.b true)) (.t 23), none⟩]) ( .cond (.t 24) (
.seq ( .region [
 ⟨(some 2), .mv (.c (.i .i64 1)), none⟩]) ( .ret)) ( .skip))) (
.seq ( .region [
 ⟨(some 25), .fa (.t 5) 0, none⟩,
⟨(some 26), .ld (.t 25) 1 false, none⟩,
⟨(some 27), .fa (.t 5) 1, none⟩,
⟨(some 28), .ld (.t 27) 1 false, none⟩,
⟨(some 29), .build [(.i .i64 0), (.s [])] [(0, 1, (.t 26)), (1, 1, (.t 28))], none⟩,
⟨(some 6), .alloc [(.i .i64 0), (.s [])] false, none⟩,
⟨none, .st (.t 6) (.t 29) 2, none⟩]) (
.seq (
.seq ( .region [
 ⟨(some 30), .mv (.t 3), none⟩,
⟨(some 31), .ld (.t 6) 2 true, none⟩,
⟨(some 32), .lk (.flat [.int, .str]) (.t 30) (.t 31) (.b false) false, none⟩]) ( .cond (.t 32) (
.seq ( .region [
 ⟨(some 2), .mv (.c (.i .i64 7)), none⟩]) ( .ret)) ( .skip))) (
.seq ( .region [
 ⟨(some 33), .mv (.t 3), none⟩,
⟨(some 34), .ld (.t 6) 2 true, none⟩,
⟨none, .mu (.flat [.int, .str]) (.t 33) (.t 34) (.c (.b true)), none⟩]) (
.seq ( .region [
 ⟨(some 35), .fa (.t 5) 2, none⟩,
⟨(some 36), .ld (.t 35) 4 true, none⟩,
⟨(some 37), .callf 55 [(.t 36)], none⟩,
⟨(some 7), .mv (.t 37), none⟩]) (
.seq ( .region [
 ⟨(some 38), .mv (.t 7), none⟩,
⟨(some 39), .bin .neq (.t 38) (.c (.i .i64 0)), none⟩]) ( .cond (.t 39) (
.seq ( .region [
 ⟨(some 40), .mv (.t 7), none⟩,
⟨(some 2), .mv (.t 40), none⟩]) ( .ret)) ( .skip)))))))))) ( .region [
 ⟨(some 41), .bin .add (.t 11) (.c (.i .i64 1)), none⟩,
⟨(some 11), .mv (.t 41), none⟩])))
theorem c171_L1_w : wrM (wrC (.loop c171_L1)) = 4398046509284 := nr rfl
def c171 : AFunc := ⟨42,
.seq ( .region [
 ⟨(some 2), .mv (.c (.i .i64 0)), none⟩]) (
.seq ( .region [
 ⟨(some 8), .mkmap false, none⟩,
⟨(some 3), .mv (.t 8), none⟩]) (
.seq (
.seq ( .region [
 ⟨(some 9), .mv (.t 0), none⟩,
⟨(some 10), .lenV (.t 9), none⟩,
⟨(some 11), .mv (.c (.i .i64 0)), none⟩]) ( .block 0 ( .loop c171_L1))) (
.seq ( .region [
 ⟨(some 2), .mv (.c (.i .i64 0)), none⟩]) ( .ret)))), [.tmp 2], false⟩
theorem k171 : CodeOk Tryz.prog 171 c171 := codeOk (hs := []) Tryz.func171 (by kernel_rfl)
def c172 : AFunc := ⟨5,
.seq ( .region [
 ⟨(some 2), .mv (.c (.b false)), none⟩]) (
.seq ( .region [
 ⟨(some 3), .mv (.t 0), none⟩,
⟨(some 4), .callf 169 [(.t 3), (.c (.i .i64 1)), (.c (.i .i64 3))], none⟩,
⟨(some 2), .mv (.t 4), none⟩]) ( .ret)), [.tmp 2], false⟩
theorem k172 : CodeOk Tryz.prog 172 c172 := codeOk (hs := []) Tryz.func172 (by kernel_rfl)
def c173_L1 : ACode :=
.seq ( .region [
 ⟨(some 50), .bin .lss (.t 49) (.t 48), none⟩]) (
.seq ( .cond (.t 50) ( .skip) ( .exit 3)) (
.seq ( .block 4 (
.seq ( .region [
 ⟨(some 51), .ia (.t 47) (.t 49) 3, none⟩,
⟨(some 52), .ld (.t 51) 3 true, none⟩,
⟨(some 7), .alloc [(.s []), (.i .i64 0), (.i .i64 0)] false, none⟩,
⟨none, .st (.t 7) (.t 52) 3, none⟩]) (
.seq ( .block 5 (
.seq ( .region [
 ⟨(some 54), .fa (.t 7) 0, none⟩,
⟨(some 55), .ld (.t 54) 1 false, none⟩,
⟨(some 56), .callf 218 [(.t 55)], none⟩,
⟨(some 57), .un .not (.t 56), none⟩,
⟨(some 53), .mv (.t 57), none⟩]) ( .cond (.t 53) (
.seq ( .region [
 ⟨(some 2), .mv (.c (.i .i64 1)), none⟩]) ( .ret)) (
.seq ( .region [
 ⟨(some 59), .mv (.t 3), none⟩,
⟨(some 60), .fa (.t 7) 0, none⟩,
⟨(some 61), .ld (.t 60) 1 false, none⟩,
⟨(some 62), .lk (.one .str) (.t 59) (.t 61) (.b false) false, none⟩,
⟨(some 58), .mv (.t 62), none⟩]) ( .cond (.t 58) (
.seq ( .region [
 ⟨(some 2), .mv (.c (.i .i64 7)), none⟩]) ( .ret)) (
.seq ( .region [
 ⟨(some 64), .fa (.t 7) 2, none⟩,
⟨(some 65), .ld (.t 64) 1 false, none⟩,
⟨(some 66), .callf 169 [(.t 65), (.c (.i .i64 1)), (.c (.i .i64 31))], none⟩,
⟨(some 67), .un .not (.t 66), none⟩,
⟨(some 68), .mv (.t 67), none⟩,
⟨(some 69), .fa (.t 7) 1, (some (68, false))⟩,
⟨(some 70), .ld (.t 69) 1 false, (some (68, false))⟩,
⟨(some 71), .fa (.t 7) 2, (some (68, false))⟩,
⟨(some 72), .ld (.t 71) 1 false, (some (68, false))⟩,
⟨(some 73), .callf 169 [(.t 70), (.c (.i .i64 1)), (.t 72)], (some (68, false))⟩,
⟨(some 74), .un .not (.t 73), (some (68, false))⟩,
⟨(some 75), .pick (.t 68) (.c (.b true)) (.t 74), none⟩,
⟨(some 63), .mv (.t 75), none⟩]) ( .cond (.t 63) (
.seq ( .region [
 ⟨(some 2), .mv (.c (.i .i64 5)), none⟩]) ( .ret)) ( .skip)))))))) ( .region [
 ⟨(some 76), .mv (.t 3), none⟩,
⟨(some 77), .fa (.t 7) 0, none⟩,
⟨(some 78), .ld (.t 77) 1 false, none⟩,
⟨none, .mu (.one .str) (.t 76) (.t 78) (.c (.b true)), none⟩])))) ( .region [
 ⟨(some 79), .bin .add (.t 49) (.c (.i .i64 1)), none⟩,
⟨(some 49), .mv (.t 79), none⟩])))
theorem c173_L1_w : wrM (wrC (.loop c173_L1)) = 1208925819051679221284996 := nr rfl
def c173_L2 : ACode :=
.seq ( .region [
 ⟨(some 13), .bin .lss (.t 12) (.t 11), none⟩]) (
.seq ( .cond (.t 13) ( .skip) ( .exit 0)) (
.seq ( .block 1 (
.seq ( .region [
 ⟨(some 14), .ia (.t 10) (.t 12) 4, none⟩,
⟨(some 15), .ld (.t 14) 4 true, none⟩,
⟨(some 5), .alloc [(.s []), (.s []), (.i .i64 0), (.i .i64 0)] false, none⟩,
⟨none, .st (.t 5) (.t 15) 4, none⟩]) (
.seq ( .block 2 (
.seq ( .region [
 ⟨(some 17), .fa (.t 5) 0, none⟩,
⟨(some 18), .ld (.t 17) 1 false, none⟩,
⟨(some 19), .callf 218 [(.t 18)], none⟩,
⟨(some 20), .un .not (.t 19), none⟩,
⟨(some 16), .mv (.t 20), none⟩]) ( .cond (.t 16) (
.seq ( .region [
 ⟨(some 2), .mv (.c (.i .i64 1)), none⟩]) ( .ret)) (
.seq ( .region [
 ⟨(some 22), .mv (.t 3), none⟩,
⟨(some 23), .fa (.t 5) 0, none⟩,
⟨(some 24), .ld (.t 23) 1 false, none⟩,
⟨(some 25), .lk (.one .str) (.t 22) (.t 24) (.b false) false, none⟩,
⟨(some 21), .mv (.t 25), none⟩]) ( .cond (.t 21) (
.seq ( .region [
 ⟨(some 2), .mv (.c (.i .i64 7)), none⟩]) ( .ret)) (
.seq ( .region [
 ⟨(some 27), .fa (.t 5) 1, none⟩,
⟨(some 28), .ld (.t 27) 1 false, none⟩,
⟨(some 29), .callf 224 [(.t 28)], none⟩,
⟨(some 30), .bin .eql (.t 29) (.c (.i .i64 0)), none⟩,
⟨(some 26), .mv (.t 30), none⟩]) ( .cond (.t 26) (
.seq ( .region [
 ⟨(some 2), .mv (.c (.i .i64 6)), none⟩]) ( .ret)) (
.seq ( .region [
 ⟨(some 32), .fa (.t 5) 2, none⟩,
⟨(some 33), .ld (.t 32) 1 false, none⟩,
⟨(some 34), .callf 169 [(.t 33), (.c (.i .i64 0)), (.c (.i .i64 599999))], none⟩,
⟨(some 35), .un .not (.t 34), none⟩,
⟨(some 36), .mv (.t 35), none⟩,
⟨(some 37), .fa (.t 5) 3, (some (36, false))⟩,
⟨(some 38), .ld (.t 37) 1 false, (some (36, false))⟩,
⟨(some 39), .callf 169 [(.t 38), (.c (.i .i64 1)), (.c (.i .i64 31))], (some (36, false))⟩,
⟨(some 40), .un .not (.t 39), (some (36, false))⟩,
⟨(some 41), .pick (.t 36) (.c (.b true)) (.t 40), none⟩,
⟨(some 31), .mv (.t 41), none⟩]) ( .cond (.t 31) (
.seq ( .region [
 ⟨(some 2), .mv (.c (.i .i64 5)), none⟩]) ( .ret)) ( .skip)))))))))) ( .region [
 ⟨(some 42), .mv (.t 3), none⟩,
⟨(some 43), .fa (.t 5) 0, none⟩,
⟨(some 44), .ld (.t 43) 1 false, none⟩,
⟨none, .mu (.one .str) (.t 42) (.t 44) (.c (.b true)), none⟩])))) ( .region [
 ⟨(some 45), .bin .add (.t 12) (.c (.i .i64 1)), none⟩,
⟨(some 12), .mv (.t 45), none⟩])))
theorem c173_L2_w : wrM (wrC (.loop c173_L2)) = 70368744173604 := nr rfl
def c173 : AFunc := ⟨80,
.seq ( .region [
 ⟨(some 1), .box (.t 0) false, none⟩,
⟨(some 2), .mv (.c (.i .i64 0)), none⟩]) (
.seq ( .region [
 ⟨(some 8), .mkmap false, none⟩,
⟨(some 3), .mv (.t 8), none⟩]) (
.seq (
.seq ( .region [
 ⟨(some 9), .fa (.t 1) 11, none⟩,
⟨(some 10), .ld (.t 9) 1 false, none⟩,
⟨(some 11), .lenV (.t 10), none⟩,
⟨(some 12), .mv (.c (.i .i64 0)), none⟩]) ( .block 0 ( .loop c173_L2))) (
.seq (
.seq ( .region [
 ⟨(some 46), .fa (.t 1) 12, none⟩,
⟨(some 47), .ld (.t 46) 1 false, none⟩,
⟨(some 48), .lenV (.t 47), none⟩,
⟨(some 49), .mv (.c (.i .i64 0)), none⟩]) ( .block 3 ( .loop c173_L1))) (
.seq ( .region [
 ⟨(some 2), .mv (.c (.i .i64 0)), none⟩]) ( .ret))))), [.tmp 2], false⟩
theorem k173 : CodeOk Tryz.prog 173 c173 := codeOk (hs := []) Tryz.func173 (by kernel_rfl)
def c174_L1 : ACode :=
.seq ( .region [
 ⟨(some 16), .bin .lss (.t 15) (.t 14), none⟩]) (
.seq ( .cond (.t 16) ( .skip) ( .exit 0)) (
.seq ( .block 1 (
.seq ( .region [
 ⟨(some 17), .mv (.t 15), none⟩,
⟨(some 3), .mv (.t 17), none⟩]) (
.seq ( .region [
 ⟨(some 18), .mv (.t 0), none⟩,
⟨(some 19), .mv (.t 3), none⟩,
⟨(some 20), .ixS (.t 18) (.t 19), none⟩,
⟨(some 4), .mv (.t 20), none⟩]) ( .block 2 (
.seq ( .region [
 ⟨(some 22), .mv (.t 4), none⟩,
⟨(some 23), .bin .geq (.t 22) (.c (.i .u8 97)), none⟩,
⟨(some 24), .mv (.t 23), none⟩,
⟨(some 25), .mv (.t 4), (some (24, true))⟩,
⟨(some 26), .bin .leq (.t 25) (.c (.i .u8 122)), (some (24, true))⟩,
⟨(some 27), .pick (.t 24) (.t 26) (.c (.b false)), none⟩,
⟨(some 21), .mv (.t 27), none⟩]) ( .cond (.t 21) ( .skip) (
.seq ( .region [
 ⟨(some 29), .mv (.t 3), none⟩,
⟨(some 30), .bin .gtr (.t 29) (.c (.i .i64 0)), none⟩,
⟨(some 31), .mv (.t 30), none⟩,
⟨(some 32), .mv (.t 4), (some (31, true))⟩,
⟨(some 33), .bin .geq (.t 32) (.c (.i .u8 48)), (some (31, true))⟩,
⟨(some 34), .mv (.t 33), (some (31, true))⟩,
⟨(some 35), .mv (.t 4), (some (34, true))⟩,
⟨(some 36), .bin .leq (.t 35) (.c (.i .u8 57)), (some (34, true))⟩,
⟨(some 37), .pick (.t 34) (.t 36) (.c (.b false)), (some (31, true))⟩,
⟨(some 38), .mv (.t 37), (some (31, true))⟩,
⟨(some 39), .mv (.t 4), (some (38, false))⟩,
⟨(some 40), .bin .eql (.t 39) (.c (.i .u8 95)), (some (38, false))⟩,
⟨(some 41), .pick (.t 38) (.c (.b true)) (.t 40), (some (31, true))⟩,
⟨(some 42), .pick (.t 31) (.t 41) (.c (.b false)), none⟩,
⟨(some 28), .mv (.t 42), none⟩]) ( .cond (.t 28) ( .skip) (
.seq ( .region [
 ⟨(some 2), .mv (.c (.b false)), none⟩]) ( .ret)))))))))) ( .region [
 ⟨(some 43), .bin .add (.t 15) (.c (.i .i64 1)), none⟩,
⟨(some 15), .mv (.t 43), none⟩])))
theorem c174_L1_w : wrM (wrC (.loop c174_L1)) = 17592186011676 := nr rfl
def c174 : AFunc := ⟨44,
.seq ( .region [
 ⟨(some 2), .mv (.c (.b false)), none⟩]) (
.seq (
.seq ( .region [
 ⟨(some 5), .mv (.t 0), none⟩,
⟨(some 6), .lenS (.t 5), none⟩,
⟨(some 7), .bin .lss (.t 6) (.c (.i .i64 1)), none⟩,
⟨(some 8), .mv (.t 7), none⟩,
⟨(some 9), .mv (.t 0), (some (8, false))⟩,
⟨(some 10), .lenS (.t 9), (some (8, false))⟩,
⟨(some 11), .bin .gtr (.t 10) (.c (.i .i64 16)), (some (8, false))⟩,
⟨(some 12), .pick (.t 8) (.c (.b true)) (.t 11), none⟩]) ( .cond (.t 12) (
.seq ( .region [
 ⟨(some 2), .mv (.c (.b false)), none⟩]) ( .ret)) ( .skip))) (
.seq (
.seq ( .region [
 ⟨(some 13), .mv (.t 0), none⟩,
⟨(some 14), .lenS (.t 13), none⟩,
⟨(some 15), .mv (.c (.i .i64 0)), none⟩]) ( .block 0 ( .loop c174_L1))) (
.seq ( .region [
 ⟨(some 2), .mv (.c (.b true)), none⟩]) ( .ret)))), [.tmp 2], false⟩
theorem k174 : CodeOk Tryz.prog 174 c174 := codeOk (hs := []) Tryz.func174 (by kernel_rfl)
def c175 : AFunc := ⟨9,
.seq ( .region [
 ⟨(some 2), .mv (.c (.b false)), none⟩]) (
.seq ( .region [
 ⟨(some 3), .mv (.t 0), none⟩,
⟨(some 4), .bin .geq (.t 3) (.c (.i .i64 (-840))), none⟩,
⟨(some 5), .mv (.t 4), none⟩,
⟨(some 6), .mv (.t 0), (some (5, true))⟩,
⟨(some 7), .bin .leq (.t 6) (.c (.i .i64 840)), (some (5, true))⟩,
⟨(some 8), .pick (.t 5) (.t 7) (.c (.b false)), none⟩,
⟨(some 2), .mv (.t 8), none⟩]) ( .ret)), [.tmp 2], false⟩
theorem k175 : CodeOk Tryz.prog 175 c175 := codeOk (hs := []) Tryz.func175 (by kernel_rfl)
def c176 : AFunc := ⟨9,
.seq ( .region [
 ⟨(some 2), .mv (.c (.b false)), none⟩]) (
.seq ( .region [
 ⟨(some 3), .mv (.t 0), none⟩,
⟨(some 4), .bin .geq (.t 3) (.c (.i .i64 0)), none⟩,
⟨(some 5), .mv (.t 4), none⟩,
⟨(some 6), .mv (.t 0), (some (5, true))⟩,
⟨(some 7), .bin .lss (.t 6) (.c (.i .i64 52596000)), (some (5, true))⟩,
⟨(some 8), .pick (.t 5) (.t 7) (.c (.b false)), none⟩,
⟨(some 2), .mv (.t 8), none⟩]) ( .ret)), [.tmp 2], false⟩
theorem k176 : CodeOk Tryz.prog 176 c176 := codeOk (hs := []) Tryz.func176 (by kernel_rfl)
def c177 : AFunc := ⟨20,
.seq ( .region [
 ⟨(some 2), .box (.t 0) false, none⟩,
⟨(some 4), .mv (.c (.i .i64 0)), none⟩,
⟨(some 5), .mv (.c (.i .i64 0)), none⟩]) (
.seq ( .region [
 ⟨(some 9), .ld (.t 2) 3 true, none⟩,
⟨(some 10), .mv (.t 1), none⟩,
⟨(some 11), .callf 225 [(.t 9), (.t 10)], none⟩,
⟨(some 8), .mv (.t 11), none⟩,
⟨(some 12), .ext (.t 8) 0, none⟩,
⟨(some 13), .ext (.t 8) 1, none⟩,
⟨(some 6), .mv (.t 12), none⟩,
⟨(some 7), .mv (.t 13), none⟩]) (
.seq (
.seq ( .region [
 ⟨(some 14), .mv (.t 7), none⟩,
⟨(some 15), .bin .neq (.t 14) (.c (.i .i64 0)), none⟩]) ( .cond (.t 15) (
.seq ( .region [
 ⟨(some 16), .mv (.t 7), none⟩,
⟨(some 4), .mv (.c (.i .i64 0)), none⟩,
⟨(some 5), .mv (.t 16), none⟩]) ( .ret)) ( .skip))) (
.seq ( .region [
 ⟨(some 17), .mv (.t 1), none⟩,
⟨(some 18), .mv (.t 6), none⟩,
⟨(some 19), .bin .add (.t 17) (.t 18), none⟩,
⟨(some 4), .mv (.t 19), none⟩,
⟨(some 5), .mv (.c (.i .i64 0)), none⟩]) ( .ret)))), [.tmp 4, .tmp 5], false⟩
theorem k177 : CodeOk Tryz.prog 177 c177 := codeOk (hs := []) Tryz.func177 (by kernel_rfl)
def c178 : AFunc := ⟨16,
.seq ( .region [
 ⟨(some 2), .mv (.c (.i .i64 0)), none⟩,
⟨(some 3), .mv (.c (.i .i64 0)), none⟩]) (
.seq ( .region [
 ⟨(some 4), .mv (.t 0), none⟩,
⟨(some 5), .bin .quo (.t 4) (.c (.i .i64 1440)), none⟩,
⟨(some 6), .mv (.t 0), none⟩,
⟨(some 7), .bin .rem (.t 6) (.c (.i .i64 1440)), none⟩,
⟨(some 2), .mv (.t 5), none⟩,
⟨(some 3), .mv (.t 7), none⟩]) (
.seq (
.seq ( .region [
 ⟨(some 8), .mv (.t 3), none⟩,
⟨(some 9), .bin .lss (.t 8) (.c (.i .i64 0)), none⟩]) ( .cond (.t 9) (
.seq ( .region [
 ⟨(some 10), .mv (.t 2), none⟩,
⟨(some 11), .bin .sub (.t 10) (.c (.i .i64 1)), none⟩,
⟨(some 2), .mv (.t 11), none⟩]) ( .region [
 ⟨(some 12), .mv (.t 3), none⟩,
⟨(some 13), .bin .add (.t 12) (.c (.i .i64 1440)), none⟩,
⟨(some 3), .mv (.t 13), none⟩])) ( .skip))) (
.seq ( .region [
 ⟨(some 14), .mv (.t 2), none⟩,
⟨(some 15), .mv (.t 3), none⟩,
⟨(some 2), .mv (.t 14), none⟩,
⟨(some 3), .mv (.t 15), none⟩]) ( .ret)))), [.tmp 2, .tmp 3], false⟩
theorem k178 : CodeOk Tryz.prog 178 c178 := codeOk (hs := []) Tryz.func178 (by kernel_rfl)
def c182_L1 : ACode :=
.seq (
.seq ( .region [
 ⟨(some 18), .mv (.t 3), none⟩,
⟨(some 19), .mv (.t 0), none⟩,
⟨(some 20), .lenS (.t 19), none⟩,
⟨(some 21), .bin .lss (.t 18) (.t 20), none⟩]) ( .cond (.t 21) ( .skip) ( .exit 0))) (
.seq ( .block 1 (
.seq ( .region [
 ⟨(some 24), .mv (.t 0), none⟩,
⟨(some 25), .mv (.t 3), none⟩,
⟨(some 26), .ixS (.t 24) (.t 25), none⟩,
⟨(some 27), .callf 228 [(.t 26)], none⟩,
⟨(some 28), .un .not (.t 27), none⟩,
⟨(some 29), .mv (.t 28), none⟩,
⟨(some 30), .mv (.t 0), (some (29, true))⟩,
⟨(some 31), .mv (.t 3), (some (29, true))⟩,
⟨(some 32), .ixS (.t 30) (.t 31), (some (29, true))⟩,
⟨(some 33), .callf 229 [(.t 32)], (some (29, true))⟩,
⟨(some 34), .un .not (.t 33), (some (29, true))⟩,
⟨(some 35), .pick (.t 29) (.t 34) (.c (.b false)), none⟩,
⟨(some 36), .mv (.t 35), none⟩,
⟨(some 37), .mv (.t 0), (some (36, true))⟩,
⟨(some 38), .mv (.t 3), (some (36, true))⟩,
⟨(some 39), .ixS (.t 37) (.t 38), (some (36, true))⟩,
⟨(some 40), .bin .neq (.t 39) (.c (.i .u8 95)), (some (36, true))⟩,
⟨(some 41), .pick (.t 36) (.t 40) (.c (.b false)), none⟩]) ( .cond (.t 41) (
.seq ( .region [
 ⟨(some 2), .mv (.c (.b false)), none⟩]) ( .ret)) ( .skip)))) ( .region [
 ⟨(some 22), .mv (.t 3), none⟩,
⟨(some 23), .bin .add (.t 22) (.c (.i .i64 1)), none⟩,
⟨(some 3), .mv (.t 23), none⟩]))
theorem c182_L1_w : wrM (wrC (.loop c182_L1)) = 4398046248972 := nr rfl
def c182 : AFunc := ⟨42,
.seq ( .region [
 ⟨(some 2), .mv (.c (.b false)), none⟩]) (
.seq (
.seq ( .region [
 ⟨(some 4), .mv (.t 0), none⟩,
⟨(some 5), .lenS (.t 4), none⟩,
⟨(some 6), .bin .lss (.t 5) (.c (.i .i64 1)), none⟩,
⟨(some 7), .mv (.t 6), none⟩,
⟨(some 8), .mv (.t 0), (some (7, false))⟩,
⟨(some 9), .lenS (.t 8), (some (7, false))⟩,
⟨(some 10), .bin .gtr (.t 9) (.c (.i .i64 16)), (some (7, false))⟩,
⟨(some 11), .pick (.t 7) (.c (.b true)) (.t 10), none⟩,
⟨(some 12), .mv (.t 11), none⟩,
⟨(some 13), .mv (.t 0), (some (12, false))⟩,
⟨(some 14), .ixS (.t 13) (.c (.i .i64 0)), (some (12, false))⟩,
⟨(some 15), .callf 228 [(.t 14)], (some (12, false))⟩,
⟨(some 16), .un .not (.t 15), (some (12, false))⟩,
⟨(some 17), .pick (.t 12) (.c (.b true)) (.t 16), none⟩]) ( .cond (.t 17) (
.seq ( .region [
 ⟨(some 2), .mv (.c (.b false)), none⟩]) ( .ret)) ( .skip))) (
.seq (
.seq ( .region [
 ⟨(some 3), .mv (.c (.i .i64 0)), none⟩]) ( .block 0 ( .loop c182_L1))) (
.seq ( .region [
 ⟨(some 2), .mv (.c (.b true)), none⟩]) ( .ret)))), [.tmp 2], false⟩
theorem k182 : CodeOk Tryz.prog 182 c182 := codeOk (hs := []) Tryz.func182 (by kernel_rfl)
def c183 : AFunc := ⟨9,
.seq ( .region [
 ⟨(some 2), .mv (.c (.b false)), none⟩]) (
.seq ( .region [
 ⟨(some 3), .mv (.t 0), none⟩,
⟨(some 4), .bin .geq (.t 3) (.c (.i .i64 (-840))), none⟩,
⟨(some 5), .mv (.t 4), none⟩,
⟨(some 6), .mv (.t 0), (some (5, true))⟩,
⟨(some 7), .bin .leq (.t 6) (.c (.i .i64 840)), (some (5, true))⟩,
⟨(some 8), .pick (.t 5) (.t 7) (.c (.b false)), none⟩,
⟨(some 2), .mv (.t 8), none⟩]) ( .ret)), [.tmp 2], false⟩
theorem k183 : CodeOk Tryz.prog 183 c183 := codeOk (hs := []) Tryz.func183 (by kernel_rfl)
def c184 : AFunc := ⟨9,
.seq ( .region [
 ⟨(some 2), .mv (.c (.b false)), none⟩]) (
.seq ( .region [
 ⟨(some 3), .mv (.t 0), none⟩,
⟨(some 4), .bin .geq (.t 3) (.c (.i .i64 0)), none⟩,
⟨(some 5), .mv (.t 4), none⟩,
⟨(some 6), .mv (.t 0), (some (5, true))⟩,
⟨(some 7), .bin .lss (.t 6) (.c (.i .i64 52596000)), (some (5, true))⟩,
⟨(some 8), .pick (.t 5) (.t 7) (.c (.b false)), none⟩,
⟨(some 2), .mv (.t 8), none⟩]) ( .ret)), [.tmp 2], false⟩
theorem k184 : CodeOk Tryz.prog 184 c184 := codeOk (hs := []) Tryz.func184 (by kernel_rfl)
def c185 : AFunc := ⟨20,
.seq ( .region [
 ⟨(some 2), .box (.t 0) false, none⟩,
⟨(some 4), .mv (.c (.i .i64 0)), none⟩,
⟨(some 5), .mv (.c (.i .i64 0)), none⟩]) (
.seq ( .region [
 ⟨(some 9), .ld (.t 2) 3 true, none⟩,
⟨(some 10), .mv (.t 1), none⟩,
⟨(some 11), .callf 230 [(.t 9), (.t 10)], none⟩,
⟨(some 8), .mv (.t 11), none⟩,
⟨(some 12), .ext (.t 8) 0, none⟩,
⟨(some 13), .ext (.t 8) 1, none⟩,
⟨(some 6), .mv (.t 12), none⟩,
⟨(some 7), .mv (.t 13), none⟩]) (
.seq (
.seq ( .region [
 ⟨(some 14), .mv (.t 7), none⟩,
⟨(some 15), .bin .neq (.t 14) (.c (.i .i64 0)), none⟩]) ( .cond (.t 15) (
.seq ( .region [
 ⟨(some 16), .mv (.t 7), none⟩,
⟨(some 4), .mv (.c (.i .i64 0)), none⟩,
⟨(some 5), .mv (.t 16), none⟩]) ( .ret)) ( .skip))) (
.seq ( .region [
 ⟨(some 17), .mv (.t 1), none⟩,
⟨(some 18), .mv (.t 6), none⟩,
⟨(some 19), .bin .add (.t 17) (.t 18), none⟩,
⟨(some 4), .mv (.t 19), none⟩,
⟨(some 5), .mv (.c (.i .i64 0)), none⟩]) ( .ret)))), [.tmp 4, .tmp 5], false⟩
theorem k185 : CodeOk Tryz.prog 185 c185 := codeOk (hs := []) Tryz.func185 (by kernel_rfl)
def c186 : AFunc := ⟨12,
.seq ( .region [
 ⟨(some 2), .mv (.c (.i .i64 0)), none⟩,
⟨(some 3), .mv (.c (.i .i64 0)), none⟩]) (
.seq ( .region [
 ⟨(some 5), .mv (.t 0), none⟩,
⟨(some 6), .callf 231 [(.t 5), (.c (.i .i64 1440))], none⟩,
⟨(some 4), .mv (.t 6), none⟩]) (
.seq ( .region [
 ⟨(some 7), .mv (.t 4), none⟩,
⟨(some 8), .mv (.t 0), none⟩,
⟨(some 9), .mv (.t 4), none⟩,
⟨(some 10), .bin .mul (.c (.i .i64 1440)) (.t 9), none⟩,
⟨(some 11), .bin .sub (.t 8) (.t 10), none⟩,
⟨(some 2), .mv (.t 7), none⟩,
⟨(some 3), .mv (.t 11), none⟩]) ( .ret))), [.tmp 2, .tmp 3], false⟩
theorem k186 : CodeOk Tryz.prog 186 c186 := codeOk (hs := []) Tryz.func186 (by kernel_rfl)
def c187 : AFunc := ⟨33,
.seq ( .region [
 ⟨(some 2), .mv (.c (.b false)), none⟩]) (
.seq ( .region [
 ⟨(some 3), .mv (.t 0), none⟩,
⟨(some 4), .bin .geq (.t 3) (.c (.i .u8 97)), none⟩,
⟨(some 5), .mv (.t 4), none⟩,
⟨(some 6), .mv (.t 0), (some (5, true))⟩,
⟨(some 7), .bin .leq (.t 6) (.c (.i .u8 122)), (some (5, true))⟩,
⟨(some 8), .pick (.t 5) (.t 7) (.c (.b false)), none⟩,
⟨(some 9), .mv (.t 8), none⟩,
⟨(some 10), .mv (.t 0), (some (9, false))⟩,
⟨(some 11), .bin .geq (.t 10) (.c (.i .u8 48)), (some (9, false))⟩,
⟨(some 12), .mv (.t 11), (some (9, false))⟩,
⟨(some 13), .mv (.t 0), (some (12, true))⟩,
⟨(some 14), .bin .leq (.t 13) (.c (.i .u8 57)), (some (12, true))⟩,
⟨(some 15), .pick (.t 12) (.t 14) (.c (.b false)), (some (9, false))⟩,
⟨(some 16), .pick (.t 9) (.c (.b true)) (.t 15), none⟩,
⟨(some 17), .mv (.t 16), none⟩,
⟨(some 18), .mv (.t 0), (some (17, false))⟩,
⟨(some 19), .bin .eql (.t 18) (.c (.i .u8 95)), (some (17, false))⟩,
⟨(some 20), .pick (.t 17) (.c (.b true)) (.t 19), none⟩,
⟨(some 21), .mv (.t 20), none⟩,
⟨(some 22), .mv (.t 0), (some (21, false))⟩,
⟨(some 23), .bin .eql (.t 22) (.c (.i .u8 46)), (some (21, false))⟩,
⟨(some 24), .pick (.t 21) (.c (.b true)) (.t 23), none⟩,
⟨(some 25), .mv (.t 24), none⟩,
⟨(some 26), .mv (.t 0), (some (25, false))⟩,
⟨(some 27), .bin .eql (.t 26) (.c (.i .u8 58)), (some (25, false))⟩,
⟨(some 28), .pick (.t 25) (.c (.b true)) (.t 27), none⟩,
⟨(some 29), .mv (.t 28), none⟩,
⟨(some 30), .mv (.t 0), (some (29, false))⟩,
⟨(some 31), .bin .eql (.t 30) (.c (.i .u8 64)), (some (29, false))⟩,
⟨(some 32), .pick (.t 29) (.c (.b true)) (.t 31), none⟩,
⟨(some 2), .mv (.t 32), none⟩]) ( .ret)), [.tmp 2], false⟩
theorem k187 : CodeOk Tryz.prog 187 c187 := codeOk (hs := []) Tryz.func187 (by kernel_rfl)
def c188 : AFunc := ⟨83,
.seq ( .region [
 ⟨(some 2), .alloc [(.i .i64 0), (.s []), (.i .i64 0), (.i .i64 0)] false, none⟩,
⟨(some 3), .mv (.c (.b false)), none⟩]) (
.seq (
.seq ( .region [
 ⟨(some 10), .mv (.t 0), none⟩,
⟨(some 11), .ixS (.t 10) (.c (.i .i64 0)), none⟩,
⟨(some 12), .bin .geq (.t 11) (.c (.i .u8 97)), none⟩,
⟨(some 13), .mv (.t 12), none⟩,
⟨(some 14), .mv (.t 0), (some (13, true))⟩,
⟨(some 15), .ixS (.t 14) (.c (.i .i64 0)), (some (13, true))⟩,
⟨(some 16), .bin .leq (.t 15) (.c (.i .u8 122)), (some (13, true))⟩,
⟨(some 17), .pick (.t 13) (.t 16) (.c (.b false)), none⟩]) ( .cond (.t 17) (
.seq (
.seq ( .region [
 ⟨(some 18), .mv (.t 0), none⟩,
⟨(some 19), .lenS (.t 18), none⟩,
⟨(some 20), .bin .gtr (.t 19) (.c (.i .i64 33)), none⟩,
⟨(some 21), .mv (.t 20), none⟩,
⟨(some 22), .mv (.t 0), (some (21, false))⟩,
⟨(some 23), .callf 223 [(.t 22), (.c (.i .u8 58))], (some (21, false))⟩,
⟨(some 24), .bin .geq (.t 23) (.c (.i .i64 0)), (some (21, false))⟩,
⟨(some 25), .pick (.t 21) (.c (.b true)) (.t 24), none⟩,
⟨(some 26), .mv (.t 25), none⟩,
⟨(some 27), .mv (.t 0), (some (26, false))⟩,
⟨(some 28), .callf 223 [(.t 27), (.c (.i .u8 64))], (some (26, false))⟩,
⟨(some 29), .bin .geq (.t 28) (.c (.i .i64 0)), (some (26, false))⟩,
⟨(some 30), .pick (.t 26) (.c (.b true)) (.t 29), none⟩]) ( .cond (.t 30) (
.seq ( .region [
 ⟨(some 31), .build [(.i .i64 0), (.s []), (.i .i64 0), (.i .i64 0)] [], none⟩,
⟨none, .st (.t 2) (.t 31) 4, none⟩,
⟨(some 3), .mv (.c (.b false)), none⟩]) ( .ret)) ( .skip))) (
.seq ( .region [
 ⟨(some 32), .mv (.t 0), none⟩,
⟨(some 33), .build [(.i .i64 0), (.s []), (.i .i64 0), (.i .i64 0)] [(0, 1, (.c (.i .i64 1))), (1, 1, (.t 32))], none⟩,
⟨none, .st (.t 2) (.t 33) 4, none⟩,
⟨(some 3), .mv (.c (.b true)), none⟩]) ( .ret))) ( .skip))) (
.seq (
.seq ( .region [
 ⟨(some 34), .mv (.t 0), none⟩,
⟨(some 35), .ixS (.t 34) (.c (.i .i64 0)), none⟩,
⟨(some 36), .bin .eql (.t 35) (.c (.i .u8 64)), none⟩]) ( .cond (.t 36) (
.seq ( .region [
 ⟨(some 38), .mv (.t 0), none⟩,
⟨(some 39), .slS (.t 38) (some (.c (.i .i64 1))) none, none⟩,
⟨(some 40), .callf 232 [(.t 39)], none⟩,
⟨(some 37), .mv (.t 40), none⟩,
⟨(some 41), .ext (.t 37) 0, none⟩,
⟨(some 42), .ext (.t 37) 1, none⟩,
⟨(some 4), .mv (.t 41), none⟩,
⟨(some 5), .mv (.t 42), none⟩]) (
.seq ( .region [
 ⟨(some 43), .mv (.t 4), none⟩,
⟨(some 44), .build [(.i .i64 0), (.s []), (.i .i64 0), (.i .i64 0)] [(0, 1, (.c (.i .i64 4))), (2, 1, (.t 43))], none⟩,
⟨(some 45), .mv (.t 5), none⟩,
⟨(some 46), .bin .eql (.t 45) (.c (.i .i64 0)), none⟩,
⟨none, .st (.t 2) (.t 44) 4, none⟩,
⟨(some 3), .mv (.t 46), none⟩]) ( .ret))) ( .skip))) (
.seq (
.seq ( .region [
 ⟨(some 47), .mv (.t 0), none⟩,
⟨(some 48), .callf 223 [(.t 47), (.c (.i .u8 58))], none⟩,
⟨(some 49), .bin .geq (.t 48) (.c (.i .i64 0)), none⟩]) ( .cond (.t 49) (
.seq ( .region [
 ⟨(some 51), .mv (.t 0), none⟩,
⟨(some 52), .callf 233 [(.t 51)], none⟩,
⟨(some 50), .mv (.t 52), none⟩,
⟨(some 53), .ext (.t 50) 0, none⟩,
⟨(some 54), .ext (.t 50) 1, none⟩,
⟨(some 6), .mv (.t 53), none⟩,
⟨(some 7), .mv (.t 54), none⟩]) (
.seq ( .region [
 ⟨(some 55), .mv (.t 6), none⟩,
⟨(some 56), .build [(.i .i64 0), (.s []), (.i .i64 0), (.i .i64 0)] [(0, 1, (.c (.i .i64 3))), (2, 1, (.t 55))], none⟩,
⟨(some 57), .mv (.t 7), none⟩,
⟨(some 58), .bin .eql (.t 57) (.c (.i .i64 0)), none⟩,
⟨none, .st (.t 2) (.t 56) 4, none⟩,
⟨(some 3), .mv (.t 58), none⟩]) ( .ret))) ( .skip))) (
.seq ( .region [
 ⟨(some 60), .mv (.t 0), none⟩,
⟨(some 61), .callf 234 [(.t 60), (.c (.i .i64 1)), (.c (.i .i64 13))], none⟩,
⟨(some 59), .mv (.t 61), none⟩,
⟨(some 62), .ext (.t 59) 0, none⟩,
⟨(some 63), .ext (.t 59) 1, none⟩,
⟨(some 8), .mv (.t 62), none⟩,
⟨(some 9), .mv (.t 63), none⟩]) (
.seq (
.seq ( .region [
 ⟨(some 64), .mv (.t 9), none⟩,
⟨(some 65), .un .not (.t 64), none⟩,
⟨(some 66), .mv (.t 65), none⟩,
⟨(some 67), .mv (.t 0), (some (66, false))⟩,
⟨(some 68), .lenS (.t 67), (some (66, false))⟩,
⟨(some 69), .bin .gtr (.t 68) (.c (.i .i64 1)), (some (66, false))⟩,
⟨(some 70), .mv (.t 69), (some (66, false))⟩,
⟨(some 71), .mv (.t 0), (some (70, true))⟩,
⟨(some 72), .ixS (.t 71) (.c (.i .i64 0)), (some (70, true))⟩,
⟨(some 73), .bin .eql (.t 72) (.c (.i .u8 48)), (some (70, true))⟩,
⟨(some 74), .pick (.t 70) (.t 73) (.c (.b false)), (some (66, false))⟩,
⟨(some 75), .pick (.t 66) (.c (.b true)) (.t 74), none⟩,
⟨(some 76), .mv (.t 75), none⟩,
⟨(some 77), .mv (.t 8), (some (76, false))⟩,
⟨(some 78), .bin .gtr (.t 77) (.c (.i .i64 1099511627776)), (some (76, false))⟩,
⟨(some 79), .pick (.t 76) (.c (.b true)) (.t 78), none⟩]) ( .cond (.t 79) (
.seq ( .region [
 ⟨(some 80), .build [(.i .i64 0), (.s []), (.i .i64 0), (.i .i64 0)] [], none⟩,
⟨none, .st (.t 2) (.t 80) 4, none⟩,
⟨(some 3), .mv (.c (.b false)), none⟩]) ( .ret)) ( .skip))) (
.seq ( .region [
 ⟨(some 81), .mv (.t 8), none⟩,
⟨(some 82), .build [(.i .i64 0), (.s []), (.i .i64 0), (.i .i64 0)] [(0, 1, (.c (.i .i64 2))), (2, 1, (.t 81))], none⟩,
⟨none, .st (.t 2) (.t 82) 4, none⟩,
⟨(some 3), .mv (.c (.b true)), none⟩]) ( .ret))))))), [.cell 2 4 true, .tmp 3], false⟩
theorem k188 : CodeOk Tryz.prog 188 c188 := codeOk (hs := []) Tryz.func188 (by kernel_rfl)
def c189 : AFunc := ⟨19,
.seq ( .region [
 ⟨(some 2), .mv (.c (.s [])), none⟩]) (
.seq (
.seq ( .region [
 ⟨(some 3), .mv (.t 0), none⟩,
⟨(some 4), .lenS (.t 3), none⟩,
⟨(some 5), .bin .gtr (.t 4) (.c (.i .i64 1)), none⟩,
⟨(some 6), .mv (.t 5), none⟩,
⟨(some 7), .mv (.t 0), (some (6, true))⟩,
⟨(some 8), .slS (.t 7) none (some (.c (.i .i64 2))), (some (6, true))⟩,
⟨(some 9), .bin .eql (.t 8) (.c (.s [60, 61])), (some (6, true))⟩,
⟨(some 10), .pick (.t 6) (.t 9) (.c (.b false)), none⟩]) ( .cond (.t 10) (
.seq ( .region [
 ⟨(some 11), .mv (.t 0), none⟩,
⟨(some 12), .slS (.t 11) none (some (.c (.i .i64 2))), none⟩,
⟨(some 2), .mv (.t 12), none⟩]) ( .ret)) ( .skip))) (
.seq (
.seq ( .region [
 ⟨(some 13), .mv (.t 0), none⟩,
⟨(some 14), .ixS (.t 13) (.c (.i .i64 0)), none⟩,
⟨(some 15), .callf 223 [(.c (.s [43, 45, 42, 47, 40, 41, 44, 60, 61])), (.t 14)], none⟩,
⟨(some 16), .bin .geq (.t 15) (.c (.i .i64 0)), none⟩]) ( .cond (.t 16) (
.seq ( .region [
 ⟨(some 17), .mv (.t 0), none⟩,
⟨(some 18), .slS (.t 17) none (some (.c (.i .i64 1))), none⟩,
⟨(some 2), .mv (.t 18), none⟩]) ( .ret)) ( .skip))) (
.seq ( .region [
 ⟨(some 2), .mv (.c (.s [])), none⟩]) ( .ret)))), [.tmp 2], false⟩
theorem k189 : CodeOk Tryz.prog 189 c189 := codeOk (hs := []) Tryz.func189 (by kernel_rfl)
def c190 : AFunc := ⟨20,
.seq ( .region [
 ⟨(some 6), .mv (.c (.b false)), none⟩]) (
.seq ( .region [
 ⟨(some 7), .mv (.t 1), none⟩,
⟨(some 8), .mv (.t 0), none⟩,
⟨(some 9), .lenV (.t 8), none⟩,
⟨(some 10), .bin .lss (.t 7) (.t 9), none⟩,
⟨(some 11), .mv (.t 10), none⟩,
⟨(some 12), .mv (.t 0), (some (11, true))⟩,
⟨(some 13), .mv (.t 1), (some (11, true))⟩,
⟨(some 14), .ia (.t 12) (.t 13) 4, (some (11, true))⟩,
⟨(some 15), .fa (.t 14) 0, (some (11, true))⟩,
⟨(some 16), .ld (.t 15) 1 false, (some (11, true))⟩,
⟨(some 17), .mv (.t 2), (some (11, true))⟩,
⟨(some 18), .bin .eql (.t 16) (.t 17), (some (11, true))⟩,
⟨(some 19), .pick (.t 11) (.t 18) (.c (.b false)), none⟩,
⟨(some 6), .mv (.t 19), none⟩]) ( .ret)), [.tmp 6], false⟩
theorem k190 : CodeOk Tryz.prog 190 c190 := codeOk (hs := []) Tryz.func190 (by kernel_rfl)
def c191 : AFunc := ⟨121,
.seq ( .region [
 ⟨(some 8), .mv (.c (.i .i64 0)), none⟩]) (
.seq (
.seq ( .region [
 ⟨(some 9), .mv (.t 3), none⟩,
⟨(some 10), .bin .lss (.t 9) (.c (.i .i64 6)), none⟩,
⟨(some 11), .mv (.t 10), none⟩,
⟨(some 12), .mv (.t 2), (some (11, true))⟩,
⟨(some 13), .lenV (.t 12), (some (11, true))⟩,
⟨(some 14), .bin .neq (.t 13) (.c (.i .i64 2)), (some (11, true))⟩,
⟨(some 15), .mv (.t 14), (some (11, true))⟩,
⟨(some 16), .mv (.t 2), (some (15, false))⟩,
⟨(some 17), .callf 190 [(.t 16), (.c (.i .i64 1)), (.c (.i .i64 3))], (some (15, false))⟩,
⟨(some 18), .un .not (.t 17), (some (15, false))⟩,
⟨(some 19), .pick (.t 15) (.c (.b true)) (.t 18), (some (11, true))⟩,
⟨(some 20), .pick (.t 11) (.t 19) (.c (.b false)), none⟩]) ( .cond (.t 20) (
.seq ( .region [
 ⟨(some 8), .mv (.c (.i .i64 1)), none⟩]) ( .ret)) ( .skip))) (
.seq (
.seq ( .region [
 ⟨(some 21), .mv (.t 3), none⟩,
⟨(some 22), .bin .eql (.t 21) (.c (.i .i64 6)), none⟩,
⟨(some 23), .mv (.t 22), none⟩,
⟨(some 24), .mv (.t 2), (some (23, true))⟩,
⟨(some 25), .lenV (.t 24), (some (23, true))⟩,
⟨(some 26), .bin .neq (.t 25) (.c (.i .i64 4)), (some (23, true))⟩,
⟨(some 27), .mv (.t 26), (some (23, true))⟩,
⟨(some 28), .mv (.t 2), (some (27, false))⟩,
⟨(some 29), .callf 190 [(.t 28), (.c (.i .i64 1)), (.c (.i .i64 4))], (some (27, false))⟩,
⟨(some 30), .un .not (.t 29), (some (27, false))⟩,
⟨(some 31), .pick (.t 27) (.c (.b true)) (.t 30), (some (23, true))⟩,
⟨(some 32), .mv (.t 31), (some (23, true))⟩,
⟨(some 33), .mv (.t 2), (some (32, false))⟩,
⟨(some 34), .callf 193 [(.t 33), (.c (.i .i64 2)), (.c (.s [116, 111]))], (some (32, false))⟩,
⟨(some 35), .un .not (.t 34), (some (32, false))⟩,
⟨(some 36), .pick (.t 32) (.c (.b true)) (.t 35), (some (23, true))⟩,
⟨(some 37), .mv (.t 36), (some (23, true))⟩,
⟨(some 38), .mv (.t 2), (some (37, false))⟩,
⟨(some 39), .callf 190 [(.t 38), (.c (.i .i64 3)), (.c (.i .i64 4))], (some (37, false))⟩,
⟨(some 40), .un .not (.t 39), (some (37, false))⟩,
⟨(some 41), .pick (.t 37) (.c (.b true)) (.t 40), (some (23, true))⟩,
⟨(some 42), .pick (.t 23) (.t 41) (.c (.b false)), none⟩]) ( .cond (.t 42) (
.seq ( .region [
 ⟨(some 8), .mv (.c (.i .i64 1)), none⟩]) ( .ret)) ( .skip))) (
.seq (
.seq ( .region [
 ⟨(some 43), .mv (.t 1), none⟩,
⟨(some 44), .mv (.t 3), none⟩,
⟨(some 45), .nck (.t 43), none⟩,
⟨(some 46), .iaA (.t 45) (.t 44) 7 1, none⟩,
⟨(some 47), .ld (.t 46) 1 false, none⟩]) ( .cond (.t 47) (
.seq ( .region [
 ⟨(some 8), .mv (.c (.i .i64 7)), none⟩]) ( .ret)) ( .skip))) (
.seq ( .region [
 ⟨(some 48), .mv (.t 1), none⟩,
⟨(some 49), .mv (.t 3), none⟩,
⟨(some 50), .nck (.t 48), none⟩,
⟨(some 51), .iaA (.t 50) (.t 49) 7 1, none⟩,
⟨none, .st (.t 51) (.c (.b true)) 1, none⟩]) (
.seq (
.seq ( .region [
 ⟨(some 52), .mv (.t 3), none⟩]) ( .block 0 (
.seq ( .region [
 ⟨(some 68), .bin .eql (.t 52) (.c (.i .i64 0)), none⟩,
⟨(some 67), .mv (.t 68), none⟩]) ( .cond (.t 67) ( .region [
 ⟨(some 69), .mv (.t 0), none⟩,
⟨(some 70), .mv (.t 2), none⟩,
⟨(some 71), .ia (.t 70) (.c (.i .i64 1)) 4, none⟩,
⟨(some 72), .fa (.t 71) 2, none⟩,
⟨(some 73), .ld (.t 72) 1 false, none⟩,
⟨(some 74), .nck (.t 69), none⟩,
⟨(some 75), .fa (.t 74) 0, none⟩,
⟨none, .st (.t 75) (.t 73) 1, none⟩]) (
.seq ( .region [
 ⟨(some 77), .bin .eql (.t 52) (.c (.i .i64 1)), none⟩,
⟨(some 76), .mv (.t 77), none⟩]) ( .cond (.t 76) ( .region [
 ⟨(some 78), .mv (.t 0), none⟩,
⟨(some 79), .mv (.t 2), none⟩,
⟨(some 80), .ia (.t 79) (.c (.i .i64 1)) 4, none⟩,
⟨(some 81), .fa (.t 80) 2, none⟩,
⟨(some 82), .ld (.t 81) 1 false, none⟩,
⟨(some 83), .nck (.t 78), none⟩,
⟨(some 84), .fa (.t 83) 1, none⟩,
⟨none, .st (.t 84) (.t 82) 1, none⟩]) (
.seq ( .region [
 ⟨(some 86), .bin .eql (.t 52) (.c (.i .i64 2)), none⟩,
⟨(some 85), .mv (.t 86), none⟩]) ( .cond (.t 85) ( .region [
 ⟨(some 87), .mv (.t 0), none⟩,
⟨(some 88), .mv (.t 2), none⟩,
⟨(some 89), .ia (.t 88) (.c (.i .i64 1)) 4, none⟩,
⟨(some 90), .fa (.t 89) 2, none⟩,
⟨(some 91), .ld (.t 90) 1 false, none⟩,
⟨(some 92), .nck (.t 87), none⟩,
⟨(some 93), .fa (.t 92) 2, none⟩,
⟨none, .st (.t 93) (.t 91) 1, none⟩]) (
.seq ( .region [
 ⟨(some 95), .bin .eql (.t 52) (.c (.i .i64 3)), none⟩,
⟨(some 94), .mv (.t 95), none⟩]) ( .cond (.t 94) ( .region [
 ⟨(some 96), .mv (.t 0), none⟩,
⟨(some 97), .mv (.t 2), none⟩,
⟨(some 98), .ia (.t 97) (.c (.i .i64 1)) 4, none⟩,
⟨(some 99), .fa (.t 98) 2, none⟩,
⟨(some 100), .ld (.t 99) 1 false, none⟩,
⟨(some 101), .nck (.t 96), none⟩,
⟨(some 102), .fa (.t 101) 3, none⟩,
⟨none, .st (.t 102) (.t 100) 1, none⟩]) (
.seq ( .region [
 ⟨(some 104), .bin .eql (.t 52) (.c (.i .i64 4)), none⟩,
⟨(some 103), .mv (.t 104), none⟩]) ( .cond (.t 103) ( .region [
 ⟨(some 105), .mv (.t 0), none⟩,
⟨(some 106), .mv (.t 2), none⟩,
⟨(some 107), .ia (.t 106) (.c (.i .i64 1)) 4, none⟩,
⟨(some 108), .fa (.t 107) 2, none⟩,
⟨(some 109), .ld (.t 108) 1 false, none⟩,
⟨(some 110), .nck (.t 105), none⟩,
⟨(some 111), .fa (.t 110) 4, none⟩,
⟨none, .st (.t 111) (.t 109) 1, none⟩]) (
.seq ( .region [
 ⟨(some 113), .bin .eql (.t 52) (.c (.i .i64 5)), none⟩,
⟨(some 112), .mv (.t 113), none⟩]) ( .cond (.t 112) ( .region [
 ⟨(some 114), .mv (.t 0), none⟩,
⟨(some 115), .mv (.t 2), none⟩,
⟨(some 116), .ia (.t 115) (.c (.i .i64 1)) 4, none⟩,
⟨(some 117), .fa (.t 116) 2, none⟩,
⟨(some 118), .ld (.t 117) 1 false, none⟩,
⟨(some 119), .nck (.t 114), none⟩,
⟨(some 120), .fa (.t 119) 13, none⟩,
⟨none, .st (.t 120) (.t 118) 1, none⟩]) ( .draws [ ([], ⟨(some 53), .mv (.t 0), none⟩),
([], ⟨(some 54), .mv (.t 0), none⟩),
([], ⟨(some 55), .mv (.t 2), none⟩),
([], ⟨(some 56), .ia (.t 55) (.c (.i .i64 1)) 4, none⟩),
([], ⟨(some 57), .fa (.t 56) 2, none⟩),
([], ⟨(some 58), .ld (.t 57) 1 false, none⟩),
([], ⟨(some 59), .mv (.t 2), none⟩),
([], ⟨(some 60), .ia (.t 59) (.c (.i .i64 3)) 4, none⟩),
([], ⟨(some 61), .fa (.t 60) 2, none⟩),
([5], ⟨(some 62), .ld (.t 61) 1 false, none⟩),
([], ⟨(some 63), .nck (.t 53), none⟩),
([], ⟨(some 64), .fa (.t 63) 5, none⟩),
([], ⟨none, .st (.t 64) (.t 58) 1, none⟩),
([], ⟨(some 65), .nck (.t 54), none⟩),
([], ⟨(some 66), .fa (.t 65) 6, none⟩),
([], ⟨none, .st (.t 66) (.t 62) 1, none⟩)]))))))))))))))) (
.seq ( .region [
 ⟨(some 8), .mv (.c (.i .i64 0)), none⟩]) ( .ret))))))), [.tmp 8], true⟩
theorem k191 : CodeOk Tryz.prog 191 c191 := codeOk (hs := []) Tryz.func191 (by kernel_rfl)
def c192 : AFunc := ⟨16,
.seq ( .region [
 ⟨(some 4), .mv (.c (.b false)), none⟩]) (
.seq ( .region [
 ⟨(some 5), .mv (.t 0), none⟩,
⟨(some 6), .mv (.t 1), none⟩,
⟨(some 7), .callf 190 [(.t 5), (.t 6), (.c (.i .i64 1))], none⟩,
⟨(some 8), .mv (.t 7), none⟩,
⟨(some 9), .mv (.t 0), (some (8, true))⟩,
⟨(some 10), .mv (.t 1), (some (8, true))⟩,
⟨(some 11), .ia (.t 9) (.t 10) 4, (some (8, true))⟩,
⟨(some 12), .fa (.t 11) 1, (some (8, true))⟩,
⟨(some 13), .ld (.t 12) 1 false, (some (8, true))⟩,
⟨(some 14), .callf 126 [(.t 13)], (some (8, true))⟩,
⟨(some 15), .pick (.t 8) (.t 14) (.c (.b false)), none⟩,
⟨(some 4), .mv (.t 15), none⟩]) ( .ret)), [.tmp 4], false⟩
theorem k192 : CodeOk Tryz.prog 192 c192 := codeOk (hs := []) Tryz.func192 (by kernel_rfl)
def c193 : AFunc := ⟨28,
.seq ( .region [
 ⟨(some 6), .mv (.c (.b false)), none⟩]) (
.seq ( .region [
 ⟨(some 7), .mv (.t 1), none⟩,
⟨(some 8), .mv (.t 0), none⟩,
⟨(some 9), .lenV (.t 8), none⟩,
⟨(some 10), .bin .lss (.t 7) (.t 9), none⟩,
⟨(some 11), .mv (.t 10), none⟩,
⟨(some 12), .mv (.t 0), (some (11, true))⟩,
⟨(some 13), .mv (.t 1), (some (11, true))⟩,
⟨(some 14), .ia (.t 12) (.t 13) 4, (some (11, true))⟩,
⟨(some 15), .fa (.t 14) 0, (some (11, true))⟩,
⟨(some 16), .ld (.t 15) 1 false, (some (11, true))⟩,
⟨(some 17), .bin .eql (.t 16) (.c (.i .i64 1)), (some (11, true))⟩,
⟨(some 18), .pick (.t 11) (.t 17) (.c (.b false)), none⟩,
⟨(some 19), .mv (.t 18), none⟩,
⟨(some 20), .mv (.t 0), (some (19, true))⟩,
⟨(some 21), .mv (.t 1), (some (19, true))⟩,
⟨(some 22), .ia (.t 20) (.t 21) 4, (some (19, true))⟩,
⟨(some 23), .fa (.t 22) 1, (some (19, true))⟩,
⟨(some 24), .ld (.t 23) 1 false, (some (19, true))⟩,
⟨(some 25), .mv (.t 2), (some (19, true))⟩,
⟨(some 26), .bin .eql (.t 24) (.t 25), (some (19, true))⟩,
⟨(some 27), .pick (.t 19) (.t 26) (.c (.b false)), none⟩,
⟨(some 6), .mv (.t 27), none⟩]) ( .ret)), [.tmp 6], false⟩
theorem k193 : CodeOk Tryz.prog 193 c193 := codeOk (hs := []) Tryz.func193 (by kernel_rfl)
def c194 : AFunc := ⟨32,
.seq ( .region [
 ⟨(some 2), .alloc [(.i .i64 0), (.i .i64 0), (.s []), .nilsl] false, none⟩,
⟨(some 3), .mv (.c (.i .i64 0)), none⟩]) (
.seq ( .region [
 ⟨(some 6), .mv (.t 0), none⟩,
⟨(some 7), .build [.nilsl, (.i .i64 0), (.i .i64 0)] [(0, 1, (.t 6)), (2, 1, (.c (.i .i64 (-1))))], none⟩,
⟨(some 8), .box (.t 7) true, none⟩,
⟨(some 4), .mv (.t 8), none⟩]) (
.seq ( .region [
 ⟨(some 9), .mv (.t 4), none⟩,
⟨(some 10), .callf 235 [(.t 9)], none⟩,
⟨(some 5), .alloc [(.i .i64 0), (.i .i64 0), (.s []), .nilsl] false, none⟩,
⟨none, .st (.t 5) (.t 10) 4, none⟩]) (
.seq (
.seq ( .region [
 ⟨(some 11), .mv (.t 4), none⟩,
⟨(some 12), .nck (.t 11), none⟩,
⟨(some 13), .fa (.t 12) 2, none⟩,
⟨(some 14), .ld (.t 13) 1 false, none⟩,
⟨(some 15), .bin .lss (.t 14) (.c (.i .i64 0)), none⟩,
⟨(some 16), .mv (.t 15), none⟩,
⟨(some 17), .mv (.t 4), (some (16, true))⟩,
⟨(some 18), .nck (.t 17), (some (16, true))⟩,
⟨(some 19), .fa (.t 18) 1, (some (16, true))⟩,
⟨(some 20), .ld (.t 19) 1 false, (some (16, true))⟩,
⟨(some 21), .mv (.t 0), (some (16, true))⟩,
⟨(some 22), .lenV (.t 21), (some (16, true))⟩,
⟨(some 23), .bin .lss (.t 20) (.t 22), (some (16, true))⟩,
⟨(some 24), .pick (.t 16) (.t 23) (.c (.b false)), none⟩]) ( .cond (.t 24) ( .region [
 ⟨(some 25), .mv (.t 4), none⟩,
⟨(some 26), .callf 236 [(.t 25)], none⟩]) ( .skip))) (
.seq ( .draws [ ([], ⟨(some 27), .ld (.t 5) 4 true, none⟩),
([], ⟨(some 28), .mv (.t 4), none⟩),
([], ⟨(some 29), .nck (.t 28), none⟩),
([], ⟨(some 30), .fa (.t 29) 2, none⟩),
([0], ⟨(some 31), .ld (.t 30) 1 false, none⟩),
([4], ⟨none, .st (.t 2) (.t 27) 4, none⟩),
([], ⟨(some 3), .mv (.t 31), none⟩)]) ( .ret))))), [.cell 2 4 true, .tmp 3], false⟩
theorem k194 : CodeOk Tryz.prog 194 c194 := codeOk (hs := [8]) Tryz.func194 (by kernel_rfl)
def c195 : AFunc := ⟨10,
.seq ( .region [
 ⟨(some 2), .mv (.c (.i .i64 0)), none⟩]) (
.seq (
.seq ( .region [
 ⟨(some 3), .mv (.t 0), none⟩]) ( .block 0 (
.seq ( .region [
 ⟨(some 5), .bin .eql (.t 3) (.c (.s [100, 117, 116, 121])), none⟩,
⟨(some 4), .mv (.t 5), none⟩]) ( .cond (.t 4) (
.seq ( .region [
 ⟨(some 2), .mv (.c (.i .i64 1)), none⟩]) ( .ret)) (
.seq ( .region [
 ⟨(some 7), .bin .eql (.t 3) (.c (.s [114, 101, 115, 116])), none⟩,
⟨(some 6), .mv (.t 7), none⟩]) ( .cond (.t 6) (
.seq ( .region [
 ⟨(some 2), .mv (.c (.i .i64 2)), none⟩]) ( .ret)) (
.seq ( .region [
 ⟨(some 9), .bin .eql (.t 3) (.c (.s [112, 97, 105, 114, 105, 110, 103])), none⟩,
⟨(some 8), .mv (.t 9), none⟩]) ( .cond (.t 8) (
.seq ( .region [
 ⟨(some 2), .mv (.c (.i .i64 3)), none⟩]) ( .ret)) ( .skip))))))))) (
.seq ( .region [
 ⟨(some 2), .mv (.c (.i .i64 0)), none⟩]) ( .ret))), [.tmp 2], false⟩
theorem k195 : CodeOk Tryz.prog 195 c195 := codeOk (hs := []) Tryz.func195 (by kernel_rfl)
def c196 : AFunc := ⟨13,
.seq ( .region [
 ⟨(some 2), .mv (.c (.i .i64 0)), none⟩]) (
.seq (
.seq ( .region [
 ⟨(some 3), .mv (.t 0), none⟩]) ( .block 0 (
.seq (
.seq ( .region [
 ⟨(some 5), .bin .eql (.t 3) (.c (.s [98, 108, 111, 99, 107])), none⟩,
⟨(some 4), .mv (.t 5), none⟩]) ( .cond (.t 4) ( .skip) (
.seq ( .region [
 ⟨(some 6), .bin .eql (.t 3) (.c (.s [115, 112, 97, 110])), none⟩,
⟨(some 4), .mv (.t 6), none⟩]) ( .cond (.t 4) ( .skip) (
.seq ( .region [
 ⟨(some 7), .bin .eql (.t 3) (.c (.s [110, 105, 103, 104, 116])), none⟩,
⟨(some 4), .mv (.t 7), none⟩]) ( .cond (.t 4) ( .skip) ( .region [
 ⟨(some 8), .bin .eql (.t 3) (.c (.s [99, 114, 101, 100, 105, 116])), none⟩,
⟨(some 4), .mv (.t 8), none⟩]))))))) ( .cond (.t 4) (
.seq ( .region [
 ⟨(some 2), .mv (.c (.i .i64 2)), none⟩]) ( .ret)) (
.seq (
.seq ( .region [
 ⟨(some 10), .bin .eql (.t 3) (.c (.s [108, 101, 103, 115])), none⟩,
⟨(some 9), .mv (.t 10), none⟩]) ( .cond (.t 9) ( .skip) (
.seq ( .region [
 ⟨(some 11), .bin .eql (.t 3) (.c (.s [104, 101, 97, 100, 115])), none⟩,
⟨(some 9), .mv (.t 11), none⟩]) ( .cond (.t 9) ( .skip) ( .region [
 ⟨(some 12), .bin .eql (.t 3) (.c (.s [100, 117, 116, 105, 101, 115])), none⟩,
⟨(some 9), .mv (.t 12), none⟩]))))) ( .cond (.t 9) (
.seq ( .region [
 ⟨(some 2), .mv (.c (.i .i64 1)), none⟩]) ( .ret)) ( .skip))))))) (
.seq ( .region [
 ⟨(some 2), .mv (.c (.i .i64 0)), none⟩]) ( .ret))), [.tmp 2], false⟩
theorem k196 : CodeOk Tryz.prog 196 c196 := codeOk (hs := []) Tryz.func196 (by kernel_rfl)
end Go.Proofs.YtfenhjpkomldcaaGreat
