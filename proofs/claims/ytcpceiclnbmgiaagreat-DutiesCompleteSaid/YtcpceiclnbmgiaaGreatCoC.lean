/- The codes of functions of the program, as the evaluator reads them; that each is what its compiler makes of the model's function. Conditions: none. -/
import Derived.Test.YtcpceiclnbmgiaaGreatCoN
import Derived.Test.YtcpceiclnbmgiaaGreatChecked
import Derived.KernelRfl
set_option maxRecDepth 100000
namespace Go.Proofs.YtcpceiclnbmgiaaGreat
open Go Go.Ev
def T9:ib:=dR 16 [gW] [fA,cM 6,av 7 122 [ie,gI,cQ],eq 8,ij 9 8,bC 10 1 8,aH 11 (bE 9 10 4) 8,ek 12 11 1 8,dN 13 12 8,cP 14 130 [.t 13] 8,cZ 15 8 14,dl 15] [cI]
theorem anU:jo 124 T9:=iD Tryz.func124 (by kernel_rfl)
def QL:ib:=dR 28 [gG] [cM 7,fC,bU 9 8,bV 10 7 9,dM 11,ij 12 11,bC 13 1 11,aH 14 (bE 12 13 4) 11,ek 15 14 0 11,dN 16 15 11,eJ 17 16 cQ 11,cZ 18 11 17,ag 19 18,ij 20 19,bC 21 1 19,aH 22 (bE 20 21 4) 19,ek 23 22 1 19,dN 24 23 19,gy 25 19,eJ 26 24 (.t 25) 19,cZ 27 19 26,dV 27] [dX]
theorem anV:jo 125 QL:=iD Tryz.func125 (by kernel_rfl)
def ag2:ib:=cD 32 [b5 2 [aE,aE,br,.nilsl],fL] (ad [gV,cq 7 [.nilsl,aE,aE] [dU 0 6,dP 2 1 (-1)],ab 8 (.box gJ true),dl 8] (bB [gE 4,av 10 173 [fk],b5 5 [aE,aE,br,.nilsl],fg 5 10] [fE 4,cu 12 11,eF 13 12,bG 14 13,eh 15 14 0,gx 16,bC 17 4 16,aH 18 (bg 17) 16,ek 19 18 1 16,dN 20 19 16,ij 21 16,aH 22 (aX 21) 16,cw 23 .lss 20 fI 16,cZ 24 16 23] (aN 24 (dw 25 4 [av 26 174 [.t 25]])) (cp [gX 27 5 4,b4 28 4,cY 29 28,bD 30 29 2,cE [0] 31 30,([4],fg 2 27),b4 3 31] .ret))) [dJ 2 4,ic]
theorem anW:jo 126 ag2:=codeOk (hs:=[8]) Tryz.func126 (by kernel_rfl)
def JP:ib:=fK 10 [dB] [eU] (bo 0 [fQ 5 [100,117,116,121],dl 5] (eK 4 [fB] [fQ 7 [114,101,115,116],dV 7] (eY 6 [ev 2] (cG [fQ 9 [112,97,105,114,105,110,103],eu 8] 8 [ev 3])))) [dB] [cF]
theorem anX:jo 127 JP:=iD Tryz.func127 (by kernel_rfl)
def Ua:ib:=fK 13 [dB] [eU] (fe 0 [fQ 5 [98,108,111,99,107],dl 5] (dz 4 [fQ 6 [115,112,97,110],dl 6] (dz 4 [fQ 7 [110,105,103,104,116],dl 7] (eM 4 (fQ 8 [99,114,101,100,105,116]) [dl 8]))) (eY 4 [ev 2] (aA [fQ 10 [108,101,103,115],dM 9] (dz 9 [fQ 11 [104,101,97,100,115],eo 9] (eM 9 (fQ 12 [100,117,116,105,101,115]) [es 9])) (bh 9 [fB])))) [dB] [cF]
theorem anY:jo 128 Ua:=iD Tryz.func128 (by kernel_rfl)
def Ub:ib:=dR 15 [gG] [bM 7,cM 8,bj 9 .geq 7 8,eu 10,ij 11 10,gy 12 10,gb 13 11 gQ 10,cZ 14 10 13,dV 14] [dX]
theorem anZ:jo 129 Ub:=iD Tryz.func129 (by kernel_rfl)
def Uc:ib:=dR 10 [dH] [eU,av 4 175 [.t 3],fm 4,ij 6 5,cP 7 176 [gI] 5,aH 8 (bY 7) 5,cZ 9 5 8,eu 2] [cF]
theorem an0:jo 130 Uc:=iD Tryz.func130 (by kernel_rfl)
def Mt:ib:=cD 19 [gO 1,dB] (eG [fO 6 1,av 7 177 [gI],eq 5,eS 8 5,eQ 9 5,eD 3,dl 9] [en 10,ee 11 10 200,eo 12,cz 13 4 12,fj 14 13 16 12,dx 15 12 14] (bh 15 [ev 10]) [fO 16 1,av 17 178 [eE],cN 18 17] (bh 18 [fB]) [dB]) [cF]
theorem an1:jo 131 Mt:=iD Tryz.func131 (by kernel_rfl)
def yf:dE:=dL [eu 86,d9 87,bV 88 86 87] 88 8 (gH 9 (cp [bD 91 1 12,cJ 92 91,b4 93 9,ec 94 92 93 3,bD 95 94 0,cJ 96 95,bD 97 7 0,cE [1,5] 98 97,cj (ig 99 96 98)] (bh 99 [ev 7])) [eu 89,dq 90 89,gE 90])
theorem F5:mj (j2 (.loop yf))=1267573228975774065229522010628:=nr rfl
def yg:dE:=dL [eD 70,ge 71 11,bG 72 71,bU 73 72,bV 74 70 73] 74 6 (gH 7 (cp [bD 77 1 11,cJ 78 77,b4 79 8,ec 80 78 79 4,bD 81 80 0,cJ 82 81,bD 83 7 0,cE [1,5] 84 83,cj (ig 85 82 84)] (bh 85 [ev 7])) [eD 75,dq 76 75,gY 76])
theorem F6:mj (j2 (.loop yg))=77370071863715549769892100:=nr rfl
def yh:dE:=dL [d9 54,ge 55 12,bG 56 55,bU 57 56,bV 58 54 57] 58 4 (ci 5 [ge 61 12,bG 62 61,d9 63,cg 64 62 63 3,bH 65 64 3,b5 7 [br,aE,aE],bn 7 65 3] (gv [dZ 66 7,bG 67 66,av 68 130 [.t 67],cN 69 68] 69 [fB] (gt [fi] 6 yg (gt [gm] 8 yf (cG [eF 100 7,bG 101 100,av 102 129 [.t 101,cQ,ai 31],cN 103 102,ag 104 103,dk 105 7 1 104,dh 106 105 104,dk 107 7 2 104,dh 108 107 104,dj 109 129 [.t 106,cQ,.t 108] 104,ew 110 109 104,dx 111 104 110] 111 [ev 5])))) [d9 59,dq 60 59,dV 60])
theorem QM:mj (j2 (.loop yh))=5192296858534827610516097819739076:=nr rfl
def yi:dE:=dL [eC 26,en 27,bV 28 26 27] 28 2 (gH 3 (cp [bD 31 1 11,cJ 32 31,b4 33 5,ec 34 32 33 4,bD 35 34 0,cJ 36 35,bD 37 4 0,cE [1,5] 38 37,cj (ig 39 36 38)] (bh 39 [ev 7])) [eC 29,dq 30 29,fm 30])
theorem F7:mj (j2 (.loop yi))=1099444518948:=nr rfl
def yj:dE:=dL [en 10,ge 11 11,bG 12 11,bU 13 12,bV 14 10 13] 14 0 (ci 1 [ge 17 11,bG 18 17,en 19,cg 20 18 19 4,fO 21 20,b5 4 [br,br,aE,aE],fg 4 21] (gv [dZ 22 4,bG 23 22,av 24 130 [gN],cN 25 24] 25 [fB] (gt [fW] 2 yi (gv [eI 40 4,bG 41 40,av 42 128 [.t 41],bF 43 42 0] 43 [ev 6] (cG [eF 44 4,bG 45 44,av 46 129 [.t 45,dA,ai 599999],cN 47 46,ag 48 47,dk 49 4 3 48,dh 50 49 48,dj 51 129 [.t 50,cQ,ai 31] 48,ew 52 51 48,dx 53 48 52] 53 [ev 5])))) [en 15,dq 16 15,ag 3 16])
theorem F8:mj (j2 (.loop yj))=18014398509481020:=nr rfl
def Ud:ib:=bt 112 (eG [gO 1,dB] [fL] (eP yj) [fb] (aR 4 yh) [dB]) [cF]
theorem an2:jo 132 Ud:=iD Tryz.func132 (by kernel_rfl)
def yk:dE:=cW [bV 16 15 14] 16 0 1 [gx 17,ag 3 17] (ad [bM 18,en 19,ab 20 (dF 18 fJ),dl 20] (bo 2 [ag 22 4,aq 23 .geq 22 (dK 97),ag 24 23,bC 25 4 24,gb 26 25 (dK 122) 24,cZ 27 24 26,ag 21 27] (dz 21 [en 29,ee 30 29 0,ag 31 30,bC 32 4 31,cw 33 .geq 32 (dK 48) 31,bC 34 33 31,bC 35 4 34,gb 36 35 (dK 57) 34,aH 37 (gn 34 36 aZ) 31,bC 38 37 31,cz 39 4 38,di 40 .eql 39 (dK 95) 38,aH 41 (aM 38 bK gK) 31,cZ 42 31 41,ag 28 42] (aY 28 (aC [dH]))))) [dq 43 15,gF 43]
theorem QN:mj (j2 (.loop yk))=17592186011676:=nr rfl
def QO:ib:=bt 44 (eG [dH] [fA,eA 6 5,eh 7 6 1,eq 8,cz 9 0 8,aG 10 (cS 9) 8,fj 11 10 16 8,dx 12 8 11] (bh 12 [dH]) [bM 13,eA 14 13,bO 15] (eP yk) [ae 2 bK]) [cF]
theorem an3:jo 133 QO:=iD Tryz.func133 (by kernel_rfl)
def Ue:ib:=dR 9 [dH] [eU,gh 4 3 (-840),fm 4,ij 6 5,gb 7 6 (ai 840) 5,cZ 8 5 7,eD 2] [cF]
theorem an4:jo 134 Ue:=iD Tryz.func134 (by kernel_rfl)
def Uf:ib:=dR 9 [dH] [eU,gh 4 3 0,fm 4,ij 6 5,cw 7 .lss 6 (ai 52596000) 5,cZ 8 5 7,eD 2] [cF]
theorem an5:jo 135 Uf:=iD Tryz.func135 (by kernel_rfl)
def yl:dE:=cW [bV 16 15 14] 16 0 1 [gx 17,ag 3 17] (ad [bM 18,en 19,ab 20 (dF 18 fJ),dl 20] (cG [ag 21 4,aq 22 .geq 21 (dK 65),ag 23 22,bC 24 4 23,gb 25 24 (dK 90) 23,cZ 26 23 25,ag 27 26,cz 28 4 27,di 29 .geq 28 (dK 48) 27,cz 30 29 27,bC 31 4 30,gb 32 31 (dK 57) 30,aG 33 (gn 30 32 aZ) 27,dx 34 27 33,cN 35 34] 35 [dH])) [dq 36 15,gF 36]
theorem QP:mj (j2 (.loop yl))=137438920732:=nr rfl
def QQ:ib:=bt 37 (eG [dH] [fA,eA 6 5,eh 7 6 1,eq 8,cz 9 0 8,aG 10 (cS 9) 8,fj 11 10 8 8,dx 12 8 11] (bh 12 [dH]) [bM 13,eA 14 13,bO 15] (eP yl) [ae 2 bK]) [cF]
theorem an6:jo 136 QQ:=iD Tryz.func136 (by kernel_rfl)
def Ug:ib:=dR 15 [gG] [bM 7,cM 8,bj 9 .geq 7 8,eu 10,ij 11 10,gy 12 10,gb 13 11 gQ 10,cZ 14 10 13,dV 14] [dX]
theorem an7:jo 137 Ug:=iD Tryz.func137 (by kernel_rfl)
def vJ:dE:=cW [bV 11 10 9] 11 0 1 [cg 12 8 10 5,bH 13 12 5,b5 5 [br,aE,aE,br,.nilsl],bn 5 13 5] (gv [dZ 14 5,bG 15 14,av 16 179 [eN],cN 17 16] 17 [fB] (gv [en 18,dZ 19 5,bG 20 19,ab 21 (.lk dm fZ (.t 20) aI false)] 21 [ev 7] (ga [en 22,dZ 23 5,bG 24 23,fP none (.mu dm fI eZ bK)] [eI 25 5,fO 26 25,av 27 141 [fY],dV 27] (cG [d9 28,fG 29 28] 29 [d9 30,fN 30])))) [dq 31 10,fM 31]
theorem QR:mj (j2 (.loop vJ))=4294966372:=nr rfl
def Uh:ib:=cD 32 [dB] (cV [fu 7 false,eq 3] [fC,bU 9 8,bO 10] (eP vJ) [dB]) [cF]
theorem an8:jo 138 Uh:=iD Tryz.func138 (by kernel_rfl)
def vK:dE:=cW [bV 12 11 10] 12 0 1 [cg 13 9 11 6,bH 14 13 6,b5 5 [aE,br,aE,aE,br,.nilsl],bn 5 14 6] (gv [dZ 15 5,bG 16 15,av 17 140 [eE],cN 18 17,ag 19 18,dk 20 5 1 19,dh 21 20 19,dj 22 179 [.t 21] 19,ew 23 22 19,dx 24 19 23] 24 [fB] (gf [dZ 25 5,bG 26 25,eI 27 5,bG 28 27,cq 29 [aE,br] [dU 0 26,dU 1 28],b5 6 [aE,br],bn 6 29 2] [en 30,bH 31 6 2,ab 32 (.lk (.flat [.int,.str]) gL fH aI false)] 32 [ev 7] (ga [en 33,bH 34 6 2,fP none (.mu (.flat [.int,.str]) (.t 33) gU bK)] [eF 35 5,fO 36 35,av 37 141 [.t 36],ag 7 37] (cG [eq 38,fG 39 38] 39 [eq 40,fN 40])))) [dq 41 11,fE 41]
theorem QS:mj (j2 (.loop vK))=4398046509284:=nr rfl
def Ui:ib:=cD 42 [dB] (cV [fu 8 false,eD 3] [bM 9,bU 10 9,bO 11] (eP vK) [dB]) [cF]
theorem an9:jo 139 Ui:=iD Tryz.func139 (by kernel_rfl)
def Uj:ib:=dR 5 [dH] [eU,av 4 137 [.t 3,cQ,gz],fN 4] [cF]
theorem aoa:jo 140 Uj:=iD Tryz.func140 (by kernel_rfl)
def QT:ib:=cD 10 [gO 1,dB] (eG [ab 3 (gc [aE]),bf 3 dA 1] [fO 4 1,av 5 180 [.t 4,cQ,.t 3],cN 6 5] (bh 6 [ev 10]) [fO 7 1,av 8 181 [gJ],cN 9 8] (bh 9 [fB]) [dB]) [cF]
theorem aob:jo 141 QT:=codeOk (hs:=[3]) Tryz.func141 (by kernel_rfl)
def vL:dE:=cW [bV 50 49 48] 50 3 4 [cg 51 47 49 3,bH 52 51 3,b5 7 [br,aE,aE],bn 7 52 3] (ci 5 [dZ 54 7,bG 55 54,av 56 179 [.t 55],cN 57 56,ag 53 57] (eK 53 [fB] [en 59,dZ 60 7,bG 61 60,ab 62 (.lk dm (.t 59) (.t 61) aI false),ag 58 62] (eY 58 [ev 7] (cG [eF 64 7,bG 65 64,av 66 137 [.t 65,cQ,ai 31],cN 67 66,ag 68 67,dk 69 7 1 68,dh 70 69 68,dk 71 7 2 68,dh 72 71 68,dj 73 137 [.t 70,cQ,.t 72] 68,ew 74 73 68,dx 75 68 74,ag 63 75] 63 [ev 5]))) [en 76,dZ 77 7,bG 78 77,fP none (.mu dm (.t 76) (.t 78) bK)]) [dq 79 49,ag 49 79]
theorem QU:mj (j2 (.loop vL))=1208925819051679221284996:=nr rfl
def vM:dE:=cW [bV 13 12 11] 13 0 1 [cg 14 10 12 4,fO 15 14,b5 5 [br,br,aE,aE],fg 5 15] (ci 2 [dZ 17 5,bG 18 17,av 19 179 [fZ],cN 20 19,ag 16 20] (eK 16 [fB] [en 22,dZ 23 5,bG 24 23,ab 25 (.lk dm fI eZ aI false),ag 21 25] (eK 21 [ev 7] [eI 27 5,bG 28 27,av 29 182 [fX],bF 30 29 0,ag 26 30] (eY 26 [ev 6] (cG [eF 32 5,bG 33 32,av 34 137 [.t 33,dA,ai 599999],cN 35 34,ag 36 35,dk 37 5 3 36,dh 38 37 36,dj 39 137 [.t 38,cQ,ai 31] 36,ew 40 39 36,dx 41 36 40,ag 31 41] 31 [ev 5])))) [en 42,dZ 43 5,bG 44 43,fP none (.mu dm (.t 42) (.t 44) bK)]) [dq 45 12,ag 12 45]
theorem F9:mj (j2 (.loop vM))=70368744173604:=nr rfl
def Uk:ib:=cD 80 [gO 1,dB] (eG [fu 8 false,eD 3] [ge 9 11,bG 10 9,bU 11 10,bO 12] (eP vM) [ge 46 12,bG 47 46,bU 48 47,bO 49] (aR 3 vL) [dB]) [cF]
theorem aoc:jo 142 Uk:=iD Tryz.func142 (by kernel_rfl)
def Ul:ib:=fK 18 [dB] [eU] (fe 0 [fQ 5 [108,101,103,115],dl 5] (dz 4 [fQ 6 [104,101,97,100,115],dl 6] (eM 4 (fQ 7 [116,121,112,101,115]) [dl 7])) (eY 4 [fB] (aA [fQ 9 [98,108,111,99,107],eu 8] (dz 8 [fQ 10 [115,112,97,110],dM 8] (dz 8 [fQ 11 [110,105,103,104,116],eo 8] (dz 8 [fQ 12 [108,111,110,103,101,115,116],es 8] (dz 8 [fQ 13 [115,104,111,114,116,101,115,116],fR 8] (eM 8 (fQ 14 [115,104,105,102,116]) [gY 14]))))) (eY 8 [ev 2] (aA [fQ 16 [115,116,97,114,116],gF 16] (eM 15 (fQ 17 [101,110,100]) [gF 17]) (bh 15 [ev 3])))))) [dB] [cF]
theorem aod:jo 143 Ul:=iD Tryz.func143 (by kernel_rfl)
def Mu:ib:=bt 30 (dt [dB] [bM 7] (bo 0 [db 9 7 [114,101,115,116],eu 8] (eK 8 [ev 2] [db 11 7 [110,105,103,104,116,115],eo 10] (eY 10 [fB] (cG [db 13 7 [104,111,109,101],fR 12] 12 [ev 4])))) [bM 15,av 16 183 [eN,aU [98,101,102,111,114,101,46]],ag 14 16,eS 17 14,eQ 18 14,ag 3 17,dl 18] (cG [ag 19 4] 19 [en 20,av 21 143 [.t 20],fN 21]) (aA [bM 23,av 24 183 [gN,aU [97,102,116,101,114,46]],ag 22 24,eS 25 22,eQ 26 22,fm 25,dV 26] (cG [d9 27] 27 [eC 28,av 29 143 [fX],fN 29]) (aC [dB]))) [cF]
theorem aoe:jo 144 Mu:=iD Tryz.func144 (by kernel_rfl)
def Um:ib:=fK 13 [dB] [eU] (fe 0 [fQ 5 [100,117,116,105,101,115],dl 5] (dz 4 [fQ 6 [108,101,103,115],dl 6] (dz 4 [fQ 7 [104,101,97,100,115],dl 7] (eM 4 (fQ 8 [100,97,121,115]) [dl 8]))) (eY 4 [fB] (aA [fQ 10 [98,108,111,99,107],dM 9] (dz 9 [fQ 11 [115,112,97,110],eo 9] (eM 9 (fQ 12 [99,114,101,100,105,116]) [es 9])) (bh 9 [ev 2])))) [dB] [cF]
theorem aof:jo 145 Um:=iD Tryz.func145 (by kernel_rfl)
def QV:ib:=eW 23 (cV [dg 7 3,fi,gm] [fO 11 7,av 12 141 [fV],es 10] (cG [dM 13,fG 14 13] 14 [dM 15,fi,gx 9]) [gZ,cM 17,em 18,fO 19 7,av 20 184 [eE,gM,fZ,fJ],eS 21 20,eQ 22 20,gY 21,gE 22]) [hU,.tmp 9]
theorem aog:jo 146 QV:=iD Tryz.func146 (by kernel_rfl)
def wk:ib:=cD 31 [dD] (eG [fC,av 9 200 [fF],cM 10,av 11 200 [gp],av 12 199 [fk,fV],es 7,eS 13 7,eQ 14 7,fm 13,dV 14] [eC 15,aq 16 .neq 15 (fq 0),ag 17 16,cz 18 6 17,ed 19 18 (fq 1099511627776) 17,dx 20 17 19] (aN 20 (ce (ae 6 (fq 1099511627776)) [])) [bM 21,eh 22 21 0,cM 23,eh 24 23 0,ab 25 (.eq true (.one .bool) fI eZ)] (bh 25 [d9 26,ab 27 (.cvi .i64 fY),ab 28 (bJ .neg 27),dl 28]) [d9 29,ab 30 (.cvi .i64 fS),dl 30]) [cI]
theorem aoh:jo 162 wk:=iD Tryz.func162 (by kernel_rfl)
def Mv:ib:=bt 31 (bB [dD] [cM 6] (bo 0 [bF 8 6 0,eD 7] (eY 7 [dD] (cG [bF 10 6 (-1),dM 9] 9 [hZ,av 12 162 [fV,ai (-1)],dl 12]))) (cV [bM 13,cM 14,bj 15 .quo 13 14,fm 15] [gZ,cM 17,bj 18 .rem 16 17,fG 19 18,ag 20 19,ij 21 20,cw 22 .lss 21 dA 20,bC 23 1 20,cw 24 .lss 23 dA 20,aH 25 (.eq true (.one .bool) fI eZ) 20,cZ 26 20 25] (aN 26 (dw 27 5 [aD 28 .sub 27 1,fm 28])) [eC 29,av 30 109 [fS],dl 30])) [cI]
theorem aoi:jo 163 Mv:=iD Tryz.func163 (by kernel_rfl)
def Un:ib:=bt 28 (eG [gO 4,dg 5 1,fi] [bH 10 4 3,av 11 84 [gp],eo 9] (cG [eu 12,fG 13 12] 13 [eu 14,gY 14]) [bH 15 5 2,av 16 201 [eN],cN 17 16,gw 17,cz 19 2 18,dj 20 202 [fJ] 18,ew 21 20 18,dx 22 18 21,ag 23 22,cz 24 3 23,dj 25 202 [eZ] 23,ew 26 25 23,dx 27 23 26] (bh 27 [aF 8 5]) [fi]) [hU]
theorem aoj:jo 164 Un:=iD Tryz.func164 (by kernel_rfl)
def m7:dE:=dL [ag 59 18,ag 60 16,bj 61 .leq 59 60] 61 2 (ci 3 [ag 64 18,aD 65 .mul 64 1440,em 66,dG 67 65 66,eF 68 13,bG 69 68,bj 70 .sub 67 69,ag 19 70] (cp [b4 71 19,bD 72 13 0,cJ 73 72,bq 74 (.mm true [.t 71,.t 73]),b4 75 19,b4 76 10,cj (dG 77 75 76),bD 78 13 1,cE [2] 79 78,bq 80 (.mm false [.t 77,.t 79]),b4 20 74,b4 21 80] (aA [ag 81 20,ag 82 21,bj 83 .geq 81 82] (aN 83 (.exit 3)) (ga [eo 84,bU 85 84,ag 22 85] [ag 86 22,ee 87 86 0,ag 88 87,bC 89 11 88,bC 90 22 88,cw 91 .sub 90 cQ 88,aH 92 (bE 89 91 2) 88,ek 93 92 1 88,dN 94 93 88,bC 95 20 88,eJ 96 94 (.t 95) 88,cZ 97 88 96] (am 97 (dw 98 11 [ag 99 22,aD 100 .sub 99 1,ag 101 21,cg 102 98 100 2,eI 103 102,gk 103 101]) (dw 104 11 [ag 105 20,ag 106 21,cq 107 [aE,aE] [dU 0 105,dU 1 106],de 108 [aE,aE] 1 [fw 107],ab 109 (eO 2 16 104 108),fE 109]))))) [ag 62 18,dq 63 62,gw 63])
def ph:dE:=cW [bV 35 34 33] 35 0 1 [cg 36 32 34 3,bH 37 36 3,b5 13 [aE,aE,aE],bn 13 37 3] (ga [dZ 39 13,bG 40 39,eF 41 13,bG 42 41,dG 43 40 42,av 44 168 [.t 43],ag 38 44,eS 45 38,eQ 46 38,ag 14 45,gF 46] [eI 48 13,bG 49 48,aD 50 .sub 49 1,eF 51 13,bG 52 51,dG 53 50 52,av 54 168 [.t 53],ag 47 54,eS 55 47,eQ 56 47,ag 16 55,ag 17 56] (ad [ag 57 14,aD 58 .sub 57 1,gw 58] (aR 2 m7))) [dq 110 34,ag 34 110]
def QW:ib:=cD 113 [gO 4,dg 5 1,dY 8,gm] (gf [en 23,em 24,bj 25 .sub 23 24,bL 26 25 1440,eV 27 26 1440,fM 27] [dM 28,bF 29 28 0] 29 [dY 8,gm] (cV [dY 11] [bH 30 4 3,bH 31 5 2,av 32 203 [gL,fH],bU 33 32,bO 34] (eP ph) [eo 111,dM 112,gY 111,gE 112])) [hU,.tmp 9]
theorem aok:jo 165 QW:=iD Tryz.func165 (by kernel_rfl)
def vN:dE:=cW [bV 14 13 12] 14 0 1 [cg 15 11 13 2,bH 16 15 2,b5 7 [aE,aE],bn 7 16 2] (aA [dZ 17 7,bG 18 17,cM 19,bj 20 .gtr 18 19] (aN 20 (.exit 0)) (ce (eI 21 7) [bG 22 21,fm 22])) [dq 23 13,ag 13 23]
def Uo:ib:=cD 25 [gO 2,dD] (cV [eI 8 2,bG 9 8,eu 5] [eF 10 2,bG 11 10,bU 12 11,bO 13] (eP vN) [eC 24,dl 24]) [cI]
theorem aol:jo 166 Uo:=iD Tryz.func166 (by kernel_rfl)
def Uq:ib:=cD 20 [gO 2,dD,fW] (cV [bH 9 2 3,cM 10,av 11 117 [fk,gp],eo 8,eS 12 8,eQ 13 8,dV 12,fR 7] [eq 14,fG 15 14] (bh 15 [eq 16,dD,fm 16]) [cM 17,d9 18,dG 19 17 18,dl 19,fW]) [cI,fD]
theorem aom:jo 167 Uq:=iD Tryz.func167 (by kernel_rfl)
def QX:ib:=cD 16 [dB,fL] (cV [bM 4,aD 5 .quo 4 1440,gV,eV 7 6 1440,eC 2,eq 3] [en 8,eh 9 8 0] (aN 9 (ad [em 10,aD 11 .sub 10 1,eo 2] (dw 12 3 [bL 13 12 1440,fR 3]))) [em 14,en 15,fN 14,gx 3]) [cF,ic]
theorem aon:jo 168 QX:=iD Tryz.func168 (by kernel_rfl)
def rq:dE:=dL [dV 5,bM 7,eA 8 7,bV 9 6 8] 9 0 (ci 1 [bM 12,eC 13,ab 14 (dF 12 (.t 13)),cM 15,ig 16 14 15] (bh 16 [eC 17,dl 17]) [eC 10,dq 11 10,eo 5])
def QY:ib:=fK 18 [dD] [fW] (eP rq) [aF 4 (-1)] [cI]
theorem aoo:jo 169 QY:=iD Tryz.func169 (by kernel_rfl)
def aoq:ib:=bt 44 (gf [dB,fL] [fC,eA 9 8,dr 10 9 5,dM 11,cz 12 0 11,aG 13 (dF 12 dS) 11,di 14 .neq 13 (dK 58) 11,dx 15 11 14] 15 [dB,ii 3] (ad [bM 17,ab 18 (eX 17 none (some dS)),av 19 172 [fZ,dS,dS],ag 16 19,eS 20 16,eQ 21 16,dl 20,fm 21] (eG [bM 23,ab 24 (eX 23 (some gz) none),av 25 172 [eZ,dS,dS],ag 22 25,eS 26 22,eQ 27 22,dV 26,ag 7 27] [eC 28,cN 29 28,ag 30 29,cz 31 7 30,ew 32 31 30,dx 33 30 32] (bh 33 [dB,ii 3]) [ag 34 4,ee 35 34 23,ag 36 35,cz 37 6 36,fj 38 37 59 36,dx 39 36 38] (bh 39 [dB,aF 3 5]) [ag 40 4,ab 41 (eL .mul (ai 60) 40),d9 42,dG 43 41 42,fN 43,fL]))) [cF,ic]
theorem aor:jo 170 aoq:=iD Tryz.func170 (by kernel_rfl)
def aos:ib:=cD 86 [dB,fL] (bB [hZ,eA 12 11,ee 13 12 0,fR 14,ij 15 14,aH 16 (dF 15 dA) 14,eJ 17 16 (dK 45) 14,cZ 18 14 17,dl 18] [ag 19 4] (aN 19 (ce (bM 20) [ab 21 (eX 20 (some cQ) none),ag 0 21])) (gf [bM 22,eA 23 22,aD 24 .sub 23 3,fm 24] [eC 25,eh 26 25 1,ag 27 26,cz 28 0 27,cz 29 5 27,aG 30 (dF 28 fS) 27,di 31 .neq 30 (dK 58) 27,dx 32 27 31] 32 [dB,ii 3] (ad [bM 34,eC 35,ab 36 (eX 34 none (fd 35)),av 37 172 [.t 36,cQ,ai 11],ag 33 37,eS 38 33,eQ 39 33,dV 38,ag 7 39] (gf [bM 41,eC 42,dq 43 42,ab 44 (eX 41 (fd 43) none),av 45 172 [.t 44,dS,dS],ag 40 45,eS 46 40,eQ 47 40,gY 46,gE 47] [eq 48,cN 49 48,ag 50 49,cz 51 9 50,ew 52 51 50,dx 53 50 52,ag 54 53,cz 55 0 54,cz 56 5 54,aG 57 (eX 55 none (fd 56)) 54,dj 58 204 [.t 57] 54,ew 59 58 54,dx 60 54 59,ag 61 60,cz 62 4 61,cz 63 62 61,bC 64 6 63,eJ 65 64 dA 63,aG 66 (gn 63 65 aZ) 61,cz 67 66 61,bC 68 8 67,eJ 69 68 dA 67,aG 70 (gn 67 69 aZ) 61,dx 71 61 70] 71 [dB,ii 3] (eG [d9 72,ab 73 (eL .mul (ai 60) 72),eD 74,dG 75 73 74,fM 75] [eD 76,ee 77 76 59,ag 78 77,cz 79 10 78,fj 80 79 1099511627776 78,dx 81 78 80] (bh 81 [dB,aF 3 5]) [ag 82 4] (aN 82 (dw 83 10 [ab 84 (bJ .neg 83),fM 84])) [dM 85,fN 85,fL]))))) [cF,ic]
theorem aot:jo 171 aos:=iD Tryz.func171 (by kernel_rfl)
def aac:dE:=dL [eu 20,bM 21,eA 22 21,bV 23 20 22] 23 0 (aV (fe 1 [bM 26,eu 27,ab 28 (dF 26 gD),av 29 205 [fX],cN 30 29] (bh 30 [fb,cU 7]) (dw 31 8 [ab 32 (eL .mul (ai 10) 31),bM 33,eu 34,ab 35 (dF 33 gU),aq 36 .sub 35 (dK 48),ab 37 (.cvi .i64 (.t 36)),dG 38 32 37,gY 38])) [eu 24,dq 25 24,gE 25])
def aou:ib:=bt 40 (gf [fb,cU 7] [bM 10,eA 11 10,cM 12,bV 13 11 12,fR 14,cz 15 0 14,aG 16 (cS 15) 14,cz 17 2 14,ed 18 16 gM 14,dx 19 14 18] 19 [fb,cU 7] (cV [fi] [gm] (eP aac) [eD 39,dV 39,ae 7 bK])) [dX,.tmp 7]
theorem aov:jo 172 aou:=iD Tryz.func172 (by kernel_rfl)
def aow:ib:=eW 14 (ad [b5 2 [aE,aE,br,.nilsl]] (cV [bM 4,av 5 206 [.t 4],b5 3 [aE,aE,br,.nilsl],fg 3 5] [gV,av 7 207 [gI,aU [105,109,112,108,105,101,115]]] (aN 7 (cp [gX 8 3 4,eB 9,dO [0] 10 173 [fk],bq 11 (.bsl [aE,aE,br,.nilsl] 2 [fw 8,cH 1 10]),dW 12 [aE,aE,br,.nilsl] [dP 0 1 22,dU 3 11],dI 2 12 4] .ret)) [fO 13 3,fg 2 13])) [dJ 2 4]
theorem aox:jo 173 aow:=iD Tryz.func173 (by kernel_rfl)
def aoy:ib:=fK 16 [b5 2 [aE,aE,br,.nilsl]] [eU,cu 4 3,eF 5 4,bG 6 5,eh 7 6 0] (aN 7 (ce fC [bM 9,cu 10 9,eI 11 10,bG 12 11,cu 13 8,eF 14 13,gk 14 12])) [cq 15 [aE,aE,br,.nilsl] [],fg 2 15] [dJ 2 4]
theorem aoz:jo 174 aoy:=iD Tryz.func174 (by kernel_rfl)
def ym:dE:=dL [en 18,bM 19,eA 20 19,bV 21 18 20] 21 0 (ci 1 [bM 24,en 25,ab 26 (dF 24 (.t 25)),av 27 208 [fY],cN 28 27,ag 29 28,ij 30 29,bC 31 3 29,aH 32 (dF 30 fH) 29,cP 33 205 [.t 32] 29,aH 34 (bY 33) 29,cZ 35 29 34,ag 36 35,ij 37 36,bC 38 3 36,aH 39 (dF 37 (.t 38)) 36,cw 40 .neq 39 (dK 95) 36,cZ 41 36 40] (bh 41 [dH]) [en 22,dq 23 22,ag 3 23])
theorem QZ:mj (j2 (.loop ym))=4398046248972:=nr rfl
def Mw:ib:=bt 42 (eG [dH] [bM 4,eA 5 4,eh 6 5 1,d9 7,cz 8 0 7,aG 9 (cS 8) 7,fj 10 9 16 7,dx 11 7 10,eo 12,cz 13 0 12,aG 14 (dF 13 dA) 12,dj 15 208 [ft] 12,ew 16 15 12,dx 17 12 16] (bh 17 [dH]) [fL] (eP ym) [ae 2 bK]) [cF]
theorem aoA:jo 175 Mw:=iD Tryz.func175 (by kernel_rfl)
def Ox:dE:=dL [dV 4,en 7,bU 8 7,bV 9 6 8] 9 0 (ci 1 [en 12,ag 13 4,cg 14 12 13 1,bG 15 14,gZ,ig 17 15 16] (bh 17 [ae 2 bK]) [fM 4,dq 11 10,dl 11])
def Ur:ib:=cD 18 [dH] (cV [de 5 [br] 13 [bW 0 [97,110,100],bW 1 [111,114],bW 2 [110,111,116],bW 3 [105,109,112,108,105,101,115],bW 4 [105,110],bW 5 [116,111],bW 6 [116,114,117,101],bW 7 [102,97,108,115,101],bW 8 [109,105,110],bW 9 [109,97,120],bW 10 [105,102],bW 11 [116,104,101,110],bW 12 [101,108,115,101]],eC 3] [dD] (eP Ox) [dH]) [cF]
theorem aoB:jo 176 Ur:=iD Tryz.func176 (by kernel_rfl)
def Us:ib:=dR 8 [gO 1,dB,fL] [fO 4 1,av 5 209 [.t 4,cQ],eS 6 5,eQ 7 5,d9 2,eq 3] [cF,ic]
theorem aoC:jo 177 Us:=iD Tryz.func177 (by kernel_rfl)
def yn:dE:=dL [d9 70,ge 71 3,bG 72 71,bU 73 72,bV 74 70 73] 74 1 (ci 2 [ge 77 3,bG 78 77,d9 79,cg 80 78 79 4,fO 81 80,av 82 178 [.t 81],cN 83 82] (bh 83 [dH]) [d9 75,dq 76 75,dV 76])
theorem Q0:mj (j2 (.loop yn))=19341632522213349383995460:=nr rfl
def Q1:ib:=bt 84 (gf [gO 1,dH] [dZ 7 1,bG 8 7,eh 9 8 1,eu 10,dk 11 1 0 10,dh 12 11 10,fj 13 12 22 10,dx 14 10 13] 14 [dH] (gf [dZ 16 1,bG 17 16,av 18 210 [gM],gF 18,eS 19 15,eQ 20 15,ag 3 19,dl 20] [ge 21 3,bG 22 21,bU 23 22,en 24,bV 25 23 24,ag 26 25,dk 27 1 3 26,dh 28 27 26,aG 29 (aX 28) 26,cz 30 4 26,ed 31 29 gL 26,dx 32 26 31] 32 [dH] (dt [fW] [dZ 33 1,bG 34 33] (fe 0 [bF 36 34 1,ag 35 36] (eM 35 (bF 37 34 2) [ag 35 37]) (cX 35 (ce (aF 5 1099511627776) []) [bF 39 34 3,ag 38 39] (aN 38 (ce (aF 5 1439) [])))) [eI 40 1,bG 41 40,eh 42 41 0,ag 43 42,dk 44 1 1 43,dh 45 44 43,cz 46 5 43,ed 47 45 (.t 46) 43,dx 48 43 47,ag 49 48,dk 50 1 0 49,dh 51 50 49,di 52 .eql 51 (ai 6) 49,cz 53 52 49,ek 54 1 2 53,dN 55 54 53,cP 56 211 [.t 55] 53,aH 57 (bY 56) 53,aG 58 (gn 53 57 aZ) 49,dx 59 49 58,ag 60 59,dk 61 1 0 60,dh 62 61 60,di 63 .neq 62 (ai 6) 60,cz 64 63 60,ek 65 1 2 64,dN 66 65 64,cw 67 .neq 66 (aU []) 64,aG 68 (gn 64 67 aZ) 60,dx 69 60 68] (bh 69 [dH]) (gt [fb] 1 yn (aC [ae 2 bK]))))) [cF]
theorem aoD:jo 178 Q1:=iD Tryz.func178 (by kernel_rfl)
def Ut:ib:=dR 10 [dH] [eU,av 4 133 [.t 3],fm 4,ij 6 5,cP 7 212 [gI] 5,aH 8 (bY 7) 5,cZ 9 5 8,eu 2] [cF]
theorem aoE:jo 179 Ut:=iD Tryz.func179 (by kernel_rfl)
def ry:dE:=cW [bV 26 25 24] 26 0 1 [cg 27 23 25 4,fO 28 27,b5 8 [aE,aE,br,.nilsl],fg 8 28] (cG [fO 29 8,cM 30,dq 31 30,em 32,av 33 180 [fS,fH,.t 32],cN 34 33] 34 [gG]) [dq 35 25,ag 25 35]
def JQ:ib:=eW 36 (ad [gO 3,gG] (eG [em 9,cu 10 9,bG 11 10,dq 12 11,cu 13 9,gk 13 12] [em 14,cu 15 14,bG 16 15,ee 17 16 200,gw 17,cz 19 1 18,fj 20 19 16 18,dx 21 18 20] (bh 21 [gG]) [aO 22 3 3,bG 23 22,bU 24 23,bO 25] (eP ry) [ae 6 bK])) [dX]
theorem aoF:jo 180 JQ:=iD Tryz.func180 (by kernel_rfl)
def yo:dE:=cW [bV 62 61 60] 62 1 2 [cg 63 59 61 4,fO 64 63,b5 4 [aE,aE,br,.nilsl],fg 4 64] (cG [fO 65 4,av 66 181 [.t 65],cN 67 66] 67 [dH]) [dq 68 61,ag 61 68]
theorem Q2:mj (j2 (.loop yo))=587989967349491957780:=nr rfl
def Q3:ib:=bt 69 (dt [gO 1,dH] [dZ 5 1,bG 6 5,eh 7 6 1,eq 8,dk 9 1 0 8,dh 10 9 8,fj 11 10 22 8,dx 12 8 11,es 13,dk 14 1 0 13,dh 15 14 13,dk 16 1 3 13,dh 17 16 13,aG 18 (aX 17) 13,dj 19 213 [eN,fZ] 13,ew 20 19 13,dx 21 13 20] (bh 21 [dH]) [dZ 22 1,bG 23 22] (fe 0 [bF 28 23 1,ag 27 28] (eM 27 (bF 29 23 2) [ag 27 29]) (cX 27 (cG [eI 30 1,bG 31 30,eh 32 31 0,ag 33 32,dk 34 1 1 33,dh 35 34 33,fj 36 35 1099511627776 33,dx 37 33 36] 37 [dH]) [bF 39 23 3,ag 38 39] (am 38 (cG [eI 40 1,bG 41 40,eh 42 41 0,ag 43 42,dk 44 1 1 43,dh 45 44 43,fj 46 45 1439 43,dx 47 43 46] 47 [dH]) (cG [eI 24 1,bG 25 24,fG 26 25] 26 [dH])))) (aA [dZ 48 1,bG 49 48,bF 50 49 6] (am 50 (cG [eF 51 1,bG 52 51,av 53 214 [.t 52],cN 54 53] 54 [dH]) (cG [eF 55 1,bG 56 55,cK 57 .neq 56 []] 57 [dH])) (gt [ge 58 3,bG 59 58,bU 60 59,bO 61] 1 yo (aC [ae 2 bK])))) [cF]
theorem aoG:jo 181 Q3:=iD Tryz.func181 (by kernel_rfl)
def Uu:ib:=fK 13 [dB] [eU] (fe 0 [fQ 5 [98,108,111,99,107],dl 5] (dz 4 [fQ 6 [115,112,97,110],dl 6] (dz 4 [fQ 7 [110,105,103,104,116],dl 7] (eM 4 (fQ 8 [99,114,101,100,105,116]) [dl 8]))) (eY 4 [ev 3] (aA [fQ 10 [108,101,103,115],dM 9] (dz 9 [fQ 11 [104,101,97,100,115],eo 9] (eM 9 (fQ 12 [100,117,116,105,101,115]) [es 9])) (bh 9 [ev 2])))) [dB] [cF]
theorem aoH:jo 182 Uu:=iD Tryz.func182 (by kernel_rfl)
def Uv:ib:=dR 11 [ae 4 (aU []),cU 5] [gV,cM 7,av 8 215 [gI,gJ],eS 9 8,eQ 10 8,dl 9,dM 5] [cI,fD]
theorem aoI:jo 183 Uv:=iD Tryz.func183 (by kernel_rfl)
def oa:dE:=cW [bV 62 61 60] 62 0 1 [ag 63 61,cg 64 59 61 4,fO 65 64,b5 16 [aE,aE,br,.nilsl],gF 63,fg 16 65] (gf [bM 67,cM 68,em 69,fO 70 16,av 71 184 [.t 67,.t 68,.t 69,.t 70],ag 66 71,eS 72 66,eQ 73 66,ag 17 72,gw 73] [ag 74 18,fG 75 74] 75 [ag 76 18,fi,gE 76] (dw 77 14 [gx 78,ag 79 17,cg 80 77 78 1,gk 80 79])) [dq 81 61,ag 61 81]
theorem Ga:mj (j2 (.loop oa))=4835700972615507485623040:=nr rfl
def Dp:ib:=eW 89 (bB [dg 7 3,fi,gm] [dZ 20 7,bG 21 20,bF 22 21 6] (aN 22 (aA [cM 24,eF 25 7,bG 26 25,av 27 90 [eZ,fY],ag 23 27,eS 28 23,eQ 29 23,fM 28,fE 29] (cG [eo 30,bF 31 30 0] 31 [dM 32,gY 32,gm]) (.seq (cp [eB 34,cY 35 34,bD 36 35 1,cJ 37 36,bD 38 7 2,cE [3] 39 38,bq 40 (.lk dm (.t 37) (.t 39) aE true),b4 33 40,bq 41 (bp 33 0),bq 42 (bp 33 1),b4 12 41,b4 13 42] (cG [fR 43,ag 44 43,bC 45 12 44,gy 46 44,cw 47 .lss 45 (.t 46) 44,cZ 48 44 47] 48 [bM 49,es 50,av 51 91 [.t 49,.t 50],eS 52 51,eQ 53 51,gY 52,gE 53])) (aC [fi,aF 9 6])))) (eG [aO 54 7 3,bG 55 54,bU 56 55,ab 57 (.mksl [aE] 8 (.t 56) false),ag 14 57] [aO 58 7 3,bG 59 58,bU 60 59,bO 61] (eP oa) [dZ 82 7,bG 83 82,ag 84 14,av 85 216 [.t 83,.t 84],ag 19 85] (cG [ag 86 19,fG 87 86] 87 [ag 88 19,gY 88,gm]) [fi,aF 9 9])) [hU,.tmp 9]
theorem aoJ:jo 184 Dp:=iD Tryz.func184 (by kernel_rfl)
def Uw:ib:=cD 51 [ae 4 (fq 0),ae 5 (fq 0)] (ga [bM 14,aq 15 .and 14 (fq 4294967295),dV 15] [gZ,aq 17 .shr 16 (fq 32),ag 7 17] (ga [cM 18,aq 19 .and 18 (fq 4294967295),gY 19] [cM 20,aq 21 .shr 20 (fq 32),gE 21] (ga [d9 22,eD 23,bj 24 .mul 22 23,fM 24] [eq 25,eD 26,bj 27 .mul 25 26,dM 28,aq 29 .shr 28 (fq 32),dG 30 27 29,fE 30] (ga [eo 31,aq 32 .and 31 (fq 4294967295),ag 12 32] [eo 33,aq 34 .shr 33 (fq 32),ag 13 34] (ga [es 35,d9 36,eu 37,bj 38 .mul 36 37,dG 39 35 38,ag 12 39] [eq 40,eu 41,bj 42 .mul 40 41,fR 43,dG 44 42 43,es 45,aq 46 .shr 45 (fq 32),dG 47 44 46,dl 47] (aC [bM 48,cM 49,bj 50 .mul 48 49,fm 50])))))) [cI,fD]
theorem aoK:jo 199 Uw:=iD Tryz.func199 (by kernel_rfl)
def Q4:ib:=fK 10 [ae 2 (fq 0)] [eU,eh 4 3 0] (bh 4 [fA,ab 6 (.cvi .u64 ie),ab 7 (bJ .neg 6),eq 2]) [fC,ab 9 (.cvi .u64 fF),eu 2] [cF]
theorem aoL:jo 200 Q4:=iD Tryz.func200 (by kernel_rfl)
def Ux:ib:=dR 18 [gO 1,dH] [dZ 3 1,bG 4 3,gh 5 4 0,dV 5,ek 7 1 0 6,dN 8 7 6,ek 9 1 1 6,dN 10 9 6,gb 11 8 gp 6,cZ 12 6 11,es 13,ek 14 1 1 13,dN 15 14 13,gb 16 15 (ai 52596000) 13,cZ 17 13 16,fN 17] [cF]
theorem aoM:jo 201 Ux:=iD Tryz.func201 (by kernel_rfl)
def Uy:ib:=dR 9 [dH] [eU,gh 4 3 0,fm 4,ij 6 5,cw 7 .lss 6 gq 5,cZ 8 5 7,eD 2] [cF]
theorem aoN:jo 202 Uy:=iD Tryz.func202 (by kernel_rfl)
def rz:dE:=dL [eD 14,eF 15 2,bG 16 15,bU 17 16,bj 18 .leq 14 17] 18 0 (ci 1 [aF 9 52596000] (aA [eD 21,eF 22 2,bG 23 22,bU 24 23,bV 25 21 24] (aN 25 (ce (eF 26 2) [bG 27 26,eD 28,cg 29 27 28 2,dZ 30 29,bG 31 30,gE 31])) (.seq (cp [b4 32 6,bD 33 3 0,cJ 34 33,bq 35 (.mm true [.t 32,gU]),b4 36 9,bD 37 3 1,cE [2] 38 37,bq 39 (.mm false [.t 36,.t 38]),b4 10 35,b4 11 39] (ad [dM 40,eo 41,bV 42 40 41] (aN 42 (dw 43 5 [dM 44,eo 45,eq 46,cq 47 [aE,aE,aE] [dU 0 44,dU 1 45,dU 2 46],de 48 [aE,aE,aE] 1 [fw 47],ab 49 (eO 3 24 43 48),fm 49])))) (ad [eD 50,eF 51 2,bG 52 51,bU 53 52,bV 54 50 53] (aN 54 (.draws [b4 55 9,bD 56 2 2,cJ 57 56,b4 58 8,ec 59 57 58 2,bD 60 59 1,cJ 61 60,b4 6 55,b4 7 61]))))) [eD 19,dq 20 19,gY 20])
def Uz:ib:=cD 63 [gO 2,dg 3 1,dY 4] (fU [dY 5] [bD 12 2 1,cJ 13 12,cj fb,b4 7 13] (aA [fi] (eP rz) (aC [eC 62,dl 62]))) [cI]
theorem aoO:jo 203 Uz:=iD Tryz.func203 (by kernel_rfl)
def aoP:ib:=dR 16 [dH] [eU,eA 4 3,bF 5 4 1,dV 5,cz 7 0 6,aG 8 (cS 7) 6,ed 9 8 cQ 6,cz 10 9 6,ij 11 10,aH 12 (dF 11 dA) 10,cw 13 .neq 12 (dK 48) 10,aG 14 (gn 10 13 aZ) 6,dx 15 6 14,fN 15] [cF]
theorem aoQ:jo 204 aoP:=iD Tryz.func204 (by kernel_rfl)
def Q5:ib:=dR 9 [dH] [eU,aq 4 .geq 3 (dK 48),fm 4,ij 6 5,gb 7 6 (dK 57) 5,cZ 8 5 7,eD 2] [cF]
theorem aoR:jo 205 Q5:=iD Tryz.func205 (by kernel_rfl)
def aad:dE:=dL [gV,av 7 207 [gI,aU [111,114]]] 7 0 (.block 1 (.draws [gX 8 3 4,eB 9,dO [0] 10 225 [fk],bq 11 (.bsl [aE,aE,br,.nilsl] 2 [fw 8,cH 1 10]),dW 12 [aE,aE,br,.nilsl] [dP 0 1 21,dU 3 11],dI 3 12 4]))
def aoS:ib:=eW 14 (ad [b5 2 [aE,aE,br,.nilsl]] (bN [bM 4,av 5 225 [.t 4],b5 3 [aE,aE,br,.nilsl],fg 3 5] (eP aad) (aC [fO 13 3,fg 2 13]))) [dJ 2 4]
theorem aoT:jo 206 aoS:=iD Tryz.func206 (by kernel_rfl)
def aoU:ib:=eW 15 (cV [gW] [fA,cM 6,av 7 226 [ie,gI]] (aN 7 (ad [fC,cu 9 8,eI 10 9,bG 11 10,dq 12 11,cu 13 8,eI 14 13,gk 14 12] (aC [ae 4 bK]))) [gW]) [cI]
theorem aoV:jo 207 aoU:=iD Tryz.func207 (by kernel_rfl)
def Q6:ib:=dR 9 [dH] [eU,aq 4 .geq 3 (dK 97),fm 4,ij 6 5,gb 7 6 (dK 122) 5,cZ 8 5 7,eD 2] [cF]
theorem aoW:jo 208 Q6:=iD Tryz.func208 (by kernel_rfl)
def pj:dE:=dL [eD 13,aO 14 2 3,bG 15 14,bU 16 15,bV 17 13 16,gw 17,bC 19 6 18,gb 20 19 (ai 200) 18,cZ 21 18 20] 21 0 (ci 1 [aO 25 2 3,bG 26 25,eD 27,cg 28 26 27 4,fO 29 28,cM 30,dq 31 30,av 32 209 [fS,fH],ag 24 32,eS 33 24,eQ 34 24,gE 33,fM 34] (dw 35 6 [eu 36,dG 37 35 36,eq 38,dM 39,dq 40 39,ab 41 (.mm true [.t 38,gK]),dV 37,ag 7 41]) [eD 22,dq 23 22,gY 23])
def Q7:ib:=cD 44 [gO 2,dD,fW] (eG [ii 6,ii 7] [cM 11,ee 12 11 16] (bh 12 [ii 4,ii 5]) [fi] (eP pj) [d9 42,eq 43,dl 42,fm 43]) [cI,fD]
theorem aoX:jo 209 Q7:=iD Tryz.func209 (by kernel_rfl)
def UA:ib:=fK 21 [dB,fL] [bM 4] (fe 0 [bF 6 4 1,d9 5] (dz 5 [bF 7 4 2,eq 5] (dz 5 [bF 8 4 3,eD 5] (dz 5 [bF 9 4 4,eu 5] (dz 5 [bF 10 4 5,dM 5] (eM 5 (bF 11 4 6) [eo 5]))))) (eY 5 [dB,fL] (aA [bF 13 4 7,fR 12] (eM 12 (bF 14 4 19) [ag 12 14]) (eY 12 [fB,ii 3] (aA [bF 16 4 12,gF 16] (eM 15 (bF 17 4 13) [gF 17]) (eY 15 [ev 2,aF 3 200] (aA [bF 19 4 14,gw 19] (eM 18 (bF 20 4 15) [gw 20]) (bh 18 [ev 3,aF 3 3])))))))) [ev 2,aF 3 2] [cF,ic]
theorem aoY:jo 210 UA:=iD Tryz.func210 (by kernel_rfl)
def Q8:ib:=cD 21 [dH] (cV [bM 4,av 5 169 [.t 4,dK 46],eC 3] [dV 3,eh 7 6 0] (bh 7 [fC,av 9 130 [fF],eu 2]) [bM 10,en 11,ab 12 (eX 10 none (fd 11)),av 13 175 [gQ],fR 14,ij 15 14,bC 16 3 14,cw 17 .add 16 cQ 14,aH 18 (.slS eN (fd 17) none) 14,cP 19 175 [fZ] 14,cZ 20 14 19,fN 20]) [cF]
theorem aoZ:jo 211 Q8:=iD Tryz.func211 (by kernel_rfl)
def UB:ib:=fK 18 [dH] [eU] (fe 0 [fQ 5 [97,110,100],dl 5] (dz 4 [fQ 6 [111,114],dl 6] (dz 4 [fQ 7 [110,111,116],dl 7] (dz 4 [fQ 8 [105,109,112,108,105,101,115],dl 8] (dz 4 [fQ 9 [105,110],dl 9] (dz 4 [fQ 10 [116,111],dl 10] (dz 4 [fQ 11 [116,114,117,101],dl 11] (dz 4 [fQ 12 [102,97,108,115,101],dl 12] (dz 4 [fQ 13 [109,105,110],dl 13] (dz 4 [fQ 14 [109,97,120],dl 14] (dz 4 [fQ 15 [105,102],dl 15] (dz 4 [fQ 16 [116,104,101,110],dl 16] (eM 4 (fQ 17 [101,108,115,101]) [dl 17])))))))))))) (bh 4 [ae 2 bK])) [dH] [cF]
theorem ao0:jo 212 UB:=iD Tryz.func212 (by kernel_rfl)
def UC:ib:=fK 32 [gW] [fA] (fe 0 [bF 7 5 1,dV 7] (dz 6 [bF 8 5 2,dV 8] (dz 6 [bF 9 5 3,dV 9] (dz 6 [bF 10 5 4,dM 6] (dz 6 [bF 11 5 5,dV 11] (eM 6 (bF 12 5 6) [dV 12]))))) (eY 6 [cM 13,bF 14 13 0,dl 14] (aA [bF 16 5 7,gF 16] (eM 15 (bF 17 5 19) [gF 17]) (eY 15 [cM 18,bF 19 18 1,dl 19] (aA [bF 21 5 12,ag 20 21] (eM 20 (bF 22 5 13) [ag 20 22]) (eY 20 [cM 23,gh 24 23 2,dl 24] (aA [bF 26 5 14,ag 25 26] (eM 25 (bF 27 5 15) [ag 25 27]) (bh 25 [cM 28,bF 29 28 3,dl 29])))))))) [cM 30,bF 31 30 2,dl 31] [cI]
theorem ao1:jo 213 UC:=iD Tryz.func213 (by kernel_rfl)
def Q9:ib:=fK 21 [dH] [bM 7,av 8 227 [gJ,aU [46]],dV 8,eS 9 6,eQ 10 6,bI 11 6 2,eu 3,dl 10,eo 5] (cG [eC 12] 12 [en 13,av 14 133 [.t 13],gF 14,bC 16 4 15,cP 17 133 [eE] 15,cZ 18 15 17,fN 18]) [bM 19,av 20 179 [fJ],fN 20] [cF]
theorem ao2:jo 214 Q9:=iD Tryz.func214 (by kernel_rfl)
def Ra:ib:=fK 15 [ae 4 (aU []),cU 5] [gV,cM 7,av 8 228 [gI,gJ],cN 9 8] (bh 9 [bM 10,dl 10,cU 5]) [hZ,cM 12,eA 13 12,ab 14 (eX 11 (fd 13) none),dl 14,ae 5 bK] [cI,fD]
theorem ao3:jo 215 Ra:=iD Tryz.func215 (by kernel_rfl)
def sy:ib:=fK 67 [dD] [fA] (bo 0 [bF 10 5 1,dM 9] (eK 9 [ii 4] [bF 12 5 2,es 11] (eK 11 [aF 4 2] [bF 14 5 3,ag 13 14] (eY 13 [aF 4 3] (aA [bF 16 5 4,gF 16] (eM 15 (bF 17 5 5) [gF 17]) (eY 15 [aF 4 4] (aA [bF 19 5 7,gw 19] (dz 18 [bF 20 5 8,gw 20] (dz 18 [bF 21 5 9,gw 21] (dz 18 [bF 22 5 12,gw 22] (eM 18 (bF 23 5 13) [gw 23])))) (am 18 (cG [cM 24,dC 25 24 0 1,bG 26 25,av 27 229 [fY],ag 28 27,bC 29 1 28,bC 30 1 28,aH 31 (cm 30 0 1) 28,dN 32 31 28,cP 33 230 [fS,.t 32] 28,cZ 34 28 33] 34 [cM 35,dC 36 35 0 1,bG 37 36,dl 37]) (aA [bF 39 5 10,ag 38 39] (eM 38 (bF 40 5 11) [ag 38 40]) (cX 38 (cp [eB 41,b4 42 1,eH 43 42 0 1,cJ 44 43,b4 45 1,eH 46 45 1 1,cE [3] 47 46,cj (av 48 231 [.t 41,.t 44,.t 47]),b4 4 48] .ret) [bF 50 5 14,ag 49 50] (am 49 (cp [b4 51 1,eH 52 51 0 1,cJ 53 52,cj (bF 54 53 4),b4 55 54,cj (bC 56 1 55),cj (aH 57 (cm 56 1 1) 55),cj (dN 58 57 55),cj (bC 59 1 55),cj (aH 60 (cm 59 2 1) 55),([7],dN 61 60 55),cj (eJ 62 58 (.t 61) 55),bq 63 (gn 55 62 aZ)] (bh 63 [cM 64,dC 65 64 1 1,bG 66 65,dl 66])) (cG [gV,cM 7,av 8 232 [gI,gJ]] 8 [aF 4 4])))))))))))) [dD] [cI]
theorem ao4:jo 216 sy:=iD Tryz.func216 (by kernel_rfl)
def aae:dE:=dL [gV,av 7 207 [gI,aU [97,110,100]]] 7 0 (.block 1 (.draws [gX 8 3 4,eB 9,dO [0] 10 240 [fk],bq 11 (.bsl [aE,aE,br,.nilsl] 2 [fw 8,cH 1 10]),dW 12 [aE,aE,br,.nilsl] [dP 0 1 20,dU 3 11],dI 3 12 4]))
def ao5:ib:=eW 14 (ad [b5 2 [aE,aE,br,.nilsl]] (bN [bM 4,av 5 240 [.t 4],b5 3 [aE,aE,br,.nilsl],fg 3 5] (eP aae) (aC [fO 13 3,fg 2 13]))) [dJ 2 4]
theorem ao6:jo 225 ao5:=iD Tryz.func225 (by kernel_rfl)
def ao7:ib:=bt 47 (bN [gW] (cp [eB 6,cY 7 6,bD 8 7 2,cJ 9 8,cj (gh 10 9 0),b4 11 10,cj (cz 12 0 11),cj (aG 13 (bg 12) 11),cj (dk 14 13 1 11),cj (dh 15 14 11),cj (cz 16 0 11),cj (aG 17 (bg 16) 11),cj (dk 18 17 0 11),([9],dh 19 18 11),cj (aG 20 (aX 19) 11),cj (di 21 .geq 15 (.t 20) 11),bq 22 (aM 11 bK (.t 21))] (bh 22 [gW])) (cp [eB 23,cY 24 23,bD 25 24 0,cJ 26 25,eB 27,cY 28 27,bD 29 28 1,cE [3] 30 29,ec 31 26 30 4,gX 32 31 4,ay [3,7,9] 5 (bi [aE,br,aE,aE]),dI 5 32 4] (aC [dZ 33 5,bG 34 33,bF 35 34 5,ag 36 35,dk 37 5 0 36,dh 38 37 36,di 39 .eql 38 cQ 36,dx 40 36 39,ag 41 40,ek 42 5 1 41,dN 43 42 41,bC 44 1 41,eJ 45 43 (.t 44) 41,cZ 46 41 45,dl 46]))) [cI]
theorem ao8:jo 226 ao7:=iD Tryz.func226 (by kernel_rfl)
def Mx:ib:=dR 13 [ae 4 (aU []),ae 5 (aU []),gG] [bM 7,cM 8,av 9 241 [gJ,fF],eS 10 9,eQ 11 9,bI 12 9 2,dl 10,eo 5,dV 12] [cI,fD,dX]
theorem ao9:jo 227 Mx:=iD Tryz.func227 (by kernel_rfl)
def Rb:ib:=dR 18 [gW] [fA,eA 6 5,cM 7,eA 8 7,bj 9 .geq 6 8,eu 10,ij 11 10,bC 12 1 10,aH 13 (cS 12) 10,aH 14 (eX 11 none (fd 13)) 10,bC 15 1 10,eJ 16 14 eN 10,cZ 17 10 16,dl 17] [cI]
theorem apa:jo 228 Rb:=iD Tryz.func228 (by kernel_rfl)
def Rc:ib:=dR 9 [dH] [eU,bF 4 3 1,fm 4,cz 6 0 5,di 7 .eql 6 dS 5,dx 8 5 7,eD 2] [cF]
theorem apb:jo 229 Rc:=iD Tryz.func229 (by kernel_rfl)
def rD:dE:=cW [bV 10 9 8] 10 0 1 [cg 11 7 9 1,bG 12 11,dV 12] (cG [d9 13,cM 14,bj 15 .neq 13 14] 15 [gW]) [dq 16 9,gE 16]
def UD:ib:=fK 17 [gW] [bM 7,bU 8 7,gm] (eP rD) [ae 4 bK] [cI]
theorem apc:jo 230 UD:=iD Tryz.func230 (by kernel_rfl)
def AB:ib:=bt 43 (bN [fb] (bo 0 [cM 8,bF 9 8 1,eu 10,gy 11 10,eJ 12 11 cQ 10,cZ 13 10 12,fR 7] (eK 7 [ii 6] [cM 15,bF 16 15 2,ag 17 16,gy 18 17,eJ 19 18 cQ 17,cZ 20 17 19,ag 14 20] (eK 14 [aF 6 2] [bM 22,bF 23 22 10,ag 24 23,bC 25 1 24,eJ 26 25 cQ 24,cZ 27 24 26,ag 28 27,gy 29 28,eJ 30 29 dS 28,cZ 31 28 30,ag 21 31] (eY 21 [aF 6 2] (cG [bM 33,bF 34 33 11,ag 35 34,bC 36 1 35,eJ 37 36 dS 35,cZ 38 35 37,ag 39 38,gy 40 39,eJ 41 40 dS 39,cZ 42 39 41,ag 32 42] 32 [ii 6]))))) (aC [fb])) [dX]
theorem apd:jo 231 AB:=iD Tryz.func231 (by kernel_rfl)
def Ft:ib:=fK 37 [gW] [fA] (bo 0 [bF 7 5 15,dV 7] (eY 6 [cM 8,av 9 230 [fF,gz],dl 9] (aA [bF 11 5 16,eo 10] (eM 10 (bF 12 5 17) [es 10]) (cX 10 (cp [b4 13 1,eH 14 13 0 1,cJ 15 14,cj (av 16 229 [eN]),b4 17 16,cj (bC 18 1 17),cj (aH 19 (cm 18 0 1) 17),cj (dN 20 19 17),cj (bC 21 1 17),cj (aH 22 (cm 21 1 1) 17),([7],dN 23 22 17),cj (eJ 24 20 gN 17),bq 25 (aM 17 eZ aZ),b4 4 25] .ret) [bF 27 5 18,ag 26 27] (aN 26 (cp [b4 28 1,eH 29 28 0 1,cJ 30 29,b4 31 1,eH 32 31 1 1,cE [2] 33 32,cj (ig 34 30 33),b4 4 34] .ret)))))) [cM 35,av 36 230 [.t 35,ai 4],dl 36] [cI]
theorem ape:jo 232 Ft:=iD Tryz.func232 (by kernel_rfl)
def apf:ib:=eW 11 (cV [b5 2 [aE,aE,br,.nilsl]] [eU,av 4 207 [.t 3,aU [110,111,116]]] (bh 4 [fA,av 6 240 [ie],de 7 [aE,aE,br,.nilsl] 1 [fw 6],cq 8 [aE,aE,br,.nilsl] [dP 0 1 19,dU 3 7],fg 2 8]) [bM 9,av 10 252 [fk],fg 2 10]) [dJ 2 4]
theorem apg:jo 240 apf:=iD Tryz.func240 (by kernel_rfl)
def My:ib:=fK 23 [ae 4 (aU []),ae 5 (aU []),gG] [fC,cM 9,av 10 253 [fF,fk],dM 7] (ad [eq 11,gh 12 11 0] (aN 12 (cp [eB 13,b4 14 7,bq 15 (eX 13 none (fd 14)),eB 16,b4 17 7,b4 18 1,bq 19 (cS 18),cj (dG 20 17 19),bq 21 (.slS eE (fd 20) none),b4 4 15,b4 5 21,cj (ae 6 bK)] .ret))) [bM 22,dl 22,ae 5 (aU []),gG] [cI,fD,dX]
theorem aph:jo 241 My:=iD Tryz.func241 (by kernel_rfl)
def api:ib:=eW 45 (ad [b5 2 [aE,aE,br,.nilsl]] (bN [fA,av 6 260 [ie],b5 3 [aE,aE,br,.nilsl],fg 3 6] (bo 0 [fC,av 9 207 [fF,aU [60]],eu 7] (cX 7 (cp [gX 10 3 4,eB 11,dO [0] 12 260 [fV],bq 13 (.bsl [aE,aE,br,.nilsl] 2 [fw 10,cH 1 12]),dW 14 [aE,aE,br,.nilsl] [dP 0 1 16,dU 3 13],dI 2 14 4] .ret) [gZ,av 17 207 [eE,aU [60,61]],gF 17] (cX 15 (cp [gX 18 3 4,eB 19,dO [0] 20 260 [fJ],bq 21 (.bsl [aE,aE,br,.nilsl] 2 [fw 18,cH 1 20]),dW 22 [aE,aE,br,.nilsl] [dP 0 1 17,dU 3 21],dI 2 22 4] .ret) [bM 24,av 25 207 [eZ,aU [61]],ag 23 25] (cX 23 (cp [gX 26 3 4,eB 27,dO [0] 28 260 [gD],bq 29 (.bsl [aE,aE,br,.nilsl] 2 [fw 26,cH 1 28]),dW 30 [aE,aE,br,.nilsl] [dP 0 1 18,dU 3 29],dI 2 30 4] .ret) [bM 32,av 33 207 [.t 32,aU [105,110]],ag 31 33] (aN 31 (ad [bM 34,av 35 260 [gU],b5 4 [aE,aE,br,.nilsl],fg 4 35] (fU [bM 36,av 37 261 [.t 36,aU [116,111]]] [gX 38 3 4,ay [0] 39 (bA 4 4),eB 40,dO [0,1] 41 260 [gK],bq 42 (.bsl [aE,aE,br,.nilsl] 3 [fw 38,cH 1 39,cH 2 41]),dW 43 [aE,aE,br,.nilsl] [dP 0 1 15,dU 3 42],dI 2 43 4] .ret))))))) (aC [fO 44 3,fg 2 44]))) [dJ 2 4]
theorem apj:jo 252 api:=iD Tryz.func252 (by kernel_rfl)
def aaf:dE:=.block 1 (bo 2 [fC,av 9 207 [fF,aU [43]],eu 7] (cX 7 (.draws [gX 10 3 4,eB 11,dO [0] 12 268 [fV],bq 13 (.bsl [aE,aE,br,.nilsl] 2 [fw 10,cH 1 12]),dW 14 [aE,aE,br,.nilsl] [dP 0 1 8,dU 3 13],dI 3 14 4]) [gZ,av 17 207 [eE,aU [45]],gF 17] (am 15 (.draws [gX 18 3 4,eB 19,dO [0] 20 268 [fJ],bq 21 (.bsl [aE,aE,br,.nilsl] 2 [fw 18,cH 1 20]),dW 22 [aE,aE,br,.nilsl] [dP 0 1 9,dU 3 21],dI 3 22 4]) (aC [fO 6 3,fg 2 6]))))
def apk:ib:=eW 23 (ga [b5 2 [aE,aE,br,.nilsl]] [bM 4,av 5 268 [.t 4],b5 3 [aE,aE,br,.nilsl],fg 3 5] (eP aaf)) [dJ 2 4]
theorem apl:jo 260 apk:=iD Tryz.func260 (by kernel_rfl)
def apm:ib:=eW 10 (ad [bM 4,cM 5,av 6 207 [.t 4,ie],cN 7 6] (aN 7 (ce fC [av 9 174 [fF]]))) []
theorem apn:jo 261 apm:=iD Tryz.func261 (by kernel_rfl)
def aag:dE:=.block 1 (bo 2 [fC,av 9 207 [fF,aU [42]],eu 7] (cX 7 (.draws [gX 10 3 4,eB 11,dO [0] 12 272 [fV],bq 13 (.bsl [aE,aE,br,.nilsl] 2 [fw 10,cH 1 12]),dW 14 [aE,aE,br,.nilsl] [dP 0 1 10,dU 3 13],dI 3 14 4]) [gZ,av 17 207 [eE,aU [47]],gF 17] (am 15 (.draws [gX 18 3 4,eB 19,dO [0] 20 272 [fJ],bq 21 (.bsl [aE,aE,br,.nilsl] 2 [fw 18,cH 1 20]),dW 22 [aE,aE,br,.nilsl] [dP 0 1 11,dU 3 21],dI 3 22 4]) (aC [fO 6 3,fg 2 6]))))
def apo:ib:=eW 23 (ga [b5 2 [aE,aE,br,.nilsl]] [bM 4,av 5 272 [.t 4],b5 3 [aE,aE,br,.nilsl],fg 3 5] (eP aag)) [dJ 2 4]
theorem apq:jo 268 apo:=iD Tryz.func268 (by kernel_rfl)
def apr:ib:=eW 116 (bN [b5 2 [aE,aE,br,.nilsl]] (cp [eB 8,cY 9 8,bD 10 9 2,cJ 11 10,cj (gh 12 11 0),b4 13 12,cj (cz 14 0 13),cj (aG 15 (bg 14) 13),cj (dk 16 15 1 13),cj (dh 17 16 13),cj (cz 18 0 13),cj (aG 19 (bg 18) 13),cj (dk 20 19 0 13),([9],dh 21 20 13),cj (aG 22 (aX 21) 13),cj (di 23 .geq 17 fI 13),bq 24 (aM 13 bK gN)] (bh 24 [bM 25,av 26 174 [.t 25],fg 2 26])) (.seq (bo 0 [bM 28,av 29 207 [fX,aU [45]],ag 27 29] (eK 27 [bM 30,av 31 272 [gL],de 32 [aE,aE,br,.nilsl] 1 [fw 31],cq 33 [aE,aE,br,.nilsl] [dP 0 1 7,dU 3 32],fg 2 33] [bM 35,av 36 207 [.t 35,aU [116,114,117,101]],ag 34 36] (eK 34 [cq 37 [aE,aE,br,.nilsl] [dP 0 1 4],fg 2 37] [bM 39,av 40 207 [.t 39,aU [102,97,108,115,101]],ag 38 40] (eK 38 [cq 41 [aE,aE,br,.nilsl] [dP 0 1 5],fg 2 41] [bM 43,av 44 226 [.t 43,aU [109,105,110]],ag 45 44,cz 46 0 45,dj 47 226 [.t 46,aU [109,97,120]] 45,dx 48 45 47,ag 42 48] (eK 42 [bM 49,av 50 273 [.t 49],fg 2 50] [bM 52,av 53 207 [.t 52,aU [105,102]],ag 51 53] (cX 51 (ga [bM 54,av 55 173 [.t 54],b5 3 [aE,aE,br,.nilsl],fg 3 55] [bM 56,av 57 261 [.t 56,aU [116,104,101,110]]] (ad [bM 58,av 59 173 [.t 58],b5 4 [aE,aE,br,.nilsl],fg 4 59] (fU [bM 60,av 61 261 [.t 60,aU [101,108,115,101]]] [gX 62 3 4,ay [0] 63 (bA 4 4),eB 64,dO [0,1] 65 173 [.t 64],bq 66 (.bsl [aE,aE,br,.nilsl] 3 [fw 62,cH 1 63,cH 2 65]),dW 67 [aE,aE,br,.nilsl] [dP 0 1 14,dU 3 66],dI 2 67 4] .ret))) [bM 69,av 70 207 [.t 69,aU [40]],ag 68 70] (aN 68 (ga [bM 71,av 72 173 [.t 71],b5 5 [aE,aE,br,.nilsl],fg 5 72] [bM 73,av 74 261 [.t 73,aU [41]]] (aC [fO 75 5,fg 2 75]))))))))) (cp [eB 76,cY 77 76,bD 78 77 0,cJ 79 78,eB 80,cY 81 80,bD 82 81 1,cE [3] 83 82,ec 84 79 83 4,gX 85 84 4,ay [3,7,9] 6 (bi [aE,br,aE,aE]),dI 6 85 4] (dt [bO 7] [dZ 86 6,bG 87 86] (bo 1 [bF 89 87 2,ag 88 89] (cX 88 (ce (ii 7) []) [bF 91 87 3,ag 90 91] (cX 90 (ce (aF 7 2) []) [bF 93 87 4,ag 92 93] (cX 92 (ce (aF 7 3) []) [bF 95 87 1,ag 94 95] (aN 94 (ad [eI 96 6,bG 97 96,av 98 211 [.t 97]] (aN 98 (ce (aF 7 6) [])))))))) [eq 99,bF 100 99 0] (bh 100 [bM 101,av 102 174 [.t 101],fg 2 102]) (ad [bM 103,cu 104 103,eI 105 104,bG 106 105,dq 107 106,cu 108 103,eI 109 108,gk 109 107] (aC [eq 110,eF 111 6,bG 112 111,eI 113 6,bG 114 113,cq 115 [aE,aE,br,.nilsl] [dU 0 110,dU 1 112,dU 2 114],fg 2 115])))))) [dJ 2 4]
theorem aps:jo 272 apr:=iD Tryz.func272 (by kernel_rfl)
def aah:dE:=dL [bM 33,av 34 207 [.t 33,aU [44]]] 34 0 (.block 1 (.draws [bD 35 3 3,cJ 36 35,eB 37,dO [1] 38 173 [.t 37],ay [1] 39 (.bsl [aE,aE,br,.nilsl] 1 [fw 38]),bq 40 (eO 4 56 36 39),bD 41 3 3,dI 41 40 1]))
def apt:ib:=eW 45 (ad [b5 2 [aE,aE,br,.nilsl]] (bB [cq 4 [aE,aE,br,.nilsl] [dP 0 1 12],b5 3 [aE,aE,br,.nilsl],fg 3 4] [fA,av 6 226 [ie,aU [109,97,120]]] (aN 6 (ce (dZ 7 3) [bf 7 (ai 13) 1])) (ad [fC,cu 9 8,eI 10 9,bG 11 10,dq 12 11,cu 13 8,eI 14 13,gk 14 12] (fU [bM 15,av 16 261 [eN,aU [40]]] [bD 17 3 3,cJ 18 17,eB 19,dO [1] 20 173 [fJ],ay [1] 21 (.bsl [aE,aE,br,.nilsl] 1 [fw 20]),bq 22 (eO 4 56 18 21),bD 23 3 3,dI 23 22 1] (fU [bM 24,av 25 261 [eZ,aU [44]]] [bD 26 3 3,cJ 27 26,eB 28,dO [1] 29 173 [fX],ay [1] 30 (.bsl [aE,aE,br,.nilsl] 1 [fw 29]),bq 31 (eO 4 56 27 30),bD 32 3 3,dI 32 31 1] (.seq (eP aah) (ad [bM 42,av 43 261 [.t 42,aU [41]]] (aC [fO 44 3,fg 2 44])))))))) [dJ 2 4]
theorem apu:jo 273 apt:=iD Tryz.func273 (by kernel_rfl)
end Go.Proofs.YtcpceiclnbmgiaaGreat
