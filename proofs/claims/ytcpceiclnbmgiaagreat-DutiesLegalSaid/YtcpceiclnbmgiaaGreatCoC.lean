/- The codes of functions of the program, as the evaluator reads them; that each is what its compiler makes of the model's function. Conditions: none. -/
import Derived.Test.YtcpceiclnbmgiaaGreatCoN
import Derived.Test.YtcpceiclnbmgiaaGreatChecked
import Derived.KernelRfl
set_option maxRecDepth 100000
namespace Go.Proofs.YtcpceiclnbmgiaaGreat
open Go Go.Ev
def TJ:ij:=dV 16 [fN] [fB,cK 6,au 7 122 [gZ,gN,cN],ep 8,ic 9 8,bC 10 1 8,aH 11 (bG 9 10 4) 8,em 12 11 1 8,dM 13 12 8,cV 14 130 [fe] 8,dj 15 8 14,dl 15] [cI]
theorem ans:jl 124 TJ:=iD Tryz.func124 (by kernel_rfl)
def Qr:ij:=dV 28 [cY 6] [cK 7,fD,bU 9 8,bV 10 7 9,dK 11,ic 12 11,bC 13 1 11,aH 14 (bG 12 13 4) 11,em 15 14 0 11,dM 16 15 11,eU 17 16 cN 11,dj 18 11 17,ag 19 18,ic 20 19,bC 21 1 19,aH 22 (bG 20 21 4) 19,em 23 22 1 19,dM 24 23 19,gK 25 19,eU 26 24 (.t 25) 19,dj 27 19 26,dU 27] [dQ]
theorem ant:jl 125 Qr:=iD Tryz.func125 (by kernel_rfl)
def agA:ij:=cy 32 [bZ 2 [aF,aF,br,.nilsl],fP] (ad [gV,cu 7 [.nilsl,aF,aF] [d9 0 6,dO 2 1 (-1)],ab 8 (.box gH true),dl 8] (bB [gh 4,au 10 173 [fu],bZ 5 [aF,aF,br,.nilsl],fj 5 10] [fA 4,cz 12 11,eM 13 12,bJ 14 13,ek 15 14 0,ag 16 15,bC 17 4 16,aH 18 (bj 17) 16,em 19 18 1 16,dM 20 19 16,ic 21 16,aH 22 (aX 21) 16,cD 23 .lss 20 fd 16,dj 24 16 23] (aL 24 (dz 25 4 [au 26 174 [.t 25]])) (cw [bv 27 (bu 5 4),b6 28 4,df 29 28,bF 30 29 2,cG [0] 31 30,([4],fj 2 27),b6 3 31] .ret))) [dH 2 4,gY]
theorem anu:jl 126 agA:=codeOk (hs:=[8]) Tryz.func126 (by kernel_rfl)
def JB:ij:=bt 10 (dA [dB] [eW] (bp 0 [fV 5 [100,117,116,121],dl 5] (eN 4 [fC] [fV 7 [114,101,115,116],dU 7] (eZ 6 [es 2] (cE [fV 9 [112,97,105,114,105,110,103],dZ 8] 8 [es 3])))) [dB]) [cF]
theorem anv:jl 127 JB:=iD Tryz.func127 (by kernel_rfl)
def TK:ij:=bt 13 (dA [dB] [eW] (eV 0 [fV 5 [98,108,111,99,107],dl 5] (dx 4 [fV 6 [115,112,97,110],dl 6] (dx 4 [fV 7 [110,105,103,104,116],dl 7] (eP 4 (fV 8 [99,114,101,100,105,116]) [dl 8]))) (eZ 4 [es 2] (aA [fV 10 [108,101,103,115],dK 9] (dx 9 [fV 11 [104,101,97,100,115],el 9] (eP 9 (fV 12 [100,117,116,105,101,115]) [ew 9])) (ba 9 [fC])))) [dB]) [cF]
theorem anw:jl 128 TK:=iD Tryz.func128 (by kernel_rfl)
def TL:ij:=dV 15 [cY 6] [bN 7,cK 8,bo 9 .geq 7 8,dZ 10,ic 11 10,gK 12 10,gL 13 11 fM 10,dj 14 10 13,dU 14] [dQ]
theorem anx:jl 129 TL:=iD Tryz.func129 (by kernel_rfl)
def TM:ij:=dV 10 [dI] [eW,au 4 175 [.t 3],fv 4,ic 6 5,cV 7 176 [gN] 5,aH 8 (bY 7) 5,dj 9 5 8,dZ 2] [cF]
theorem anz:jl 130 TM:=iD Tryz.func130 (by kernel_rfl)
def L3:ij:=cy 19 [gF 1,dB] (cS [fS 6 1,au 7 177 [gN],ep 5,eE 8 5,eD 9 5,eh 3,dl 9] [en 10,eo 11 10 200,el 12,cq 13 4 12,ft 14 13 16 12,dk 15 12 14] 15 [es 10] (dn [fS 16 1,au 17 178 [eF],cQ 18 17] (ba 18 [fC]) [dB])) [cF]
theorem anA:jl 131 L3:=iD Tryz.func131 (by kernel_rfl)
def xW:fx:=dP [dZ 86,ec 87,bV 88 86 87] 88 8 (aV (.block 9 (cw [bF 91 1 12,cM 92 91,b6 93 9,eL 94 92 93 3,bF 95 94 0,cM 96 95,bF 97 7 0,cG [1,5] 98 97,ci (bo 99 .eql 96 98)] (ba 99 [es 7]))) [dZ 89,dt 90 89,gh 90])
theorem FX:mn (j3 (.loop xW))=1267573228975774065229522010628:=nr rfl
def xX:fx:=dP [eh 70,gn 71 11,bJ 72 71,bU 73 72,bV 74 70 73] 74 6 (aV (.block 7 (cw [bF 77 1 11,cM 78 77,b6 79 8,eL 80 78 79 4,bF 81 80 0,cM 82 81,bF 83 7 0,cG [1,5] 84 83,ci (bo 85 .eql 82 84)] (ba 85 [es 7]))) [eh 75,dt 76 75,fQ 76])
theorem FY:mn (j3 (.loop xX))=77370071863715549769892100:=nr rfl
def xY:fx:=dP [ec 54,gn 55 12,bJ 56 55,bU 57 56,bV 58 54 57] 58 4 (cj 5 [gn 61 12,bJ 62 61,ec 63,b9 64 62 63 3,gz 65 64,bZ 7 [br,aF,aF],bn 7 65 3] (fR [dS 66 7,bJ 67 66,au 68 130 [.t 67],cQ 69 68] 69 [fC] (aA [fk] (aR 6 xX) (aA [gt] (aR 8 xW) (cE [eM 100 7,bJ 101 100,au 102 129 [.t 101,cN,ai 31],cQ 103 102,ag 104 103,db 105 7 1 104,cZ 106 105 104,db 107 7 2 104,cZ 108 107 104,dm 109 129 [.t 106,cN,.t 108] 104,ev 110 109 104,dk 111 104 110] 111 [es 5])))) [ec 59,dt 60 59,dU 60])
theorem Qs:mn (j3 (.loop xY))=5192296858534827610516097819739076:=nr rfl
def xZ:fx:=dP [eC 26,en 27,bV 28 26 27] 28 2 (aV (.block 3 (cw [bF 31 1 11,cM 32 31,b6 33 5,eL 34 32 33 4,bF 35 34 0,cM 36 35,bF 37 4 0,cG [1,5] 38 37,ci (bo 39 .eql 36 38)] (ba 39 [es 7]))) [eC 29,dt 30 29,fv 30])
theorem FZ:mn (j3 (.loop xZ))=1099444518948:=nr rfl
def yb:fx:=dP [en 10,gn 11 11,bJ 12 11,bU 13 12,bV 14 10 13] 14 0 (cj 1 [gn 17 11,bJ 18 17,en 19,b9 20 18 19 4,fS 21 20,bZ 4 [br,br,aF,aF],fj 4 21] (fR [dS 22 4,bJ 23 22,au 24 130 [fX],cQ 25 24] 25 [fC] (aA [ga] (aR 2 xZ) (fR [eJ 40 4,bJ 41 40,au 42 128 [.t 41],bH 43 42 0] 43 [es 6] (cE [eM 44 4,bJ 45 44,au 46 129 [.t 45,dr,ai 599999],cQ 47 46,ag 48 47,db 49 4 3 48,cZ 50 49 48,dm 51 129 [.t 50,cN,ai 31] 48,ev 52 51 48,dk 53 48 52] 53 [es 5])))) [en 15,dt 16 15,ag 3 16])
theorem F0:mn (j3 (.loop yb))=18014398509481020:=nr rfl
def TN:ij:=bt 112 (bB [gF 1,dB] [fP] (eS yb) (dn [eH] (aR 4 xY) [dB])) [cF]
theorem anB:jl 132 TN:=iD Tryz.func132 (by kernel_rfl)
def yc:fx:=dc [bV 16 15 14] 16 0 1 [ag 17 15,ag 3 17] (ad [bN 18,en 19,ab 20 (dF 18 fL),dl 20] (bp 2 [ag 22 4,aq 23 .geq 22 (dL 97),ag 24 23,bC 25 4 24,gL 26 25 (dL 122) 24,dj 27 24 26,ag 21 27] (dx 21 [en 29,eo 30 29 0,ag 31 30,bC 32 4 31,cD 33 .geq 32 (dL 48) 31,bC 34 33 31,bC 35 4 34,gL 36 35 (dL 57) 34,aH 37 (gO 34 36 bh) 31,bC 38 37 31,cq 39 4 38,cP 40 .eql 39 (dL 95) 38,aH 41 (aM 38 bI (.t 40)) 31,dj 42 31 41,ag 28 42] (aY 28 (aC [dI]))))) [dt 43 15,gD 43]
theorem Qt:mn (j3 (.loop yc))=17592186011676:=nr rfl
def Qu:ij:=hU 44 [dI] [fB,eA 6 5,ek 7 6 1,ep 8,cq 9 0 8,aD 10 (cX 9) 8,ft 11 10 16 8,dk 12 8 11] 12 [dI] (dn [bN 13,eA 14 13,bM 15] (eS yc) [ae 2 bI]) [cF]
theorem anC:jl 133 Qu:=iD Tryz.func133 (by kernel_rfl)
def TO:ij:=dV 9 [dI] [eW,gp 4 3 (-840),fv 4,ic 6 5,gL 7 6 (ai 840) 5,dj 8 5 7,eh 2] [cF]
theorem anD:jl 134 TO:=iD Tryz.func134 (by kernel_rfl)
def TP:ij:=dV 9 [dI] [eW,gp 4 3 0,fv 4,ic 6 5,cD 7 .lss 6 (ai 52596000) 5,dj 8 5 7,eh 2] [cF]
theorem anE:jl 135 TP:=iD Tryz.func135 (by kernel_rfl)
def ye:fx:=dc [bV 16 15 14] 16 0 1 [ag 17 15,ag 3 17] (ad [bN 18,en 19,ab 20 (dF 18 fL),dl 20] (cE [ag 21 4,aq 22 .geq 21 (dL 65),ag 23 22,bC 24 4 23,gL 25 24 (dL 90) 23,dj 26 23 25,ag 27 26,cq 28 4 27,cP 29 .geq 28 (dL 48) 27,cq 30 29 27,bC 31 4 30,gL 32 31 (dL 57) 30,aD 33 (gO 30 32 bh) 27,dk 34 27 33,cQ 35 34] 35 [dI])) [dt 36 15,gD 36]
theorem Qv:mn (j3 (.loop ye))=137438920732:=nr rfl
def Qw:ij:=hU 37 [dI] [fB,eA 6 5,ek 7 6 1,ep 8,cq 9 0 8,aD 10 (cX 9) 8,ft 11 10 8 8,dk 12 8 11] 12 [dI] (dn [bN 13,eA 14 13,bM 15] (eS ye) [ae 2 bI]) [cF]
theorem anF:jl 136 Qw:=iD Tryz.func136 (by kernel_rfl)
def TQ:ij:=dV 15 [cY 6] [bN 7,cK 8,bo 9 .geq 7 8,dZ 10,ic 11 10,gK 12 10,gL 13 11 fM 10,dj 14 10 13,dU 14] [dQ]
theorem anG:jl 137 TQ:=iD Tryz.func137 (by kernel_rfl)
def vq:fx:=dc [bV 11 10 9] 11 0 1 [b9 12 8 10 5,bD 13 12 5,bZ 5 [br,aF,aF,br,.nilsl],bn 5 13 5] (fR [dS 14 5,bJ 15 14,au 16 179 [eQ],cQ 17 16] 17 [fC] (fR [en 18,dS 19 5,bJ 20 19,ab 21 (.lk dq gf fK aJ false)] 21 [es 7] (fO [en 22,dS 23 5,bJ 24 23,fU none (.mu dq fd fb bI)] [eJ 25 5,fS 26 25,au 27 141 [ge],dU 27] (cE [ec 28,fi 29 28] 29 [ec 30,gk 30])))) [dt 31 10,fm 31]
theorem Qx:mn (j3 (.loop vq))=4294966372:=nr rfl
def TR:ij:=cy 32 [dB] (fZ [fw 7 false,ep 3] [fD,bU 9 8,bM 10] vq [dB]) [cF]
theorem anH:jl 138 TR:=iD Tryz.func138 (by kernel_rfl)
def vt:fx:=dc [bV 12 11 10] 12 0 1 [b9 13 9 11 6,bD 14 13 6,bZ 5 [aF,br,aF,aF,br,.nilsl],bn 5 14 6] (fR [dS 15 5,bJ 16 15,au 17 140 [eF],cQ 18 17,ag 19 18,db 20 5 1 19,cZ 21 20 19,dm 22 179 [fY] 19,ev 23 22 19,dk 24 19 23] 24 [fC] (cS [dS 25 5,bJ 26 25,eJ 27 5,bJ 28 27,cu 29 [aF,br] [d9 0 26,d9 1 28],bZ 6 [aF,br],bn 6 29 2] [en 30,bD 31 6 2,ab 32 (.lk (.flat [.int,.str]) (.t 30) fJ aJ false)] 32 [es 7] (fO [en 33,bD 34 6 2,fU none (.mu (.flat [.int,.str]) (.t 33) gI bI)] [eM 35 5,fS 36 35,au 37 141 [.t 36],gq 37] (cE [ep 38,fi 39 38] 39 [ep 40,gk 40])))) [dt 41 11,fA 41]
theorem Qy:mn (j3 (.loop vt))=4398046509284:=nr rfl
def TS:ij:=cy 42 [dB] (fZ [fw 8 false,eh 3] [bN 9,bU 10 9,bM 11] vt [dB]) [cF]
theorem anI:jl 139 TS:=iD Tryz.func139 (by kernel_rfl)
def TT:ij:=dV 5 [dI] [eW,au 4 137 [.t 3,cN,gG],gk 4] [cF]
theorem anJ:jl 140 TT:=iD Tryz.func140 (by kernel_rfl)
def Qz:ij:=cy 10 [gF 1,dB] (cS [ab 3 (gm [aF]),bg 3 dr 1] [fS 4 1,au 5 180 [.t 4,cN,.t 3],cQ 6 5] 6 [es 10] (dn [fS 7 1,au 8 181 [gH],cQ 9 8] (ba 9 [fC]) [dB])) [cF]
theorem anK:jl 141 Qz:=codeOk (hs:=[3]) Tryz.func141 (by kernel_rfl)
def vu:fx:=dc [bV 50 49 48] 50 3 4 [b9 51 47 49 3,gz 52 51,bZ 7 [br,aF,aF],bn 7 52 3] (cj 5 [dS 54 7,bJ 55 54,au 56 179 [.t 55],cQ 57 56,ag 53 57] (eN 53 [fC] [en 59,dS 60 7,bJ 61 60,ab 62 (.lk dq (.t 59) (.t 61) aJ false),ag 58 62] (eZ 58 [es 7] (cE [eM 64 7,bJ 65 64,au 66 137 [.t 65,cN,ai 31],cQ 67 66,ag 68 67,db 69 7 1 68,cZ 70 69 68,db 71 7 2 68,cZ 72 71 68,dm 73 137 [.t 70,cN,.t 72] 68,ev 74 73 68,dk 75 68 74,ag 63 75] 63 [es 5]))) [en 76,dS 77 7,bJ 78 77,fU none (.mu dq (.t 76) (.t 78) bI)]) [dt 79 49,ag 49 79]
theorem QA:mn (j3 (.loop vu))=1208925819051679221284996:=nr rfl
def vv:fx:=dc [bV 13 12 11] 13 0 1 [b9 14 10 12 4,fS 15 14,bZ 5 [br,br,aF,aF],fj 5 15] (cj 2 [dS 17 5,bJ 18 17,au 19 179 [gf],cQ 20 19,ag 16 20] (eN 16 [fC] [en 22,dS 23 5,bJ 24 23,ab 25 (.lk dq fd fb aJ false),ag 21 25] (eN 21 [es 7] [eJ 27 5,bJ 28 27,au 29 182 [gb],bH 30 29 0,ag 26 30] (eZ 26 [es 6] (cE [eM 32 5,bJ 33 32,au 34 137 [.t 33,dr,ai 599999],cQ 35 34,ag 36 35,db 37 5 3 36,cZ 38 37 36,dm 39 137 [gQ,cN,ai 31] 36,ev 40 39 36,dk 41 36 40,ag 31 41] 31 [es 5])))) [en 42,dS 43 5,bJ 44 43,fU none (.mu dq (.t 42) (.t 44) bI)]) [dt 45 12,gU 45]
theorem F1:mn (j3 (.loop vv))=70368744173604:=nr rfl
def TU:ij:=cy 80 [gF 1,dB] (bB [fw 8 false,eh 3] [gn 9 11,bJ 10 9,bU 11 10,bM 12] (eS vv) (dn [gn 46 12,bJ 47 46,bU 48 47,bM 49] (aR 3 vu) [dB])) [cF]
theorem anL:jl 142 TU:=iD Tryz.func142 (by kernel_rfl)
def TV:ij:=bt 18 (dA [dB] [eW] (eV 0 [fV 5 [108,101,103,115],dl 5] (dx 4 [fV 6 [104,101,97,100,115],dl 6] (eP 4 (fV 7 [116,121,112,101,115]) [dl 7])) (eZ 4 [fC] (aA [fV 9 [98,108,111,99,107],dZ 8] (dx 8 [fV 10 [115,112,97,110],dK 8] (dx 8 [fV 11 [110,105,103,104,116],el 8] (dx 8 [fV 12 [108,111,110,103,101,115,116],ew 8] (dx 8 [fV 13 [115,104,111,114,116,101,115,116],fQ 13] (eP 8 (fV 14 [115,104,105,102,116]) [fQ 14]))))) (eZ 8 [es 2] (aA [fV 16 [115,116,97,114,116],gD 16] (eP 15 (fV 17 [101,110,100]) [gD 17]) (ba 15 [es 3])))))) [dB]) [cF]
theorem anM:jl 143 TV:=iD Tryz.func143 (by kernel_rfl)
def L4:ij:=bt 30 (bB [dB] [bN 7] (bp 0 [dh 9 7 [114,101,115,116],dZ 8] (eN 8 [es 2] [dh 11 7 [110,105,103,104,116,115],el 10] (eZ 10 [fC] (cE [dh 13 7 [104,111,109,101],gU 13] 12 [es 4])))) (aA [bN 15,au 16 183 [eQ,aU [98,101,102,111,114,101,46]],ag 14 16,eE 17 14,eD 18 14,ag 3 17,dl 18] (cE [ag 19 4] 19 [en 20,au 21 143 [fK],gk 21]) (dn [bN 23,au 24 183 [fX,aU [97,102,116,101,114,46]],ag 22 24,eE 25 22,eD 26 22,fv 25,dU 26] (cE [ec 27] 27 [eC 28,au 29 143 [gb],gk 29]) [dB]))) [cF]
theorem anN:jl 144 L4:=iD Tryz.func144 (by kernel_rfl)
def TW:ij:=bt 13 (dA [dB] [eW] (eV 0 [fV 5 [100,117,116,105,101,115],dl 5] (dx 4 [fV 6 [108,101,103,115],dl 6] (dx 4 [fV 7 [104,101,97,100,115],dl 7] (eP 4 (fV 8 [100,97,121,115]) [dl 8]))) (eZ 4 [fC] (aA [fV 10 [98,108,111,99,107],dK 9] (dx 9 [fV 11 [115,112,97,110],el 9] (eP 9 (fV 12 [99,114,101,100,105,116]) [ew 9])) (ba 9 [es 2])))) [dB]) [cF]
theorem anO:jl 145 TW:=iD Tryz.func145 (by kernel_rfl)
def QB:ij:=eY 23 (dA [cW 7 3,fk,gt] [fS 11 7,au 12 141 [eK],ew 10] (cE [dK 13,fi 14 13] 14 [dK 15,fk,gh 15]) [gW,cK 17,ee 18,fS 19 7,au 20 184 [eF,fW,gf,fL],eE 21 20,eD 22 20,fQ 21,gh 22]) [.tmp 8,.tmp 9]
theorem anP:jl 146 QB:=iD Tryz.func146 (by kernel_rfl)
def vX:ij:=cy 31 [dD] (bB [fD,au 9 200 [fH],cK 10,au 11 200 [gc],au 12 199 [fu,eK],ew 7,eE 13 7,eD 14 7,fv 13,dU 14] [eC 15,aq 16 .neq 15 (fG 0),ag 17 16,cq 18 6 17,dX 19 18 (fG 1099511627776) 17,dk 20 17 19] (aL 20 (ch (ae 6 (fG 1099511627776)) [])) (dn [bN 21,ek 22 21 0,cK 23,ek 24 23 0,ab 25 (.eq true (.one .bool) fd fb)] (ba 25 [ec 26,ab 27 (.cvi .i64 ge),ab 28 (bK .neg 27),dl 28]) [ec 29,ab 30 (.cvi .i64 fI),dl 30])) [cI]
theorem anQ:jl 162 vX:=iD Tryz.func162 (by kernel_rfl)
def L5:ij:=bt 31 (bB [dD] [cK 6] (bp 0 [bH 8 6 0,eh 7] (eZ 7 [dD] (cE [bH 10 6 (-1),dK 9] 9 [gX,au 12 162 [eK,ai (-1)],dl 12]))) (dA [bN 13,cK 14,bo 15 .quo 13 14,fv 15] [gW,cK 17,bo 18 .rem 16 17,fi 19 18,ag 20 19,ic 21 20,cD 22 .lss 21 dr 20,bC 23 1 20,cD 24 .lss 23 dr 20,aH 25 (.eq true (.one .bool) fd fb) 20,dj 26 20 25] (aL 26 (dz 27 5 [aG 28 .sub 27 1,fv 28])) [eC 29,au 30 109 [fI],dl 30])) [cI]
theorem anR:jl 163 L5:=iD Tryz.func163 (by kernel_rfl)
def TX:ij:=bt 28 (bB [gF 4,cW 5 1,fk] [gz 10 4,au 11 84 [gc],el 9] (cE [dZ 12,fi 13 12] 13 [dZ 14,fQ 14]) (dn [bD 15 5 2,au 16 201 [eQ],cQ 17 16,gM 17,cq 19 2 18,dm 20 202 [fL] 18,ev 21 20 18,dk 22 18 21,ag 23 22,cq 24 3 23,dm 25 202 [fb] 23,ev 26 25 23,dk 27 23 26] (ba 27 [aE 8 5]) [fk])) [.tmp 8]
theorem anS:jl 164 TX:=iD Tryz.func164 (by kernel_rfl)
def mX:fx:=dP [ag 59 18,ag 60 16,bo 61 .leq 59 60] 61 2 (cj 3 [ag 64 18,aG 65 .mul 64 1440,ee 66,dG 67 65 66,eM 68 13,bJ 69 68,bo 70 .sub 67 69,ag 19 70] (cw [b6 71 19,bF 72 13 0,cM 73 72,bv 74 (.mm true [.t 71,.t 73]),b6 75 19,b6 76 10,ci (dG 77 75 76),bF 78 13 1,cG [2] 79 78,bv 80 (.mm false [.t 77,.t 79]),b6 20 74,b6 21 80] (aA [ag 81 20,ag 82 21,bo 83 .geq 81 82] (aL 83 (.exit 3)) (fO [el 84,bU 85 84,ag 22 85] [ag 86 22,eo 87 86 0,ag 88 87,bC 89 11 88,bC 90 22 88,cD 91 .sub 90 cN 88,aH 92 (bG 89 91 2) 88,em 93 92 1 88,dM 94 93 88,bC 95 20 88,eU 96 94 (.t 95) 88,dj 97 88 96] (am 97 (dz 98 11 [ag 99 22,aG 100 .sub 99 1,ag 101 21,b9 102 98 100 2,eJ 103 102,gw 103 101]) (dz 104 11 [ag 105 20,ag 106 21,cu 107 [aF,aF] [d9 0 105,d9 1 106],di 108 [aF,aF] 1 [fE 107],ab 109 (eX 2 16 104 108),fA 109]))))) [ag 62 18,dt 63 62,gM 63])
def pc:fx:=dc [bV 35 34 33] 35 0 1 [b9 36 32 34 3,gz 37 36,bZ 13 [aF,aF,aF],bn 13 37 3] (fO [dS 39 13,bJ 40 39,eM 41 13,bJ 42 41,dG 43 40 42,au 44 168 [.t 43],ag 38 44,eE 45 38,eD 46 38,ag 14 45,gD 46] [eJ 48 13,bJ 49 48,aG 50 .sub 49 1,eM 51 13,bJ 52 51,dG 53 50 52,au 54 168 [.t 53],ag 47 54,eE 55 47,eD 56 47,ag 16 55,ag 17 56] (ad [ag 57 14,aG 58 .sub 57 1,gM 58] (aR 2 mX))) [dt 110 34,ag 34 110]
def QC:ij:=cy 113 [gF 4,cW 5 1,ed 8,gt] (cS [en 23,ee 24,bo 25 .sub 23 24,bL 26 25 1440,fg 27 26 1440,fm 27] [dK 28,bH 29 28 0] 29 [ed 8,gt] (fZ [ed 11] [gz 30 4,bD 31 5 2,au 32 203 [.t 30,fJ],bU 33 32,bM 34] pc [el 111,dK 112,fQ 111,gh 112])) [.tmp 8,.tmp 9]
theorem anT:jl 165 QC:=iD Tryz.func165 (by kernel_rfl)
def vw:fx:=dc [bV 14 13 12] 14 0 1 [b9 15 11 13 2,bD 16 15 2,bZ 7 [aF,aF],bn 7 16 2] (aA [dS 17 7,bJ 18 17,cK 19,bo 20 .gtr 18 19] (aL 20 (.exit 0)) (ch (eJ 21 7) [bJ 22 21,fv 22])) [dt 23 13,ag 13 23]
def TY:ij:=cy 25 [gF 2,dD] (fZ [eJ 8 2,bJ 9 8,dZ 5] [eM 10 2,bJ 11 10,bU 12 11,bM 13] vw [eC 24,dl 24]) [cI]
theorem anU:jl 166 TY:=iD Tryz.func166 (by kernel_rfl)
def TZ:ij:=cy 20 [gF 2,dD,ga] (cS [gz 9 2,cK 10,au 11 117 [fu,gc],el 8,eE 12 8,eD 13 8,dU 12,gq 13] [ep 14,fi 15 14] 15 [ep 16,dD,fv 16] (aC [cK 17,ec 18,dG 19 17 18,dl 19,ga])) [cI,fF]
theorem anV:jl 167 TZ:=iD Tryz.func167 (by kernel_rfl)
def QD:ij:=cy 16 [dB,fP] (dA [bN 4,aG 5 .quo 4 1440,gV,fg 7 6 1440,eC 2,ep 3] [en 8,ek 9 8 0] (aL 9 (ad [ee 10,aG 11 .sub 10 1,el 2] (dz 12 3 [bL 13 12 1440,ag 3 13]))) [ee 14,en 15,gk 14,ag 3 15]) [cF,gY]
theorem anW:jl 168 QD:=iD Tryz.func168 (by kernel_rfl)
def rf:fx:=dP [dU 5,bN 7,eA 8 7,bV 9 6 8] 9 0 (cj 1 [bN 12,eC 13,ab 14 (dF 12 fe),cK 15,bo 16 .eql 14 15] (ba 16 [eC 17,dl 17]) [eC 10,dt 11 10,el 5])
def QE:ij:=bt 18 (fZ [dD] [ga] rf [aE 4 (-1)]) [cI]
theorem anX:jl 169 QE:=iD Tryz.func169 (by kernel_rfl)
def anY:ij:=hU 44 [dB,fP] [fD,eA 9 8,dg 10 9 5,dK 11,cq 12 0 11,aD 13 (dF 12 dW) 11,cP 14 .neq 13 (dL 58) 11,dk 15 11 14] 15 [dB,hZ 3] (ad [bN 17,ab 18 (.slS fW none (some dW)),au 19 172 [gf,dW,dW],ag 16 19,eE 20 16,eD 21 16,dl 20,fv 21] (cS [bN 23,ab 24 (gy fX gG none),au 25 172 [fb,dW,dW],ag 22 25,eE 26 22,eD 27 22,dU 26,gq 27] [eC 28,cQ 29 28,ag 30 29,cq 31 7 30,ev 32 31 30,dk 33 30 32] 33 [dB,hZ 3] (dn [ag 34 4,eo 35 34 23,ag 36 35,cq 37 6 36,ft 38 37 59 36,dk 39 36 38] (ba 39 [dB,aE 3 5]) [ag 40 4,ab 41 (eO .mul (ai 60) 40),ec 42,dG 43 41 42,gk 43,fP]))) [cF,gY]
theorem anZ:jl 170 anY:=iD Tryz.func170 (by kernel_rfl)
def an0:ij:=cy 86 [dB,fP] (bB [gX,eA 12 11,eo 13 12 0,ag 14 13,ic 15 14,aH 16 (dF 15 dr) 14,eU 17 16 (dL 45) 14,dj 18 14 17,dl 18] [ag 19 4] (aL 19 (ch (bN 20) [ab 21 (gy fK cN none),ag 0 21])) (cS [bN 22,eA 23 22,aG 24 .sub 23 3,fv 24] [eC 25,ek 26 25 1,ag 27 26,cq 28 0 27,cq 29 5 27,aD 30 (dF 28 fI) 27,cP 31 .neq 30 (dL 58) 27,dk 32 27 31] 32 [dB,hZ 3] (ad [bN 34,eC 35,ab 36 (.slS gI none (some (.t 35))),au 37 172 [.t 36,cN,ai 11],ag 33 37,eE 38 33,eD 39 33,dU 38,gq 39] (cS [bN 41,eC 42,dt 43 42,ab 44 (gy (.t 41) (.t 43) none),au 45 172 [.t 44,dW,dW],ag 40 45,eE 46 40,eD 47 40,fQ 46,gh 47] [ep 48,cQ 49 48,ag 50 49,cq 51 9 50,ev 52 51 50,dk 53 50 52,ag 54 53,cq 55 0 54,cq 56 5 54,aD 57 (.slS (.t 55) none (some (.t 56))) 54,dm 58 204 [.t 57] 54,ev 59 58 54,dk 60 54 59,ag 61 60,cq 62 4 61,cq 63 62 61,bC 64 6 63,eU 65 64 dr 63,aD 66 (gO 63 65 bh) 61,cq 67 66 61,bC 68 8 67,eU 69 68 dr 67,aD 70 (gO 67 69 bh) 61,dk 71 61 70] 71 [dB,hZ 3] (cS [ec 72,ab 73 (eO .mul (ai 60) 72),eh 74,dG 75 73 74,fm 75] [eh 76,eo 77 76 59,ag 78 77,cq 79 10 78,ft 80 79 1099511627776 78,dk 81 78 80] 81 [dB,aE 3 5] (dn [ag 82 4] (aL 82 (dz 83 10 [ab 84 (bK .neg 83),fm 84])) [dK 85,gk 85,fP])))))) [cF,gY]
theorem an1:jl 171 an0:=iD Tryz.func171 (by kernel_rfl)
def Z0:fx:=dP [dZ 20,bN 21,eA 22 21,bV 23 20 22] 23 0 (aV (eV 1 [bN 26,dZ 27,ab 28 (dF 26 gJ),au 29 205 [gb],cQ 30 29] (ba 30 [eH,cY 7]) (dz 31 8 [ab 32 (eO .mul (ai 10) 31),bN 33,dZ 34,ab 35 (dF 33 gI),aq 36 .sub 35 (dL 48),ab 37 (.cvi .i64 (.t 36)),dG 38 32 37,fQ 38])) [dZ 24,dt 25 24,gh 25])
def an2:ij:=hU 40 [eH,cY 7] [bN 10,eA 11 10,cK 12,bV 13 11 12,ag 14 13,cq 15 0 14,aD 16 (cX 15) 14,cq 17 2 14,dX 18 16 fW 14,dk 19 14 18] 19 [eH,cY 7] (fZ [fk] [gt] Z0 [eh 39,dU 39,ae 7 bI]) [dQ,.tmp 7]
theorem an3:jl 172 an2:=iD Tryz.func172 (by kernel_rfl)
def an4:ij:=eY 14 (ad [bZ 2 [aF,aF,br,.nilsl]] (dA [bN 4,au 5 206 [.t 4],bZ 3 [aF,aF,br,.nilsl],fj 3 5] [gV,au 7 207 [gN,aU [105,109,112,108,105,101,115]]] (aL 7 (cw [bv 8 (bu 3 4),eB 9,dN [0] 10 173 [fu],bv 11 (.bsl [aF,aF,br,.nilsl] 2 [fE 8,cH 1 10]),dY 12 [aF,aF,br,.nilsl] [dO 0 1 22,d9 3 11],dJ 2 12 4] .ret)) [fS 13 3,fj 2 13])) [dH 2 4]
theorem an5:jl 173 an4:=iD Tryz.func173 (by kernel_rfl)
def an6:ij:=bt 16 (dA [bZ 2 [aF,aF,br,.nilsl]] [eW,cz 4 3,eM 5 4,bJ 6 5,ek 7 6 0] (aL 7 (ch fD [bN 9,cz 10 9,eJ 11 10,bJ 12 11,cz 13 8,eM 14 13,gw 14 12])) [cu 15 [aF,aF,br,.nilsl] [],fj 2 15]) [dH 2 4]
theorem an7:jl 174 an6:=iD Tryz.func174 (by kernel_rfl)
def yf:fx:=dP [en 18,bN 19,eA 20 19,bV 21 18 20] 21 0 (cj 1 [bN 24,en 25,ab 26 (dF 24 (.t 25)),au 27 208 [ge],cQ 28 27,ag 29 28,ic 30 29,bC 31 3 29,aH 32 (dF 30 fJ) 29,cV 33 205 [.t 32] 29,aH 34 (bY 33) 29,dj 35 29 34,ag 36 35,ic 37 36,bC 38 3 36,aH 39 (dF 37 gQ) 36,cD 40 .neq 39 (dL 95) 36,dj 41 36 40] (ba 41 [dI]) [en 22,dt 23 22,ag 3 23])
theorem QF:mn (j3 (.loop yf))=4398046248972:=nr rfl
def L6:ij:=hU 42 [dI] [bN 4,eA 5 4,ek 6 5 1,ec 7,cq 8 0 7,aD 9 (cX 8) 7,ft 10 9 16 7,dk 11 7 10,el 12,cq 13 0 12,aD 14 (dF 13 dr) 12,dm 15 208 [fq] 12,ev 16 15 12,dk 17 12 16] 17 [dI] (dn [fP] (eS yf) [ae 2 bI]) [cF]
theorem an8:jl 175 L6:=iD Tryz.func175 (by kernel_rfl)
def N7:fx:=dP [dU 4,en 7,bU 8 7,bV 9 6 8] 9 0 (cj 1 [en 12,ag 13 4,b9 14 12 13 1,bJ 15 14,gW,bo 17 .eql 15 16] (ba 17 [ae 2 bI]) [fm 4,dt 11 10,dl 11])
def T0:ij:=cy 18 [dI] (fZ [di 5 [br] 13 [bW 0 [97,110,100],bW 1 [111,114],bW 2 [110,111,116],bW 3 [105,109,112,108,105,101,115],bW 4 [105,110],bW 5 [116,111],bW 6 [116,114,117,101],bW 7 [102,97,108,115,101],bW 8 [109,105,110],bW 9 [109,97,120],bW 10 [105,102],bW 11 [116,104,101,110],bW 12 [101,108,115,101]],eC 3] [dD] N7 [dI]) [cF]
theorem an9:jl 176 T0:=iD Tryz.func176 (by kernel_rfl)
def T1:ij:=dV 8 [gF 1,dB,fP] [fS 4 1,au 5 209 [.t 4,cN],eE 6 5,eD 7 5,ec 2,ep 3] [cF,gY]
theorem aoa:jl 177 T1:=iD Tryz.func177 (by kernel_rfl)
def yg:fx:=dP [ec 70,gn 71 3,bJ 72 71,bU 73 72,bV 74 70 73] 74 1 (cj 2 [gn 77 3,bJ 78 77,ec 79,b9 80 78 79 4,fS 81 80,au 82 178 [.t 81],cQ 83 82] (ba 83 [dI]) [ec 75,dt 76 75,dU 76])
theorem QG:mn (j3 (.loop yg))=19341632522213349383995460:=nr rfl
def QH:ij:=hU 84 [gF 1,dI] [dS 7 1,bJ 8 7,ek 9 8 1,dZ 10,db 11 1 0 10,cZ 12 11 10,ft 13 12 22 10,dk 14 10 13] 14 [dI] (cS [dS 16 1,bJ 17 16,au 18 210 [fW],gD 18,eE 19 15,eD 20 15,ag 3 19,dl 20] [gn 21 3,bJ 22 21,bU 23 22,en 24,bV 25 23 24,ag 26 25,db 27 1 3 26,cZ 28 27 26,aD 29 (aX 28) 26,cq 30 4 26,dX 31 29 (.t 30) 26,dk 32 26 31] 32 [dI] (bB [ga] [dS 33 1,bJ 34 33] (eV 0 [bH 36 34 1,ag 35 36] (eP 35 (bH 37 34 2) [ag 35 37]) (de 35 (ch (aE 5 1099511627776) []) [bH 39 34 3,ag 38 39] (aL 38 (ch (aE 5 1439) [])))) (fR [eJ 40 1,bJ 41 40,ek 42 41 0,ag 43 42,db 44 1 1 43,cZ 45 44 43,cq 46 5 43,dX 47 45 (.t 46) 43,dk 48 43 47,ag 49 48,db 50 1 0 49,cZ 51 50 49,cP 52 .eql 51 (ai 6) 49,cq 53 52 49,em 54 1 2 53,dM 55 54 53,cV 56 211 [.t 55] 53,aH 57 (bY 56) 53,aD 58 (gO 53 57 bh) 49,dk 59 49 58,ag 60 59,db 61 1 0 60,cZ 62 61 60,cP 63 .neq 62 (ai 6) 60,cq 64 63 60,em 65 1 2 64,dM 66 65 64,cD 67 .neq 66 (aU []) 64,aD 68 (gO 64 67 bh) 60,dk 69 60 68] 69 [dI] (dn [eH] (aR 1 yg) [ae 2 bI])))) [cF]
theorem aob:jl 178 QH:=iD Tryz.func178 (by kernel_rfl)
def T2:ij:=dV 10 [dI] [eW,au 4 133 [.t 3],fv 4,ic 6 5,cV 7 212 [gN] 5,aH 8 (bY 7) 5,dj 9 5 8,dZ 2] [cF]
theorem aoc:jl 179 T2:=iD Tryz.func179 (by kernel_rfl)
def rh:fx:=dc [bV 26 25 24] 26 0 1 [b9 27 23 25 4,fS 28 27,bZ 8 [aF,aF,br,.nilsl],fj 8 28] (cE [fS 29 8,cK 30,dt 31 30,ee 32,au 33 180 [fI,fJ,.t 32],cQ 34 33] 34 [cY 6]) [dt 35 25,ag 25 35]
def JC:ij:=eY 36 (ad [gF 3,cY 6] (cS [ee 9,cz 10 9,bJ 11 10,dt 12 11,cz 13 9,gw 13 12] [ee 14,cz 15 14,bJ 16 15,eo 17 16 200,gM 17,cq 19 1 18,ft 20 19 16 18,dk 21 18 20] 21 [cY 6] (dn [aO 22 3 3,bJ 23 22,bU 24 23,bM 25] (eS rh) [ae 6 bI]))) [dQ]
theorem aod:jl 180 JC:=iD Tryz.func180 (by kernel_rfl)
def yh:fx:=dc [bV 62 61 60] 62 1 2 [b9 63 59 61 4,fS 64 63,bZ 4 [aF,aF,br,.nilsl],fj 4 64] (cE [fS 65 4,au 66 181 [.t 65],cQ 67 66] 67 [dI]) [dt 68 61,ag 61 68]
theorem QI:mn (j3 (.loop yh))=587989967349491957780:=nr rfl
def QJ:ij:=hU 69 [gF 1,dI] [dS 5 1,bJ 6 5,ek 7 6 1,ep 8,db 9 1 0 8,cZ 10 9 8,ft 11 10 22 8,dk 12 8 11,ew 13,db 14 1 0 13,cZ 15 14 13,db 16 1 3 13,cZ 17 16 13,aD 18 (aX 17) 13,dm 19 213 [eQ,gf] 13,ev 20 19 13,dk 21 13 20] 21 [dI] (aA [dS 22 1,bJ 23 22] (eV 0 [bH 28 23 1,ag 27 28] (eP 27 (bH 29 23 2) [ag 27 29]) (de 27 (cE [eJ 30 1,bJ 31 30,ek 32 31 0,ag 33 32,db 34 1 1 33,cZ 35 34 33,ft 36 35 1099511627776 33,dk 37 33 36] 37 [dI]) [bH 39 23 3,ag 38 39] (am 38 (cE [eJ 40 1,bJ 41 40,ek 42 41 0,ag 43 42,db 44 1 1 43,cZ 45 44 43,ft 46 45 1439 43,dk 47 43 46] 47 [dI]) (cE [eJ 24 1,bJ 25 24,fi 26 25] 26 [dI])))) (aA [dS 48 1,bJ 49 48,bH 50 49 6] (am 50 (cE [eM 51 1,bJ 52 51,au 53 214 [.t 52],cQ 54 53] 54 [dI]) (cE [eM 55 1,bJ 56 55,cJ 57 .neq 56 []] 57 [dI])) (dn [gn 58 3,bJ 59 58,bU 60 59,bM 61] (aR 1 yh) [ae 2 bI]))) [cF]
theorem aoe:jl 181 QJ:=iD Tryz.func181 (by kernel_rfl)
def T3:ij:=bt 13 (dA [dB] [eW] (eV 0 [fV 5 [98,108,111,99,107],dl 5] (dx 4 [fV 6 [115,112,97,110],dl 6] (dx 4 [fV 7 [110,105,103,104,116],dl 7] (eP 4 (fV 8 [99,114,101,100,105,116]) [dl 8]))) (eZ 4 [es 3] (aA [fV 10 [108,101,103,115],dK 9] (dx 9 [fV 11 [104,101,97,100,115],el 9] (eP 9 (fV 12 [100,117,116,105,101,115]) [ew 9])) (ba 9 [es 2])))) [dB]) [cF]
theorem aof:jl 182 T3:=iD Tryz.func182 (by kernel_rfl)
def T4:ij:=dV 11 [ae 4 (aU []),cY 5] [gV,cK 7,au 8 215 [gN,gH],eE 9 8,eD 10 8,dl 9,dK 5] [cI,fF]
theorem aog:jl 183 T4:=iD Tryz.func183 (by kernel_rfl)
def nV:fx:=dc [bV 62 61 60] 62 0 1 [ag 63 61,b9 64 59 61 4,fS 65 64,bZ 16 [aF,aF,br,.nilsl],gD 63,fj 16 65] (cS [bN 67,cK 68,ee 69,fS 70 16,au 71 184 [.t 67,.t 68,.t 69,.t 70],ag 66 71,eE 72 66,eD 73 66,ag 17 72,gM 73] [ag 74 18,fi 75 74] 75 [ag 76 18,fk,gh 76] (dz 77 14 [ag 78 15,ag 79 17,b9 80 77 78 1,gw 80 79])) [dt 81 61,ag 61 81]
theorem F2:mn (j3 (.loop nV))=4835700972615507485623040:=nr rfl
def C8:ij:=eY 89 (bB [cW 7 3,fk,gt] [dS 20 7,bJ 21 20,bH 22 21 6] (aL 22 (aA [cK 24,eM 25 7,bJ 26 25,au 27 90 [fb,ge],ag 23 27,eE 28 23,eD 29 23,fm 28,fA 29] (cE [el 30,bH 31 30 0] 31 [dK 32,fQ 32,gt]) (.seq (cw [eB 34,df 35 34,bF 36 35 1,cM 37 36,bF 38 7 2,cG [3] 39 38,bv 40 (.lk dq (.t 37) (.t 39) aF true),b6 33 40,bv 41 (aZ 33 0),bv 42 (aZ 33 1),b6 12 41,b6 13 42] (cE [ag 43 13,ag 44 43,bC 45 12 44,gK 46 44,cD 47 .lss 45 (.t 46) 44,dj 48 44 47] 48 [bN 49,ew 50,au 51 91 [.t 49,.t 50],eE 52 51,eD 53 51,fQ 52,gh 53])) (aC [fk,aE 9 6])))) (bB [aO 54 7 3,bJ 55 54,bU 56 55,ab 57 (.mksl [aF] 8 (.t 56) false),ag 14 57] [aO 58 7 3,bJ 59 58,bU 60 59,bM 61] (eS nV) (dn [dS 82 7,bJ 83 82,ag 84 14,au 85 216 [.t 83,.t 84],ag 19 85] (cE [ag 86 19,fi 87 86] 87 [ag 88 19,fQ 88,gt]) [fk,aE 9 9]))) [.tmp 8,.tmp 9]
theorem aoh:jl 184 C8:=iD Tryz.func184 (by kernel_rfl)
def T5:ij:=cy 51 [ae 4 (fG 0),ae 5 (fG 0)] (fO [bN 14,aq 15 .and 14 (fG 4294967295),dU 15] [gW,aq 17 .shr 16 (fG 32),gq 17] (fO [cK 18,aq 19 .and 18 (fG 4294967295),fQ 19] [cK 20,aq 21 .shr 20 (fG 32),gh 21] (fO [ec 22,eh 23,bo 24 .mul 22 23,fm 24] [ep 25,eh 26,bo 27 .mul 25 26,dK 28,aq 29 .shr 28 (fG 32),dG 30 27 29,fA 30] (fO [el 31,aq 32 .and 31 (fG 4294967295),gU 32] [el 33,aq 34 .shr 33 (fG 32),ag 13 34] (fO [ew 35,ec 36,dZ 37,bo 38 .mul 36 37,dG 39 35 38,gU 39] [ep 40,dZ 41,bo 42 .mul 40 41,ag 43 13,dG 44 42 43,ew 45,aq 46 .shr 45 (fG 32),dG 47 44 46,dl 47] (aC [bN 48,cK 49,bo 50 .mul 48 49,fv 50])))))) [cI,fF]
theorem aoi:jl 199 T5:=iD Tryz.func199 (by kernel_rfl)
def QK:ij:=hU 10 [ae 2 (fG 0)] [eW,ek 4 3 0] 4 [fB,ab 6 (.cvi .u64 gZ),ab 7 (bK .neg 6),ep 2] (aC [fD,ab 9 (.cvi .u64 fH),dZ 2]) [cF]
theorem aoj:jl 200 QK:=iD Tryz.func200 (by kernel_rfl)
def T6:ij:=dV 18 [gF 1,dI] [dS 3 1,bJ 4 3,gp 5 4 0,dU 5,em 7 1 0 6,dM 8 7 6,em 9 1 1 6,dM 10 9 6,gL 11 8 gc 6,dj 12 6 11,ew 13,em 14 1 1 13,dM 15 14 13,gL 16 15 (ai 52596000) 13,dj 17 13 16,gk 17] [cF]
theorem aok:jl 201 T6:=iD Tryz.func201 (by kernel_rfl)
def T7:ij:=dV 9 [dI] [eW,gp 4 3 0,fv 4,ic 6 5,cD 7 .lss 6 gx 5,dj 8 5 7,eh 2] [cF]
theorem aol:jl 202 T7:=iD Tryz.func202 (by kernel_rfl)
def ri:fx:=dP [eh 14,eM 15 2,bJ 16 15,bU 17 16,bo 18 .leq 14 17] 18 0 (cj 1 [aE 9 52596000] (aA [eh 21,eM 22 2,bJ 23 22,bU 24 23,bV 25 21 24] (aL 25 (ch (eM 26 2) [bJ 27 26,eh 28,b9 29 27 28 2,dS 30 29,bJ 31 30,gh 31])) (.seq (cw [b6 32 6,bF 33 3 0,cM 34 33,bv 35 (.mm true [.t 32,gI]),b6 36 9,bF 37 3 1,cG [2] 38 37,bv 39 (.mm false [.t 36,gQ]),b6 10 35,b6 11 39] (ad [dK 40,el 41,bV 42 40 41] (aL 42 (dz 43 5 [dK 44,el 45,ep 46,cu 47 [aF,aF,aF] [d9 0 44,d9 1 45,d9 2 46],di 48 [aF,aF,aF] 1 [fE 47],ab 49 (eX 3 24 43 48),fv 49])))) (ad [eh 50,eM 51 2,bJ 52 51,bU 53 52,bV 54 50 53] (aL 54 (.draws [b6 55 9,bF 56 2 2,cM 57 56,b6 58 8,eL 59 57 58 2,bF 60 59 1,cM 61 60,b6 6 55,b6 7 61]))))) [eh 19,dt 20 19,fQ 20])
def T8:ij:=cy 63 [gF 2,cW 3 1,ed 4] (gE [ed 5] [bF 12 2 1,cM 13 12,ci eH,b6 7 13] (dn [fk] (eS ri) [eC 62,dl 62])) [cI]
theorem aom:jl 203 T8:=iD Tryz.func203 (by kernel_rfl)
def aon:ij:=dV 16 [dI] [eW,eA 4 3,bH 5 4 1,dU 5,cq 7 0 6,aD 8 (cX 7) 6,dX 9 8 cN 6,cq 10 9 6,ic 11 10,aH 12 (dF 11 dr) 10,cD 13 .neq 12 (dL 48) 10,aD 14 (aM 10 fe bh) 6,dk 15 6 14,gk 15] [cF]
theorem aoo:jl 204 aon:=iD Tryz.func204 (by kernel_rfl)
def QL:ij:=dV 9 [dI] [eW,aq 4 .geq 3 (dL 48),fv 4,ic 6 5,gL 7 6 (dL 57) 5,dj 8 5 7,eh 2] [cF]
theorem aoq:jl 205 QL:=iD Tryz.func205 (by kernel_rfl)
def Z1:fx:=dP [gV,au 7 207 [gN,aU [111,114]]] 7 0 (.block 1 (.draws [bv 8 (bu 3 4),eB 9,dN [0] 10 225 [fu],bv 11 (.bsl [aF,aF,br,.nilsl] 2 [fE 8,cH 1 10]),dY 12 [aF,aF,br,.nilsl] [dO 0 1 21,d9 3 11],dJ 3 12 4]))
def aor:ij:=eY 14 (ad [bZ 2 [aF,aF,br,.nilsl]] (bO [bN 4,au 5 225 [.t 4],bZ 3 [aF,aF,br,.nilsl],fj 3 5] (eS Z1) (aC [fS 13 3,fj 2 13]))) [dH 2 4]
theorem aos:jl 206 aor:=iD Tryz.func206 (by kernel_rfl)
def aot:ij:=eY 15 (dA [fN] [fB,cK 6,au 7 226 [gZ,gN]] (aL 7 (ad [fD,cz 9 8,eJ 10 9,bJ 11 10,dt 12 11,cz 13 8,eJ 14 13,gw 14 12] (aC [ae 4 bI]))) [fN]) [cI]
theorem aou:jl 207 aot:=iD Tryz.func207 (by kernel_rfl)
def QM:ij:=dV 9 [dI] [eW,aq 4 .geq 3 (dL 97),fv 4,ic 6 5,gL 7 6 (dL 122) 5,dj 8 5 7,eh 2] [cF]
theorem aov:jl 208 QM:=iD Tryz.func208 (by kernel_rfl)
def pd:fx:=dP [eh 13,aO 14 2 3,bJ 15 14,bU 16 15,bV 17 13 16,gM 17,bC 19 6 18,gL 20 19 (ai 200) 18,dj 21 18 20] 21 0 (cj 1 [aO 25 2 3,bJ 26 25,eh 27,b9 28 26 27 4,fS 29 28,cK 30,dt 31 30,au 32 209 [fI,fJ],ag 24 32,eE 33 24,eD 34 24,gh 33,fm 34] (dz 35 6 [dZ 36,dG 37 35 36,ep 38,dK 39,dt 40 39,ab 41 (.mm true [gQ,.t 40]),dU 37,gq 41]) [eh 22,dt 23 22,fQ 23])
def QN:ij:=cy 44 [gF 2,dD,ga] (cS [hZ 6,hZ 7] [cK 11,eo 12 11 16] 12 [hZ 4,hZ 5] (dn [fk] (eS pd) [ec 42,ep 43,dl 42,fv 43])) [cI,fF]
theorem aow:jl 209 QN:=iD Tryz.func209 (by kernel_rfl)
def T9:ij:=bt 21 (dA [dB,fP] [bN 4] (eV 0 [bH 6 4 1,ec 5] (dx 5 [bH 7 4 2,ep 5] (dx 5 [bH 8 4 3,eh 5] (dx 5 [bH 9 4 4,dZ 5] (dx 5 [bH 10 4 5,dK 5] (eP 5 (bH 11 4 6) [el 5]))))) (eZ 5 [dB,fP] (aA [bH 13 4 7,gU 13] (eP 12 (bH 14 4 19) [gU 14]) (eZ 12 [fC,hZ 3] (aA [bH 16 4 12,gD 16] (eP 15 (bH 17 4 13) [gD 17]) (eZ 15 [es 2,aE 3 200] (aA [bH 19 4 14,gM 19] (eP 18 (bH 20 4 15) [gM 20]) (ba 18 [es 3,aE 3 3])))))))) [es 2,aE 3 2]) [cF,gY]
theorem aox:jl 210 T9:=iD Tryz.func210 (by kernel_rfl)
def QO:ij:=cy 21 [dI] (cS [bN 4,au 5 169 [.t 4,dL 46],eC 3] [dU 3,ek 7 6 0] 7 [fD,au 9 130 [fH],dZ 2] (aC [bN 10,en 11,ab 12 (.slS gc none (some eK)),au 13 175 [fM],ag 14 13,ic 15 14,bC 16 3 14,cD 17 .add 16 cN 14,aH 18 (gy eQ fW none) 14,cV 19 175 [gf] 14,dj 20 14 19,gk 20])) [cF]
theorem aoy:jl 211 QO:=iD Tryz.func211 (by kernel_rfl)
def Ua:ij:=bt 18 (dA [dI] [eW] (eV 0 [fV 5 [97,110,100],dl 5] (dx 4 [fV 6 [111,114],dl 6] (dx 4 [fV 7 [110,111,116],dl 7] (dx 4 [fV 8 [105,109,112,108,105,101,115],dl 8] (dx 4 [fV 9 [105,110],dl 9] (dx 4 [fV 10 [116,111],dl 10] (dx 4 [fV 11 [116,114,117,101],dl 11] (dx 4 [fV 12 [102,97,108,115,101],dl 12] (dx 4 [fV 13 [109,105,110],dl 13] (dx 4 [fV 14 [109,97,120],dl 14] (dx 4 [fV 15 [105,102],dl 15] (dx 4 [fV 16 [116,104,101,110],dl 16] (eP 4 (fV 17 [101,108,115,101]) [dl 17])))))))))))) (ba 4 [ae 2 bI])) [dI]) [cF]
theorem aoz:jl 212 Ua:=iD Tryz.func212 (by kernel_rfl)
def Ub:ij:=bt 32 (dA [fN] [fB] (eV 0 [bH 7 5 1,dU 7] (dx 6 [bH 8 5 2,dU 8] (dx 6 [bH 9 5 3,dU 9] (dx 6 [bH 10 5 4,dK 6] (dx 6 [bH 11 5 5,dU 11] (eP 6 (bH 12 5 6) [dU 12]))))) (eZ 6 [cK 13,bH 14 13 0,dl 14] (aA [bH 16 5 7,gD 16] (eP 15 (bH 17 5 19) [gD 17]) (eZ 15 [cK 18,bH 19 18 1,dl 19] (aA [bH 21 5 12,ag 20 21] (eP 20 (bH 22 5 13) [ag 20 22]) (eZ 20 [cK 23,gp 24 23 2,dl 24] (aA [bH 26 5 14,ag 25 26] (eP 25 (bH 27 5 15) [ag 25 27]) (ba 25 [cK 28,bH 29 28 3,dl 29])))))))) [cK 30,bH 31 30 2,dl 31]) [cI]
theorem aoA:jl 213 Ub:=iD Tryz.func213 (by kernel_rfl)
def QP:ij:=bt 21 (dA [dI] [bN 7,au 8 227 [gH,aU [46]],dU 8,eE 9 6,eD 10 6,bE 11 6 2,dZ 3,dl 10,el 5] (cE [eC 12] 12 [en 13,au 14 133 [fe],gD 14,bC 16 4 15,cV 17 133 [eF] 15,dj 18 15 17,gk 18]) [bN 19,au 20 179 [fL],gk 20]) [cF]
theorem aoB:jl 214 QP:=iD Tryz.func214 (by kernel_rfl)
def QQ:ij:=hU 15 [ae 4 (aU []),cY 5] [gV,cK 7,au 8 228 [gN,gH],cQ 9 8] 9 [bN 10,dl 10,cY 5] (aC [gX,cK 12,eA 13 12,ab 14 (gy eK fe none),dl 14,ae 5 bI]) [cI,fF]
theorem aoC:jl 215 QQ:=iD Tryz.func215 (by kernel_rfl)
def si:ij:=bt 67 (dA [dD] [fB] (bp 0 [bH 10 5 1,dK 9] (eN 9 [hZ 4] [bH 12 5 2,ew 11] (eN 11 [aE 4 2] [bH 14 5 3,ag 13 14] (eZ 13 [aE 4 3] (aA [bH 16 5 4,gD 16] (eP 15 (bH 17 5 5) [gD 17]) (eZ 15 [aE 4 4] (aA [bH 19 5 7,gM 19] (dx 18 [bH 20 5 8,gM 20] (dx 18 [bH 21 5 9,gM 21] (dx 18 [bH 22 5 12,gM 22] (eP 18 (bH 23 5 13) [gM 23])))) (am 18 (cE [cK 24,dC 25 24 0 1,bJ 26 25,au 27 229 [ge],ag 28 27,bC 29 1 28,bC 30 1 28,aH 31 (cp 30 0 1) 28,dM 32 31 28,cV 33 230 [fI,.t 32] 28,dj 34 28 33] 34 [cK 35,dC 36 35 0 1,bJ 37 36,dl 37]) (aA [bH 39 5 10,ag 38 39] (eP 38 (bH 40 5 11) [ag 38 40]) (de 38 (cw [eB 41,b6 42 1,eI 43 42 0 1,cM 44 43,b6 45 1,eI 46 45 1 1,cG [3] 47 46,ci (au 48 231 [.t 41,.t 44,.t 47]),b6 4 48] .ret) [bH 50 5 14,ag 49 50] (am 49 (cw [b6 51 1,eI 52 51 0 1,cM 53 52,ci (bH 54 53 4),b6 55 54,ci (bC 56 1 55),ci (aH 57 (cp 56 1 1) 55),ci (dM 58 57 55),ci (bC 59 1 55),ci (aH 60 (cp 59 2 1) 55),([7],dM 61 60 55),ci (eU 62 58 (.t 61) 55),bv 63 (gO 55 62 bh)] (ba 63 [cK 64,dC 65 64 1 1,bJ 66 65,dl 66])) (cE [gV,cK 7,au 8 232 [gN,gH]] 8 [aE 4 4])))))))))))) [dD]) [cI]
theorem aoD:jl 216 si:=iD Tryz.func216 (by kernel_rfl)
def Z2:fx:=dP [gV,au 7 207 [gN,aU [97,110,100]]] 7 0 (.block 1 (.draws [bv 8 (bu 3 4),eB 9,dN [0] 10 240 [fu],bv 11 (.bsl [aF,aF,br,.nilsl] 2 [fE 8,cH 1 10]),dY 12 [aF,aF,br,.nilsl] [dO 0 1 20,d9 3 11],dJ 3 12 4]))
def aoE:ij:=eY 14 (ad [bZ 2 [aF,aF,br,.nilsl]] (bO [bN 4,au 5 240 [.t 4],bZ 3 [aF,aF,br,.nilsl],fj 3 5] (eS Z2) (aC [fS 13 3,fj 2 13]))) [dH 2 4]
theorem aoF:jl 225 aoE:=iD Tryz.func225 (by kernel_rfl)
def aoG:ij:=bt 47 (bO [fN] (cw [eB 6,df 7 6,bF 8 7 2,cM 9 8,ci (gp 10 9 0),b6 11 10,ci (cq 12 0 11),ci (aD 13 (bj 12) 11),ci (db 14 13 1 11),ci (cZ 15 14 11),ci (cq 16 0 11),ci (aD 17 (bj 16) 11),ci (db 18 17 0 11),([9],cZ 19 18 11),ci (aD 20 (aX 19) 11),ci (cP 21 .geq 15 fK 11),bv 22 (aM 11 bI fY)] (ba 22 [fN])) (cw [eB 23,df 24 23,bF 25 24 0,cM 26 25,eB 27,df 28 27,bF 29 28 1,cG [3] 30 29,eL 31 26 30 4,bv 32 (bu 31 4),ay [3,7,9] 5 (bi [aF,br,aF,aF]),dJ 5 32 4] (aC [dS 33 5,bJ 34 33,bH 35 34 5,ag 36 35,db 37 5 0 36,cZ 38 37 36,cP 39 .eql 38 cN 36,dk 40 36 39,ag 41 40,em 42 5 1 41,dM 43 42 41,bC 44 1 41,eU 45 43 (.t 44) 41,dj 46 41 45,dl 46]))) [cI]
theorem aoH:jl 226 aoG:=iD Tryz.func226 (by kernel_rfl)
def L7:ij:=dV 13 [ae 4 (aU []),ae 5 (aU []),cY 6] [bN 7,cK 8,au 9 241 [gH,fH],eE 10 9,eD 11 9,bE 12 9 2,dl 10,el 5,dU 12] [cI,fF,dQ]
theorem aoI:jl 227 L7:=iD Tryz.func227 (by kernel_rfl)
def QR:ij:=dV 18 [fN] [fB,eA 6 5,cK 7,eA 8 7,bo 9 .geq 6 8,dZ 10,ic 11 10,bC 12 1 10,aH 13 (cX 12) 10,aH 14 (.slS eK none (some fe)) 10,bC 15 1 10,eU 16 14 eQ 10,dj 17 10 16,dl 17] [cI]
theorem aoJ:jl 228 QR:=iD Tryz.func228 (by kernel_rfl)
def QS:ij:=dV 9 [dI] [eW,bH 4 3 1,fv 4,cq 6 0 5,cP 7 .eql 6 dW 5,dk 8 5 7,eh 2] [cF]
theorem aoK:jl 229 QS:=iD Tryz.func229 (by kernel_rfl)
def rj:fx:=dc [bV 10 9 8] 10 0 1 [b9 11 7 9 1,bJ 12 11,dU 12] (cE [ec 13,cK 14,bo 15 .neq 13 14] 15 [fN]) [dt 16 9,gh 16]
def Uc:ij:=bt 17 (fZ [fN] [bN 7,bU 8 7,gt] rj [ae 4 bI]) [cI]
theorem aoL:jl 230 Uc:=iD Tryz.func230 (by kernel_rfl)
def Aq:ij:=bt 43 (bO [eH] (bp 0 [cK 8,bH 9 8 1,dZ 10,gK 11 10,eU 12 11 cN 10,dj 13 10 12,gq 13] (eN 7 [hZ 6] [cK 15,bH 16 15 2,ag 17 16,gK 18 17,eU 19 18 cN 17,dj 20 17 19,ag 14 20] (eN 14 [aE 6 2] [bN 22,bH 23 22 10,ag 24 23,bC 25 1 24,eU 26 25 cN 24,dj 27 24 26,ag 28 27,gK 29 28,eU 30 29 dW 28,dj 31 28 30,ag 21 31] (eZ 21 [aE 6 2] (cE [bN 33,bH 34 33 11,ag 35 34,bC 36 1 35,eU 37 36 dW 35,dj 38 35 37,ag 39 38,gK 40 39,eU 41 40 dW 39,dj 42 39 41,ag 32 42] 32 [hZ 6]))))) (aC [eH])) [dQ]
theorem aoM:jl 231 Aq:=iD Tryz.func231 (by kernel_rfl)
def Fa:ij:=bt 37 (dA [fN] [fB] (bp 0 [bH 7 5 15,dU 7] (eZ 6 [cK 8,au 9 230 [fH,gG],dl 9] (aA [bH 11 5 16,el 10] (eP 10 (bH 12 5 17) [ew 10]) (de 10 (cw [b6 13 1,eI 14 13 0 1,cM 15 14,ci (au 16 229 [eQ]),b6 17 16,ci (bC 18 1 17),ci (aH 19 (cp 18 0 1) 17),ci (dM 20 19 17),ci (bC 21 1 17),ci (aH 22 (cp 21 1 1) 17),([7],dM 23 22 17),ci (eU 24 20 fX 17),bv 25 (aM 17 fb bh),b6 4 25] .ret) [bH 27 5 18,ag 26 27] (aL 26 (cw [b6 28 1,eI 29 28 0 1,cM 30 29,b6 31 1,eI 32 31 1 1,cG [2] 33 32,ci (bo 34 .eql 30 33),b6 4 34] .ret)))))) [cK 35,au 36 230 [.t 35,ai 4],dl 36]) [cI]
theorem aoN:jl 232 Fa:=iD Tryz.func232 (by kernel_rfl)
def aoO:ij:=eY 11 (cS [bZ 2 [aF,aF,br,.nilsl]] [eW,au 4 207 [.t 3,aU [110,111,116]]] 4 [fB,au 6 240 [gZ],di 7 [aF,aF,br,.nilsl] 1 [fE 6],cu 8 [aF,aF,br,.nilsl] [dO 0 1 19,d9 3 7],fj 2 8] (aC [bN 9,au 10 252 [fu],fj 2 10])) [dH 2 4]
theorem aoP:jl 240 aoO:=iD Tryz.func240 (by kernel_rfl)
def L8:ij:=bt 23 (dA [ae 4 (aU []),ae 5 (aU []),cY 6] [fD,cK 9,au 10 253 [fH,fu],dK 7] (ad [ep 11,gp 12 11 0] (aL 12 (cw [eB 13,b6 14 7,bv 15 (.slS fe none (some fq)),eB 16,b6 17 7,b6 18 1,bv 19 (cX 18),ci (dG 20 17 19),bv 21 (gy eF fK none),b6 4 15,b6 5 21,ci (ae 6 bI)] .ret))) [bN 22,dl 22,ae 5 (aU []),cY 6]) [cI,fF,dQ]
theorem aoQ:jl 241 L8:=iD Tryz.func241 (by kernel_rfl)
def aoR:ij:=eY 45 (ad [bZ 2 [aF,aF,br,.nilsl]] (bO [fB,au 6 260 [gZ],bZ 3 [aF,aF,br,.nilsl],fj 3 6] (bp 0 [fD,au 9 207 [fH,aU [60]],dZ 7] (de 7 (cw [bv 10 (bu 3 4),eB 11,dN [0] 12 260 [eK],bv 13 (.bsl [aF,aF,br,.nilsl] 2 [fE 10,cH 1 12]),dY 14 [aF,aF,br,.nilsl] [dO 0 1 16,d9 3 13],dJ 2 14 4] .ret) [gW,au 17 207 [eF,aU [60,61]],gD 17] (de 15 (cw [bv 18 (bu 3 4),eB 19,dN [0] 20 260 [fL],bv 21 (.bsl [aF,aF,br,.nilsl] 2 [fE 18,cH 1 20]),dY 22 [aF,aF,br,.nilsl] [dO 0 1 17,d9 3 21],dJ 2 22 4] .ret) [bN 24,au 25 207 [fb,aU [61]],ag 23 25] (de 23 (cw [bv 26 (bu 3 4),eB 27,dN [0] 28 260 [gJ],bv 29 (.bsl [aF,aF,br,.nilsl] 2 [fE 26,cH 1 28]),dY 30 [aF,aF,br,.nilsl] [dO 0 1 18,d9 3 29],dJ 2 30 4] .ret) [bN 32,au 33 207 [.t 32,aU [105,110]],ag 31 33] (aL 31 (ad [bN 34,au 35 260 [gI],bZ 4 [aF,aF,br,.nilsl],fj 4 35] (gE [bN 36,au 37 261 [.t 36,aU [116,111]]] [bv 38 (bu 3 4),ay [0] 39 (bu 4 4),eB 40,dN [0,1] 41 260 [.t 40],bv 42 (.bsl [aF,aF,br,.nilsl] 3 [fE 38,cH 1 39,cH 2 41]),dY 43 [aF,aF,br,.nilsl] [dO 0 1 15,d9 3 42],dJ 2 43 4] .ret))))))) (aC [fS 44 3,fj 2 44]))) [dH 2 4]
theorem aoS:jl 252 aoR:=iD Tryz.func252 (by kernel_rfl)
def Z3:fx:=.block 1 (bp 2 [fD,au 9 207 [fH,aU [43]],dZ 7] (de 7 (.draws [bv 10 (bu 3 4),eB 11,dN [0] 12 268 [eK],bv 13 (.bsl [aF,aF,br,.nilsl] 2 [fE 10,cH 1 12]),dY 14 [aF,aF,br,.nilsl] [dO 0 1 8,d9 3 13],dJ 3 14 4]) [gW,au 17 207 [eF,aU [45]],gD 17] (am 15 (.draws [bv 18 (bu 3 4),eB 19,dN [0] 20 268 [fL],bv 21 (.bsl [aF,aF,br,.nilsl] 2 [fE 18,cH 1 20]),dY 22 [aF,aF,br,.nilsl] [dO 0 1 9,d9 3 21],dJ 3 22 4]) (aC [fS 6 3,fj 2 6]))))
def aoT:ij:=eY 23 (fO [bZ 2 [aF,aF,br,.nilsl]] [bN 4,au 5 268 [.t 4],bZ 3 [aF,aF,br,.nilsl],fj 3 5] (eS Z3)) [dH 2 4]
theorem aoU:jl 260 aoT:=iD Tryz.func260 (by kernel_rfl)
def aoV:ij:=eY 10 (ad [bN 4,cK 5,au 6 207 [.t 4,gZ],cQ 7 6] (aL 7 (ch fD [au 9 174 [fH]]))) []
theorem aoW:jl 261 aoV:=iD Tryz.func261 (by kernel_rfl)
def Z4:fx:=.block 1 (bp 2 [fD,au 9 207 [fH,aU [42]],dZ 7] (de 7 (.draws [bv 10 (bu 3 4),eB 11,dN [0] 12 272 [eK],bv 13 (.bsl [aF,aF,br,.nilsl] 2 [fE 10,cH 1 12]),dY 14 [aF,aF,br,.nilsl] [dO 0 1 10,d9 3 13],dJ 3 14 4]) [gW,au 17 207 [eF,aU [47]],gD 17] (am 15 (.draws [bv 18 (bu 3 4),eB 19,dN [0] 20 272 [fL],bv 21 (.bsl [aF,aF,br,.nilsl] 2 [fE 18,cH 1 20]),dY 22 [aF,aF,br,.nilsl] [dO 0 1 11,d9 3 21],dJ 3 22 4]) (aC [fS 6 3,fj 2 6]))))
def aoX:ij:=eY 23 (fO [bZ 2 [aF,aF,br,.nilsl]] [bN 4,au 5 272 [.t 4],bZ 3 [aF,aF,br,.nilsl],fj 3 5] (eS Z4)) [dH 2 4]
theorem aoY:jl 268 aoX:=iD Tryz.func268 (by kernel_rfl)
def aoZ:ij:=eY 116 (bO [bZ 2 [aF,aF,br,.nilsl]] (cw [eB 8,df 9 8,bF 10 9 2,cM 11 10,ci (gp 12 11 0),b6 13 12,ci (cq 14 0 13),ci (aD 15 (bj 14) 13),ci (db 16 15 1 13),ci (cZ 17 16 13),ci (cq 18 0 13),ci (aD 19 (bj 18) 13),ci (db 20 19 0 13),([9],cZ 21 20 13),ci (aD 22 (aX 21) 13),ci (cP 23 .geq 17 fd 13),bv 24 (aM 13 bI fX)] (ba 24 [bN 25,au 26 174 [.t 25],fj 2 26])) (.seq (bp 0 [bN 28,au 29 207 [gb,aU [45]],ag 27 29] (eN 27 [bN 30,au 31 272 [.t 30],di 32 [aF,aF,br,.nilsl] 1 [fE 31],cu 33 [aF,aF,br,.nilsl] [dO 0 1 7,d9 3 32],fj 2 33] [bN 35,au 36 207 [.t 35,aU [116,114,117,101]],ag 34 36] (eN 34 [cu 37 [aF,aF,br,.nilsl] [dO 0 1 4],fj 2 37] [bN 39,au 40 207 [.t 39,aU [102,97,108,115,101]],ag 38 40] (eN 38 [cu 41 [aF,aF,br,.nilsl] [dO 0 1 5],fj 2 41] [bN 43,au 44 226 [.t 43,aU [109,105,110]],ag 45 44,cq 46 0 45,dm 47 226 [.t 46,aU [109,97,120]] 45,dk 48 45 47,ag 42 48] (eN 42 [bN 49,au 50 273 [.t 49],fj 2 50] [bN 52,au 53 207 [.t 52,aU [105,102]],ag 51 53] (de 51 (fO [bN 54,au 55 173 [.t 54],bZ 3 [aF,aF,br,.nilsl],fj 3 55] [bN 56,au 57 261 [.t 56,aU [116,104,101,110]]] (ad [bN 58,au 59 173 [.t 58],bZ 4 [aF,aF,br,.nilsl],fj 4 59] (gE [bN 60,au 61 261 [.t 60,aU [101,108,115,101]]] [bv 62 (bu 3 4),ay [0] 63 (bu 4 4),eB 64,dN [0,1] 65 173 [.t 64],bv 66 (.bsl [aF,aF,br,.nilsl] 3 [fE 62,cH 1 63,cH 2 65]),dY 67 [aF,aF,br,.nilsl] [dO 0 1 14,d9 3 66],dJ 2 67 4] .ret))) [bN 69,au 70 207 [.t 69,aU [40]],ag 68 70] (aL 68 (fO [bN 71,au 72 173 [.t 71],bZ 5 [aF,aF,br,.nilsl],fj 5 72] [bN 73,au 74 261 [.t 73,aU [41]]] (aC [fS 75 5,fj 2 75]))))))))) (cw [eB 76,df 77 76,bF 78 77 0,cM 79 78,eB 80,df 81 80,bF 82 81 1,cG [3] 83 82,eL 84 79 83 4,bv 85 (bu 84 4),ay [3,7,9] 6 (bi [aF,br,aF,aF]),dJ 6 85 4] (bB [gv] [dS 86 6,bJ 87 86] (bp 1 [bH 89 87 2,ag 88 89] (de 88 (ch (hZ 7) []) [bH 91 87 3,ag 90 91] (de 90 (ch (aE 7 2) []) [bH 93 87 4,ag 92 93] (de 92 (ch (aE 7 3) []) [bH 95 87 1,ag 94 95] (aL 94 (ad [eJ 96 6,bJ 97 96,au 98 211 [.t 97]] (aL 98 (ch (aE 7 6) [])))))))) (fR [ep 99,bH 100 99 0] 100 [bN 101,au 102 174 [.t 101],fj 2 102] (ad [bN 103,cz 104 103,eJ 105 104,bJ 106 105,dt 107 106,cz 108 103,eJ 109 108,gw 109 107] (aC [ep 110,eM 111 6,bJ 112 111,eJ 113 6,bJ 114 113,cu 115 [aF,aF,br,.nilsl] [d9 0 110,d9 1 112,d9 2 114],fj 2 115]))))))) [dH 2 4]
theorem ao0:jl 272 aoZ:=iD Tryz.func272 (by kernel_rfl)
def Z5:fx:=dP [bN 33,au 34 207 [.t 33,aU [44]]] 34 0 (.block 1 (.draws [bF 35 3 3,cM 36 35,eB 37,dN [1] 38 173 [.t 37],ay [1] 39 (.bsl [aF,aF,br,.nilsl] 1 [fE 38]),bv 40 (eX 4 56 36 39),bF 41 3 3,dJ 41 40 1]))
def ao1:ij:=eY 45 (ad [bZ 2 [aF,aF,br,.nilsl]] (bB [cu 4 [aF,aF,br,.nilsl] [dO 0 1 12],bZ 3 [aF,aF,br,.nilsl],fj 3 4] [fB,au 6 226 [gZ,aU [109,97,120]]] (aL 6 (ch (dS 7 3) [bg 7 (ai 13) 1])) (ad [fD,cz 9 8,eJ 10 9,bJ 11 10,dt 12 11,cz 13 8,eJ 14 13,gw 14 12] (gE [bN 15,au 16 261 [eQ,aU [40]]] [bF 17 3 3,cM 18 17,eB 19,dN [1] 20 173 [fL],ay [1] 21 (.bsl [aF,aF,br,.nilsl] 1 [fE 20]),bv 22 (eX 4 56 18 21),bF 23 3 3,dJ 23 22 1] (gE [bN 24,au 25 261 [fb,aU [44]]] [bF 26 3 3,cM 27 26,eB 28,dN [1] 29 173 [gb],ay [1] 30 (.bsl [aF,aF,br,.nilsl] 1 [fE 29]),bv 31 (eX 4 56 27 30),bF 32 3 3,dJ 32 31 1] (.seq (eS Z5) (ad [bN 42,au 43 261 [.t 42,aU [41]]] (aC [fS 44 3,fj 2 44])))))))) [dH 2 4]
theorem ao2:jl 273 ao1:=iD Tryz.func273 (by kernel_rfl)
end Go.Proofs.YtcpceiclnbmgiaaGreat
