/- The codes of functions of the program, as the evaluator reads them; that each is what its compiler makes of the model's function. Conditions: none. -/
import Derived.Test.YtcpceiclnbmgiaaGreatCoN
import Derived.Test.YtcpceiclnbmgiaaGreatChecked
import Derived.KernelRfl
set_option maxRecDepth 100000
namespace Go.Proofs.YtcpceiclnbmgiaaGreat
open Go Go.Ev
def Ta:gP:=eW 13 [dz] [eQ] (eX 0 [fL 5 [98,108,111,99,107],de 5] (dt 4 [fL 6 [115,112,97,110],de 6] (dt 4 [fL 7 [110,105,103,104,116],de 7] (eL 4 (fL 8 [99,114,101,100,105,116]) [de 8]))) (ao 4 (aE [el 2]) (aA [fL 10 [108,101,103,115],dS 9] (dt 9 [fL 11 [104,101,97,100,115],en 9] (eL 9 (fL 12 [100,117,116,105,101,115]) [eA 9])) (bn 9 [fk])))) [dz] [cD]
theorem am2:jb 128 Ta:=ij Tryz.func128 (by kernel_rfl)
def Td:gP:=dV 15 [ge] [bL 7,cN 8,bj 9 .geq 7 8,eE 10,gM 11 10,gn 12 10,gp 13 11 (.t 12) 10,cU 14 10 13,dY 14] [eu]
theorem am3:jb 129 Td:=ij Tryz.func129 (by kernel_rfl)
def Te:gP:=dV 10 [dJ] [eQ,av 4 175 [.t 3],eZ 4,gM 6 5,cM 7 176 [gv] 5,aD 8 (bX 7) 5,cU 9 5 8,eE 2] [cD]
theorem am4:jb 130 Te:=ij Tryz.func130 (by kernel_rfl)
def Ly:gP:=cF 19 [gL 1,dz] (dI [fJ 6 1,av 7 177 [gv],ev 5,eO 8 5,eN 9 5,eK 3,de 9] [ek 10,ed 11 10 200,en 12,cy 13 4 12,fv 14 13 16 12,dn 15 12 14] 15 [el 10] (dA [fJ 16 1,av 17 178 [eC],cO 18 17] (bn 18 [fk]) [dz])) [cD]
theorem am5:jb 131 Ly:=ij Tryz.func131 (by kernel_rfl)
def xl:fx:=dQ [eE 86,dW 87,bW 88 86 87] 88 8 (aV (.block 9 (cp [bD 91 1 12,cK 92 91,b4 93 9,eG 94 92 93 3,bD 95 94 0,cK 96 95,bD 97 7 0,cE [1,5] 98 97,ci (bj 99 .eql 96 98)] (bn 99 [el 7]))) [eE 89,dr 90 89,gx 90])
theorem Fi:mh (jU (.loop xl))=1267573228975774065229522010628:=nr rfl
def xm:fx:=dQ [eK 70,fS 71 11,bG 72 71,bV 73 72,bW 74 70 73] 74 6 (aV (.block 7 (cp [bD 77 1 11,cK 78 77,b4 79 8,eG 80 78 79 4,bD 81 80 0,cK 82 81,bD 83 7 0,cE [1,5] 84 83,ci (bj 85 .eql 82 84)] (bn 85 [el 7]))) [eK 75,dr 76 75,gH 76])
theorem Fj:mh (jU (.loop xm))=77370071863715549769892100:=nr rfl
def xo:fx:=dQ [dW 54,fS 55 12,bG 56 55,bV 57 56,bW 58 54 57] 58 4 (cj 5 [fS 61 12,bG 62 61,dW 63,ch 64 62 63 3,bJ 65 64 3,b5 7 [br,aC,aC],bh 7 65 3] (gt [dX 66 7,bG 67 66,av 68 130 [.t 67],cO 69 68] 69 [fk] (aA [fd] (aU 6 xm) (aA [fW] (aU 8 xl) (cZ [eI 100 7,bG 101 100,av 102 129 [.t 101,cV,ai 31],cO 103 102,ag 104 103,di 105 7 1 104,dk 106 105 104,di 107 7 2 104,dk 108 107 104,dc 109 129 [.t 106,cV,.t 108] 104,eo 110 109 104,dn 111 104 110] 111 [el 5])))) [dW 59,dr 60 59,dY 60])
theorem PX:mh (jU (.loop xo))=5192296858534827610516097819739076:=nr rfl
def xp:fx:=dQ [ew 26,ek 27,bW 28 26 27] 28 2 (aV (.block 3 (cp [bD 31 1 11,cK 32 31,b4 33 5,eG 34 32 33 4,bD 35 34 0,cK 36 35,bD 37 4 0,cE [1,5] 38 37,ci (bj 39 .eql 36 38)] (bn 39 [el 7]))) [ew 29,dr 30 29,eZ 30])
theorem Fk:mh (jU (.loop xp))=1099444518948:=nr rfl
def xq:fx:=dQ [ek 10,fS 11 11,bG 12 11,bV 13 12,bW 14 10 13] 14 0 (cj 1 [fS 17 11,bG 18 17,ek 19,ch 20 18 19 4,fJ 21 20,b5 4 [br,br,aC,aC],fb 4 21] (gt [dX 22 4,bG 23 22,av 24 130 [gD],cO 25 24] 25 [fk] (aA [fw] (aU 2 xp) (gt [eP 40 4,bG 41 40,av 42 128 [.t 41],bE 43 42 0] 43 [el 6] (cZ [eI 44 4,bG 45 44,av 46 129 [.t 45,dw,ai 599999],cO 47 46,ag 48 47,di 49 4 3 48,dk 50 49 48,dc 51 129 [.t 50,cV,ai 31] 48,eo 52 51 48,dn 53 48 52] 53 [el 5])))) [ek 15,dr 16 15,ag 3 16])
theorem Fo:mh (jU (.loop xq))=18014398509481020:=nr rfl
def Tf:gP:=bv 112 (bB [gL 1,dz] [fG] (eS xq) (dA [fj] (aU 4 xo) [dz])) [cD]
theorem am6:jb 132 Tf:=ij Tryz.func132 (by kernel_rfl)
def xt:fx:=db [bW 16 15 14] 16 0 1 [ag 17 15,ag 3 17] (ad [bL 18,ek 19,ab 20 (dG 18 ft),de 20] (bp 2 [ag 22 4,aq 23 .geq 22 (dL 97),ag 24 23,bC 25 4 24,gp 26 25 (dL 122) 24,cU 27 24 26,ag 21 27] (dt 21 [ek 29,ed 30 29 0,ag 31 30,bC 32 4 31,cm 33 .geq 32 (dL 48) 31,bC 34 33 31,bC 35 4 34,gp 36 35 (dL 57) 34,aD 37 (gF 34 36 aX) 31,bC 38 37 31,cy 39 4 38,df 40 .eql 39 (dL 95) 38,aD 41 (aL 38 bI (.t 40)) 31,cU 42 31 41,ag 28 42] (aY 28 (aE [dJ]))))) [dr 43 15,gq 43]
theorem PY:mh (jU (.loop xt))=17592186011676:=nr rfl
def PZ:gP:=bv 44 (dI [dJ] [fA,eq 6 5,eh 7 6 1,ev 8,cy 9 0 8,aH 10 (cP 9) 8,fv 11 10 16 8,dn 12 8 11] 12 [dJ] (dA [bL 13,eq 14 13,bO 15] (eS xt) [ae 2 bI])) [cD]
theorem am7:jb 133 PZ:=ij Tryz.func133 (by kernel_rfl)
def Tg:gP:=dV 9 [dJ] [eQ,fU 4 3 (-840),eZ 4,gM 6 5,gp 7 6 (ai 840) 5,cU 8 5 7,eK 2] [cD]
theorem am8:jb 134 Tg:=ij Tryz.func134 (by kernel_rfl)
def Th:gP:=dV 9 [dJ] [eQ,fU 4 3 0,eZ 4,gM 6 5,cm 7 .lss 6 (ai 52596000) 5,cU 8 5 7,eK 2] [cD]
theorem am9:jb 135 Th:=ij Tryz.func135 (by kernel_rfl)
def xu:fx:=db [bW 16 15 14] 16 0 1 [ag 17 15,ag 3 17] (ad [bL 18,ek 19,ab 20 (dG 18 ft),de 20] (cZ [ag 21 4,aq 22 .geq 21 (dL 65),ag 23 22,bC 24 4 23,gp 25 24 (dL 90) 23,cU 26 23 25,ag 27 26,cy 28 4 27,df 29 .geq 28 (dL 48) 27,cy 30 29 27,bC 31 4 30,gp 32 31 (dL 57) 30,aH 33 (gF 30 32 aX) 27,dn 34 27 33,cO 35 34] 35 [dJ])) [dr 36 15,gq 36]
theorem P0:mh (jU (.loop xu))=137438920732:=nr rfl
def P3:gP:=bv 37 (dI [dJ] [fA,eq 6 5,eh 7 6 1,ev 8,cy 9 0 8,aH 10 (cP 9) 8,fv 11 10 8 8,dn 12 8 11] 12 [dJ] (dA [bL 13,eq 14 13,bO 15] (eS xu) [ae 2 bI])) [cD]
theorem ana:jb 136 P3:=ij Tryz.func136 (by kernel_rfl)
def Ti:gP:=dV 15 [ge] [bL 7,cN 8,bj 9 .geq 7 8,eE 10,gM 11 10,gn 12 10,gp 13 11 (.t 12) 10,cU 14 10 13,dY 14] [eu]
theorem anb:jb 137 Ti:=ij Tryz.func137 (by kernel_rfl)
def uT:fx:=db [bW 11 10 9] 11 0 1 [ch 12 8 10 5,bJ 13 12 5,b5 5 [br,aC,aC,br,.nilsl],bh 5 13 5] (gt [dX 14 5,bG 15 14,av 16 179 [eM],cO 17 16] 17 [fk] (gt [ek 18,dX 19 5,bG 20 19,ab 21 (.lk dj fZ (.t 20) aI false)] 21 [el 7] (ga [ek 22,dX 23 5,bG 24 23,fK none (.mu dj fm fq bI)] [eP 25 5,fJ 26 25,av 27 141 [fP],dY 27] (cZ [dW 28,fV 29 28] 29 [dW 30,fQ 30])))) [dr 31 10,gf 31]
theorem P4:mh (jU (.loop uT))=4294966372:=nr rfl
def Tj:gP:=cF 32 [dz] (cS [fu 7 false,ev 3] [fe,bV 9 8,bO 10] (eS uT) [dz]) [cD]
theorem anc:jb 138 Tj:=ij Tryz.func138 (by kernel_rfl)
def uU:fx:=db [bW 12 11 10] 12 0 1 [ch 13 9 11 6,bJ 14 13 6,b5 5 [aC,br,aC,aC,br,.nilsl],bh 5 14 6] (gt [dX 15 5,bG 16 15,av 17 140 [eC],cO 18 17,ag 19 18,di 20 5 1 19,dk 21 20 19,dc 22 179 [.t 21] 19,eo 23 22 19,dn 24 19 23] 24 [fk] (dI [dX 25 5,bG 26 25,eP 27 5,bG 28 27,cu 29 [aC,br] [ec 0 26,ec 1 28],b5 6 [aC,br],bh 6 29 2] [ek 30,bJ 31 6 2,ab 32 (.lk (.flat [.int,.str]) gz fE aI false)] 32 [el 7] (ga [ek 33,bJ 34 6 2,fK none (.mu (.flat [.int,.str]) (.t 33) (.t 34) bI)] [eI 35 5,fJ 36 35,av 37 141 [.t 36],ag 7 37] (cZ [ev 38,fV 39 38] 39 [ev 40,fQ 40])))) [dr 41 11,fM 41]
theorem P5:mh (jU (.loop uU))=4398046509284:=nr rfl
def Tl:gP:=cF 42 [dz] (cS [fu 8 false,eK 3] [bL 9,bV 10 9,bO 11] (eS uU) [dz]) [cD]
theorem ane:jb 139 Tl:=ij Tryz.func139 (by kernel_rfl)
def Tm:gP:=dV 5 [dJ] [eQ,av 4 137 [.t 3,cV,gk],fQ 4] [cD]
theorem anf:jb 140 Tm:=ij Tryz.func140 (by kernel_rfl)
def P6:gP:=cF 10 [gL 1,dz] (dI [ab 3 (fR [aC]),bf 3 dw 1] [fJ 4 1,av 5 180 [.t 4,cV,.t 3],cO 6 5] 6 [el 10] (dA [fJ 7 1,av 8 181 [.t 7],cO 9 8] (bn 9 [fk]) [dz])) [cD]
theorem ang:jb 141 P6:=codeOk (hs:=[3]) Tryz.func141 (by kernel_rfl)
def uV:fx:=db [bW 50 49 48] 50 3 4 [ch 51 47 49 3,bJ 52 51 3,b5 7 [br,aC,aC],bh 7 52 3] (cj 5 [dX 54 7,bG 55 54,av 56 179 [.t 55],cO 57 56,ag 53 57] (dP 53 [fk] [ek 59,dX 60 7,bG 61 60,ab 62 (.lk dj (.t 59) (.t 61) aI false),ag 58 62] (dP 58 [el 7] [eI 64 7,bG 65 64,av 66 137 [.t 65,cV,ai 31],cO 67 66,ag 68 67,di 69 7 1 68,dk 70 69 68,di 71 7 2 68,dk 72 71 68,dc 73 137 [.t 70,cV,.t 72] 68,eo 74 73 68,dn 75 68 74,ag 63 75] (bn 63 [el 5]))) [ek 76,dX 77 7,bG 78 77,fK none (.mu dj (.t 76) (.t 78) bI)]) [dr 79 49,ag 49 79]
theorem P7:mh (jU (.loop uV))=1208925819051679221284996:=nr rfl
def uW:fx:=db [bW 13 12 11] 13 0 1 [ch 14 10 12 4,fJ 15 14,b5 5 [br,br,aC,aC],fb 5 15] (cj 2 [dX 17 5,bG 18 17,av 19 179 [fZ],cO 20 19,ag 16 20] (dP 16 [fk] [ek 22,dX 23 5,bG 24 23,ab 25 (.lk dj fm fq aI false),ag 21 25] (dP 21 [el 7] [eP 27 5,bG 28 27,av 29 182 [fO],bE 30 29 0,ag 26 30] (dP 26 [el 6] [eI 32 5,bG 33 32,av 34 137 [.t 33,dw,ai 599999],cO 35 34,ag 36 35,di 37 5 3 36,dk 38 37 36,dc 39 137 [.t 38,cV,ai 31] 36,eo 40 39 36,dn 41 36 40,ag 31 41] (bn 31 [el 5])))) [ek 42,dX 43 5,bG 44 43,fK none (.mu dj (.t 42) (.t 44) bI)]) [dr 45 12,ag 12 45]
theorem Fp:mh (jU (.loop uW))=70368744173604:=nr rfl
def Tn:gP:=cF 80 [gL 1,dz] (bB [fu 8 false,eK 3] [fS 9 11,bG 10 9,bV 11 10,bO 12] (eS uW) (dA [fS 46 12,bG 47 46,bV 48 47,bO 49] (aU 3 uV) [dz])) [cD]
theorem anh:jb 142 Tn:=ij Tryz.func142 (by kernel_rfl)
def To:gP:=eW 18 [dz] [eQ] (eX 0 [fL 5 [108,101,103,115],de 5] (dt 4 [fL 6 [104,101,97,100,115],de 6] (eL 4 (fL 7 [116,121,112,101,115]) [de 7])) (ao 4 (aE [fk]) (aA [fL 9 [98,108,111,99,107],eE 8] (dt 8 [fL 10 [115,112,97,110],dS 8] (dt 8 [fL 11 [110,105,103,104,116],en 8] (dt 8 [fL 12 [108,111,110,103,101,115,116],eA 8] (dt 8 [fL 13 [115,104,111,114,116,101,115,116],gb 8] (eL 8 (fL 14 [115,104,105,102,116]) [gH 14]))))) (ao 8 (aE [el 2]) (aA [fL 16 [115,116,97,114,116],gq 16] (eL 15 (fL 17 [101,110,100]) [gq 17]) (bn 15 [el 3])))))) [dz] [cD]
theorem ani:jb 143 To:=ij Tryz.func143 (by kernel_rfl)
def Lz:gP:=bv 30 (bB [dz] [bL 7] (bp 0 [cY 9 7 [114,101,115,116],eE 8] (dP 8 [el 2] [cY 11 7 [110,105,103,104,116,115],en 10] (dP 10 [fk] [cY 13 7 [104,111,109,101],gb 12] (bn 12 [el 4])))) (aA [bL 15,av 16 183 [eM,aQ [98,101,102,111,114,101,46]],ag 14 16,eO 17 14,eN 18 14,ag 3 17,de 18] (cZ [ag 19 4] 19 [ek 20,av 21 143 [.t 20],fQ 21]) (dA [bL 23,av 24 183 [gD,aQ [97,102,116,101,114,46]],ag 22 24,eO 25 22,eN 26 22,eZ 25,dY 26] (cZ [dW 27] 27 [ew 28,av 29 143 [fO],fQ 29]) [dz]))) [cD]
theorem anj:jb 144 Lz:=ij Tryz.func144 (by kernel_rfl)
def Tp:gP:=eW 13 [dz] [eQ] (eX 0 [fL 5 [100,117,116,105,101,115],de 5] (dt 4 [fL 6 [108,101,103,115],de 6] (dt 4 [fL 7 [104,101,97,100,115],de 7] (eL 4 (fL 8 [100,97,121,115]) [de 8]))) (ao 4 (aE [fk]) (aA [fL 10 [98,108,111,99,107],dS 9] (dt 9 [fL 11 [115,112,97,110],en 9] (eL 9 (fL 12 [99,114,101,100,105,116]) [eA 9])) (bn 9 [el 2])))) [dz] [cD]
theorem ank:jb 145 Tp:=ij Tryz.func145 (by kernel_rfl)
def P8:gP:=eU 23 (cS [dl 7 3,fd,fW] [fJ 11 7,av 12 141 [gm],eA 10] (cZ [dS 13,fV 14 13] 14 [dS 15,fd,gx 15]) [gI,cN 17,eD 18,fJ 19 7,av 20 184 [eC,gy,fZ,ft],eO 21 20,eN 22 20,gH 21,gx 22]) [.tmp 8,.tmp 9]
theorem anl:jb 146 P8:=ij Tryz.func146 (by kernel_rfl)
def I6:gP:=bv 22 (bB [gL 2,dl 3 1,dO] [dX 5 2,bG 6 5,dX 7 3,bG 8 7,bj 9 .neq 6 8] (aN 9 (dA [dX 10 2,bG 11 10,dX 12 3,bG 13 12,bW 14 11 13] (bn 14 [aG 4 (-1)]) [aG 4 1])) (cp [bD 15 2 1,cK 16 15,ci (av 17 185 [eC]),bD 18 3 1,cE [1,2] 19 18,ci (av 20 185 [ft]),ci (bj 21 .sub 17 20),b4 4 21] .ret)) [cH]
theorem anm:jb 147 I6:=ij Tryz.func147 (by kernel_rfl)
def LA:gP:=eW 12 [dO] [fA,cN 6,bW 7 5 6] (bn 7 [aG 4 (-1)]) [fe,cN 9,bj 10 .gtr 8 9,av 11 185 [fY],de 11] [cH]
theorem ann:jb 148 LA:=ij Tryz.func148 (by kernel_rfl)
def vz:gP:=cF 31 [dO] (bB [fe,av 9 200 [fD],cN 10,av 11 200 [fY],av 12 199 [fI,gm],eA 7,eO 13 7,eN 14 7,eZ 13,dY 14] [ew 15,aq 16 .neq 15 (fC 0),ag 17 16,cy 18 6 17,ee 19 18 (fC 1099511627776) 17,dn 20 17 19] (aN 20 (ce (ae 6 (fC 1099511627776)) [])) (dA [bL 21,eh 22 21 0,cN 23,eh 24 23 0,ab 25 (.eq true (.one .bool) fm fq)] (bn 25 [dW 26,ab 27 (.cvi .i64 fP),ab 28 (bK .neg 27),de 28]) [dW 29,ab 30 (.cvi .i64 fF),de 30])) [cH]
theorem ano:jb 162 vz:=ij Tryz.func162 (by kernel_rfl)
def LB:gP:=bv 31 (bB [dO] [cN 6] (bp 0 [bE 8 6 0,eK 7] (dP 7 [dO] [bE 10 6 (-1),dS 9] (bn 9 [bL 11,av 12 162 [gm,ai (-1)],de 12]))) (cS [bL 13,cN 14,bj 15 .quo 13 14,eZ 15] [gI,cN 17,bj 18 .rem 16 17,fV 19 18,ag 20 19,gM 21 20,cm 22 .lss 21 dw 20,bC 23 1 20,cm 24 .lss 23 dw 20,aD 25 (.eq true (.one .bool) fm fq) 20,cU 26 20 25] (aN 26 (dB 27 5 [aF 28 .sub 27 1,eZ 28])) [ew 29,av 30 109 [fF],de 30])) [cH]
theorem anp:jb 163 LB:=ij Tryz.func163 (by kernel_rfl)
def Tq:gP:=bv 28 (bB [gL 4,dl 5 1,fd] [bJ 10 4 3,av 11 84 [fY],en 9] (cZ [eE 12,fV 13 12] 13 [eE 14,gH 14]) (dA [bJ 15 5 2,av 16 201 [eM],cO 17 16,gw 17,cy 19 2 18,dc 20 202 [ft] 18,eo 21 20 18,dn 22 18 21,ag 23 22,cy 24 3 23,dc 25 202 [fq] 23,eo 26 25 23,dn 27 23 26] (bn 27 [aG 8 5]) [fd])) [.tmp 8]
theorem anq:jb 164 Tq:=ij Tryz.func164 (by kernel_rfl)
def mG:fx:=dQ [ag 59 18,ag 60 16,bj 61 .leq 59 60] 61 2 (cj 3 [ag 64 18,aF 65 .mul 64 1440,eD 66,dH 67 65 66,eI 68 13,bG 69 68,bj 70 .sub 67 69,ag 19 70] (cp [b4 71 19,bD 72 13 0,cK 73 72,bq 74 (.mm true [.t 71,.t 73]),b4 75 19,b4 76 10,ci (dH 77 75 76),bD 78 13 1,cE [2] 79 78,bq 80 (.mm false [.t 77,.t 79]),b4 20 74,b4 21 80] (aA [ag 81 20,ag 82 21,bj 83 .geq 81 82] (aN 83 (.exit 3)) (ga [en 84,bV 85 84,ag 22 85] [ag 86 22,ed 87 86 0,ag 88 87,bC 89 11 88,bC 90 22 88,cm 91 .sub 90 cV 88,aD 92 (bF 89 91 2) 88,dD 93 92 1 88,dq 94 93 88,bC 95 20 88,d9 96 94 (.t 95) 88,cU 97 88 96] (ao 97 (dB 98 11 [ag 99 22,aF 100 .sub 99 1,ag 101 21,ch 102 98 100 2,eP 103 102,fX 103 101]) (dB 104 11 [ag 105 20,ag 106 21,cu 107 [aC,aC] [ec 0 105,ec 1 106],dg 108 [aC,aC] 1 [fH 107],ab 109 (eY 2 16 104 108),fM 109]))))) [ag 62 18,dr 63 62,gw 63])
def oN:fx:=db [bW 35 34 33] 35 0 1 [ch 36 32 34 3,bJ 37 36 3,b5 13 [aC,aC,aC],bh 13 37 3] (ga [dX 39 13,bG 40 39,eI 41 13,bG 42 41,dH 43 40 42,av 44 168 [.t 43],ag 38 44,eO 45 38,eN 46 38,ag 14 45,gq 46] [eP 48 13,bG 49 48,aF 50 .sub 49 1,eI 51 13,bG 52 51,dH 53 50 52,av 54 168 [.t 53],ag 47 54,eO 55 47,eN 56 47,ag 16 55,ag 17 56] (ad [ag 57 14,aF 58 .sub 57 1,gw 58] (aU 2 mG))) [dr 110 34,ag 34 110]
def P9:gP:=cF 113 [gL 4,dl 5 1,ep 8,fW] (dI [ek 23,eD 24,bj 25 .sub 23 24,bM 26 25 1440,fi 27 26 1440,gf 27] [dS 28,bE 29 28 0] 29 [ep 8,fW] (cS [ep 11] [bJ 30 4 3,bJ 31 5 2,av 32 203 [gz,fE],bV 33 32,bO 34] (eS oN) [en 111,dS 112,gH 111,gx 112])) [.tmp 8,.tmp 9]
theorem anr:jb 165 P9:=ij Tryz.func165 (by kernel_rfl)
def uX:fx:=db [bW 14 13 12] 14 0 1 [ch 15 11 13 2,bJ 16 15 2,b5 7 [aC,aC],bh 7 16 2] (aA [dX 17 7,bG 18 17,cN 19,bj 20 .gtr 18 19] (aN 20 (.exit 0)) (ce (eP 21 7) [bG 22 21,eZ 22])) [dr 23 13,ag 13 23]
def Ts:gP:=cF 25 [gL 2,dO] (cS [eP 8 2,bG 9 8,eE 5] [eI 10 2,bG 11 10,bV 12 11,bO 13] (eS uX) [ew 24,de 24]) [cH]
theorem ans:jb 166 Ts:=ij Tryz.func166 (by kernel_rfl)
def Tu:gP:=cF 20 [gL 2,dO,fw] (cS [bJ 9 2 3,cN 10,av 11 117 [fI,fY],en 8,eO 12 8,eN 13 8,dY 12,gb 7] [ev 14,fV 15 14] (bn 15 [ev 16,dO,eZ 16]) [cN 17,dW 18,dH 19 17 18,de 19,fw]) [cH,fB]
theorem ant:jb 167 Tu:=ij Tryz.func167 (by kernel_rfl)
def Qa:gP:=cF 16 [dz,fG] (cS [bL 4,aF 5 .quo 4 1440,bL 6,fi 7 6 1440,ew 2,ev 3] [ek 8,eh 9 8 0] (aN 9 (ad [eD 10,aF 11 .sub 10 1,en 2] (dB 12 3 [bM 13 12 1440,gb 3]))) [eD 14,ek 15,fQ 14,ag 3 15]) [cD,gK]
theorem anu:jb 168 Qa:=ij Tryz.func168 (by kernel_rfl)
def qN:fx:=dQ [dY 5,bL 7,eq 8 7,bW 9 6 8] 9 0 (cj 1 [bL 12,ew 13,ab 14 (dG 12 (.t 13)),cN 15,bj 16 .eql 14 15] (bn 16 [ew 17,de 17]) [ew 10,dr 11 10,en 5])
def Qb:gP:=eW 18 [dO] [fw] (eS qN) [aG 4 (-1)] [cH]
theorem anv:jb 169 Qb:=ij Tryz.func169 (by kernel_rfl)
def anw:gP:=bv 44 (dI [dz,fG] [fe,eq 9 8,dx 10 9 5,dS 11,cy 12 0 11,aH 13 (dG 12 dR) 11,df 14 .neq 13 (dL 58) 11,dn 15 11 14] 15 [dz,aG 3 1] (ad [bL 17,ab 18 (eV 17 none (some dR)),av 19 172 [fZ,dR,dR],ag 16 19,eO 20 16,eN 21 16,de 20,eZ 21] (dI [bL 23,ab 24 (eV 23 (some gk) none),av 25 172 [fq,dR,dR],ag 22 25,eO 26 22,eN 27 22,dY 26,ag 7 27] [ew 28,cO 29 28,ag 30 29,cy 31 7 30,eo 32 31 30,dn 33 30 32] 33 [dz,aG 3 1] (dA [ag 34 4,ed 35 34 23,ag 36 35,cy 37 6 36,fv 38 37 59 36,dn 39 36 38] (bn 39 [dz,aG 3 5]) [ag 40 4,ab 41 (eJ .mul (ai 60) 40),dW 42,dH 43 41 42,fQ 43,fG])))) [cD,gK]
theorem anx:jb 170 anw:=ij Tryz.func170 (by kernel_rfl)
def anz:gP:=cF 86 [dz,fG] (bB [bL 11,eq 12 11,ed 13 12 0,gb 14,gM 15 14,aD 16 (dG 15 dw) 14,d9 17 16 (dL 45) 14,cU 18 14 17,de 18] [ag 19 4] (aN 19 (ce (bL 20) [ab 21 (eV 20 (some cV) none),ag 0 21])) (dI [bL 22,eq 23 22,aF 24 .sub 23 3,eZ 24] [ew 25,eh 26 25 1,ag 27 26,cy 28 0 27,cy 29 5 27,aH 30 (dG 28 fF) 27,df 31 .neq 30 (dL 58) 27,dn 32 27 31] 32 [dz,aG 3 1] (ad [bL 34,ew 35,ab 36 (eV 34 none (eH 35)),av 37 172 [.t 36,cV,ai 11],ag 33 37,eO 38 33,eN 39 33,dY 38,ag 7 39] (dI [bL 41,ew 42,dr 43 42,ab 44 (eV 41 (eH 43) none),av 45 172 [.t 44,dR,dR],ag 40 45,eO 46 40,eN 47 40,gH 46,gx 47] [ev 48,cO 49 48,ag 50 49,cy 51 9 50,eo 52 51 50,dn 53 50 52,ag 54 53,cy 55 0 54,cy 56 5 54,aH 57 (eV 55 none (eH 56)) 54,dc 58 204 [.t 57] 54,eo 59 58 54,dn 60 54 59,ag 61 60,cy 62 4 61,cy 63 62 61,bC 64 6 63,d9 65 64 dw 63,aH 66 (gF 63 65 aX) 61,cy 67 66 61,bC 68 8 67,d9 69 68 dw 67,aH 70 (gF 67 69 aX) 61,dn 71 61 70] 71 [dz,aG 3 1] (dI [dW 72,ab 73 (eJ .mul (ai 60) 72),eK 74,dH 75 73 74,gf 75] [eK 76,ed 77 76 59,ag 78 77,cy 79 10 78,fv 80 79 1099511627776 78,dn 81 78 80] 81 [dz,aG 3 5] (dA [ag 82 4] (aN 82 (dB 83 10 [ab 84 (bK .neg 83),gf 84])) [dS 85,fQ 85,fG])))))) [cD,gK]
theorem anA:jb 171 anz:=ij Tryz.func171 (by kernel_rfl)
def Zr:fx:=dQ [eE 20,bL 21,eq 22 21,bW 23 20 22] 23 0 (aV (eX 1 [bL 26,eE 27,ab 28 (dG 26 gG),av 29 205 [fO],cO 30 29] (bn 30 [fj,cQ 7]) (dB 31 8 [ab 32 (eJ .mul (ai 10) 31),bL 33,eE 34,ab 35 (dG 33 (.t 34)),aq 36 .sub 35 (dL 48),ab 37 (.cvi .i64 (.t 36)),dH 38 32 37,gH 38])) [eE 24,dr 25 24,gx 25])
def anB:gP:=bv 40 (dI [fj,cQ 7] [bL 10,eq 11 10,cN 12,bW 13 11 12,gb 14,cy 15 0 14,aH 16 (cP 15) 14,cy 17 2 14,ee 18 16 gy 14,dn 19 14 18] 19 [fj,cQ 7] (cS [fd] [fW] (eS Zr) [eK 39,dY 39,ae 7 bI])) [eu,.tmp 7]
theorem anC:jb 172 anB:=ij Tryz.func172 (by kernel_rfl)
def anD:gP:=eU 14 (ad [b5 2 [aC,aC,br,.nilsl]] (cS [bL 4,av 5 206 [.t 4],b5 3 [aC,aC,br,.nilsl],fb 3 5] [bL 6,av 7 207 [gv,aQ [105,109,112,108,105,101,115]]] (aN 7 (cp [gJ 8 3 4,es 9,dM [0] 10 173 [fI],bq 11 (.bsl [aC,aC,br,.nilsl] 2 [fH 8,cI 1 10]),dU 12 [aC,aC,br,.nilsl] [dN 0 1 22,ec 3 11],dF 2 12 4] .ret)) [fJ 13 3,fb 2 13])) [dK 2 4]
theorem anE:jb 173 anD:=ij Tryz.func173 (by kernel_rfl)
def anF:gP:=eW 16 [b5 2 [aC,aC,br,.nilsl]] [eQ,cz 4 3,eI 5 4,bG 6 5,eh 7 6 0] (aN 7 (ce fe [bL 9,cz 10 9,eP 11 10,bG 12 11,cz 13 8,eI 14 13,fX 14 12])) [cu 15 [aC,aC,br,.nilsl] [],fb 2 15] [dK 2 4]
theorem anG:jb 174 anF:=ij Tryz.func174 (by kernel_rfl)
def xw:fx:=dQ [ek 18,bL 19,eq 20 19,bW 21 18 20] 21 0 (cj 1 [bL 24,ek 25,ab 26 (dG 24 gE),av 27 208 [fP],cO 28 27,ag 29 28,gM 30 29,bC 31 3 29,aD 32 (dG 30 fE) 29,cM 33 205 [.t 32] 29,aD 34 (bX 33) 29,cU 35 29 34,ag 36 35,gM 37 36,bC 38 3 36,aD 39 (dG 37 (.t 38)) 36,cm 40 .neq 39 (dL 95) 36,cU 41 36 40] (bn 41 [dJ]) [ek 22,dr 23 22,ag 3 23])
theorem Qc:mh (jU (.loop xw))=4398046248972:=nr rfl
def LC:gP:=bv 42 (dI [dJ] [bL 4,eq 5 4,eh 6 5 1,dW 7,cy 8 0 7,aH 9 (cP 8) 7,fv 10 9 16 7,dn 11 7 10,en 12,cy 13 0 12,aH 14 (dG 13 dw) 12,dc 15 208 [fg] 12,eo 16 15 12,dn 17 12 16] 17 [dJ] (dA [fG] (eS xw) [ae 2 bI])) [cD]
theorem anH:jb 175 LC:=ij Tryz.func175 (by kernel_rfl)
def Nu:fx:=dQ [dY 4,ek 7,bV 8 7,bW 9 6 8] 9 0 (cj 1 [ek 12,ag 13 4,ch 14 12 13 1,bG 15 14,gI,bj 17 .eql 15 16] (bn 17 [ae 2 bI]) [gf 4,dr 11 10,de 11])
def Tv:gP:=cF 18 [dJ] (cS [dg 5 [br] 13 [bU 0 [97,110,100],bU 1 [111,114],bU 2 [110,111,116],bU 3 [105,109,112,108,105,101,115],bU 4 [105,110],bU 5 [116,111],bU 6 [116,114,117,101],bU 7 [102,97,108,115,101],bU 8 [109,105,110],bU 9 [109,97,120],bU 10 [105,102],bU 11 [116,104,101,110],bU 12 [101,108,115,101]],ew 3] [dO] (eS Nu) [dJ]) [cD]
theorem anI:jb 176 Tv:=ij Tryz.func176 (by kernel_rfl)
def Tw:gP:=dV 8 [gL 1,dz,fG] [fJ 4 1,av 5 209 [.t 4,cV],eO 6 5,eN 7 5,dW 2,ev 3] [cD,gK]
theorem anJ:jb 177 Tw:=ij Tryz.func177 (by kernel_rfl)
def xx:fx:=dQ [dW 70,fS 71 3,bG 72 71,bV 73 72,bW 74 70 73] 74 1 (cj 2 [fS 77 3,bG 78 77,dW 79,ch 80 78 79 4,fJ 81 80,av 82 178 [.t 81],cO 83 82] (bn 83 [dJ]) [dW 75,dr 76 75,dY 76])
theorem Qd:mh (jU (.loop xx))=19341632522213349383995460:=nr rfl
def Qe:gP:=bv 84 (dI [gL 1,dJ] [dX 7 1,bG 8 7,eh 9 8 1,eE 10,di 11 1 0 10,dk 12 11 10,fv 13 12 22 10,dn 14 10 13] 14 [dJ] (dI [dX 16 1,bG 17 16,av 18 210 [gy],gq 18,eO 19 15,eN 20 15,ag 3 19,de 20] [fS 21 3,bG 22 21,bV 23 22,ek 24,bW 25 23 24,ag 26 25,di 27 1 3 26,dk 28 27 26,aH 29 (aZ 28) 26,cy 30 4 26,ee 31 29 gz 26,dn 32 26 31] 32 [dJ] (bB [fw] [dX 33 1,bG 34 33] (eX 0 [bE 36 34 1,ag 35 36] (eL 35 (bE 37 34 2) [ag 35 37]) (cG 35 (ce (aG 5 1099511627776) []) [bE 39 34 3,ag 38 39] (aN 38 (ce (aG 5 1439) [])))) (gt [eP 40 1,bG 41 40,eh 42 41 0,ag 43 42,di 44 1 1 43,dk 45 44 43,cy 46 5 43,ee 47 45 (.t 46) 43,dn 48 43 47,ag 49 48,di 50 1 0 49,dk 51 50 49,df 52 .eql 51 (ai 6) 49,cy 53 52 49,dD 54 1 2 53,dq 55 54 53,cM 56 211 [.t 55] 53,aD 57 (bX 56) 53,aH 58 (gF 53 57 aX) 49,dn 59 49 58,ag 60 59,di 61 1 0 60,dk 62 61 60,df 63 .neq 62 (ai 6) 60,cy 64 63 60,dD 65 1 2 64,dq 66 65 64,cm 67 .neq 66 (aQ []) 64,aH 68 (gF 64 67 aX) 60,dn 69 60 68] 69 [dJ] (dA [fj] (aU 1 xx) [ae 2 bI]))))) [cD]
theorem anK:jb 178 Qe:=ij Tryz.func178 (by kernel_rfl)
def Tx:gP:=dV 10 [dJ] [eQ,av 4 133 [.t 3],eZ 4,gM 6 5,cM 7 212 [gv] 5,aD 8 (bX 7) 5,cU 9 5 8,eE 2] [cD]
theorem anL:jb 179 Tx:=ij Tryz.func179 (by kernel_rfl)
def qO:fx:=db [bW 26 25 24] 26 0 1 [ch 27 23 25 4,fJ 28 27,b5 8 [aC,aC,br,.nilsl],fb 8 28] (cZ [fJ 29 8,cN 30,dr 31 30,eD 32,av 33 180 [fF,fE,.t 32],cO 34 33] 34 [ge]) [dr 35 25,ag 25 35]
def I7:gP:=eU 36 (ad [gL 3,ge] (dI [eD 9,cz 10 9,bG 11 10,dr 12 11,cz 13 9,fX 13 12] [eD 14,cz 15 14,bG 16 15,ed 17 16 200,gw 17,cy 19 1 18,fv 20 19 16 18,dn 21 18 20] 21 [ge] (dA [aO 22 3 3,bG 23 22,bV 24 23,bO 25] (eS qO) [ae 6 bI]))) [eu]
theorem anM:jb 180 I7:=ij Tryz.func180 (by kernel_rfl)
def xy:fx:=db [bW 62 61 60] 62 1 2 [ch 63 59 61 4,fJ 64 63,b5 4 [aC,aC,br,.nilsl],fb 4 64] (cZ [fJ 65 4,av 66 181 [.t 65],cO 67 66] 67 [dJ]) [dr 68 61,ag 61 68]
theorem Qf:mh (jU (.loop xy))=587989967349491957780:=nr rfl
def Qg:gP:=bv 69 (dI [gL 1,dJ] [dX 5 1,bG 6 5,eh 7 6 1,ev 8,di 9 1 0 8,dk 10 9 8,fv 11 10 22 8,dn 12 8 11,eA 13,di 14 1 0 13,dk 15 14 13,di 16 1 3 13,dk 17 16 13,aH 18 (aZ 17) 13,dc 19 213 [eM,fZ] 13,eo 20 19 13,dn 21 13 20] 21 [dJ] (aA [dX 22 1,bG 23 22] (eX 0 [bE 28 23 1,ag 27 28] (eL 27 (bE 29 23 2) [ag 27 29]) (cG 27 (cZ [eP 30 1,bG 31 30,eh 32 31 0,ag 33 32,di 34 1 1 33,dk 35 34 33,fv 36 35 1099511627776 33,dn 37 33 36] 37 [dJ]) [bE 39 23 3,ag 38 39] (cG 38 (cZ [eP 40 1,bG 41 40,eh 42 41 0,ag 43 42,di 44 1 1 43,dk 45 44 43,fv 46 45 1439 43,dn 47 43 46] 47 [dJ]) [eP 24 1,bG 25 24,fV 26 25] (bn 26 [dJ])))) (aA [dX 48 1,bG 49 48,bE 50 49 6] (cG 50 (cZ [eI 51 1,bG 52 51,av 53 214 [.t 52],cO 54 53] 54 [dJ]) [eI 55 1,bG 56 55,cJ 57 .neq 56 []] (bn 57 [dJ])) (dA [fS 58 3,bG 59 58,bV 60 59,bO 61] (aU 1 xy) [ae 2 bI])))) [cD]
theorem anN:jb 181 Qg:=ij Tryz.func181 (by kernel_rfl)
def Ty:gP:=eW 13 [dz] [eQ] (eX 0 [fL 5 [98,108,111,99,107],de 5] (dt 4 [fL 6 [115,112,97,110],de 6] (dt 4 [fL 7 [110,105,103,104,116],de 7] (eL 4 (fL 8 [99,114,101,100,105,116]) [de 8]))) (ao 4 (aE [el 3]) (aA [fL 10 [108,101,103,115],dS 9] (dt 9 [fL 11 [104,101,97,100,115],en 9] (eL 9 (fL 12 [100,117,116,105,101,115]) [eA 9])) (bn 9 [el 2])))) [dz] [cD]
theorem anO:jb 182 Ty:=ij Tryz.func182 (by kernel_rfl)
def Tz:gP:=dV 11 [ae 4 (aQ []),cQ 5] [bL 6,cN 7,av 8 215 [gv,.t 7],eO 9 8,eN 10 8,de 9,dS 5] [cH,fB]
theorem anP:jb 183 Tz:=ij Tryz.func183 (by kernel_rfl)
def nG:fx:=db [bW 62 61 60] 62 0 1 [ag 63 61,ch 64 59 61 4,fJ 65 64,b5 16 [aC,aC,br,.nilsl],gq 63,fb 16 65] (dI [bL 67,cN 68,eD 69,fJ 70 16,av 71 184 [.t 67,.t 68,.t 69,.t 70],ag 66 71,eO 72 66,eN 73 66,ag 17 72,gw 73] [ag 74 18,fV 75 74] 75 [ag 76 18,fd,gx 76] (dB 77 14 [ag 78 15,ag 79 17,ch 80 77 78 1,fX 80 79])) [dr 81 61,ag 61 81]
theorem Fq:mh (jU (.loop nG))=4835700972615507485623040:=nr rfl
def CJ:gP:=eU 89 (bB [dl 7 3,fd,fW] [dX 20 7,bG 21 20,bE 22 21 6] (aN 22 (aA [cN 24,eI 25 7,bG 26 25,av 27 90 [fq,fP],ag 23 27,eO 28 23,eN 29 23,gf 28,fM 29] (cZ [en 30,bE 31 30 0] 31 [dS 32,gH 32,fW]) (.seq (cp [es 34,cW 35 34,bD 36 35 1,cK 37 36,bD 38 7 2,cE [3] 39 38,bq 40 (.lk dj (.t 37) (.t 39) aC true),b4 33 40,bq 41 (bo 33 0),bq 42 (bo 33 1),b4 12 41,b4 13 42] (cZ [gb 43,ag 44 43,bC 45 12 44,gn 46 44,cm 47 .lss 45 (.t 46) 44,cU 48 44 47] 48 [bL 49,eA 50,av 51 91 [.t 49,.t 50],eO 52 51,eN 53 51,gH 52,gx 53])) (aE [fd,aG 9 6])))) (bB [aO 54 7 3,bG 55 54,bV 56 55,ab 57 (.mksl [aC] 8 (.t 56) false),ag 14 57] [aO 58 7 3,bG 59 58,bV 60 59,bO 61] (eS nG) (dA [dX 82 7,bG 83 82,ag 84 14,av 85 216 [.t 83,.t 84],ag 19 85] (cZ [ag 86 19,fV 87 86] 87 [ag 88 19,gH 88,fW]) [fd,aG 9 9]))) [.tmp 8,.tmp 9]
theorem anQ:jb 184 CJ:=ij Tryz.func184 (by kernel_rfl)
def TA:gP:=eW 4 [dz] [eQ] (bn 3 [fk]) [dz] [cD]
theorem anR:jb 185 TA:=ij Tryz.func185 (by kernel_rfl)
def TB:gP:=cF 51 [ae 4 (fC 0),ae 5 (fC 0)] (ga [bL 14,aq 15 .and 14 (fC 4294967295),dY 15] [gI,aq 17 .shr 16 (fC 32),ag 7 17] (ga [cN 18,aq 19 .and 18 (fC 4294967295),gH 19] [cN 20,aq 21 .shr 20 (fC 32),gx 21] (ga [dW 22,eK 23,bj 24 .mul 22 23,gf 24] [ev 25,eK 26,bj 27 .mul 25 26,dS 28,aq 29 .shr 28 (fC 32),dH 30 27 29,fM 30] (ga [en 31,aq 32 .and 31 (fC 4294967295),ag 12 32] [en 33,aq 34 .shr 33 (fC 32),ag 13 34] (ga [eA 35,dW 36,eE 37,bj 38 .mul 36 37,dH 39 35 38,ag 12 39] [ev 40,eE 41,bj 42 .mul 40 41,gb 43,dH 44 42 43,eA 45,aq 46 .shr 45 (fC 32),dH 47 44 46,de 47] (aE [bL 48,cN 49,bj 50 .mul 48 49,eZ 50])))))) [cH,fB]
theorem anS:jb 199 TB:=ij Tryz.func199 (by kernel_rfl)
def Qh:gP:=eW 10 [ae 2 (fC 0)] [eQ,eh 4 3 0] (bn 4 [fA,ab 6 (.cvi .u64 (.t 5)),ab 7 (bK .neg 6),ev 2]) [fe,ab 9 (.cvi .u64 fD),eE 2] [cD]
theorem anT:jb 200 Qh:=ij Tryz.func200 (by kernel_rfl)
def TC:gP:=dV 18 [gL 1,dJ] [dX 3 1,bG 4 3,fU 5 4 0,dY 5,dD 7 1 0 6,dq 8 7 6,dD 9 1 1 6,dq 10 9 6,gp 11 8 fY 6,cU 12 6 11,eA 13,dD 14 1 1 13,dq 15 14 13,gp 16 15 (ai 52596000) 13,cU 17 13 16,fQ 17] [cD]
theorem anU:jb 201 TC:=ij Tryz.func201 (by kernel_rfl)
def TD:gP:=dV 9 [dJ] [eQ,fU 4 3 0,eZ 4,gM 6 5,cm 7 .lss 6 gc 5,cU 8 5 7,eK 2] [cD]
theorem anV:jb 202 TD:=ij Tryz.func202 (by kernel_rfl)
def qP:fx:=dQ [eK 14,eI 15 2,bG 16 15,bV 17 16,bj 18 .leq 14 17] 18 0 (cj 1 [aG 9 52596000] (aA [eK 21,eI 22 2,bG 23 22,bV 24 23,bW 25 21 24] (aN 25 (ce (eI 26 2) [bG 27 26,eK 28,ch 29 27 28 2,dX 30 29,bG 31 30,gx 31])) (.seq (cp [b4 32 6,bD 33 3 0,cK 34 33,bq 35 (.mm true [.t 32,.t 34]),b4 36 9,bD 37 3 1,cE [2] 38 37,bq 39 (.mm false [.t 36,.t 38]),b4 10 35,b4 11 39] (ad [dS 40,en 41,bW 42 40 41] (aN 42 (dB 43 5 [dS 44,en 45,ev 46,cu 47 [aC,aC,aC] [ec 0 44,ec 1 45,ec 2 46],dg 48 [aC,aC,aC] 1 [fH 47],ab 49 (eY 3 24 43 48),eZ 49])))) (ad [eK 50,eI 51 2,bG 52 51,bV 53 52,bW 54 50 53] (aN 54 (.draws [b4 55 9,bD 56 2 2,cK 57 56,b4 58 8,eG 59 57 58 2,bD 60 59 1,cK 61 60,b4 6 55,b4 7 61]))))) [eK 19,dr 20 19,gH 20])
def TE:gP:=cF 63 [gL 2,dl 3 1,ep 4] (gh [ep 5] [bD 12 2 1,cK 13 12,ci fj,b4 7 13] (dA [fd] (eS qP) [ew 62,de 62])) [cH]
theorem anW:jb 203 TE:=ij Tryz.func203 (by kernel_rfl)
def anX:gP:=dV 16 [dJ] [eQ,eq 4 3,bE 5 4 1,dY 5,cy 7 0 6,aH 8 (cP 7) 6,ee 9 8 cV 6,cy 10 9 6,gM 11 10,aD 12 (dG 11 dw) 10,cm 13 .neq 12 (dL 48) 10,aH 14 (gF 10 13 aX) 6,dn 15 6 14,fQ 15] [cD]
theorem anY:jb 204 anX:=ij Tryz.func204 (by kernel_rfl)
def Qi:gP:=dV 9 [dJ] [eQ,aq 4 .geq 3 (dL 48),eZ 4,gM 6 5,gp 7 6 (dL 57) 5,cU 8 5 7,eK 2] [cD]
theorem anZ:jb 205 Qi:=ij Tryz.func205 (by kernel_rfl)
def Zs:fx:=dQ [bL 6,av 7 207 [gv,aQ [111,114]]] 7 0 (.block 1 (.draws [gJ 8 3 4,es 9,dM [0] 10 225 [fI],bq 11 (.bsl [aC,aC,br,.nilsl] 2 [fH 8,cI 1 10]),dU 12 [aC,aC,br,.nilsl] [dN 0 1 21,ec 3 11],dF 3 12 4]))
def an0:gP:=eU 14 (ad [b5 2 [aC,aC,br,.nilsl]] (bN [bL 4,av 5 225 [.t 4],b5 3 [aC,aC,br,.nilsl],fb 3 5] (eS Zs) (aE [fJ 13 3,fb 2 13]))) [dK 2 4]
theorem an1:jb 206 an0:=ij Tryz.func206 (by kernel_rfl)
def an2:gP:=eU 15 (cS [fN] [fA,cN 6,av 7 226 [.t 5,gv]] (aN 7 (ad [fe,cz 9 8,eP 10 9,bG 11 10,dr 12 11,cz 13 8,eP 14 13,fX 14 12] (aE [ae 4 bI]))) [fN]) [cH]
theorem an3:jb 207 an2:=ij Tryz.func207 (by kernel_rfl)
def Qj:gP:=dV 9 [dJ] [eQ,aq 4 .geq 3 (dL 97),eZ 4,gM 6 5,gp 7 6 (dL 122) 5,cU 8 5 7,eK 2] [cD]
theorem an4:jb 208 Qj:=ij Tryz.func208 (by kernel_rfl)
def oO:fx:=dQ [eK 13,aO 14 2 3,bG 15 14,bV 16 15,bW 17 13 16,gw 17,bC 19 6 18,gp 20 19 (ai 200) 18,cU 21 18 20] 21 0 (cj 1 [aO 25 2 3,bG 26 25,eK 27,ch 28 26 27 4,fJ 29 28,cN 30,dr 31 30,av 32 209 [fF,fE],ag 24 32,eO 33 24,eN 34 24,gx 33,gf 34] (dB 35 6 [eE 36,dH 37 35 36,ev 38,dS 39,dr 40 39,ab 41 (.mm true [.t 38,.t 40]),dY 37,ag 7 41]) [eK 22,dr 23 22,gH 23])
def Qk:gP:=cF 44 [gL 2,dO,fw] (dI [aG 6 1,aG 7 1] [cN 11,ed 12 11 16] 12 [aG 4 1,aG 5 1] (dA [fd] (eS oO) [dW 42,ev 43,de 42,eZ 43])) [cH,fB]
theorem an5:jb 209 Qk:=ij Tryz.func209 (by kernel_rfl)
def TF:gP:=eW 21 [dz,fG] [bL 4] (eX 0 [bE 6 4 1,dW 5] (dt 5 [bE 7 4 2,ev 5] (dt 5 [bE 8 4 3,eK 5] (dt 5 [bE 9 4 4,eE 5] (dt 5 [bE 10 4 5,dS 5] (eL 5 (bE 11 4 6) [en 5]))))) (ao 5 (aE [dz,fG]) (aA [bE 13 4 7,gb 12] (eL 12 (bE 14 4 19) [ag 12 14]) (ao 12 (aE [fk,aG 3 1]) (aA [bE 16 4 12,gq 16] (eL 15 (bE 17 4 13) [gq 17]) (ao 15 (aE [el 2,aG 3 200]) (aA [bE 19 4 14,gw 19] (eL 18 (bE 20 4 15) [gw 20]) (bn 18 [el 3,aG 3 3])))))))) [el 2,aG 3 2] [cD,gK]
theorem an6:jb 210 TF:=ij Tryz.func210 (by kernel_rfl)
def Ql:gP:=cF 21 [dJ] (cS [bL 4,av 5 169 [.t 4,dL 46],ew 3] [dY 3,eh 7 6 0] (bn 7 [fe,av 9 130 [fD],eE 2]) [bL 10,ek 11,ab 12 (eV 10 none (eH 11)),av 13 175 [.t 12],gb 14,gM 15 14,bC 16 3 14,cm 17 .add 16 cV 14,aD 18 (.slS eM (eH 17) none) 14,cM 19 175 [fZ] 14,cU 20 14 19,fQ 20]) [cD]
theorem an7:jb 211 Ql:=ij Tryz.func211 (by kernel_rfl)
def TG:gP:=eW 18 [dJ] [eQ] (eX 0 [fL 5 [97,110,100],de 5] (dt 4 [fL 6 [111,114],de 6] (dt 4 [fL 7 [110,111,116],de 7] (dt 4 [fL 8 [105,109,112,108,105,101,115],de 8] (dt 4 [fL 9 [105,110],de 9] (dt 4 [fL 10 [116,111],de 10] (dt 4 [fL 11 [116,114,117,101],de 11] (dt 4 [fL 12 [102,97,108,115,101],de 12] (dt 4 [fL 13 [109,105,110],de 13] (dt 4 [fL 14 [109,97,120],de 14] (dt 4 [fL 15 [105,102],de 15] (dt 4 [fL 16 [116,104,101,110],de 16] (eL 4 (fL 17 [101,108,115,101]) [de 17])))))))))))) (bn 4 [ae 2 bI])) [dJ] [cD]
theorem an8:jb 212 TG:=ij Tryz.func212 (by kernel_rfl)
def TH:gP:=eW 32 [fN] [fA] (eX 0 [bE 7 5 1,dY 7] (dt 6 [bE 8 5 2,dY 8] (dt 6 [bE 9 5 3,dY 9] (dt 6 [bE 10 5 4,dS 6] (dt 6 [bE 11 5 5,dY 11] (eL 6 (bE 12 5 6) [dY 12]))))) (ao 6 (aE [cN 13,bE 14 13 0,de 14]) (aA [bE 16 5 7,gq 16] (eL 15 (bE 17 5 19) [gq 17]) (ao 15 (aE [cN 18,bE 19 18 1,de 19]) (aA [bE 21 5 12,ag 20 21] (eL 20 (bE 22 5 13) [ag 20 22]) (ao 20 (aE [cN 23,fU 24 23 2,de 24]) (aA [bE 26 5 14,ag 25 26] (eL 25 (bE 27 5 15) [ag 25 27]) (bn 25 [cN 28,bE 29 28 3,de 29])))))))) [cN 30,bE 31 30 2,de 31] [cH]
theorem an9:jb 213 TH:=ij Tryz.func213 (by kernel_rfl)
def Qm:gP:=eW 21 [dJ] [bL 7,av 8 227 [.t 7,aQ [46]],dY 8,eO 9 6,eN 10 6,bH 11 6 2,eE 3,de 10,en 5] (cZ [ew 12] 12 [ek 13,av 14 133 [.t 13],gq 14,bC 16 4 15,cM 17 133 [eC] 15,cU 18 15 17,fQ 18]) [bL 19,av 20 179 [ft],fQ 20] [cD]
theorem aoa:jb 214 Qm:=ij Tryz.func214 (by kernel_rfl)
def Qn:gP:=eW 15 [ae 4 (aQ []),cQ 5] [bL 6,cN 7,av 8 228 [gv,.t 7],cO 9 8] (bn 9 [bL 10,de 10,cQ 5]) [bL 11,cN 12,eq 13 12,ab 14 (eV 11 (eH 13) none),de 14,ae 5 bI] [cH,fB]
theorem aob:jb 215 Qn:=ij Tryz.func215 (by kernel_rfl)
def rP:gP:=eW 67 [dO] [fA] (bp 0 [bE 10 5 1,dS 9] (dP 9 [aG 4 1] [bE 12 5 2,eA 11] (dP 11 [aG 4 2] [bE 14 5 3,ag 13 14] (ao 13 (aE [aG 4 3]) (aA [bE 16 5 4,gq 16] (eL 15 (bE 17 5 5) [gq 17]) (ao 15 (aE [aG 4 4]) (aA [bE 19 5 7,gw 19] (dt 18 [bE 20 5 8,gw 20] (dt 18 [bE 21 5 9,gw 21] (dt 18 [bE 22 5 12,gw 22] (eL 18 (bE 23 5 13) [gw 23])))) (ao 18 (cZ [cN 24,dC 25 24 0 1,bG 26 25,av 27 229 [fP],ag 28 27,bC 29 1 28,bC 30 1 28,aD 31 (cg 30 0 1) 28,dq 32 31 28,cM 33 230 [fF,.t 32] 28,cU 34 28 33] 34 [cN 35,dC 36 35 0 1,bG 37 36,de 37]) (aA [bE 39 5 10,ag 38 39] (eL 38 (bE 40 5 11) [ag 38 40]) (cG 38 (cp [es 41,b4 42 1,eF 43 42 0 1,cK 44 43,b4 45 1,eF 46 45 1 1,cE [3] 47 46,ci (av 48 231 [.t 41,.t 44,.t 47]),b4 4 48] .ret) [bE 50 5 14,ag 49 50] (cG 49 (cp [b4 51 1,eF 52 51 0 1,cK 53 52,ci (bE 54 53 4),b4 55 54,ci (bC 56 1 55),ci (aD 57 (cg 56 1 1) 55),ci (dq 58 57 55),ci (bC 59 1 55),ci (aD 60 (cg 59 2 1) 55),([7],dq 61 60 55),ci (d9 62 58 (.t 61) 55),bq 63 (gF 55 62 aX)] (bn 63 [cN 64,dC 65 64 1 1,bG 66 65,de 66])) [bL 6,cN 7,av 8 232 [gv,.t 7]] (bn 8 [aG 4 4])))))))))))) [dO] [cH]
theorem aoc:jb 216 rP:=ij Tryz.func216 (by kernel_rfl)
def Zt:fx:=dQ [bL 6,av 7 207 [gv,aQ [97,110,100]]] 7 0 (.block 1 (.draws [gJ 8 3 4,es 9,dM [0] 10 240 [fI],bq 11 (.bsl [aC,aC,br,.nilsl] 2 [fH 8,cI 1 10]),dU 12 [aC,aC,br,.nilsl] [dN 0 1 20,ec 3 11],dF 3 12 4]))
def aod:gP:=eU 14 (ad [b5 2 [aC,aC,br,.nilsl]] (bN [bL 4,av 5 240 [.t 4],b5 3 [aC,aC,br,.nilsl],fb 3 5] (eS Zt) (aE [fJ 13 3,fb 2 13]))) [dK 2 4]
theorem aoe:jb 225 aod:=ij Tryz.func225 (by kernel_rfl)
def aof:gP:=bv 47 (bN [fN] (cp [es 6,cW 7 6,bD 8 7 2,cK 9 8,ci (fU 10 9 0),b4 11 10,ci (cy 12 0 11),ci (aH 13 (bg 12) 11),ci (di 14 13 1 11),ci (dk 15 14 11),ci (cy 16 0 11),ci (aH 17 (bg 16) 11),ci (di 18 17 0 11),([9],dk 19 18 11),ci (aH 20 (aZ 19) 11),ci (df 21 .geq 15 (.t 20) 11),bq 22 (aL 11 bI (.t 21))] (bn 22 [fN])) (cp [es 23,cW 24 23,bD 25 24 0,cK 26 25,es 27,cW 28 27,bD 29 28 1,cE [3] 30 29,eG 31 26 30 4,gJ 32 31 4,ay [3,7,9] 5 (bi [aC,br,aC,aC]),dF 5 32 4] (aE [dX 33 5,bG 34 33,bE 35 34 5,ag 36 35,di 37 5 0 36,dk 38 37 36,df 39 .eql 38 cV 36,dn 40 36 39,ag 41 40,dD 42 5 1 41,dq 43 42 41,bC 44 1 41,d9 45 43 (.t 44) 41,cU 46 41 45,de 46]))) [cH]
theorem aog:jb 226 aof:=ij Tryz.func226 (by kernel_rfl)
def LD:gP:=dV 13 [ae 4 (aQ []),ae 5 (aQ []),ge] [bL 7,cN 8,av 9 241 [.t 7,fD],eO 10 9,eN 11 9,bH 12 9 2,de 10,en 5,dY 12] [cH,fB,eu]
theorem aoh:jb 227 LD:=ij Tryz.func227 (by kernel_rfl)
def Qo:gP:=dV 18 [fN] [fA,eq 6 5,cN 7,eq 8 7,bj 9 .geq 6 8,eE 10,gM 11 10,bC 12 1 10,aD 13 (cP 12) 10,aD 14 (eV 11 none (eH 13)) 10,bC 15 1 10,d9 16 14 eM 10,cU 17 10 16,de 17] [cH]
theorem aoi:jb 228 Qo:=ij Tryz.func228 (by kernel_rfl)
def Qp:gP:=dV 9 [dJ] [eQ,bE 4 3 1,eZ 4,cy 6 0 5,df 7 .eql 6 dR 5,dn 8 5 7,eK 2] [cD]
theorem aoj:jb 229 Qp:=ij Tryz.func229 (by kernel_rfl)
def qQ:fx:=db [bW 10 9 8] 10 0 1 [ch 11 7 9 1,bG 12 11,dY 12] (cZ [dW 13,cN 14,bj 15 .neq 13 14] 15 [fN]) [dr 16 9,gx 16]
def TI:gP:=eW 17 [fN] [bL 7,bV 8 7,fW] (eS qQ) [ae 4 bI] [cH]
theorem aok:jb 230 TI:=ij Tryz.func230 (by kernel_rfl)
def zP:gP:=bv 43 (bN [fj] (bp 0 [cN 8,bE 9 8 1,eE 10,gn 11 10,d9 12 11 cV 10,cU 13 10 12,gb 7] (dP 7 [aG 6 1] [cN 15,bE 16 15 2,ag 17 16,gn 18 17,d9 19 18 cV 17,cU 20 17 19,ag 14 20] (dP 14 [aG 6 2] [bL 22,bE 23 22 10,ag 24 23,bC 25 1 24,d9 26 25 cV 24,cU 27 24 26,ag 28 27,gn 29 28,d9 30 29 dR 28,cU 31 28 30,ag 21 31] (dP 21 [aG 6 2] [bL 33,bE 34 33 11,ag 35 34,bC 36 1 35,d9 37 36 dR 35,cU 38 35 37,ag 39 38,gn 40 39,d9 41 40 dR 39,cU 42 39 41,ag 32 42] (bn 32 [aG 6 1]))))) (aE [fj])) [eu]
theorem aol:jb 231 zP:=ij Tryz.func231 (by kernel_rfl)
def ED:gP:=eW 37 [fN] [fA] (bp 0 [bE 7 5 15,dY 7] (ao 6 (aE [cN 8,av 9 230 [fD,gk],de 9]) (aA [bE 11 5 16,en 10] (eL 10 (bE 12 5 17) [eA 10]) (cG 10 (cp [b4 13 1,eF 14 13 0 1,cK 15 14,ci (av 16 229 [eM]),b4 17 16,ci (bC 18 1 17),ci (aD 19 (cg 18 0 1) 17),ci (dq 20 19 17),ci (bC 21 1 17),ci (aD 22 (cg 21 1 1) 17),([7],dq 23 22 17),ci (d9 24 20 gD 17),bq 25 (aL 17 fq aX),b4 4 25] .ret) [bE 27 5 18,ag 26 27] (aN 26 (cp [b4 28 1,eF 29 28 0 1,cK 30 29,b4 31 1,eF 32 31 1 1,cE [2] 33 32,ci (bj 34 .eql 30 33),b4 4 34] .ret)))))) [cN 35,av 36 230 [.t 35,ai 4],de 36] [cH]
theorem aom:jb 232 ED:=ij Tryz.func232 (by kernel_rfl)
def aon:gP:=eU 11 (cS [b5 2 [aC,aC,br,.nilsl]] [eQ,av 4 207 [.t 3,aQ [110,111,116]]] (bn 4 [fA,av 6 240 [.t 5],dg 7 [aC,aC,br,.nilsl] 1 [fH 6],cu 8 [aC,aC,br,.nilsl] [dN 0 1 19,ec 3 7],fb 2 8]) [bL 9,av 10 252 [fI],fb 2 10]) [dK 2 4]
theorem aoo:jb 240 aon:=ij Tryz.func240 (by kernel_rfl)
def LF:gP:=eW 23 [ae 4 (aQ []),ae 5 (aQ []),ge] [fe,cN 9,av 10 253 [fD,fI],dS 7] (ad [ev 11,fU 12 11 0] (aN 12 (cp [es 13,b4 14 7,bq 15 (eV 13 none (eH 14)),es 16,b4 17 7,b4 18 1,bq 19 (cP 18),ci (dH 20 17 19),bq 21 (.slS eC (eH 20) none),b4 4 15,b4 5 21,ci (ae 6 bI)] .ret))) [bL 22,de 22,ae 5 (aQ []),ge] [cH,fB,eu]
theorem aoq:jb 241 LF:=ij Tryz.func241 (by kernel_rfl)
def aor:gP:=eU 45 (ad [b5 2 [aC,aC,br,.nilsl]] (bN [fA,av 6 260 [.t 5],b5 3 [aC,aC,br,.nilsl],fb 3 6] (bp 0 [fe,av 9 207 [fD,aQ [60]],eE 7] (cG 7 (cp [gJ 10 3 4,es 11,dM [0] 12 260 [gm],bq 13 (.bsl [aC,aC,br,.nilsl] 2 [fH 10,cI 1 12]),dU 14 [aC,aC,br,.nilsl] [dN 0 1 16,ec 3 13],dF 2 14 4] .ret) [gI,av 17 207 [eC,aQ [60,61]],gq 17] (cG 15 (cp [gJ 18 3 4,es 19,dM [0] 20 260 [ft],bq 21 (.bsl [aC,aC,br,.nilsl] 2 [fH 18,cI 1 20]),dU 22 [aC,aC,br,.nilsl] [dN 0 1 17,ec 3 21],dF 2 22 4] .ret) [bL 24,av 25 207 [fq,aQ [61]],ag 23 25] (cG 23 (cp [gJ 26 3 4,es 27,dM [0] 28 260 [gG],bq 29 (.bsl [aC,aC,br,.nilsl] 2 [fH 26,cI 1 28]),dU 30 [aC,aC,br,.nilsl] [dN 0 1 18,ec 3 29],dF 2 30 4] .ret) [bL 32,av 33 207 [.t 32,aQ [105,110]],ag 31 33] (aN 31 (ad [bL 34,av 35 260 [.t 34],b5 4 [aC,aC,br,.nilsl],fb 4 35] (gh [bL 36,av 37 261 [.t 36,aQ [116,111]]] [gJ 38 3 4,ay [0] 39 (bw 4 4),es 40,dM [0,1] 41 260 [.t 40],bq 42 (.bsl [aC,aC,br,.nilsl] 3 [fH 38,cI 1 39,cI 2 41]),dU 43 [aC,aC,br,.nilsl] [dN 0 1 15,ec 3 42],dF 2 43 4] .ret))))))) (aE [fJ 44 3,fb 2 44]))) [dK 2 4]
theorem aos:jb 252 aor:=ij Tryz.func252 (by kernel_rfl)
def Zu:fx:=.block 1 (bp 2 [fe,av 9 207 [fD,aQ [43]],eE 7] (cG 7 (.draws [gJ 10 3 4,es 11,dM [0] 12 268 [gm],bq 13 (.bsl [aC,aC,br,.nilsl] 2 [fH 10,cI 1 12]),dU 14 [aC,aC,br,.nilsl] [dN 0 1 8,ec 3 13],dF 3 14 4]) [gI,av 17 207 [eC,aQ [45]],gq 17] (ao 15 (.draws [gJ 18 3 4,es 19,dM [0] 20 268 [ft],bq 21 (.bsl [aC,aC,br,.nilsl] 2 [fH 18,cI 1 20]),dU 22 [aC,aC,br,.nilsl] [dN 0 1 9,ec 3 21],dF 3 22 4]) (aE [fJ 6 3,fb 2 6]))))
def aot:gP:=eU 23 (ga [b5 2 [aC,aC,br,.nilsl]] [bL 4,av 5 268 [.t 4],b5 3 [aC,aC,br,.nilsl],fb 3 5] (eS Zu)) [dK 2 4]
theorem aou:jb 260 aot:=ij Tryz.func260 (by kernel_rfl)
def aov:gP:=eU 10 (ad [bL 4,cN 5,av 6 207 [.t 4,.t 5],cO 7 6] (aN 7 (ce fe [av 9 174 [fD]]))) []
theorem aow:jb 261 aov:=ij Tryz.func261 (by kernel_rfl)
def Zv:fx:=.block 1 (bp 2 [fe,av 9 207 [fD,aQ [42]],eE 7] (cG 7 (.draws [gJ 10 3 4,es 11,dM [0] 12 272 [gm],bq 13 (.bsl [aC,aC,br,.nilsl] 2 [fH 10,cI 1 12]),dU 14 [aC,aC,br,.nilsl] [dN 0 1 10,ec 3 13],dF 3 14 4]) [gI,av 17 207 [eC,aQ [47]],gq 17] (ao 15 (.draws [gJ 18 3 4,es 19,dM [0] 20 272 [ft],bq 21 (.bsl [aC,aC,br,.nilsl] 2 [fH 18,cI 1 20]),dU 22 [aC,aC,br,.nilsl] [dN 0 1 11,ec 3 21],dF 3 22 4]) (aE [fJ 6 3,fb 2 6]))))
def aox:gP:=eU 23 (ga [b5 2 [aC,aC,br,.nilsl]] [bL 4,av 5 272 [.t 4],b5 3 [aC,aC,br,.nilsl],fb 3 5] (eS Zv)) [dK 2 4]
theorem aoy:jb 268 aox:=ij Tryz.func268 (by kernel_rfl)
def aoz:gP:=eU 116 (bN [b5 2 [aC,aC,br,.nilsl]] (cp [es 8,cW 9 8,bD 10 9 2,cK 11 10,ci (fU 12 11 0),b4 13 12,ci (cy 14 0 13),ci (aH 15 (bg 14) 13),ci (di 16 15 1 13),ci (dk 17 16 13),ci (cy 18 0 13),ci (aH 19 (bg 18) 13),ci (di 20 19 0 13),([9],dk 21 20 13),ci (aH 22 (aZ 21) 13),ci (df 23 .geq 17 fm 13),bq 24 (aL 13 bI gD)] (bn 24 [bL 25,av 26 174 [gE],fb 2 26])) (.seq (bp 0 [bL 28,av 29 207 [fO,aQ [45]],ag 27 29] (dP 27 [bL 30,av 31 272 [gz],dg 32 [aC,aC,br,.nilsl] 1 [fH 31],cu 33 [aC,aC,br,.nilsl] [dN 0 1 7,ec 3 32],fb 2 33] [bL 35,av 36 207 [.t 35,aQ [116,114,117,101]],ag 34 36] (dP 34 [cu 37 [aC,aC,br,.nilsl] [dN 0 1 4],fb 2 37] [bL 39,av 40 207 [.t 39,aQ [102,97,108,115,101]],ag 38 40] (dP 38 [cu 41 [aC,aC,br,.nilsl] [dN 0 1 5],fb 2 41] [bL 43,av 44 226 [.t 43,aQ [109,105,110]],ag 45 44,cy 46 0 45,dc 47 226 [.t 46,aQ [109,97,120]] 45,dn 48 45 47,ag 42 48] (dP 42 [bL 49,av 50 273 [.t 49],fb 2 50] [bL 52,av 53 207 [.t 52,aQ [105,102]],ag 51 53] (cG 51 (ga [bL 54,av 55 173 [.t 54],b5 3 [aC,aC,br,.nilsl],fb 3 55] [bL 56,av 57 261 [.t 56,aQ [116,104,101,110]]] (ad [bL 58,av 59 173 [.t 58],b5 4 [aC,aC,br,.nilsl],fb 4 59] (gh [bL 60,av 61 261 [.t 60,aQ [101,108,115,101]]] [gJ 62 3 4,ay [0] 63 (bw 4 4),es 64,dM [0,1] 65 173 [.t 64],bq 66 (.bsl [aC,aC,br,.nilsl] 3 [fH 62,cI 1 63,cI 2 65]),dU 67 [aC,aC,br,.nilsl] [dN 0 1 14,ec 3 66],dF 2 67 4] .ret))) [bL 69,av 70 207 [.t 69,aQ [40]],ag 68 70] (aN 68 (ga [bL 71,av 72 173 [.t 71],b5 5 [aC,aC,br,.nilsl],fb 5 72] [bL 73,av 74 261 [.t 73,aQ [41]]] (aE [fJ 75 5,fb 2 75]))))))))) (cp [es 76,cW 77 76,bD 78 77 0,cK 79 78,es 80,cW 81 80,bD 82 81 1,cE [3] 83 82,eG 84 79 83 4,gJ 85 84 4,ay [3,7,9] 6 (bi [aC,br,aC,aC]),dF 6 85 4] (bB [bO 7] [dX 86 6,bG 87 86] (bp 1 [bE 89 87 2,ag 88 89] (cG 88 (ce (aG 7 1) []) [bE 91 87 3,ag 90 91] (cG 90 (ce (aG 7 2) []) [bE 93 87 4,ag 92 93] (cG 92 (ce (aG 7 3) []) [bE 95 87 1,ag 94 95] (aN 94 (ad [eP 96 6,bG 97 96,av 98 211 [.t 97]] (aN 98 (ce (aG 7 6) [])))))))) (gt [ev 99,bE 100 99 0] 100 [bL 101,av 102 174 [.t 101],fb 2 102] (ad [bL 103,cz 104 103,eP 105 104,bG 106 105,dr 107 106,cz 108 103,eP 109 108,fX 109 107] (aE [ev 110,eI 111 6,bG 112 111,eP 113 6,bG 114 113,cu 115 [aC,aC,br,.nilsl] [ec 0 110,ec 1 112,ec 2 114],fb 2 115]))))))) [dK 2 4]
theorem aoA:jb 272 aoz:=ij Tryz.func272 (by kernel_rfl)
def Zw:fx:=dQ [bL 33,av 34 207 [.t 33,aQ [44]]] 34 0 (.block 1 (.draws [bD 35 3 3,cK 36 35,es 37,dM [1] 38 173 [.t 37],ay [1] 39 (.bsl [aC,aC,br,.nilsl] 1 [fH 38]),bq 40 (eY 4 56 36 39),bD 41 3 3,dF 41 40 1]))
def aoB:gP:=eU 45 (ad [b5 2 [aC,aC,br,.nilsl]] (bB [cu 4 [aC,aC,br,.nilsl] [dN 0 1 12],b5 3 [aC,aC,br,.nilsl],fb 3 4] [fA,av 6 226 [.t 5,aQ [109,97,120]]] (aN 6 (ce (dX 7 3) [bf 7 (ai 13) 1])) (ad [fe,cz 9 8,eP 10 9,bG 11 10,dr 12 11,cz 13 8,eP 14 13,fX 14 12] (gh [bL 15,av 16 261 [eM,aQ [40]]] [bD 17 3 3,cK 18 17,es 19,dM [1] 20 173 [ft],ay [1] 21 (.bsl [aC,aC,br,.nilsl] 1 [fH 20]),bq 22 (eY 4 56 18 21),bD 23 3 3,dF 23 22 1] (gh [bL 24,av 25 261 [fq,aQ [44]]] [bD 26 3 3,cK 27 26,es 28,dM [1] 29 173 [fO],ay [1] 30 (.bsl [aC,aC,br,.nilsl] 1 [fH 29]),bq 31 (eY 4 56 27 30),bD 32 3 3,dF 32 31 1] (.seq (eS Zw) (ad [bL 42,av 43 261 [.t 42,aQ [41]]] (aE [fJ 44 3,fb 2 44])))))))) [dK 2 4]
theorem aoC:jb 273 aoB:=ij Tryz.func273 (by kernel_rfl)
end Go.Proofs.YtcpceiclnbmgiaaGreat
