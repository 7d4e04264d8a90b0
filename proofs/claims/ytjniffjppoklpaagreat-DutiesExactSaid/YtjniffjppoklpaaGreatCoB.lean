/- The codes of functions of the program, as the evaluator reads them; that each is what its compiler makes of the model's function. Conditions: none. -/
import Derived.Test.YtjniffjppoklpaaGreatCoN
import Derived.Test.YtjniffjppoklpaaGreatChecked
import Derived.KernelRfl
set_option maxRecDepth 100000
namespace Go.Proofs.YtjniffjppoklpaaGreat
open Go Go.Ev
def Ed:iA:=dN [bM 10 9 8] 10 0 1 [ew 11,dm 3] (b6 [gZ,dn 13,ab 14 (.ixS eY fu),au 15 .lss 14 (gI 65),eU 16,cV 17 0 16,cV 18 3 16,aH 19 (.ixS eM fJ) 16,d9 20 19 (gI 90) 16,dt 21 16 20] 21 [dz]) [cW 22 9,ge 9]
theorem Vu:lO (jU (.loop Ed))=8388108:=nr rfl
def c49:iC:=bq 23 (eJ [dz] [cm 4,ik 5 4,cL 6 5 3] (aX 6 [dz]) [gD,ik 8 7,fe] (aP 0 Ed) [ad 2 bX]) [cy]
theorem aza:jt 49 c49:=iO Tryz.func49 (by kernel_rfl)
def Ee:iA:=dN [dG 64 63 3] 64 1 2 [ab 65 (.ixA (.t 62) (.t 63) 3 1 false),hU 65] (b6 [dV 66,dG 67 66 0,ag 68 67,cV 69 6 68,eH 70 69 8 68,dt 71 68 70] 71 [fX 5]) [cW 72 63,ag 63 72]
theorem Vv:lO (jU (.loop Ee))=9435509593702435651664:=nr rfl
def c50:iC:=cg 73 [eV,cY] (.seq (eu (dO [el 8 2,bA 9 8,aB 10 84 [fi],cU 11 10,dm 12,cP 13 2 5 12,cK 14 13 12,dC 15 81 [eB] 12,fG 16 15 12,dt 17 12 16,eK 7] 7 [fX 1] (dO [cG 19,gf 20 2,bA 21 20,ab 22 (.lk dr ft fI aJ false),cU 23 22,ag 24 23,cV 25 1 24,cP 26 2 2 24,cK 27 26 24,aH 28 (.lk dr gO ij aJ false) 24,fG 29 28 24,dt 30 24 29,ag 18 30] 18 [fX 6] (dO [gf 32 2,bA 33 32,fA 34 2,bA 35 34,fk 36 33 35,ag 31 36] 31 [fX 14] (b6 [aN 38 2 3,bA 39 38,dG 40 39 2880,ag 41 40,cP 42 2 4 41,cK 43 42 41,eH 44 43 52593120 41,dt 45 41 44,ag 46 45,cP 47 2 4 46,cK 48 47 46,cP 49 2 3 46,cK 50 49 46,de 51 .leq 48 (.t 50) 46,dt 52 46 51,ag 53 52,cP 54 2 4 53,cK 55 54 53,cP 56 2 3 53,cK 57 56 53,de 58 .sub 55 (.t 57) 53,eH 59 58 1440 53,dt 60 53 59,ag 37 60] 37 [fX 5]))))) (fj [aN 61 2 6,ev 62 61,bD 63] 1 Ee (aC [cY]))) [cj]
theorem azb:jt 50 c50:=iO Tryz.func50 (by kernel_rfl)
def c51:iC:=fv 20 [eV,io 3,gg] [aN 5 2 3,bA 6 5,aN 7 3 3,bA 8 7,aV 9 .neq 6 8] (aX 9 [aN 10 2 3,bA 11 10,aN 12 3 3,bA 13 12,bM 14 11 13,cS 14]) [el 15 2,bA 16 15,el 17 3,bA 18 17,bM 19 16 18,cS 19] [cj]
theorem azc:jt 51 c51:=iO Tryz.func51 (by kernel_rfl)
def Ef:iA:=dN [bM 105 104 103] 105 3 4 [bY 106 102 104 4,gp 107 106,cN 9 [aY,aY,bZ,.nilsl],bW 9 107 4] (ae [gp 108 9,aB 109 89 [.t 108],ic 109] (b6 [dD 110,eQ 111 110] 111 [dD 112,gw 112])) [cW 113 104,ag 104 113]
theorem Lj:lO (jU (.loop Ef))=20748905024535658843698038065595908:=nr rfl
def Eg:iA:=dk [bM 87 86 85] 87 1 2 (go [bY 88 84 86 5,bo 89 88 5,cN 6 [aY,aY,aY,bZ,.nilsl],bW 6 89 5] [el 90 6,bA 91 90,aB 92 88 [.t 91],cU 93 92] 93 [fR] (ae [gf 94 6,gp 95 94,aB 96 89 [.t 95],ag 7 96] (b6 [dR 97,eQ 98 97] 98 [dR 99,gw 99]))) [cW 100 86,ag 86 100]
theorem Lk:lO (jU (.loop Eg))=2535223829204003466726225215684:=nr rfl
def c52:iC:=cg 116 [gm,dL] (.seq (eu (fW [dJ 12 0,bA 13 12,aB 14 85 [fu,dH,fE],cU 15 14,eU 11] 11 (dh [dJ 16 1,bA 17 16,aB 18 85 [eM,dH,fE],cU 19 18,fV 11] 11 (dh [dJ 20 2,bA 21 20,aB 22 85 [fI,dH,fE],cU 23 22,hZ 23] 11 (dh [dJ 24 3,bA 25 24,dJ 26 2,bA 27 26,aB 28 85 [gO,ij,fE],cU 29 28,hZ 29] 11 (dh [dJ 30 4,bA 31 30,aB 32 85 [eL,dH,aj 10080],cU 33 32,hZ 33] 11 (dh [dJ 34 5,bA 35 34,aB 36 85 [gU,dH,aj 1439],cU 37 36,hZ 37] 11 (dh [dJ 38 6,bA 39 38,aB 40 85 [.t 39,dH,aj 1439],cU 41 40,hZ 41] 11 (cw (dJ 42 13) [bA 43 42,aB 44 85 [.t 43,dH,aj 599999],cU 45 44,hZ 45]))))))) 11 (aC [eo 5]) (es [dJ 47 7,bA 48 47,bC 49 48,em 50 49 32,ag 46 50] 46 (dh [dJ 51 8,bA 52 51,bC 53 52,em 54 53 40,ag 46 54] 46 (dh [dJ 55 9,bA 56 55,bC 57 56,em 58 57 16,ag 46 58] 46 (dh [dJ 59 10,bA 60 59,bC 61 60,em 62 61 1,ag 46 62] 46 (dh [dJ 63 11,bA 64 63,bC 65 64,em 66 65 16,ag 46 66] 46 (cw (dJ 67 12) [bA 68 67,bC 69 68,em 70 69 16,ag 46 70]))))) (aX 46 [eo 10])))) (ay [dJ 71 7,bA 72 71,aB 73 86 [.t 72],ag 3 73] (b6 [dn 74,eQ 75 74] 75 [dn 76,gw 76]) (ay [dJ 77 8,bA 78 77,aB 79 87 [.t 78],cS 79] (b6 [eZ 80,eQ 81 80] 81 [eZ 82,gw 82]) (fj [dJ 83 9,bA 84 83,bC 85 84,bD 86] 1 Eg (fj [dJ 101 10,bA 102 101,bC 103 102,bD 104] 3 Ef (aC [eX 114 1,aB 115 90 [.t 114],gw 115])))))) [cy]
theorem azd:jt 52 c52:=iO Tryz.func52 (by kernel_rfl)
def yF:iA:=dN [bM 16 15 14] 16 0 1 [eU 17,bY 18 13 15 5,bo 19 18 5,cN 5 [bZ,aY,aY,bZ,.nilsl],cS 17,bW 5 19 5] (bt [bI 21 3,eh 22 21,bu 23 22 1,cz 24 23,fO 25 5,b5 [3] 26 25,bb 27 (.lk dr eR gc aY true),bI 20 27,fP 28 20 0,fP 29 20 1,bI 6 28,bI 7 29] (fZ [dR 30,cU 31 30] 31 (.draws [bI 32 3,eh 33 32,bu 34 33 1,cz 35 34,fO 36 5,b5 [3] 37 36,bI 38 4,cF (bG (.mu dr gU gM ii))]))) [cW 39 15,ag 15 39]
theorem Vw:lO (jU (.loop yF))=1099511595248:=nr rfl
def c53:iC:=fK 41 (ae [ad 2 (.c .nilptr)] (dU [gC,gb 9 true,gb 10 true,dw 11 [.nilsl,.nilmp,.nilmp] [gh 0 8,gh 1 9,gh 2 10],ab 12 (.box eS true),dB 3] [cm 13,bC 14 13,bD 15] 0 yF [dn 40,gw 40])) [cy] true
theorem aze:jt 53 c53:=codeOk (hs:=[9,10,12]) Tryz.func53 (by kernel_rfl)
def c54:iC:=cg 23 [cY,dK] (eJ [eA] [gD] (eu (cJ [br 9 7 1,ew 8] 8 (cw gJ [aB 11 91 [eG],dm 6]) (cJ [br 13 7 2,eD 12] 12 (cw (cG 14) [aB 15 92 [eB],eU 6]) (fZ [br 17 7 3,eK 16] 16 (cw (cG 18) [aB 19 93 [fJ],fV 6]))))) [dV 20,br 21 20 0] (aX 21 [cY,aA 5 6]) [dV 22,cS 22,dK]) [cj,eI]
theorem azf:jt 54 c54:=iO Tryz.func54 (by kernel_rfl)
def c55:iC:=fK 45 (bn [cY,dK] [cm 11,df 12 11,fA 13 12,bA 14 13,cG 15,ab 16 (.lk (.one .int) eB en aY true),eP 10,eF 17 10,eE 18 10,eK 6,fM 7] (b6 [dR 19] 19 [dV 20,cS 20,dK]) (go [cm 22,cG 23,cm 24,df 25 24,el 26 25,bA 27 26,cG 28,bY 29 27 28 5,gf 30 29,gp 31 30,aB 32 94 [fH,dH,fq,eL],ag 21 32,eF 33 21,eE 34 21,iv 33,ag 9 34] [ew 35,eQ 36 35] 36 [ew 37,cY,ag 5 37] (ae [cm 38,df 39 38,fA 40 39,bA 41 40,cG 42,ec 43,bG (.mu (.one .int) (.t 41) ie (.t 43))] (aC [ec 44,cS 44,dK])))) [cj,eI] true
theorem azg:jt 55 c55:=iO Tryz.func55 (by kernel_rfl)
def c56:iC:=fK 29 (ae [bV 8 3,bD 10] (cu [cm 14,cG 15,dX 16,gp 17 8,aB 18 94 [eB,en,ee,eM],fM 13,eF 19 13,eE 20 13,fV 11,fF 12] [dB 21,br 22 21 0,ge 23,bN 24 11 23,bN 25 4 23,ci 26 .neq 24 gO 23,dj 27 23 26] (aX 27 [aA 10 9]) [dB 28,ic 28])) [.tmp 10] true
theorem azh:jt 56 c56:=iO Tryz.func56 (by kernel_rfl)
def ajq:iA:=dN [bM 24 23 22] 24 3 4 [gL 25 21 23,bA 26 25,ag 7 26] (cw (dn 27) [dF 28,dR 29,dP 30 28 29,dA 31 [bZ] 1 [dx 0 30],ab 32 (dI 1 16 ij eL false),ag 3 32]) [cW 33 23,ag 23 33]
def ajr:iA:=dN [bM 18 17 16] 18 1 2 [gL 19 15 17,bA 20 19,fF 5] (ae [aB 21 57 [dl],bC 22 21,bD 23] (aP 3 ajq)) [cW 34 17,ag 17 34]
def c57:iC:=fv 39 [dZ 2] [gC] (eu (dO [br 10 8 1,dD 9] 9 [dA 11 [bZ] 11 [db 0 [108,101,103,115],db 1 [104,101,97,100,115],db 2 [116,121,112,101,115],db 3 [98,108,111,99,107],db 4 [115,112,97,110],db 5 [110,105,103,104,116],db 6 [108,111,110,103,101,115,116],db 7 [115,104,111,114,116,101,115,116],db 8 [115,104,105,102,116],db 9 [115,116,97,114,116],db 10 [101,110,100]],dm 2] (cJ [br 13 8 2,eD 12] 12 (dU [dA 14 [bZ] 3 [db 0 [114,101,115,116],db 1 [110,105,103,104,116,115],db 2 [104,111,109,101]],eO 3] [dA 15 [bZ] 2 [db 0 [98,101,102,111,114,101,46],db 1 [97,102,116,101,114,46]],bC 16 15,bD 17] 1 ajr [dn 35,gw 35]) (b6 [br 37 8 3,ag 36 37] 36 [dA 38 [bZ] 7 [db 0 [100,117,116,105,101,115],db 1 [108,101,103,115],db 2 [104,101,97,100,115],db 3 [100,97,121,115],db 4 [98,108,111,99,107],db 5 [115,112,97,110],db 6 [99,114,101,100,105,116]],gw 38])))) [dZ 2] [cy]
theorem azj:jt 57 c57:=iO Tryz.func57 (by kernel_rfl)
def c58:iC:=fK 51 (ae [cY] (cX [gZ,df 13 12,gf 14 13,bA 15 14,cG 16,ab 17 (.lk dr en ee aY true),eK 11,eF 18 11,eE 19 11,fM 5,fV 6] [dV 20,cU 21 20] (aX 21 [cY]) [cm 23,df 24 23,fA 25 24,bA 26 25,dF 27,ab 28 (.lk (.one .int) gc ij aY true),ag 22 28,eF 29 22,eE 30 22,ag 7 29,iv 30] (b6 [ec 31] 31 [dR 32,cS 32]) (gX [cm 33,cm 34,df 35 34,el 36 35,bA 37 36,dF 38,bY 39 37 38 5,gf 40 39,gp 41 40,aB 42 33 [gW,dH,.t 41],cN 9 [aY,aY,.nilsl],bW 9 42 3] [aB 43 95 [fi,b4],ic 43] (ae [cm 44,df 45 44,fA 46 45,bA 47 46,dF 48,dD 49,bG (.mu (.one .int) (.t 47) (.t 48) (.t 49))] (aC [dD 50,cS 50]))))) [cj] true
theorem azk:jt 58 c58:=iO Tryz.func58 (by kernel_rfl)
def c59:iC:=eq 12 [ad 4 (.c .nilptr)] [gv,df 6 5,el 7 6,fA 8 7,bA 9 8,gJ,bY 11 9 10 9,cS 11] [cj]
theorem azl:jt 59 c59:=iO Tryz.func59 (by kernel_rfl)
def Bv:iA:=cI [dn 16,dJ 17 2,bA 18 17,bC 19 18,bM 20 16 19] 20 0 1 (ay [dJ 23 2,bA 24 23,dn 25,bY 26 24 25 2,el 27 26,bA 28 27,aB 29 98 [gE],cU 30 29,ag 31 30,cP 32 1 2 31,cK 33 32 31,cV 34 3 31,aH 35 (bj 33 34 2) 31,cP 36 35 1 31,cK 37 36 31,dC 38 97 [gM] 31,fG 39 38 31,dt 40 31 39] (aX 40 [eo 5]) (bt [bI 41 3,cF (em 42 41 0),bI 43 42,cF (dq 44 1 2 43),cF (cQ 45 44 43),gz 46 3 43,cF (aF 47 (bj 45 46 2) 43),cF (dq 48 47 0 43),cF (cQ 49 48 43),cF (dq 50 1 2 43),([4,8],cQ 51 50 43),gz 52 3 43,cF (ci 53 .sub 52 dl 43),cF (aF 54 (bj 51 53 2) 43),cF (dq 55 54 0 43),([4,8],cQ 56 55 43),cF (fC 57 49 (.t 56) 43),bb 58 (aQ 43 (.t 57) bh)] (aX 58 [eo 8]))) [dn 21,cW 22 21,ge 3]
theorem Vx:lO (jU (.loop Bv))=576460752303357964:=nr rfl
def c60:iC:=bq 59 (cX [gm,dL] [dJ 4 0,bA 5 4,aB 6 96 [.t 5],cU 7 6] (aX 7 [fR]) [dJ 8 1,bA 9 8,aB 10 97 [fi],cU 11 10] (aX 11 [eo 5]) (ay [dJ 12 2,bA 13 12,bC 14 13,em 15 14 16] (aX 15 [eo 10]) (fj [bD 3] 0 Bv (aC [dL])))) [cy]
theorem azm:jt 60 c60:=iO Tryz.func60 (by kernel_rfl)
def Eh:iA:=cI [dF 6,gD,bC 8 7,bM 9 6 8] 9 0 1 (b6 [gZ,dF 13,bY 14 12 13 3,el 15 14,bA 16 15,cG 17,fk 18 16 17] 18 [dF 19,cS 19]) [dF 10,cW 11 10,dm 5]
theorem Vy:lO (jU (.loop Eh))=1048560:=nr rfl
def c61:iC:=bq 20 (dU [cY] [dK] 0 Eh [fX (-1)]) [cj]
theorem azn:jt 61 c61:=iO Tryz.func61 (by kernel_rfl)
def c62:iC:=eq 21 [dz] [fD,ik 4 3,br 5 4 3,dF 6,bN 7 0 6,aF 8 (.ixS ir dH) 6,fb 9 99 [fL] 6,dj 10 6 9,dD 11,bN 12 0 11,aF 13 (.ixS eY dl) 11,fb 14 99 [fu] 11,dj 15 11 14,eU 16,bN 17 0 16,aF 18 (.ixS eM gx) 16,fb 19 99 [fJ] 16,dj 20 16 19,fF 2] [cy]
theorem azo:jt 62 c62:=iO Tryz.func62 (by kernel_rfl)
def Ei:iA:=cI [dF 6,gD,bC 8 7,bM 9 6 8] 9 0 1 (b6 [gZ,dF 13,bY 14 12 13 2,el 15 14,bA 16 15,cG 17,fk 18 16 17] 18 [dF 19,cS 19]) [dF 10,cW 11 10,dm 5]
theorem Vz:lO (jU (.loop Ei))=1048560:=nr rfl
def c63:iC:=bq 20 (dU [cY] [dK] 0 Ei [fX (-1)]) [cj]
theorem azp:jt 63 c63:=iO Tryz.func63 (by kernel_rfl)
def Ej:iA:=cI [dV 65,dG 66 65 3] 66 0 1 (b6 [dV 69,aN 70 5 6,ab 71 (fB 70 (.t 69) 3 1),bA 72 71,dG 73 72 0,ag 74 73,cV 75 6 74,cP 76 5 6 74,aH 77 (fB 76 (.t 75) 3 1) 74,cK 78 77 74,eH 79 78 8 74,dt 80 74 79] 80 [fX 5]) [dV 67,cW 68 67,hU 68]
theorem Ek:lO (jU (.loop Ej))=2417814745741110930309200:=nr rfl
def c64:iC:=cg 108 [eV,cY] (cX [fA 8 2,bA 9 8,gJ,bY 11 9 10 9,bo 12 11 9,cN 5 [bZ,bZ,bZ,aY,aY,bZ,aY,aY,aY],bW 5 12 9] [el 13 5,bA 14 13,aB 15 100 [eB],cU 16 15,eP 17,cP 18 5 5 17,cK 19 18 17,dC 20 96 [ft] 17,fG 21 20 17,dt 22 17 21] (aX 22 [fX 1]) [gf 23 2,bA 24 23,gf 25 5,bA 26 25,aB 27 63 [eR,gc],dG 28 27 0,ag 29 28,cP 30 2 1 29,cK 31 30 29,cP 32 5 2 29,cK 33 32 29,dC 34 63 [eL,gW] 29,de 35 .lss 34 dH 29,dt 36 29 35] (aX 36 [fX 6]) (ay [gf 37 5,bA 38 37,fA 39 5,bA 40 39,fk 41 38 40] (aX 41 [fX 14]) (ay [aN 42 5 3,bA 43 42,dG 44 43 2880,ag 45 44,cP 46 5 4 45,cK 47 46 45,eH 48 47 52593120 45,dt 49 45 48,ag 50 49,cP 51 5 4 50,cK 52 51 50,cP 53 5 3 50,cK 54 53 50,de 55 .leq 52 (.t 54) 50,dt 56 50 55,ag 57 56,cP 58 5 4 57,cK 59 58 57,cP 60 5 3 57,cK 61 60 57,de 62 .sub 59 (.t 61) 57,eH 63 62 1440 57,dt 64 57 63] (aX 64 [fX 5]) (fj [eA] 0 Ej (ay [cG 81,em 82 81 0] (aK 82 (ae [fA 83 2,bA 84 83,cG 85,gy 86 85 1,bY 87 84 86 9,bo 88 87 9,cN 7 [bZ,bZ,bZ,aY,aY,bZ,aY,aY,aY],bW 7 88 9] (b6 [aN 89 5 3,bA 90 89,aN 91 7 3,bA 92 91,bM 93 90 92,ag 94 93,cP 95 5 3 94,cK 96 95 94,cP 97 7 3 94,cK 98 97 94,de 99 .eql 96 (.t 98) 94,cV 100 99 94,dq 101 5 0 100,cQ 102 101 100,dq 103 7 0 100,cQ 104 103 100,fC 105 102 (.t 104) 100,aH 106 (aQ 100 (.t 105) bh) 94,dt 107 94 106] 107 [fX 8]))) (aC [cY])))))) [cj]
theorem azq:jt 64 c64:=iO Tryz.func64 (by kernel_rfl)
def El:iA:=cI [dB 217,dJ 218 10,bA 219 218,bC 220 219,bM 221 217 220] 221 10 11 (ae [dJ 224 10,bA 225 224,dB 226,bY 227 225 226 4,gp 228 227,aB 229 103 [.t 228],ag 13 229] (b6 [eD 230,eQ 231 230] 231 [eD 232,gw 232])) [dB 222,cW 223 222,ag 12 223]
theorem Ll:lO (jU (.loop El))=13803282068997790460496115888498683564037580154149972012102539825655812:=nr rfl
def Em:iA:=cI [dD 192,dJ 193 9,bA 194 193,bC 195 194,bM 196 192 195] 196 8 9 (ay [dJ 199 9,bA 200 199,dD 201,bY 202 200 201 5,el 203 202,bA 204 203,aB 205 101 [.t 204,dl,aj 3],cU 206 205] (aX 206 [fR]) (ae [dJ 207 9,bA 208 207,dD 209,bY 210 208 209 5,gf 211 210,gp 212 211,aB 213 103 [.t 212],hZ 213] (b6 [dm 214,eQ 215 214] 215 [dm 216,gw 216]))) [dD 197,cW 198 197,ic 198]
theorem Lm:lO (jU (.loop Em))=210624577060012638009155291531551441430123774698742778044587445252:=nr rfl
def En:iA:=cI [ec 161,dV 162,bM 163 161 162] 163 6 7 (bt [bu 166 1 8,cz 167 166,bI 168 8,cM 169 167 168 6,fO 170 169,cz 171 170,fO 172 7,b5 [1,5] 173 172,cF (fk 174 171 173),bI 175 174,cF (dq 176 1 8 175),cF (cQ 177 176 175),gz 178 8 175,cF (aF 179 (bj 177 178 6) 175),cF (dq 180 179 1 175),cF (cQ 181 180 175),cF (dq 182 7 1 175),([11,15],cQ 183 182 175),cF (eN 184 181 (.t 183) 175),bb 185 (aQ 175 (.t 184) bh)] (aX 185 [im])) [ec 164,cW 165 164,iv 165]
theorem Ln:lO (jU (.loop En))=98079711692413612273128373330250122319033264507885453572:=nr rfl
def Eo:iA:=cI [dV 139,dJ 140 8,bA 141 140,bC 142 141,bM 143 139 142] 143 4 5 (cX [dJ 146 8,bA 147 146,dV 148,bY 149 147 148 6,bo 150 149 6,cN 7 [aY,bZ,aY,aY,bZ,.nilsl],bW 7 150 6] [el 151 7,bA 152 151,aB 153 101 [.t 152,dl,aj 3],cU 154 153,ag 155 154,cP 156 7 1 155,cK 157 156 155,dC 158 102 [.t 157] 155,fG 159 158 155,dt 160 155 159] (aX 160 [fR]) [ep] (aP 6 En) (ae [fA 186 7,gp 187 186,aB 188 103 [.t 187],ag 9 188] (b6 [ew 189,eQ 190 189] 190 [ew 191,gw 191]))) [dV 144,cW 145 144,hU 145]
theorem Lo:lO (jU (.loop Eo))=6277101735386680066937501969125693243111159424202737451972:=nr rfl
def Ep:iA:=cI [eZ 111,dn 112,bM 113 111 112] 113 2 3 (bt [bu 116 1 7,cz 117 116,bI 118 4,cM 119 117 118 5,fO 120 119,cz 121 120,bu 122 1 7,b5 [1,5] 123 122,bI 124 3,cM 125 123 124 5,fO 126 125,b5 [1,5] 127 126,cF (fk 128 121 127)] (aX 128 [im])) [eZ 114,cW 115 114,cS 115]
theorem Lq:lO (jU (.loop Ep))=680562137693447659512934949615371812884:=nr rfl
def Er:iA:=cI [dn 96,dJ 97 7,bA 98 97,bC 99 98,bM 100 96 99] 100 0 1 (ay [dJ 103 7,bA 104 103,dn 105,bY 106 104 105 5,el 107 106,bA 108 107,aB 109 102 [.t 108],cU 110 109] (aX 110 [fR]) (fj [cY] 2 Ep (ae [dJ 129 7,bA 130 129,dn 131,bY 132 130 131 5,gf 133 132,gp 134 133,aB 135 103 [.t 134],ag 5 135] (b6 [dF 136,eQ 137 136] 137 [dF 138,gw 138])))) [dn 101,cW 102 101,ag 3 102]
theorem Lr:lO (jU (.loop Er))=696898287454002745010476931682667753111612:=nr rfl
def c65:iC:=bq 235 (cX [gm,dL] [dJ 14 0,bA 15 14,aB 16 101 [en,dH,fE],cU 17 16,eK 18,cP 19 1 1 18,cK 20 19 18,dC 21 101 [ga,dH,fE] 18,fG 22 21 18,dt 23 18 22,ag 24 23,cP 25 1 2 24,cK 26 25 24,dC 27 101 [gc,dH,fE] 24,fG 28 27 24,dt 29 24 28,ag 30 29,cP 31 1 3 30,cK 32 31 30,cP 33 1 2 30,cK 34 33 30,dC 35 101 [gt,ig,fE] 30,fG 36 35 30,dt 37 30 36,ag 38 37,cP 39 1 4 38,cK 40 39 38,dC 41 101 [gQ,dH,aj 10080] 38,fG 42 41 38,dt 43 38 42,ag 44 43,cP 45 1 5 44,cK 46 45 44,dC 47 101 [.t 46,dH,aj 1439] 44,fG 48 47 44,dt 49 44 48,ag 50 49,cP 51 1 6 50,cK 52 51 50,dC 53 101 [.t 52,dH,aj 1439] 50,fG 54 53 50,dt 55 50 54,ag 56 55,cP 57 1 13 56,cK 58 57 56,dC 59 101 [.t 58,dH,aj 599999] 56,fG 60 59 56,dt 61 56 60] (aX 61 [eo 5]) [dJ 62 7,bA 63 62,bC 64 63,em 65 64 32,ag 66 65,cP 67 1 8 66,cK 68 67 66,gK 69 68 66,eH 70 69 40 66,dt 71 66 70,ag 72 71,cP 73 1 9 72,cK 74 73 72,gK 75 74 72,eH 76 75 16 72,dt 77 72 76,ag 78 77,cP 79 1 10 78,cK 80 79 78,gK 81 80 78,d9 82 81 dl 78,dt 83 78 82,ag 84 83,cP 85 1 11 84,cK 86 85 84,gK 87 86 84,eH 88 87 16 84,dt 89 84 88,ag 90 89,cP 91 1 12 90,cK 92 91 90,gK 93 92 90,eH 94 93 16 90,dt 95 90 94] (aX 95 [eo 10]) (fj [bD 3] 0 Er (fj [eA] 4 Eo (fj [bD 10] 8 Em (fj [bD 12] 10 El (aC [eX 233 1,aB 234 104 [.t 233],gw 234])))))) [cy]
theorem azr:jt 65 c65:=iO Tryz.func65 (by kernel_rfl)
def Et:iA:=cI [dn 6,aD 7 .leq 6 3] 7 0 1 (ae [dn 11,gZ,aB 13 105 [eS,eY],eD 10,eF 14 10,eE 15 10,cS 14,eU 5] (b6 [dF 16,br 17 16 0] 17 [ad 2 bX])) [dn 8,cW 9 8,ew 3]
theorem VA:lO (jU (.loop Et))=262140:=nr rfl
def c66:iC:=bq 18 (dU [dz] [aA 3 1] 0 Et [dz]) [cy]
theorem azs:jt 66 c66:=iO Tryz.func66 (by kernel_rfl)
def c67:iC:=bq 22 (bn [bV 5 2,eA,fQ] [gp 9 5,aB 10 103 [fi],dD 8] (b6 [ec 11,eQ 12 11] 12 [ec 13,eA,eD 7]) (eC [bI 14 0,cp 15 107 [eB],bI 16 0,gY 17,eW [1] 18 5 4,cp 19 106 [en,ee,eM,fJ],fP 20 19 0,fP 21 19 1,bI 6 20,bI 7 21])) [dW,.tmp 7]
theorem azt:jt 67 c67:=iO Tryz.func67 (by kernel_rfl)
def c68:iC:=cg 27 [il,bV 6 2,ep] (cu [aN 12 4 7,bA 13 12,cG 14,gp 15 6,aB 16 67 [fu,eB,en],eP 11,eF 17 11,eE 18 11,eK 9,fM 10] [dD 19,br 20 19 0,fF 21,bN 22 9 21,bN 23 3 21,ci 24 .neq 22 fq 21,dj 25 21 24] (aX 25 [aA 8 9]) [dD 26,iv 26]) [fg]
theorem azu:jt 68 c68:=iO Tryz.func68 (by kernel_rfl)
def Bw:iA:=dN [bM 17 16 15] 17 0 1 [eP 18,bY 19 14 16 2,bo 20 19 2,cN 8 [aY,aJ],fM 7,bW 8 20 2] (bn [cm 21,el 22 8,bA 23 22,aB 24 59 [fI,fq],ag 9 24] [gf 25 8,bA 26 25] (ao 26 (cw (dF 27) [dY 28 27 1 1,bA 29 28,cW 30 29,dY 31 27 1 1,bW 31 30 1]) (ae [dF 32,dY 33 32 0 1,bA 34 33,cW 35 34,dY 36 32 0 1,bW 36 35 1] (bt [bI 37 5,dM 38 37 3 1,cz 39 38,bI 40 9,eh 41 40,bu 42 41 4,b5 [2] 43 42,bI 44 9,eh 45 44,bu 46 45 3,b5 [2,6] 47 46,cF (gq 48 43 47),cF (dP 49 39 48),dM 50 37 3 1,fN 50 49 1] (fZ [dV 51,ew 52,df 53 52,aN 54 53 5,bA 55 54,aB 56 108 [.t 51,.t 55],cU 57 56] 57 (cw (dV 58) [ew 59,df 60 59,aN 61 60 5,bA 62 61,dA 63 [bZ] 1 [dx 0 62],ab 64 (fm 1 16 (.t 58) 63),hU 64]))))) (fZ [dR 65,em 66 65 0] 66 (bt [bI 67 9,eh 68 67,bu 69 68 3,cz 70 69,bI 71 0,gY 72,bI 73 7,cF (gy 74 73 1),cM 75 72 74 2,fO 76 75,b5 [3] 77 76,ed [3] 78 59 [.t 71,.t 77],eh 79 78,bu 80 79 4,b5 [3] 81 80,cF (gq 82 70 81),bI 10 82] (ae [dF 83,dF 84,dY 85 84 6 1,bA 86 85,dD 87,ab 88 (iu [.t 86,.t 87]),dY 89 83 6 1,bW 89 88 1] (cw (dF 90) [dF 91,dY 92 91 7 1,bA 93 92,dD 94,ab 95 (.mm false [.t 93,.t 94]),dY 96 90 7 1,bW 96 95 1]))))) [cW 97 16,ag 16 97]
theorem zw:lO (jU (.loop Bw))=316912650057057350374175737792:=nr rfl
def c69:iC:=cg 117 [dZ 4] (gX [ab 11 (.mksl [aY] 8 (aj 11) true),dm 5] [dZ 6] (bn [dF 12,dY 13 12 7 1,bO 13 fE 1] [cG 14,bC 15 14,bD 16] (aP 0 Bw) (ae [dF 98,dV 99,bC 100 99,dY 101 98 2 1,bW 101 100 1] (bt [bI 102 0,bI 103 5,gY 104,dM 105 104 0 2,fO 106 105,cz 107 106,gY 108,gY 109,bb 110 (aR 109),cF (gy 111 110 1),cM 112 108 111 2,fO 113 112,b5 [5] 114 113,cp 115 109 [.t 102,.t 103,.t 107,.t 114]] (aC [dF 116,cS 116]))))) [cj]
theorem azv:jt 69 c69:=codeOk (hs:=[11]) Tryz.func69 (by kernel_rfl)
def Bx:iA:=dN [bM 19 18 17] 19 0 1 [fM 20,fF 7] (b6 [cm 21,cG 22,df 23 21,aN 24 23 18,ab 25 (.iaA eR fH 4 1),bA 26 25,dR 27,bY 28 26 27 4,gf 29 28,dX 30,aB 31 95 [fw,fU],br 32 31 0] 32 [cO 6]) [cW 33 18,ag 18 33]
def c70:iC:=cg 34 [cO 6] (dU [cG 8,dX 9,aB 10 110 [fL,fi],dD 2] [cm 11,cG 12,df 13 11,aN 14 13 18,ab 15 (.iaA eB eY 4 1),bA 16 15,bC 17 16,bD 18] 0 Bx [ad 6 bX]) [dW]
theorem azw:jt 70 c70:=iO Tryz.func70 (by kernel_rfl)
def c71:iC:=cg 18 [cN 4 [aY,aY]] (eC [bI 5 0,gY 6,dM 7 6 0 2,fO 8 7,cz 9 8,gY 10,gY 11,bb 12 (aR 11),cF (gy 13 12 1),cM 14 10 13 2,fO 15 14,b5 [4] 16 15,cp 17 111 [.t 5,fi,ee],fN 4 17 2]) [fY 4 2]
theorem azx:jt 71 c71:=iO Tryz.func71 (by kernel_rfl)
def c72:iC:=eq 14 [ad 4 (bE [])] [gv,cG 6,dY 7 6 0 2,el 8 7,bA 9 8,aB 10 59 [.t 5,fi],df 11 10,gf 12 11,bA 13 12,cS 13] [cj]
theorem azy:jt 72 c72:=iO Tryz.func72 (by kernel_rfl)
def c73:iC:=eq 17 [ad 4 (bE [])] [gv,cG 6,cG 7,bC 8 7,gy 9 8 1,bY 10 6 9 2,el 11 10,bA 12 11,aB 13 59 [.t 5,eY],df 14 13,fA 15 14,bA 16 15,cS 16] [cj]
theorem azz:jt 73 c73:=iO Tryz.func73 (by kernel_rfl)
def By:iA:=dN [bM 20 19 18] 20 0 1 [fV 21,iv 21] (cw (dR 22) [cm 23,cG 24,df 25 23,aN 26 25 22,ab 27 (fB 26 eR 4 1),bA 28 27,ec 29,bY 30 28 29 3,dX 31,aB 32 95 [fU,eL],dP 33 22 32,ag 7 33]) [cW 34 19,ag 19 34]
def c74:iC:=cg 36 [eA] (ae [cG 9,dX 10,aB 11 110 [fi,eG],dm 2] (dU [fQ] [gZ,cG 13,df 14 12,aN 15 14 22,ab 16 (.iaA en fu 4 1),bA 17 16,bC 18 17,bD 19] 0 By [dR 35,hU 35])) [dW]
theorem azA:jt 74 c74:=iO Tryz.func74 (by kernel_rfl)
def yG:iA:=dN [bM 12 11 10] 12 0 1 [dm 13,eD 5] (aC [cm 14,df 15 14,aN 16 15 26,bA 17 16,dF 18,bY 19 17 18 3,cG 20,aB 21 95 [ft,ga],cS 21]) [cW 22 11,ge 11]
theorem VB:lO (jU (.loop yG))=8386608:=nr rfl
def c75:iC:=bq 26 (dU [cY] [cm 6,df 7 6,aN 8 7 26,bA 9 8,bC 10 9,bD 11] 0 yG [cG 23,dY 24 23 3 1,bA 25 24,cS 25]) [cj]
theorem azB:jt 75 c75:=iO Tryz.func75 (by kernel_rfl)
def c76:iC:=cg 23 [ek 3,io 4,dZ 6,fQ] (cu [ev 11 3,eX 12 4,dX 13,aB 14 112 [eS,eY,fu],eO 10,eF 15 10,eE 16 10,eU 8,eP 9] [ew 17,eQ 18 17] (aX 18 [ew 19,dZ 6,fV 7]) [eX 20 4,ec 21,aB 22 113 [ga,dl,dH,fI],ge 6,fQ]) [dW,.tmp 7]
theorem azC:jt 76 c76:=iO Tryz.func76 (by kernel_rfl)
def c77:iC:=cg 22 [ek 3,io 4,cN 6 [aY,aY]] (eC [gH 7 3 3,gV 8,cp 9 114 [ir,fL],bb 10 (.fld fi 3 1 false),fO 11 4,b5 [0,2] 12 11,cF (gq 13 10 12),eW [0,2,5] 14 3 3,gV 15,ed [5] 16 115 [eB,en],bb 17 (.fld ee 4 1 false),bu 18 4 1,b5 [0,2,5,7,9] 19 18,cF (dP 20 17 19),bb 21 (.build [aY,aY] [gh 0 13,gh 1 20]),fN 6 21 2]) [fY 6 2]
theorem azD:jt 77 c77:=iO Tryz.func77 (by kernel_rfl)
def c78:iC:=cg 23 [ek 3,io 4,eA,fQ] (cu [ev 11 3,eX 12 4,dX 13,aB 14 112 [eS,eY,fu],eO 10,eF 15 10,eE 16 10,eU 8,eP 9] [ew 17,eQ 18 17] (aX 18 [ew 19,eA,fV 7]) [eX 20 4,ec 21,aB 22 116 [ga,dl,fI],ge 6,fQ]) [dW,.tmp 7]
theorem azE:jt 78 c78:=iO Tryz.func78 (by kernel_rfl)
def c79:iC:=cg 23 [ek 3,io 4,eA,fQ] (cu [ev 11 3,eX 12 4,dX 13,aB 14 112 [eS,eY,fu],eO 10,eF 15 10,eE 16 10,eU 8,eP 9] [ew 17,eQ 18 17] (aX 18 [ew 19,eA,fV 7]) [eX 20 4,ec 21,aB 22 117 [ga,fI],ge 6,fQ]) [dW,.tmp 7]
theorem azF:jt 79 c79:=iO Tryz.func79 (by kernel_rfl)
def Bz:iA:=cI [dF 7,gC,bC 9 8,bM 10 7 9,dD 11,bN 12 5 11,bN 13 1 11,aF 14 (aR 13) 11,gk 15 12 eB 11,dj 16 11 15] 16 0 1 (bt [bI 19 0,bI 20 5,cM 21 19 20 2,gH 22 21 2,gY 23,bI 24 5,cM 25 23 24 2,eW [3] 26 25 2,cp 27 118 [fH,gc],bI 6 27] (b6 [dV 28,eQ 29 28] 29 [dV 30,cS 30])) [dF 17,cW 18 17,fM 5]
theorem VC:lO (jU (.loop Bz))=2147483632:=nr rfl
def c80:iC:=bq 36 (dU [cY] [dK] 0 Bz [cm 31,bC 32 31,cG 33,bC 34 33,aB 35 119 [gt,ig],cS 35]) [cj]
theorem azG:jt 80 c80:=iO Tryz.func80 (by kernel_rfl)
def Eu:iA:=dN [bM 16 15 14] 16 0 1 [eU 17,eK 3] (ae [cm 18,dn 19,ab 20 (.ixS fJ ft),cS 20] (.block 2 (dh [eZ 22,au 23 .geq 22 (gI 97),ag 24 23,bN 25 4 24,fC 26 25 (gI 122) 24,dj 27 24 26,ag 21 27] 21 (dh [dn 29,em 30 29 0,ag 31 30,bN 32 4 31,ci 33 .geq 32 (gI 48) 31,bN 34 33 31,bN 35 4 34,fC 36 35 (gI 57) 34,aF 37 (aQ 34 gN bh) 31,bN 38 37 31,cV 39 4 38,de 40 .eql 39 (gI 95) 38,aF 41 (aQ 38 bX gQ) 31,dj 42 31 41,ag 28 42] 28 (aC [dz]))))) [cW 43 15,ag 15 43]
theorem VD:lO (jU (.loop Eu))=17592186011676:=nr rfl
def c81:iC:=bq 44 (eJ [dz] [gv,ik 6 5,dG 7 6 1,dR 8,cV 9 0 8,aH 10 (dS 9) 8,eH 11 10 16 8,dt 12 8 11] (aX 12 [dz]) [cm 13,ik 14 13,bD 15] (aP 0 Eu) [ad 2 bX]) [cy]
theorem azH:jt 81 c81:=iO Tryz.func81 (by kernel_rfl)
def c82:iC:=eq 9 [dz] [fD,iq 4 3 (-840),eZ 5,bN 6 0 5,fC 7 6 (aj 840) 5,dj 8 5 7,ec 2] [cy]
theorem azI:jt 82 c82:=iO Tryz.func82 (by kernel_rfl)
def c83:iC:=eq 9 [dz] [fD,iq 4 3 0,eZ 5,bN 6 0 5,gk 7 6 (aj 52596000) 5,dj 8 5 7,ec 2] [cy]
theorem azJ:jt 83 c83:=iO Tryz.func83 (by kernel_rfl)
def Ew:iA:=dN [bM 16 15 14] 16 0 1 [eU 17,eK 3] (ae [cm 18,dn 19,ab 20 (.ixS fJ ft),cS 20] (b6 [eZ 21,au 22 .geq 21 (gI 65),ge 23,bN 24 4 23,fC 25 24 (gI 90) 23,dj 26 23 25,ag 27 26,cV 28 4 27,de 29 .geq 28 (gI 48) 27,cV 30 29 27,bN 31 4 30,fC 32 31 (gI 57) 30,aH 33 (aQ 30 gt bh) 27,dt 34 27 33,cU 35 34] 35 [dz])) [cW 36 15,ag 15 36]
theorem VE:lO (jU (.loop Ew))=137438920732:=nr rfl
def c84:iC:=bq 37 (eJ [dz] [gv,ik 6 5,dG 7 6 1,dR 8,cV 9 0 8,aH 10 (dS 9) 8,eH 11 10 8 8,dt 12 8 11] (aX 12 [dz]) [cm 13,ik 14 13,bD 15] (aP 0 Ew) [ad 2 bX]) [cy]
theorem azK:jt 84 c84:=iO Tryz.func84 (by kernel_rfl)
def c85:iC:=eq 15 [cO 6] [gD,cG 8,aV 9 .geq 7 8,ew 10,bN 11 0 10,bN 12 2 10,fC 13 11 eY 10,dj 14 10 13,eO 6] [dW]
theorem azL:jt 85 c85:=iO Tryz.func85 (by kernel_rfl)
def BA:iA:=dk [bM 11 10 9] 11 0 1 (cX [bY 12 8 10 5,bo 13 12 5,cN 5 [bZ,aY,aY,bZ,.nilsl],bW 5 13 5] [el 14 5,bA 15 14,aB 16 120 [en],cU 17 16] (aX 17 [fR]) [dn 18,el 19 5,bA 20 19,ab 21 (.lk dr fJ ga aJ false)] (aX 21 [im]) (gX [dn 22,el 23 5,bA 24 23,bG (.mu dr fH eR bX)] [gf 25 5,gp 26 25,aB 27 89 [gc],hU 27] (b6 [dV 28,eQ 29 28] 29 [dV 30,gw 30]))) [cW 31 10,ic 31]
theorem VF:lO (jU (.loop BA))=4294966372:=nr rfl
def c86:iC:=cg 32 [dL] (dU [gb 7 false,dR 3] [gC,bC 9 8,bD 10] 0 BA [dL]) [cy]
theorem azM:jt 86 c86:=iO Tryz.func86 (by kernel_rfl)
def BB:iA:=dk [bM 12 11 10] 12 0 1 (go [bY 13 9 11 6,bo 14 13 6,cN 5 [aY,bZ,aY,aY,bZ,.nilsl],bW 5 14 6] [el 15 5,bA 16 15,aB 17 88 [ee],cU 18 17,fM 19,cP 20 5 1 19,cK 21 20 19,dC 22 120 [fI] 19,fG 23 22 19,dt 24 19 23] 24 [fR] (go [el 25 5,bA 26 25,gf 27 5,bA 28 27,dw 29 [aY,bZ] [gh 0 26,gh 1 28],cN 6 [aY,bZ],bW 6 29 2] [dn 30,bo 31 6 2,ab 32 (.lk (.flat [.int,.str]) fU eL aJ false)] 32 [im] (gX [dn 33,bo 34 6 2,bG (.mu (.flat [.int,.str]) gW ig bX)] [fA 35 5,gp 36 35,aB 37 89 [gN],ag 7 37] (b6 [dR 38,eQ 39 38] 39 [dR 40,gw 40])))) [cW 41 11,hZ 41]
theorem VG:lO (jU (.loop BB))=4398046509284:=nr rfl
def c87:iC:=cg 42 [dL] (dU [gb 8 false,ec 3] [cm 9,bC 10 9,bD 11] 0 BB [dL]) [cy]
theorem azN:jt 87 c87:=iO Tryz.func87 (by kernel_rfl)
def c88:iC:=eq 5 [dz] [fD,aB 4 85 [.t 3,dl,aj 3],eZ 2] [cy]
theorem azO:jt 88 c88:=iO Tryz.func88 (by kernel_rfl)
def c89:iC:=cg 10 [gm,dL] (eJ [ab 3 (iw [aY]),bO 3 dH 1] [gp 4 1,aB 5 121 [.t 4,dl,.t 3],cU 6 5] (aX 6 [eo 10]) [gp 7 1,aB 8 122 [ir],cU 9 8] (aX 9 [fR]) [dL]) [cy]
theorem azP:jt 89 c89:=codeOk (hs:=[3]) Tryz.func89 (by kernel_rfl)
def BC:iA:=dN [bM 50 49 48] 50 3 4 [bY 51 47 49 3,ev 52 51,cN 7 [bZ,aY,aY],bW 7 52 3] (aZ 5 (dO [el 54 7,bA 55 54,aB 56 120 [.t 55],cU 57 56,ag 53 57] 53 [fR] (dO [dn 59,el 60 7,bA 61 60,ab 62 (.lk dr (.t 59) (.t 61) aJ false),ag 58 62] 58 [im] (b6 [fA 64 7,bA 65 64,aB 66 85 [.t 65,dl,aj 31],cU 67 66,ag 68 67,cP 69 7 1 68,cK 70 69 68,cP 71 7 2 68,cK 72 71 68,dC 73 85 [.t 70,dl,.t 72] 68,fG 74 73 68,dt 75 68 74,ag 63 75] 63 [eo 5]))) [dn 76,el 77 7,bA 78 77,bG (.mu dr (.t 76) (.t 78) bX)]) [cW 79 49,ag 49 79]
theorem VH:lO (jU (.loop BC))=1208925819051679221284996:=nr rfl
def BD:iA:=dN [bM 13 12 11] 13 0 1 [bY 14 10 12 4,gp 15 14,cN 5 [bZ,bZ,aY,aY],bW 5 15 4] (aZ 2 (dO [el 17 5,bA 18 17,aB 19 120 [fJ],cU 20 19,fF 16] 16 [fR] (dO [dn 22,el 23 5,bA 24 23,ab 25 (.lk dr fH eR aJ false),ag 21 25] 21 [im] (dO [gf 27 5,bA 28 27,aB 29 123 [gE],br 30 29 0,ag 26 30] 26 [eo 6] (b6 [fA 32 5,bA 33 32,aB 34 85 [gW,dH,aj 599999],cU 35 34,ag 36 35,cP 37 5 3 36,cK 38 37 36,dC 39 85 [ii,dl,aj 31] 36,fG 40 39 36,dt 41 36 40,ag 31 41] 31 [eo 5])))) [dn 42,el 43 5,bA 44 43,bG (.mu dr ie (.t 44) bX)]) [cW 45 12,ag 12 45]
theorem Ls:lO (jU (.loop BD))=70368744173604:=nr rfl
def c90:iC:=cg 80 [gm,dL] (eJ [gb 8 false,ec 3] [dJ 9 11,bA 10 9,bC 11 10,bD 12] (aP 0 BD) [dJ 46 12,bA 47 46,bC 48 47,bD 49] (aP 3 BC) [dL]) [cy]
theorem azQ:jt 90 c90:=iO Tryz.func90 (by kernel_rfl)
def c91:iC:=fv 18 [dL] [fD] (eu (fW [gF 5 [108,101,103,115],cS 5] 4 (dh [gF 6 [104,101,97,100,115],cS 6] 4 (cw (gF 7 [116,121,112,101,115]) [cS 7])) 4 (aC [fR]) (fW [gF 9 [98,108,111,99,107],ew 8] 8 (dh [gF 10 [115,112,97,110],dD 8] 8 (dh [gF 11 [110,105,103,104,116],dm 8] 8 (dh [gF 12 [108,111,110,103,101,115,116],dB 8] 8 (dh [gF 13 [115,104,111,114,116,101,115,116],eD 8] 8 (cw (gF 14 [115,104,105,102,116]) [eO 8]))))) 8 (aC [eo 2]) (es [gF 16 [115,116,97,114,116],eP 15] 15 (cw (gF 17 [101,110,100]) [eK 15]) (aX 15 [eo 3]))))) [dL] [cy]
theorem azR:jt 91 c91:=iO Tryz.func91 (by kernel_rfl)
def c92:iC:=bq 30 (cX [dL] [gD] (eu (dO [dc 9 7 [114,101,115,116],ew 8] 8 [eo 2] (dO [dc 11 7 [110,105,103,104,116,115],dm 10] 10 [fR] (b6 [dc 13 7 [104,111,109,101],eD 12] 12 [eo 4])))) [cm 15,aB 16 124 [en,bE [98,101,102,111,114,101,46]],eP 14,eF 17 14,eE 18 14,eK 3,cS 18] (b6 [eZ 19] 19 [dn 20,aB 21 91 [ga],gw 21]) (ay [cm 23,aB 24 124 [fq,bE [97,102,116,101,114,46]],ag 22 24,eF 25 22,eE 26 22,ag 5 25,hU 26] (b6 [dV 27] 27 [dF 28,aB 29 91 [gE],gw 29]) (aC [dL]))) [cy]
theorem azS:jt 92 c92:=iO Tryz.func92 (by kernel_rfl)
def c93:iC:=fv 13 [dL] [fD] (eu (fW [gF 5 [100,117,116,105,101,115],cS 5] 4 (dh [gF 6 [108,101,103,115],cS 6] 4 (dh [gF 7 [104,101,97,100,115],cS 7] 4 (cw (gF 8 [100,97,121,115]) [cS 8]))) 4 (aC [fR]) (es [gF 10 [98,108,111,99,107],dD 9] 9 (dh [gF 11 [115,112,97,110],dm 9] 9 (cw (gF 12 [99,114,101,100,105,116]) [dB 9])) (aX 9 [eo 2])))) [dL] [cy]
theorem azT:jt 93 c93:=iO Tryz.func93 (by kernel_rfl)
def c94:iC:=fK 23 (cu [bV 7 3,ep,fe] [gp 11 7,aB 12 89 [eS],dB 10] (b6 [dD 13,eQ 14 13] 14 [dD 15,ep,eU 9]) [cm 16,cG 17,dX 18,gp 19 7,aB 20 125 [ee,eM,fJ,ft],eF 21 20,eE 22 20,iv 21,ge 9]) [fg,ip] true
theorem azU:jt 94 c94:=iO Tryz.func94 (by kernel_rfl)
def wD:iA:=cI [dV 61,cm 62,df 63 62,fA 64 63,bA 65 64,bC 66 65,bM 67 61 66] 67 1 2 (ae [cm 70,df 71 70,fA 72 71,bA 73 72,dV 74,bY 75 73 74 3,cG 76,aB 77 95 [.t 75,.t 76],ag 7 77] (cJ [cm 78,df 79 78,el 80 79,bA 81 80,br 82 81 12] 82 (cw (dF 83) [dR 84,ab 85 (.mm false [.t 83,.t 84]),ag 5 85]) (cw (dF 86) [dR 87,ab 88 (iu [.t 86,.t 87]),ag 5 88]))) [dV 68,cW 69 68,hU 69]
def Hb:iC:=bq 155 (bn [cY] [gC,df 9 8,el 10 9,bA 11 10] (eu (dO [br 13 11 1,eD 12] 12 [cm 14,df 15 14,gf 16 15,bA 17 16,cS 17] (dO [br 19 11 6,fV 18] 18 [cG 20,cm 21,df 22 21,gf 23 22,bA 24 23,gL 25 20 24,bA 26 25,cS 26] (cJ [br 28 11 14,ag 27 28] 27 (ay [cm 29,df 30 29,fA 31 30,bA 32 31,dY 33 32 0 3,cG 34,aB 35 95 [gW,ig],eQ 36 35] (aX 36 [cm 37,df 38 37,fA 39 38,bA 40 39,dY 41 40 1 3,cG 42,aB 43 95 [.t 41,ie],cS 43]) (aC [cm 44,df 45 44,fA 46 45,bA 47 46,dY 48 47 2 3,cG 49,aB 50 95 [.t 48,.t 49],cS 50])) (fW [br 52 11 12,ag 51 52] 51 (cw (br 53 11 13) [ag 51 53]) 51 (dU [cm 54,df 55 54,fA 56 55,bA 57 56,dY 58 57 0 3,cG 59,aB 60 95 [.t 58,.t 59],ag 5 60] [aA 6 1] 1 wD [dF 89,cS 89]) (cJ [br 91 11 15,ag 90 91] 90 (eC [bI 92 0,eh 93 92,bu 94 93 2,cz 95 94,dM 96 95 0 3,gY 97,cp 98 95 [.t 96,.t 97],bI 99 0,eh 100 99,bu 101 100 2,b5 [3,6] 102 101,dM 103 102 1 3,gY 104,cp 105 95 [.t 103,.t 104],bI 106 0,eh 107 106,bu 108 107 2,b5 [3,6,10,13] 109 108,dM 110 109 2 3,gY 111,cp 112 95 [.t 110,.t 111],cp 113 127 [.t 98,.t 105,.t 112],cp 114 126 [.t 113],bI 4 114]) (dO [br 116 11 7,ag 115 116] 115 [cm 117,df 118 117,fA 119 118,bA 120 119,dY 121 120 0 3,cG 122,aB 123 95 [.t 121,.t 122],ab 124 (bT .neg 123),aB 125 128 [dH,.t 124],cS 125] (b6 [br 127 11 19,ag 126 127] 126 [cm 128,df 129 128,fA 130 129,bA 131 130,dY 132 131 0 3,cG 133,aB 134 95 [.t 132,.t 133],ab 135 (.bin .sub dl (.t 134)),cS 135])))))))) (eC [bI 136 0,eh 137 136,fO 138 137,cz 139 138,bI 140 0,eh 141 140,bu 142 141 2,b5 [3] 143 142,dM 144 143 0 3,gY 145,ed [3] 146 95 [.t 144,.t 145],bI 147 0,eh 148 147,bu 149 148 2,b5 [3,7,10] 150 149,dM 151 150 1 3,gY 152,ed [3] 153 95 [.t 151,.t 152],cp 154 129 [.t 139,.t 146,.t 153],bI 4 154])) [cj]
theorem azV:jt 95 Hb:=iO Tryz.func95 (by kernel_rfl)
def Ey:iA:=cI [dn 18,cm 19,ik 20 19,bM 21 18 20] 21 0 1 (b6 [cm 24,dn 25,ab 26 (.ixS eR gO),aB 27 130 [gc],cU 28 27,ag 29 28,bN 30 0 29,bN 31 3 29,aF 32 (.ixS fU eL) 29,fb 33 131 [gt] 29,aF 34 (ch 33) 29,dj 35 29 34,ag 36 35,bN 37 0 36,bN 38 3 36,aF 39 (.ixS gM ii) 36,ci 40 .neq 39 (gI 95) 36,dj 41 36 40] 41 [dz]) [dn 22,cW 23 22,ag 3 23]
theorem VI:lO (jU (.loop Ey))=4398046248972:=nr rfl
def c96:iC:=bq 42 (eJ [dz] [cm 4,ik 5 4,dG 6 5 1,dV 7,cV 8 0 7,aH 9 (dS 8) 7,eH 10 9 16 7,dt 11 7 10,dm 12,cV 13 0 12,aH 14 (.ixS fu dH) 12,dC 15 130 [eB] 12,fG 16 15 12,dt 17 12 16] (aX 17 [dz]) [bD 3] (aP 0 Ey) [ad 2 bX]) [cy]
theorem azW:jt 96 c96:=iO Tryz.func96 (by kernel_rfl)
def c97:iC:=eq 9 [dz] [fD,iq 4 3 (-840),eZ 5,bN 6 0 5,fC 7 6 (aj 840) 5,dj 8 5 7,ec 2] [cy]
theorem azX:jt 97 c97:=iO Tryz.func97 (by kernel_rfl)
def c98:iC:=eq 9 [dz] [fD,iq 4 3 0,eZ 5,bN 6 0 5,gk 7 6 (aj 52596000) 5,dj 8 5 7,ec 2] [cy]
theorem azY:jt 98 c98:=iO Tryz.func98 (by kernel_rfl)
def c99:iC:=eq 9 [dz] [fD,au 4 .geq 3 (gI 65),eZ 5,bN 6 0 5,fC 7 6 (gI 90) 5,dj 8 5 7,ec 2] [cy]
theorem azZ:jt 99 c99:=iO Tryz.func99 (by kernel_rfl)
def zA:iA:=cI [cS 3,gv,ik 6 5,bM 7 4 6] 7 0 1 (b6 [cm 10,dn 11,ab 12 (.ixS eG eS),aB 13 99 [eY],cU 14 13,eO 15,bN 16 0 15,bN 17 3 15,aF 18 (.ixS ee eM) 15,fb 19 131 [fJ] 15,aF 20 (ch 19) 15,dj 21 15 20] 21 [dz]) [dn 8,cW 9 8,ew 3]
theorem Hc:lO (jU (.loop zA))=4194300:=nr rfl
def VJ:iC:=bq 30 (dU [dz] [bD 3] 0 zA [cm 22,ik 23 22,iq 24 23 1,ag 25 24,bN 26 0 25,aF 27 (dS 26) 25,fC 28 27 (aj 8) 25,dj 29 25 28,gw 29]) [cy]
theorem apc:jt 100 VJ:=iO Tryz.func100 (by kernel_rfl)
def VK:iC:=eq 15 [cO 6] [gD,cG 8,aV 9 .geq 7 8,ew 10,bN 11 0 10,bN 12 2 10,fC 13 11 eY 10,dj 14 10 13,eO 6] [dW]
theorem apd:jt 101 VK:=iO Tryz.func101 (by kernel_rfl)
def VL:iC:=eq 10 [dz] [fD,aB 4 96 [.t 3],eZ 5,bN 6 0 5,fb 7 132 [.t 6] 5,aF 8 (ch 7) 5,dj 9 5 8,ew 2] [cy]
theorem ape:jt 102 VL:=iO Tryz.func102 (by kernel_rfl)
def Od:iC:=cg 19 [gm,dL] (eJ [gp 6 1,aB 7 133 [.t 6],dR 5,eF 8 5,eE 9 5,ec 3,cS 9] [dn 10,em 11 10 200,dm 12,cV 13 4 12,eH 14 13 16 12,dt 15 12 14] (aX 15 [eo 10]) [gp 16 1,aB 17 134 [ee],cU 18 17] (aX 18 [fR]) [dL]) [cy]
theorem apf:jt 103 Od:=iO Tryz.func103 (by kernel_rfl)
def zB:iA:=cI [ew 86,dV 87,bM 88 86 87] 88 8 9 (bt [bu 91 1 12,cz 92 91,bI 93 9,cM 94 92 93 3,fO 95 94,cz 96 95,fO 97 7,b5 [1,5] 98 97,cF (fk 99 96 98)] (aX 99 [im])) [ew 89,cW 90 89,ag 9 90]
theorem Hd:lO (jU (.loop zB))=1267573228975774065229522010628:=nr rfl
def zC:iA:=cI [ec 70,dJ 71 11,bA 72 71,bC 73 72,bM 74 70 73] 74 6 7 (bt [bu 77 1 11,cz 78 77,bI 79 8,cM 80 78 79 4,fO 81 80,cz 82 81,fO 83 7,b5 [1,5] 84 83,cF (fk 85 82 84)] (aX 85 [im])) [ec 75,cW 76 75,iv 76]
theorem He:lO (jU (.loop zC))=77370071863715549769892100:=nr rfl
def zD:iA:=cI [dV 54,dJ 55 12,bA 56 55,bC 57 56,bM 58 54 57] 58 4 5 (cX [dJ 61 12,bA 62 61,dV 63,bY 64 62 63 3,ev 65 64,cN 7 [bZ,aY,aY],bW 7 65 3] [el 66 7,bA 67 66,aB 68 102 [.t 67],cU 69 68] (aX 69 [fR]) [ep] (aP 6 zC) (fj [fe] 8 zB (b6 [fA 100 7,bA 101 100,aB 102 101 [.t 101,dl,aj 31],cU 103 102,ag 104 103,cP 105 7 1 104,cK 106 105 104,cP 107 7 2 104,cK 108 107 104,dC 109 101 [.t 106,dl,.t 108] 104,fG 110 109 104,dt 111 104 110] 111 [eo 5]))) [dV 59,cW 60 59,hU 60]
theorem Sg:lO (jU (.loop zD))=5192296858534827610516097819739076:=nr rfl
def zE:iA:=cI [dF 26,dn 27,bM 28 26 27] 28 2 3 (bt [bu 31 1 11,cz 32 31,bI 33 5,cM 34 32 33 4,fO 35 34,cz 36 35,fO 37 4,b5 [1,5] 38 37,cF (fk 39 36 38)] (aX 39 [im])) [dF 29,cW 30 29,ag 5 30]
theorem Hf:lO (jU (.loop zE))=1099444518948:=nr rfl
def zF:iA:=cI [dn 10,dJ 11 11,bA 12 11,bC 13 12,bM 14 10 13] 14 0 1 (cX [dJ 17 11,bA 18 17,dn 19,bY 20 18 19 4,gp 21 20,cN 4 [bZ,bZ,aY,aY],bW 4 21 4] [el 22 4,bA 23 22,aB 24 102 [fq],cU 25 24] (aX 25 [fR]) [dK] (aP 2 zE) (ay [gf 40 4,bA 41 40,aB 42 135 [.t 41],br 43 42 0] (aX 43 [eo 6]) (b6 [fA 44 4,bA 45 44,aB 46 101 [.t 45,dH,aj 599999],cU 47 46,ag 48 47,cP 49 4 3 48,cK 50 49 48,dC 51 101 [.t 50,dl,aj 31] 48,fG 52 51 48,dt 53 48 52] 53 [eo 5]))) [dn 15,cW 16 15,eP 3]
theorem Hg:lO (jU (.loop zF))=18014398509481020:=nr rfl
def VM:iC:=bq 112 (eJ [gm,dL] [bD 3] (aP 0 zF) [eA] (aP 4 zD) [dL]) [cy]
theorem apg:jt 104 VM:=iO Tryz.func104 (by kernel_rfl)
def uN:iA:=cI [dR 44,dV 45,bC 46 45,bM 47 44 46] 47 0 1 (ay [dV 50,dR 51,gL 52 50 51,bA 53 52,cG 54,aV 55 .neq 53 54] (aK 55 (.exit 1)) (ay [cG 56] (.block 2 (fW [dc 58 56 [108,101,103,115],ag 57 58] 57 (dh [dc 59 56 [104,101,97,100,115],ag 57 59] 57 (dh [dc 60 56 [116,121,112,101,115],ag 57 60] 57 (dh [dc 61 56 [110,105,103,104,116,115],ag 57 61] 57 (dh [dc 62 56 [100,117,116,105,101,115],ag 57 62] 57 (cw (dc 63 56 [100,97,121,115]) [ag 57 63]))))) 57 (aC [fX 1,dK]) (fW [dc 65 56 [115,116,97,114,116],ag 64 65] 64 (cw (dc 66 56 [101,110,100]) [ag 64 66]) 64 (aC [fX 3,dK]) (b6 [dc 68 56 [104,111,109,101],ag 67 68] 67 [fX 4,dK])))) (aC [fX 2,dK]))) [dR 48,cW 49 48,ag 7 49]
theorem Sh:lO (jU (.loop uN))=590295792766519607472:=nr rfl
def wa:iC:=bq 69 (cX [cY,dK] [gC,br 9 8 2,ew 10,bN 11 1 10,aF 12 (dS 11) 10,ci 13 .gtr 12 (aj 7) 10,dj 14 10 13,eO 15,bN 16 1 15,aF 17 (.slS ee none (some (aj 7))) 15,eN 18 17 (bE [98,101,102,111,114,101,46]) 15,dj 19 15 18] (aX 19 [cG 20,ab 21 (.slS ga (some (aj 7)) none),aB 22 105 [dl,fI],eF 23 22,eE 24 22,cS 23,ag 5 24]) [cm 25,br 26 25 2,ag 27 26,bN 28 1 27,aF 29 (dS 28) 27,ci 30 .gtr 29 (aj 6) 27,dj 31 27 30,ag 32 31,bN 33 1 32,aF 34 (.slS gW none (some (aj 6))) 32,eN 35 34 (bE [97,102,116,101,114,46]) 32,dj 36 32 35] (aX 36 [cG 37,ab 38 (.slS gM (some (aj 6)) none),aB 39 105 [dl,ii],eF 40 39,eE 41 39,cS 40,ag 5 41]) (dU [cm 42,aB 43 136 [ie],hU 43] [fQ] 0 uN [cY,aA 5 6])) [cj,eI]
theorem aph:jt 105 wa:=iO Tryz.func105 (by kernel_rfl)
def oc:iA:=cI [dm 18,aN 19 7 3,bA 20 19,bC 21 20,bM 22 18 21] 22 0 1 (bt [gH 26 4 2,gY 27,gV 28,bu 29 7 3,b5 [0] 30 29,bI 31 11,cM 32 30 31 4,eW [0] 33 32 4,cp 34 106 [gc,ij,gE,gW],bI 25 34,fP 35 25 0,fP 36 25 1,bI 12 35,bI 13 36] (ay [eD 37,eQ 38 37] (aX 38 [eD 39,ep,ag 9 39]) (cw (dD 40) [dB 41,dA 42 [aY] 1 [dx 0 41],ab 43 (fm 1 8 gQ 42),ic 43]))) [dm 23,cW 24 23,hZ 24]
theorem tG:lO (jU (.loop oc))=17592185798400:=nr rfl
def GA:iC:=cg 80 [il,bV 7 3,ep,fe] (cX [dZ 10] [bD 11] (aP 0 oc) [el 44 7,bA 45 44,br 46 45 6] (aK 46 (ay [dX 48,fA 49 7,bA 50 49,aB 51 105 [.t 48,.t 50],ag 47 51,eF 52 47,eE 53 47,ag 14 52,ag 15 53] (b6 [eU 54,br 55 54 0] 55 [eO 56,iv 56,fe]) (go [cG 57,fA 58 7,bA 59 58,aB 60 137 [.t 57,.t 59],ag 16 60] [eP 61,dG 62 61 0] 62 [ep,aA 9 6] (eC [fO 63 4,cz 64 63,bI 65 16,cM 66 64 65 1,cz 67 66,bu 68 4 1,b5 [1,4] 69 68,bI 70 16,cM 71 69 70 1,b5 [1,4] 72 71,bI 8 67,bI 9 72])))) (cu [el 73 7,bA 74 73,dD 75,aB 76 138 [.t 74,.t 75],ag 17 76] [eK 77,br 78 77 0] (aX 78 [ep,aA 9 9]) [eK 79,iv 79,fe])) [fg,ip]
theorem api:jt 106 GA:=iO Tryz.func106 (by kernel_rfl)
def pj:iA:=cI [eZ 7,gC,bC 9 8,bM 10 7 9] 10 0 1 (bn [cm 13,eZ 14,bY 15 13 14 5,gf 16 15,gp 17 16,aB 18 103 [eM],dK,fM 6] [dV 19,br 20 19 0] (aK 20 (.draws [gH 22 3 2,bI 23 0,bI 24 4,bb 25 (.slV 5 fq none (some eR) none),bI 26 0,bI 27 4,cM 28 26 27 5,bu 29 28 1,eW [0] 30 29 4,cp 31 106 [fH,gO,dH,fU],bI 21 31,fP 32 21 0,fP 33 21 1,bI 5 32,bI 6 33])) (.draws [fO 34 3,cz 35 34,bI 36 5,av [1] 37 (.bsl [aY] 1 [dx 0 36]),bb 38 (fm 1 8 gU 37),bu 39 3 1,b5 [1,3,4] 40 39,bI 41 6,av [1,3,4,6] 42 (.bsl [aY] 1 [dx 0 41]),bb 43 (fm 1 8 gQ 42),fO 44 3,fN 44 38 1,bu 45 3 1,fN 45 43 1])) [eZ 11,cW 12 11,cS 12]
theorem Si:lO (jU (.loop pj))=70368744177648:=nr rfl
def VN:iC:=cg 47 [cN 2 [.nilsl,.nilsl]] (dU [cN 3 [.nilsl,.nilsl]] [cY] 0 pj [bo 46 3 2,bW 2 46 2]) [fY 2 2]
theorem apj:jt 107 VN:=iO Tryz.func107 (by kernel_rfl)
def VO:iC:=eq 9 [gg] [gv,cG 6,aB 7 139 [.t 5,.t 6],iq 8 7 0,cS 8] [cj]
theorem apk:jt 108 VO:=iO Tryz.func108 (by kernel_rfl)
def Sj:iC:=fK 109 (gX [cm 15,dX 16,dn 17,aB 18 111 [en,ee,eM],cN 8 [aY,aY],bW 8 18 2] [cm 19,cm 20,dX 21,aB 22 59 [ga,fI],df 23 22,gf 24 23,bA 25 24,aB 26 140 [ft,gO],cm 27,cm 28,dn 29,aB 30 59 [gE,fw],df 31 30,fA 32 31,bA 33 32,aB 34 140 [ij,gW],cN 9 [bZ,aY,.nilsl],cN 10 [bZ,aY,.nilsl],bW 9 26 3,bW 10 34 3] (ae [cG 35,gf 36 8,bA 37 36,el 38 8,bA 39 38,gq 40 37 39,dY 41 35 4 1,bW 41 40 1] (bn [cG 42,dY 43 42 5 1,bO 43 dH 1] [cG 44,dY 45 44 4 1,bA 46 45,em 47 46 0] (aK 47 (.draws [gY 49,gH 50 9 3,eW [1] 51 8 2,bI 52 0,eh 53 52,bu 54 53 3,bu 55 54 5,b5 [1,2] 56 55,bI 57 0,eh 58 57,bu 59 58 3,bu 60 59 6,b5 [1,2,7] 61 60,cp 62 141 [.t 50,.t 51,.t 56,.t 61],bI 48 62,fP 63 48 0,fP 64 48 1,dM 65 49 5 1,fN 65 63 1])) (gX [ev 67 9,el 68 8,bA 69 68,aB 70 142 [.t 67,.t 69],ag 66 70,eF 71 66,eE 72 66,hZ 71,ag 12 72] [ev 74 10,gf 75 8,bA 76 75,aB 77 142 [.t 74,.t 76],ag 73 77,eF 78 73,eE 79 73,ag 13 78,ag 14 79] (gX [cG 80,dm 81,eD 82,gq 83 81 82,eD 84,dm 85,gq 86 84 85,ab 87 (iu [.t 83,.t 86]),dY 88 80 8 1,bW 88 87 1] [cG 90,ev 91 9,el 92 8,bA 93 92,aB 94 143 [.t 91,.t 93],ag 89 94,eF 95 89,eE 96 89,bH 97 89 2,dY 98 90 9 1,bW 98 96 1] (cw (cG 100) [ev 101 10,gf 102 8,bA 103 102,aB 104 143 [.t 101,.t 103],ag 99 104,eF 105 99,eE 106 99,bH 107 99 2,dY 108 100 10 1,bW 108 106 1])))))) [] true
theorem apl:jt 109 Sj:=iO Tryz.func109 (by kernel_rfl)
def VP:iC:=fv 16 [dZ 4] [gv,gn 6 3] (aK 6 (ae [cG 7,aB 8 144 [ir],ec 1] (cw (cG 9) [gJ,dY 11 10 6 1,bA 12 11,aB 13 145 [eY],dY 14 9 6 1,bW 14 13 1]))) [cG 15,cS 15] [cj]
theorem apm:jt 110 VP:=iO Tryz.func110 (by kernel_rfl)
def VQ:iC:=cg 32 [cN 6 [aY,aY]] (eC [bI 7 0,gY 8,cp 9 59 [ir,fL],eh 10 9,bu 11 10 3,cz 12 11,bI 13 0,eh 14 13,bu 15 14 3,fO 16 15,b5 [2,5] 17 16,cF (gq 18 12 17),bI 19 0,gV 20,ed [5,10] 21 59 [ft,ga],eh 22 21,bu 23 22 4,b5 [5,10] 24 23,bI 25 0,eh 26 25,bu 27 26 3,bu 28 27 1,b5 [2,5,10,14,17] 29 28,cF (dP 30 24 29),bb 31 (.build [aY,aY] [gh 0 18,gh 1 30]),fN 6 31 2]) [fY 6 2]
theorem apn:jt 111 VQ:=iO Tryz.func111 (by kernel_rfl)
def Oe:iC:=fv 20 [ek 3,io 4,dZ 6,fQ] [ev 9 3,eX 10 4,dX 11,aB 12 146 [fi,eG,eS],dB 8] (b6 [ec 13,eQ 14 13] 14 [ec 15,dZ 6,eU 7]) [ev 16 3,eX 17 4,dX 18,aB 19 147 [ee,eM,fJ],fV 6,fQ] [dW,.tmp 7]
theorem apo:jt 112 Oe:=iO Tryz.func112 (by kernel_rfl)
def rq:iA:=cI [dm 16,aN 17 4 8,bA 18 17,bC 19 18,bM 20 16 19] 20 0 1 (ae [aN 23 4 8,bA 24 23,dm 25,bY 26 24 25 6,bo 27 26 6,cN 12 [aY,bZ,aY,aY,bZ,.nilsl],bW 12 27 6] (fZ [el 28 12,bA 29 28,cG 30,fk 31 29 30,ag 32 31,bN 33 10 32,dq 34 4 7 32,cQ 35 34 32,bN 36 1 32,bN 37 3 32,dq 38 12 2 32,aF 39 (aW 38 4) 32,fb 40 149 [gW,gU,gN,gM,.t 39] 32,eN 41 40 dH 32,dj 42 32 41] 42 (cw (ew 43) [cG 44,dX 45,gf 46 12,bA 47 46,dw 48 [aY,aY,bZ] [gh 0 44,gh 1 45,gh 2 47],dA 49 [aY,aY,bZ] 1 [dx 0 48],ab 50 (fm 3 32 (.t 43) 49),ag 9 50]))) [dm 21,cW 22 21,ge 11]
def VR:iC:=cg 52 [il,dZ 8] (ae [dZ 9] (dU [aN 13 4 7,bA 14 13,aB 15 148 [eB],eU 10] [bD 11] 0 rq [ew 51,iv 51])) [fg]
theorem apq:jt 113 VR:=iO Tryz.func113 (by kernel_rfl)
def VS:iC:=cg 13 [eV,cN 4 [bZ,bZ,bZ,aY,aY,bZ,aY,aY,aY]] (eC [bu 5 2 2,cz 6 5,gY 7,dM 8 7 0 2,fO 9 8,b5 [1] 10 9,cM 11 6 10 9,gH 12 11 9,fN 4 12 9]) [fY 4 9]
theorem apr:jt 114 VS:=iO Tryz.func114 (by kernel_rfl)
def VT:iC:=cg 16 [eV,cN 4 [bZ,bZ,bZ,aY,aY,bZ,aY,aY,aY]] (eC [bu 5 2 2,cz 6 5,gY 7,gY 8,bb 9 (aR 8),cF (gy 10 9 1),cM 11 7 10 2,fO 12 11,b5 [1] 13 12,cM 14 6 13 9,gH 15 14 9,fN 4 15 9]) [fY 4 9]
theorem apt:jt 115 VT:=iO Tryz.func115 (by kernel_rfl)
def uO:iA:=cI [ew 13,aN 14 3 9,bA 15 14,bC 16 15,bM 17 13 16] 17 0 1 (fZ [aN 20 3 9,bA 21 20,ew 22,bY 23 21 22 5,el 24 23,bA 25 24,cG 26,fk 27 25 26] 27 (.draws [bI 28 7,bI 29 8,bu 30 3 7,cz 31 30,gY 32,gV 33,bu 34 3 9,b5 [3] 35 34,bI 36 9,cM 37 35 36 5,bu 38 37 1,eW [3] 39 38 4,cp 40 149 [fw,eL,gt,gW,.t 39],cF (dP 41 28 40),bI 7 41])) [ew 18,cW 19 18,fV 9]
def VU:iC:=cg 43 [ek 3,eA] (ae [fQ] (dU [aN 10 3 7,bA 11 10,aB 12 148 [eS],dB 8] [fe] 0 uO [dR 42,hU 42])) [dW]
theorem apu:jt 116 VU:=iO Tryz.func116 (by kernel_rfl)
def Sk:iC:=bq 26 (go [eV,cY] [aN 5 2 10,bA 6 5,bC 7 6,br 8 7 0] 8 [cG 9,gJ,aB 11 150 [eG,bE [98,108,111,99,107]],bY 12 9 11 2,gf 13 12,bA 14 13,cS 14] (eC [bu 15 2 7,cz 16 15,cp 17 148 [ee],bu 18 2 7,b5 [1,2] 19 18,gY 20,bu 21 2 10,b5 [1,2,4] 22 21,dM 23 22 0 4,eW [1,2,4] 24 23 4,cp 25 149 [eM,ft,dl,ga,eR],bI 4 25])) [cj]
theorem apv:jt 117 Sk:=iO Tryz.func117 (by kernel_rfl)
def VV:iC:=bq 22 (bn [eV,io 3,cY] [el 5 2,bA 6 5,el 7 3,bA 8 7,aV 9 .neq 6 8] (aK 9 (ay [el 10 2,bA 11 10,el 12 3,bA 13 12,bM 14 11 13] (aX 14 [fX (-1)]) (aC [fX 1]))) (eC [bu 15 2 1,cz 16 15,cp 17 151 [ee],bu 18 3 1,b5 [1,2] 19 18,cp 20 151 [ft],cF (gq 21 17 20),bI 4 21])) [cj]
theorem apw:jt 118 VV:=iO Tryz.func118 (by kernel_rfl)
end Go.Proofs.YtjniffjppoklpaaGreat
