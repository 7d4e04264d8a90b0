/- The codes of functions of the program, as the evaluator reads them; that each is what its compiler makes of the model's function. Conditions: none. -/
import Derived.Test.YtblcbheipjeoeaaGreatCoN
import Derived.Test.YtblcbheipjeoeaaGreatChecked
import Derived.KernelRfl
set_option maxRecDepth 100000
namespace Go.Proofs.YtblcbheipjeoeaaGreat
open Go Go.Ev
def my:fm:=cK [dk 6,aE 7 .leq 6 3] 7 0 1 (ad [dk 11,cm 12,aC 13 123 [et,.t 12],ec 13,eM 14 10,eL 15 10,cS 14,eB 5] (bI [dy 16,bk 17 16 0] 17 [ae 2 bo])) [dk 8,cU 9 8,fd 3]
theorem acr:jo (gY (.loop my))=262140:=nr rfl
def Lt:fv:=dL 18 [cM] [aB 3 1] (aN 0 my) [cM] [bZ]
theorem aej:ft Tryz.prog 156 Lt:=codeOk (hs:=[]) Tryz.func156 (by kernel_rfl)
def HR:fv:=cF 27 [eg 4,bU 6 2,eU] (dN [aI 12 4 7,bw 13 12,cN 14,eo 15 6,aC 16 122 [dP,ek,d6],af 11 16,eM 17 11,eL 18 11,eA 9,ec 18] [dn 19,bk 20 19 0,af 21 20,bC 22 9 21,bC 23 3 21,aG 24 (cQ .neq 22 23) 21,cP 25 21 24] 25 [aB 8 9] (aA [dn 26,af 8 26])) [.tmp 8]
theorem aek:ft Tryz.prog 157 HR:=codeOk (hs:=[]) Tryz.func157 (by kernel_rfl)
def Lu:fv:=dI 9 [cM] [dX,au 4 .geq 3 (eG 97),dO 5,bC 6 0 5,aG 7 (ai .leq 6 (eG 122)) 5,cP 8 5 7,dA 2] [bZ]
theorem ael:ft Tryz.prog 158 Lu:=codeOk (hs:=[]) Tryz.func158 (by kernel_rfl)
def Lv:fv:=dI 9 [cM] [dX,au 4 .geq 3 (eG 48),dO 5,bC 6 0 5,aG 7 (ai .leq 6 (eG 57)) 5,cP 8 5 7,dA 2] [bZ]
theorem aem:ft Tryz.prog 159 Lv:=codeOk (hs:=[]) Tryz.func159 (by kernel_rfl)
def NZ:fv:=dI 6 [cZ] [dX,ab 4 (.mm false [aj 1099511627776,.t 3]),ab 5 (.mm true [aj (-1099511627776),.t 4]),dy 2] [bZ]
theorem aen:ft Tryz.prog 191 NZ:=codeOk (hs:=[]) Tryz.func191 (by kernel_rfl)
def N0:fv:=dL 4 [cZ] [dX] (aP 3 [dQ]) [cZ] [bZ]
theorem aeo:ft Tryz.prog 192 N0:=codeOk (hs:=[]) Tryz.func192 (by kernel_rfl)
def Lw:fv:=dL 26 [cu 6] [cN 7,af 8 2,bb 9 .leq 7 8] (aP 9 [cN 10,cm 11,bb 12 .leq 10 11,dG 13,bC 14 0 13,bC 15 2 13,aG 16 (cQ .lss 14 15) 13,cP 17 13 16,eA 6]) [cN 18,cm 19,bb 20 .leq 18 19,af 21 20,cJ 22 0 21,cJ 23 2 21,eX 24 .lss 22 23 21,cA 25 21 24,af 6 25] [ey]
theorem aep:ft Tryz.prog 193 Lw:=codeOk (hs:=[]) Tryz.func193 (by kernel_rfl)
def Fg:fv:=cF 31 [dh] (dN [cm 6,cN 7,dR 8 6 7,dA 5] [cm 9,aE 10 .geq 9 0,dn 11,bC 12 1 11,db 13 .geq 12 0 11,cP 14 11 13,af 15 14,bC 16 5 15,db 17 .lss 16 0 15,cP 18 15 17] 18 [d7 1099511627776] (dr [cm 19,dm 20 19 0,af 21 20,bC 22 1 21,db 23 .lss 22 0 21,cP 24 21 23,af 25 24,bC 26 5 25,db 27 .geq 26 0 25,cP 28 25 27] 28 [d7 (-1099511627776)] (aA [dy 29,aC 30 191 [.t 29],cS 30]))) [cE]
theorem aeq:ft Tryz.prog 194 Fg:=codeOk (hs:=[]) Tryz.func194 (by kernel_rfl)
def vW:fv:=dL 61 [eS] [eV] (dq (cW [bk 9 7 8,fd 8] 8 [cN 10,af 11 2,aC 12 194 [.t 10,et],dG 6] (cW [bk 14 7 9,af 13 14] 13 [cN 15,af 16 2,ab 17 (bt .neg 16),aC 18 194 [d6,eP],af 6 18] (cW [bk 20 7 10,af 19 20] 19 [cN 21,af 22 2,aC 23 258 [.t 21,eN],af 6 23] (cW [bk 25 7 11,af 24 25] 24 [cN 26,af 27 2,aC 28 259 [em,.t 27],af 6 28] (cW [bk 30 7 16,af 29 30] 29 [cN 31,af 32 2,bL 33 31 32,aC 34 192 [.t 33],af 6 34] (cW [bk 36 7 17,af 35 36] 35 [cN 37,af 38 2,bb 39 .leq 37 38,aC 40 192 [.t 39],af 6 40] (cW [bk 42 7 18,af 41 42] 41 [cN 43,af 44 2,dY 45 43 44,aC 46 192 [.t 45],af 6 46] (cW [bk 48 7 20,af 47 48] 47 [cN 49,af 50 2,bb 51 .and 49 50,af 6 51] (bI [bk 53 7 21,af 52 53] 52 [cN 54,af 55 2,bb 56 .or 54 55,af 6 56])))))))))) [cN 57,ab 58 (.bin .sub cR (.t 57)),af 59 2,bb 60 .or 58 59,af 6 60] [ey]
theorem aer:ft Tryz.prog 195 vW:=codeOk (hs:=[]) Tryz.func195 (by kernel_rfl)
def HS:fv:=cF 19 [es,cZ] (dN [eo 6 1,aC 7 260 [.t 6],dD 5,eM 8 5,eL 9 5,dA 3,cS 9] [dk 10,ep 11 10 200,dv 12,cJ 13 4 12,de 14 13 16 12,cA 15 12 14] 15 [dj 10] (dr [eo 16 1,aC 17 261 [ev],ch 18 17] 18 [dQ] (aA [cZ]))) [bZ]
theorem aes:ft Tryz.prog 196 HS:=codeOk (hs:=[]) Tryz.func196 (by kernel_rfl)
def jU:fm:=cK [dv 18,aI 19 7 3,bw 20 19,bD 21 20,bL 22 18 21] 22 0 1 (bJ [bh 26 (aS 4 2),ca 27 1,ca 28 2,br 29 7 3,cj [0] 30 29,ca 31 11,dl 32 30 31 4,aw [0] 33 (aS 32 4),cX 34 197 [em,.t 27,.t 28,.t 33],ca 25 34,eE 35 25 0,eE 36 25 1,ca 12 35,ca 13 36] (dr [af 37 13,eh 38 37] 38 [af 39 13,eU,af 9 39] (dV (dn 40) [dG 41,d8 42 [aD] 1 [dM 0 41],ab 43 (eC 1 8 (.t 40) (.t 42) false),ec 43]))) [dv 23,cU 24 23,af 11 24]
theorem rC:jo (gY (.loop jU))=17592185798400:=nr rfl
def BT:fv:=cF 80 [eg 4,bU 7 3,eU,eR] (ed [ae 10 dS] [bN 11] 0 jU (ay [du 44 7,bw 45 44,bk 46 45 6] (aK 46 (ay [af 48 2,eO 49 7,bw 50 49,aC 51 123 [.t 48,.t 50],af 47 51,eM 52 47,eL 53 47,af 14 52,af 15 53] (bI [eB 54,bk 55 54 0] 55 [af 56 14,af 8 56,eR]) (dN [cN 57,eO 58 7,bw 59 58,aC 60 126 [.t 57,.t 59],af 16 60] [af 61 16,dm 62 61 0] 62 [eU,aB 9 6] (bJ [eJ 63 4,cz 64 63,ca 65 16,dl 66 64 65 1,cz 67 66,br 68 4 1,cj [1,4] 69 68,ca 70 16,dl 71 69 70 1,cj [1,4] 72 71,ca 8 67,ca 9 72] .ret)))) (dN [du 73 7,bw 74 73,dn 75,aC 76 262 [.t 74,.t 75],af 17 76] [eA 77,bk 78 77 0] 78 [eU,aB 9 9] (aA [eA 79,af 8 79,eR])))) [.tmp 8,.tmp 9]
theorem aet:ft Tryz.prog 197 BT:=codeOk (hs:=[]) Tryz.func197 (by kernel_rfl)
def kS:fm:=cK [dO 7,cm 8,bD 9 8,bL 10 7 9] 10 0 1 (bu [cm 13,dO 14,bY 15 13 14 5,aI 16 15 1,eo 17 16,aC 18 196 [eP],dE,af 6 18] [dJ 19,bk 20 19 0] (aK 20 (.draws [bh 22 (aS 3 2),ca 23 0,ca 24 4,bh 25 (.slV 5 (.t 23) none (some dZ) none),ca 26 0,ca 27 4,dl 28 26 27 5,br 29 28 1,aw [0] 30 (aS 29 4),cX 31 197 [eN,.t 25,cV,.t 30],ca 21 31,eE 32 21 0,eE 33 21 1,ca 5 32,ca 6 33])) (.draws [eJ 34 3,cz 35 34,ca 36 5,aw [1] 37 (.bsl [aD] 1 [dM 0 36]),bh 38 (eC 1 8 (.t 35) (.t 37) false),br 39 3 1,cj [1,3,4] 40 39,ca 41 6,aw [1,3,4,6] 42 (.bsl [aD] 1 [dM 0 41]),bh 43 (eC 1 8 (.t 40) (.t 42) false),eJ 44 3,di (bB 44 38 1),br 45 3 1,di (bB 45 43 1)])) [dO 11,cU 12 11,cS 12]
theorem Lx:jo (gY (.loop kS))=70368744177648:=nr rfl
def N1:fv:=cF 47 [cp 2 [.nilsl,.nilsl]] (ed [cp 3 [.nilsl,.nilsl]] [dh] 0 kS (aA [bc 46 3 2,bB 2 46 2])) [er 2 2]
theorem aeu:ft Tryz.prog 198 N1:=codeOk (hs:=[]) Tryz.func198 (by kernel_rfl)
def N2:fv:=dL 18 [cZ] [dX] (dq (ay [ez 5 [108,101,103,115],cS 5] (cD 4 [ez 6 [104,101,97,100,115],cS 6] (cg 4 [ez 7 [116,121,112,101,115],cS 7])) (cq 4 [dQ] (ay [ez 9 [98,108,111,99,107],fd 8] (cD 8 [ez 10 [115,112,97,110],dn 8] (cD 8 [ez 11 [110,105,103,104,116],dv 8] (cD 8 [ez 12 [108,111,110,103,101,115,116],dG 8] (cD 8 [ez 13 [115,104,111,114,116,101,115,116],af 8 13] (cg 8 [ez 14 [115,104,105,102,116],af 8 14]))))) (cq 8 [dj 2] (ay [ez 16 [115,116,97,114,116],af 15 16] (cg 15 [ez 17 [101,110,100],eA 15]) (aP 15 [dj 3]))))))) [cZ] [bZ]
theorem aev:ft Tryz.prog 208 N2:=codeOk (hs:=[]) Tryz.func208 (by kernel_rfl)
def HT:fv:=cB 30 [cZ] [eV] (dq (cW [cy 9 7 [114,101,115,116],fd 8] 8 [dj 2] (cW [cy 11 7 [110,105,103,104,116,115],dv 10] 10 [dQ] (bI [cy 13 7 [104,111,109,101],af 12 13] 12 [dj 4])))) (ay [cm 15,aC 16 266 [d6,bg [98,101,102,111,114,101,46]],af 14 16,eM 17 14,eL 18 14,eA 3,cS 18] (bI [dO 19] 19 [dk 20,aC 21 208 [.t 20],dW 21]) (ay [cm 23,aC 24 266 [.t 23,bg [97,102,116,101,114,46]],af 22 24,eM 25 22,eL 26 22,af 5 25,af 6 26] (bI [dJ 27] 27 [dy 28,aC 29 208 [.t 28],dW 29]) (aA [cZ]))) [bZ]
theorem aew:ft Tryz.prog 209 HT:=codeOk (hs:=[]) Tryz.func209 (by kernel_rfl)
def N3:fv:=dL 13 [cZ] [dX] (dq (ay [ez 5 [100,117,116,105,101,115],cS 5] (cD 4 [ez 6 [108,101,103,115],cS 6] (cD 4 [ez 7 [104,101,97,100,115],cS 7] (cg 4 [ez 8 [100,97,121,115],cS 8]))) (cq 4 [dQ] (ay [ez 10 [98,108,111,99,107],dn 9] (cD 9 [ez 11 [115,112,97,110],dv 9] (cg 9 [ez 12 [99,114,101,100,105,116],dG 9])) (aP 9 [dj 2]))))) [cZ] [bZ]
theorem aex:ft Tryz.prog 210 N3:=codeOk (hs:=[]) Tryz.func210 (by kernel_rfl)
def Ly:fv:=dI 9 [cM] [dX,aE 4 .geq 3 (-840),dO 5,bC 6 0 5,db 7 .leq 6 840 5,cP 8 5 7,dA 2] [bZ]
theorem aey:ft Tryz.prog 222 Ly:=codeOk (hs:=[]) Tryz.func222 (by kernel_rfl)
def LA:fv:=dI 9 [cM] [dX,aE 4 .geq 3 0,dO 5,bC 6 0 5,db 7 .lss 6 52596000 5,cP 8 5 7,dA 2] [bZ]
theorem aez:ft Tryz.prog 223 LA:=codeOk (hs:=[]) Tryz.func223 (by kernel_rfl)
def nh:fm:=dt [bL 16 15 14] 16 0 1 [eB 17,eA 3] (ad [cm 18,dk 19,ab 20 (.ixS eu (.t 19)),cS 20] (bI [dO 21,au 22 .geq 21 (eG 65),af 23 22,bC 24 4 23,aG 25 (ai .leq 24 (eG 90)) 23,cP 26 23 25,af 27 26,cJ 28 4 27,az 29 (ai .geq 28 (eG 48)) 27,cJ 30 29 27,bC 31 4 30,aG 32 (ai .leq 31 (eG 57)) 30,az 33 (en 30 32 aV) 27,cA 34 27 33,ch 35 34] 35 [cM])) [cU 36 15,af 15 36]
theorem acs:jo (gY (.loop nh))=137438920732:=nr rfl
def Fh:fv:=cB 37 [cM] [cm 5,eQ 6 5,dm 7 6 1,dD 8,cJ 9 0 8,az 10 (cY 9) 8,de 11 10 8 8,cA 12 8 11] (aP 12 [cM]) (dw [cm 13,eQ 14 13,bN 15] 0 nh [ae 2 bo]) [bZ]
theorem aeA:ft Tryz.prog 224 Fh:=codeOk (hs:=[]) Tryz.func224 (by kernel_rfl)
def N4:fv:=dI 15 [cu 6] [eV,cN 8,bb 9 .geq 7 8,ec 9,bC 11 0 10,bC 12 2 10,aG 13 (cQ .leq 11 12) 10,cP 14 10 13,af 6 14] [ey]
theorem aeB:ft Tryz.prog 225 N4:=codeOk (hs:=[]) Tryz.func225 (by kernel_rfl)
def lI:fm:=df [bL 11 10 9] 11 0 1 (dN [bY 12 8 10 5,bc 13 12 5,cp 5 [bW,aD,aD,bW,.nilsl],bB 5 13 5] [du 14 5,bw 15 14,aC 16 271 [d6],ch 17 16] 17 [dQ] (dr [dk 18,du 19 5,bw 20 19,ab 21 (.lk cH eu (.t 20) ax false)] 21 [eW] (ad [dk 22,du 23 5,bw 24 23,bn (.mu cH eN dZ bo)] (ad [aI 25 5 1,eo 26 25,aC 27 229 [em],af 6 27] (bI [dJ 28,eh 29 28] 29 [dJ 30,dW 30]))))) [cU 31 10,ec 31]
theorem acu:jo (gY (.loop lI))=4294966372:=nr rfl
def LB:fv:=cF 32 [cZ] (ed [dU 7 false,dD 3] [cm 8,bD 9 8,bN 10] 0 lI (aA [cZ])) [bZ]
theorem aeC:ft Tryz.prog 226 LB:=codeOk (hs:=[]) Tryz.func226 (by kernel_rfl)
def kU:fm:=df [bL 12 11 10] 12 0 1 (dN [bY 13 9 11 6,bc 14 13 6,cp 5 [aD,bW,aD,aD,bW,.nilsl],bB 5 14 6] [du 15 5,bw 16 15,aC 17 228 [ev],ch 18 17,af 19 18,bH 20 5 1 19,bK 21 20 19,cG 22 271 [.t 21] 19,dC 23 22 19,cA 24 19 23] 24 [dQ] (dN [du 25 5,bw 26 25,aI 27 5 1,bw 28 27,ce 29 [aD,bW] [dK 0 1 26,dK 1 1 28],cp 6 [aD,bW],bB 6 29 2] [dk 30,bc 31 6 2,ab 32 (.lk (.flat [.int,.str]) (.t 30) ew ax false)] 32 [eW] (ad [dk 33,bc 34 6 2,bn (.mu (.flat [.int,.str]) (.t 33) (.t 34) bo)] (ad [eO 35 5,eo 36 35,aC 37 229 [.t 36],af 7 37] (bI [dD 38,eh 39 38] 39 [dD 40,dW 40]))))) [cU 41 11,af 11 41]
theorem acv:jo (gY (.loop kU))=4398046509284:=nr rfl
def LC:fv:=cF 42 [cZ] (ed [dU 8 false,dA 3] [cm 9,bD 10 9,bN 11] 0 kU (aA [cZ])) [bZ]
theorem aeD:ft Tryz.prog 227 LC:=codeOk (hs:=[]) Tryz.func227 (by kernel_rfl)
def N5:fv:=dI 5 [cM] [dX,aC 4 225 [.t 3,cR,aj 3],dO 2] [bZ]
theorem aeE:ft Tryz.prog 228 N5:=codeOk (hs:=[]) Tryz.func228 (by kernel_rfl)
def LD:fv:=cF 10 [es,cZ] (dN [ab 3 (.alloc [aD] true),bz 3 cV 1] [eo 4 1,aC 5 272 [.t 4,cR,.t 3],ch 6 5] 6 [dj 10] (dr [eo 7 1,aC 8 273 [.t 7],ch 9 8] 9 [dQ] (aA [cZ]))) [bZ]
theorem aeF:ft Tryz.prog 229 LD:=codeOk (hs:=[3]) Tryz.func229 (by kernel_rfl)
def kV:fm:=dt [bL 50 49 48] 50 3 4 [bY 51 47 49 3,eI 52 51,cp 7 [bW,aD,aD],bB 7 52 3] (aZ 5 (cW [du 54 7,bw 55 54,aC 56 271 [.t 55],ch 57 56,af 53 57] 53 [dQ] (cW [dk 59,du 60 7,bw 61 60,ab 62 (.lk cH (.t 59) (.t 61) ax false),af 58 62] 58 [eW] (bI [eO 64 7,bw 65 64,aC 66 225 [.t 65,cR,aj 31],ch 67 66,af 68 67,bH 69 7 1 68,bK 70 69 68,bH 71 7 2 68,bK 72 71 68,cG 73 225 [.t 70,cR,.t 72] 68,dC 74 73 68,cA 75 68 74,af 63 75] 63 [dj 5]))) [dk 76,du 77 7,bw 78 77,bn (.mu cH (.t 76) (.t 78) bo)]) [cU 79 49,af 49 79]
theorem acw:jo (gY (.loop kV))=1208925819051679221284996:=nr rfl
def jF:fm:=dt [bL 13 12 11] 13 0 1 [bY 14 10 12 4,eo 15 14,cp 5 [bW,bW,aD,aD],bB 5 15 4] (aZ 2 (cW [du 17 5,bw 18 17,aC 19 271 [eu],ch 20 19,af 16 20] 16 [dQ] (cW [dk 22,du 23 5,bw 24 23,ab 25 (.lk cH eN dZ ax false),af 21 25] 21 [eW] (cW [aI 27 5 1,bw 28 27,aC 29 274 [.t 28],bk 30 29 0,af 26 30] 26 [dj 6] (bI [eO 32 5,bw 33 32,aC 34 225 [.t 33,cV,aj 599999],ch 35 34,af 36 35,bH 37 5 3 36,bK 38 37 36,cG 39 225 [.t 38,cR,aj 31] 36,dC 40 39 36,cA 41 36 40,af 31 41] 31 [dj 5])))) [dk 42,du 43 5,bw 44 43,bn (.mu cH (.t 42) (.t 44) bo)]) [cU 45 12,af 12 45]
theorem Ci:jo (gY (.loop jF))=70368744173604:=nr rfl
def HU:fv:=cF 80 [es,cZ] (ed [dU 8 false,dA 3] [cT 9 11,bw 10 9,bD 11 10,bN 12] 0 jF (dw [cT 46 12,bw 47 46,bD 48 47,bN 49] 3 kV [cZ])) [bZ]
theorem aeG:ft Tryz.prog 230 HU:=codeOk (hs:=[]) Tryz.func230 (by kernel_rfl)
def LF:fv:=⟨23,bu [bU 7 3,eU,eR] [eo 11 7,aC 12 229 [et],dG 10] (bI [dn 13,eh 14 13] 14 [dn 15,eU,eB 9]) (aA [cm 16,cN 17,af 18 2,eo 19 7,aC 20 275 [ev,eP,eu,.t 19],eM 21 20,eL 22 20,af 8 21,af 9 22]),[.tmp 8,.tmp 9],true,none⟩
theorem aeH:ft Tryz.prog 231 LF:=codeOk (hs:=[]) Tryz.func231 (by kernel_rfl)
def LG:fv:=dI 9 [cM] [dX,aE 4 .geq 3 (-840),dO 5,bC 6 0 5,db 7 .leq 6 840 5,cP 8 5 7,dA 2] [bZ]
theorem aeI:ft Tryz.prog 236 LG:=codeOk (hs:=[]) Tryz.func236 (by kernel_rfl)
def LH:fv:=dI 9 [cM] [dX,aE 4 .geq 3 0,dO 5,bC 6 0 5,db 7 .lss 6 52596000 5,cP 8 5 7,dA 2] [bZ]
theorem aeJ:ft Tryz.prog 237 LH:=codeOk (hs:=[]) Tryz.func237 (by kernel_rfl)
def LI:fv:=dI 9 [cM] [dX,au 4 .geq 3 (eG 65),dO 5,bC 6 0 5,aG 7 (ai .leq 6 (eG 90)) 5,cP 8 5 7,dA 2] [bZ]
theorem aeK:ft Tryz.prog 238 LI:=codeOk (hs:=[]) Tryz.func238 (by kernel_rfl)
def mz:fm:=cK [cS 3,cm 5,eQ 6 5,bL 7 4 6] 7 0 1 (bI [cm 10,dk 11,ab 12 (.ixS (.t 10) et),aC 13 238 [.t 12],ch 14 13,af 15 14,bC 16 0 15,bC 17 3 15,aG 18 (.ixS ev eP) 15,dz 19 159 [eu] 15,aG 20 (bE 19) 15,cP 21 15 20] 21 [cM]) [dk 8,cU 9 8,fd 3]
theorem xD:jo (gY (.loop mz))=4194300:=nr rfl
def Fi:fv:=dL 30 [cM] [bN 3] (aN 0 mz) [cm 22,eQ 23 22,aE 24 .geq 23 1,af 25 24,bC 26 0 25,aG 27 (cY 26) 25,db 28 .leq 27 8 25,cP 29 25 28,dW 29] [bZ]
theorem aeL:ft Tryz.prog 239 Fi:=codeOk (hs:=[]) Tryz.func239 (by kernel_rfl)
def N6:fv:=dI 15 [cu 6] [eV,cN 8,bb 9 .geq 7 8,ec 9,bC 11 0 10,bC 12 2 10,aG 13 (cQ .leq 11 12) 10,cP 14 10 13,af 6 14] [ey]
theorem aeM:ft Tryz.prog 240 N6:=codeOk (hs:=[]) Tryz.func240 (by kernel_rfl)
def N7:fv:=dI 10 [cM] [dX,aC 4 97 [.t 3],dO 5,bC 6 0 5,dz 7 278 [.t 6] 5,aG 8 (bE 7) 5,cP 9 5 8,dW 9] [bZ]
theorem aeN:ft Tryz.prog 241 N7:=codeOk (hs:=[]) Tryz.func241 (by kernel_rfl)
def mA:fm:=cK [fd 86,dJ 87,bL 88 86 87] 88 8 9 (bJ [br 91 1 12,cz 92 91,ca 93 9,dl 94 92 93 3,eJ 95 94,cz 96 95,eJ 97 7,cj [1,5] 98 97,di (dY 99 96 98)] (aP 99 [eW])) [fd 89,cU 90 89,af 9 90]
theorem ui:jo (gY (.loop mA))=1267573228975774065229522010628:=nr rfl
def mB:fm:=cK [dA 70,cT 71 11,bw 72 71,bD 73 72,bL 74 70 73] 74 6 7 (bJ [br 77 1 11,cz 78 77,ca 79 8,dl 80 78 79 4,eJ 81 80,cz 82 81,eJ 83 7,cj [1,5] 84 83,di (dY 85 82 84)] (aP 85 [eW])) [dA 75,cU 76 75,af 8 76]
theorem pS:jo (gY (.loop mB))=77370071863715549769892100:=nr rfl
def ko:fm:=cK [dJ 54,cT 55 12,bw 56 55,bD 57 56,bL 58 54 57] 58 4 5 (dN [cT 61 12,bw 62 61,dJ 63,bY 64 62 63 3,eI 65 64,cp 7 [bW,aD,aD],bB 7 65 3] [du 66 7,bw 67 66,aC 68 241 [.t 67],ch 69 68] 69 [dQ] (cC [eU] 6 mB (cC [eR] 8 mA (bI [eO 100 7,bw 101 100,aC 102 240 [.t 101,cR,aj 31],ch 103 102,af 104 103,bH 105 7 1 104,bK 106 105 104,bH 107 7 2 104,bK 108 107 104,cG 109 240 [.t 106,cR,.t 108] 104,dC 110 109 104,cA 111 104 110] 111 [dj 5])))) [dJ 59,cU 60 59,af 6 60]
theorem acx:jo (gY (.loop ko))=5192296858534827610516097819739076:=nr rfl
def mC:fm:=cK [dy 26,dk 27,bL 28 26 27] 28 2 3 (bJ [br 31 1 11,cz 32 31,ca 33 5,dl 34 32 33 4,eJ 35 34,cz 36 35,eJ 37 4,cj [1,5] 38 37,di (dY 39 36 38)] (aP 39 [eW])) [dy 29,cU 30 29,af 5 30]
theorem rD:jo (gY (.loop mC))=1099444518948:=nr rfl
def jV:fm:=cK [dk 10,cT 11 11,bw 12 11,bD 13 12,bL 14 10 13] 14 0 1 (dN [cT 17 11,bw 18 17,dk 19,bY 20 18 19 4,eo 21 20,cp 4 [bW,bW,aD,aD],bB 4 21 4] [du 22 4,bw 23 22,aC 24 241 [.t 23],ch 25 24] 25 [dQ] (cC [dE] 2 mC (dr [aI 40 4 1,bw 41 40,aC 42 279 [.t 41],bk 43 42 0] 43 [dj 6] (bI [eO 44 4,bw 45 44,aC 46 240 [.t 45,cV,aj 599999],ch 47 46,af 48 47,bH 49 4 3 48,bK 50 49 48,cG 51 240 [.t 50,cR,aj 31] 48,dC 52 51 48,cA 53 48 52] 53 [dj 5])))) [dk 15,cU 16 15,af 3 16]
theorem Cj:jo (gY (.loop jV))=18014398509481020:=nr rfl
def HV:fv:=cB 112 [es,cZ] [bN 3] (aN 0 jV) (dw [eS] 4 ko [cZ]) [bZ]
theorem aeO:ft Tryz.prog 242 HV:=codeOk (hs:=[]) Tryz.func242 (by kernel_rfl)
def uJ:fv:=cF 31 [dh] (bu [cm 8,aC 9 286 [.t 8],cN 10,aC 11 286 [.t 10],aC 12 285 [.t 9,et],dG 7,eM 13 7,eL 14 7,af 5 13,af 6 14] [dy 15,au 16 .neq 15 (eK 0),af 17 16,cJ 18 6 17,az 19 (ai .gtr 18 (eK 1099511627776)) 17,cA 20 17 19] (aK 20 (dV (ae 6 (eK 1099511627776)) [])) (dr [cm 21,dm 22 21 0,cN 23,dm 24 23 0,ab 25 (.eq true (.one .bool) eN dZ)] 25 [dJ 26,ab 27 (.cvi .i64 em),ab 28 (bt .neg 27),cS 28] (aA [dJ 29,ab 30 (.cvi .i64 (.t 29)),cS 30]))) [cE]
theorem aeP:ft Tryz.prog 258 uJ:=codeOk (hs:=[]) Tryz.func258 (by kernel_rfl)
def zX:fv:=cB 31 [dh] [cN 6] (dq (cW [bk 8 6 0,dA 7] 7 [dh] (bI [bk 10 6 (-1),dn 9] 9 [cm 11,aC 12 258 [et,aj (-1)],cS 12]))) (bu [cm 13,cN 14,bb 15 .quo 13 14,eB 5] [cm 16,cN 17,bb 18 .rem 16 17,eh 19 18,af 20 19,bC 21 0 20,db 22 .lss 21 0 20,bC 23 1 20,db 24 .lss 23 0 20,aG 25 (.eq true (.one .bool) eN dZ) 20,cP 26 20 25] (aK 26 (dV (dy 27) [aE 28 .sub 27 1,af 5 28])) (aA [dy 29,aC 30 191 [.t 29],cS 30])) [cE]
theorem aeQ:ft Tryz.prog 259 zX:=codeOk (hs:=[]) Tryz.func259 (by kernel_rfl)
def N8:fv:=dI 8 [es,cZ,bN 3] [eo 4 1,aC 5 287 [.t 4,cR],eM 6 5,eL 7 5,dJ 2,dD 3] [bZ,.tmp 3]
theorem aeR:ft Tryz.prog 260 N8:=codeOk (hs:=[]) Tryz.func260 (by kernel_rfl)
def ni:fm:=cK [dJ 70,cT 71 3,bw 72 71,bD 73 72,bL 74 70 73] 74 1 2 (bI [cT 77 3,bw 78 77,dJ 79,bY 80 78 79 4,eo 81 80,aC 82 261 [.t 81],ch 83 82] 83 [cM]) [dJ 75,cU 76 75,af 6 76]
theorem acy:jo (gY (.loop ni))=19341632522213349383995460:=nr rfl
def oG:fv:=cB 84 [es,cM] [cT 7 0,bw 8 7,dm 9 8 1,ec 9,bH 11 1 0 10,bK 12 11 10,de 13 12 22 10,cA 14 10 13] (aP 14 [cM]) (dN [cT 16 0,bw 17 16,aC 18 288 [eP],af 15 18,eM 19 15,eL 20 15,af 3 19,cS 20] [cT 21 3,bw 22 21,bD 23 22,dk 24,bL 25 23 24,af 26 25,bH 27 1 3 26,bK 28 27 26,eq 29 28 26,cJ 30 4 26,eX 31 .gtr 29 30 26,cA 32 26 31] 32 [cM] (bu [dE] [cT 33 0,bw 34 33] (dq (ay [bk 36 34 1,af 35 36] (cg 35 [bk 37 34 2,af 35 37]) (am 35 (dV (aB 5 1099511627776) []) (ad [bk 39 34 3,af 38 39] (aK 38 (dV (aB 5 1439) [])))))) (dr [cT 40 1,bw 41 40,dm 42 41 0,af 43 42,bH 44 1 1 43,bK 45 44 43,cJ 46 5 43,eX 47 .gtr 45 46 43,cA 48 43 47,af 49 48,bH 50 1 0 49,bK 51 50 49,cO 52 .eql 51 6 49,cJ 53 52 49,aG 54 (ao 1 2) 53,eH 55 54 53,dz 56 289 [.t 55] 53,aG 57 (bE 56) 53,az 58 (en 53 57 aV) 49,cA 59 49 58,af 60 59,bH 61 1 0 60,bK 62 61 60,cO 63 .neq 62 6 60,cJ 64 63 60,aG 65 (ao 1 2) 64,eH 66 65 64,aG 67 (ai .neq 66 (bg [])) 64,az 68 (en 64 67 aV) 60,cA 69 60 68] 69 [cM] (dw [eS] 1 ni [ae 2 bo])))) [bZ]
theorem aeS:ft Tryz.prog 261 oG:=codeOk (hs:=[]) Tryz.func261 (by kernel_rfl)
def pk:fv:=dL 115 [dh] [cm 5] (dq (cW [ee 9 1,fd 8] 8 [d7 1] (cW [ee 11 2,dv 10] 10 [d7 2] (cW [ee 13 3,af 12 13] 12 [d7 3] (ay [ee 15 4,eB 14] (cg 14 [ee 16 5,af 14 16]) (cq 14 [d7 4] (ay [ee 18 7,af 17 18] (cD 17 [ee 19 8,af 17 19] (cD 17 [ee 20 9,af 17 20] (cD 17 [ee 21 12,af 17 21] (cg 17 [ee 22 13,af 17 22])))) (am 17 (dr [cN 23,aC 24 290 [.t 23,cR]] 24 [d7 1] (bI [cN 25,aC 26 290 [.t 25,eZ]] 26 [d7 2])) (ad [ee 28 10,af 27 28] (am 27 (.block 1 (cW [cN 30,aC 31 290 [.t 30,cR],af 29 31] 29 [d7 1] (bI [cN 33,ab 34 (aU 33 cV 1),bw 35 34,bk 36 35 1,af 37 36,bC 38 1 37,aG 39 (aU 38 cR 1) 37,eH 40 39 37,db 41 .eql 40 2 37,cP 42 37 41,af 43 42,cJ 44 1 43,az 45 (aU 44 cV 1) 43,bK 46 45 43,cO 47 .eql 46 2 43,cJ 48 47 43,bC 49 1 48,aG 50 (aU 49 cR 1) 48,eH 51 50 48,db 52 .eql 51 1 48,az 53 (en 48 52 aV) 43,cA 54 43 53,af 32 54] 32 [d7 2]))) (ad [ee 56 11,af 55 56] (am 55 (.block 2 (cW [cN 58,aC 59 290 [.t 58,cR],af 60 59,cJ 61 1 60,cG 62 290 [.t 61,eZ] 60,cA 63 60 62,af 57 63] 57 [d7 1] (bI [cN 65,ab 66 (aU 65 cV 1),bw 67 66,bk 68 67 2,af 69 68,bC 70 1 69,aG 71 (aU 70 cR 1) 69,eH 72 71 69,db 73 .eql 72 1 69,cP 74 69 73,af 64 74] 64 [d7 2]))) (ad [ee 76 14,af 75 76] (am 75 (bJ [ca 77 1,bh 78 (aU 77 cV 1),cz 79 78,di (bk 80 79 4),ca 81 80,eF 82 1 81,dx 83 (aU 82 cR 1) 81,dx 84 (bA 83) 81,eF 85 1 81,dx 86 (aU 85 eZ 1) 81,bV [7] 87 (bA 86) 81,dx 88 (cQ .eql 84 87) 81,bh 89 (en 81 88 aV)] (aP 89 [cN 90,ab 91 (aU 90 cR 1),bw 92 91,cS 92])) (ad [ee 94 15,af 93 94] (am 93 (bI [cN 95,aC 96 290 [.t 95,aj 3]] 96 [d7 4]) (ay [ee 98 16,af 97 98] (cg 97 [ee 99 17,af 97 99]) (am 97 (bI [cN 100,aC 101 290 [.t 100,cR],af 102 101,cJ 103 1 102,cG 104 290 [.t 103,eZ] 102,cA 105 102 104] 105 [d7 4]) (ad [ee 107 18,af 106 107] (am 106 (bJ [ca 108 1,bh 109 (aU 108 cV 1),cz 110 109,ca 111 1,bh 112 (aU 111 cR 1),cj [2] 113 112,di (dY 114 110 113)] (aP 114 [d7 4])) (bI [cN 6,aC 7 290 [.t 6,aj 4]] 7 [d7 4]))))))))))))))))))))) [dh] [cE]
theorem aeT:ft Tryz.prog 262 pk:=codeOk (hs:=[]) Tryz.func262 (by kernel_rfl)
def N9:fv:=dI 11 [ae 4 (bg []),cu 5] [cm 6,cN 7,aC 8 294 [.t 6,.t 7],eM 9 8,eL 10 8,cS 9,dn 5] [cE,eY]
theorem aeU:ft Tryz.prog 266 N9:=codeOk (hs:=[]) Tryz.func266 (by kernel_rfl)
def Oa:fv:=dI 10 [cM] [dX,aC 4 94 [.t 3],dO 5,bC 6 0 5,dz 7 299 [.t 6] 5,aG 8 (bE 7) 5,cP 9 5 8,dW 9] [bZ]
theorem aeV:ft Tryz.prog 271 Oa:=codeOk (hs:=[]) Tryz.func271 (by kernel_rfl)
def mD:fm:=dt [bL 26 25 24] 26 0 1 [bY 27 23 25 4,eo 28 27,cp 8 [aD,aD,bW,.nilsl],bB 8 28 4] (bI [eo 29 8,cN 30,cU 31 30,af 32 2,aC 33 272 [.t 29,ew,.t 32],ch 34 33] 34 [cu 6]) [cU 35 25,af 25 35]
theorem acz:jo (gY (.loop mD))=68685922624:=nr rfl
def Fj:fv:=⟨36,ad [eg 3,cu 6] (dN [af 9 2,dc 10 9,bw 11 10,cU 12 11,dc 13 9,bB 13 12 1] [af 14 2,dc 15 14,bw 16 15,ep 17 16 200,eA 18,cJ 19 1 18,de 20 19 16 18,cA 21 18 20] 21 [cu 6] (dw [aI 22 3 3,bw 23 22,bD 24 23,bN 25] 0 mD [ae 6 bo])),[ey],true,none⟩
theorem aeW:ft Tryz.prog 272 Fj:=codeOk (hs:=[]) Tryz.func272 (by kernel_rfl)
def nj:fm:=dt [bL 62 61 60] 62 1 2 [bY 63 59 61 4,eo 64 63,cp 4 [aD,aD,bW,.nilsl],bB 4 64 4] (bI [eo 65 4,aC 66 273 [.t 65],ch 67 66] 67 [cM]) [cU 68 61,af 61 68]
theorem acA:jo (gY (.loop nj))=587989967349491957780:=nr rfl
def pF:fv:=cB 69 [es,cM] [cT 5 0,bw 6 5,dm 7 6 1,dD 8,bH 9 1 0 8,bK 10 9 8,de 11 10 22 8,cA 12 8 11,dG 13,bH 14 1 0 13,bK 15 14 13,bH 16 1 3 13,bK 17 16 13,eq 18 17 13,cG 19 300 [d6,eu] 13,dC 20 19 13,cA 21 13 20] (aP 21 [cM]) (ay [cT 22 0,bw 23 22] (dq (ay [bk 28 23 1,af 27 28] (cg 27 [bk 29 23 2,af 27 29]) (am 27 (bI [cT 30 1,bw 31 30,dm 32 31 0,af 33 32,bH 34 1 1 33,bK 35 34 33,de 36 35 1099511627776 33,cA 37 33 36] 37 [cM]) (ad [bk 39 23 3,af 38 39] (am 38 (bI [cT 40 1,bw 41 40,dm 42 41 0,af 43 42,bH 44 1 1 43,bK 45 44 43,de 46 45 1439 43,cA 47 43 46] 47 [cM]) (bI [cT 24 1,bw 25 24,eh 26 25] 26 [cM])))))) (ay [cT 48 0,bw 49 48,bk 50 49 6] (am 50 (bI [cT 51 2,bw 52 51,aC 53 301 [.t 52],ch 54 53] 54 [cM]) (bI [cT 55 2,bw 56 55,au 57 .neq 56 (bg [])] 57 [cM])) (dw [cT 58 3,bw 59 58,bD 60 59,bN 61] 1 nj [ae 2 bo]))) [bZ]
theorem aeX:ft Tryz.prog 273 pF:=codeOk (hs:=[]) Tryz.func273 (by kernel_rfl)
def Oc:fv:=dL 13 [cZ] [dX] (dq (ay [ez 5 [98,108,111,99,107],cS 5] (cD 4 [ez 6 [115,112,97,110],cS 6] (cD 4 [ez 7 [110,105,103,104,116],cS 7] (cg 4 [ez 8 [99,114,101,100,105,116],cS 8]))) (cq 4 [dj 3] (ay [ez 10 [108,101,103,115],dn 9] (cD 9 [ez 11 [104,101,97,100,115],dv 9] (cg 9 [ez 12 [100,117,116,105,101,115],dG 9])) (aP 9 [dj 2]))))) [cZ] [bZ]
theorem aeY:ft Tryz.prog 274 Oc:=codeOk (hs:=[]) Tryz.func274 (by kernel_rfl)
def kW:fm:=dt [bL 62 61 60] 62 0 1 [af 63 61,bY 64 59 61 4,eo 65 64,cp 16 [aD,aD,bW,.nilsl],af 15 63,bB 16 65 4] (dN [cm 67,cN 68,af 69 2,eo 70 16,aC 71 275 [.t 67,.t 68,.t 69,.t 70],af 66 71,eM 72 66,eL 73 66,af 17 72,af 18 73] [af 74 18,eh 75 74] 75 [af 76 18,eU,af 9 76] (dV (af 77 14) [eB 78,eA 79,bY 80 77 78 1,bB 80 79 1])) [cU 81 61,af 61 81]
theorem Ck:jo (gY (.loop kW))=4835700972615507485623040:=nr rfl
def zY:fv:=⟨89,bu [bU 7 3,eU,eR] [du 20 7,bw 21 20,bk 22 21 6] (aK 22 (ay [cN 24,eO 25 7,bw 26 25,aC 27 129 [dZ,em],af 23 27,eM 28 23,eL 29 23,ec 28,af 11 29] (bI [dv 30,bk 31 30 0] 31 [dn 32,af 8 32,eR]) (.seq (bJ [ca 34 0,dB 35 34,br 36 35 1,cz 37 36,br 38 7 2,cj [3] 39 38,bh 40 (.lk cH (.t 37) (.t 39) aD true),ca 33 40,eE 41 33 0,eE 42 33 1,ca 12 41,ca 13 42] (bI [af 43 13,af 44 43,bC 45 12 44,bC 46 2 44,aG 47 (cQ .lss 45 46) 44,cP 48 44 47] 48 [cm 49,dG 50,aC 51 144 [.t 49,.t 50],eM 52 51,eL 53 51,af 8 52,af 9 53])) (aA [eU,aB 9 6])))) (ed [aI 54 7 3,bw 55 54,bD 56 55,ab 57 (.mksl [aD] 8 (.t 56) false),af 14 57] [aI 58 7 3,bw 59 58,bD 60 59,bN 61] 0 kW (ay [du 82 7,bw 83 82,af 84 14,aC 85 302 [.t 83,.t 84],af 19 85] (bI [af 86 19,eh 87 86] 87 [af 88 19,af 8 88,eR]) (aA [eU,aB 9 9]))),[.tmp 8,.tmp 9],true,none⟩
theorem aeZ:ft Tryz.prog 275 zY:=codeOk (hs:=[]) Tryz.func275 (by kernel_rfl)
def DD:fm:=cK [dO 6,dk 7,bD 8 7,bL 9 6 8] 9 0 1 (bI [dk 12,dO 13,bY 14 12 13 1,bw 15 14,cm 16,dY 17 15 16] 17 [ae 2 bo]) [dO 10,cU 11 10,cS 11]
theorem acB:jo (gY (.loop DD))=262100:=nr rfl
def Od:fv:=cF 18 [cM] (ed [d8 5 [bW] 13 [cw 0 [97,110,100],cw 1 [111,114],cw 2 [110,111,116],cw 3 [105,109,112,108,105,101,115],cw 4 [105,110],cw 5 [116,111],cw 6 [116,114,117,101],cw 7 [102,97,108,115,101],cw 8 [109,105,110],cw 9 [109,97,120],cw 10 [105,102],cw 11 [116,104,101,110],cw 12 [101,108,115,101]],dy 3] [dh] 0 DD (aA [cM])) [bZ]
theorem ae0:ft Tryz.prog 278 Od:=codeOk (hs:=[]) Tryz.func278 (by kernel_rfl)
def Oe:fv:=dL 13 [cZ] [dX] (dq (ay [ez 5 [98,108,111,99,107],cS 5] (cD 4 [ez 6 [115,112,97,110],cS 6] (cD 4 [ez 7 [110,105,103,104,116],cS 7] (cg 4 [ez 8 [99,114,101,100,105,116],cS 8]))) (cq 4 [dj 2] (ay [ez 10 [108,101,103,115],dn 9] (cD 9 [ez 11 [104,101,97,100,115],dv 9] (cg 9 [ez 12 [100,117,116,105,101,115],dG 9])) (aP 9 [dQ]))))) [cZ] [bZ]
theorem ae1:ft Tryz.prog 279 Oe:=codeOk (hs:=[]) Tryz.func279 (by kernel_rfl)
def Og:fv:=cF 51 [ae 4 (eK 0),ae 5 (eK 0)] (ad [cm 14,au 15 .and 14 (eK 4294967295),eB 6] (ad [cm 16,au 17 .shr 16 (eK 32),eA 7] (ad [cN 18,au 19 .and 18 (eK 4294967295),af 8 19] (ad [cN 20,au 21 .shr 20 (eK 32),af 9 21] (ad [dJ 22,dA 23,bb 24 .mul 22 23,ec 24] (ad [dD 25,dA 26,bb 27 .mul 25 26,dn 28,au 29 .shr 28 (eK 32),dR 30 27 29,af 11 30] (ad [dv 31,au 32 .and 31 (eK 4294967295),af 12 32] (ad [dv 33,au 34 .shr 33 (eK 32),af 13 34] (ad [dG 35,dJ 36,fd 37,bb 38 .mul 36 37,dR 39 35 38,af 12 39] (ad [dD 40,fd 41,bb 42 .mul 40 41,af 43 13,dR 44 42 43,dG 45,au 46 .shr 45 (eK 32),dR 47 44 46,cS 47] (aA [cm 48,cN 49,bb 50 .mul 48 49,af 5 50]))))))))))) [cE,eY]
theorem ae2:ft Tryz.prog 285 Og:=codeOk (hs:=[]) Tryz.func285 (by kernel_rfl)
def LJ:fv:=dL 10 [ae 2 (eK 0)] [dX,dm 4 3 0] (aP 4 [cm 5,ab 6 (.cvi .u64 (.t 5)),ab 7 (bt .neg 6),dD 2]) [cm 8,ab 9 (.cvi .u64 (.t 8)),dW 9] [bZ]
theorem ae3:ft Tryz.prog 286 LJ:=codeOk (hs:=[]) Tryz.func286 (by kernel_rfl)
def kY:fm:=cK [dA 13,aI 14 2 3,bw 15 14,bD 16 15,bL 17 13 16,eA 18,bC 19 6 18,db 20 .leq 19 200 18,cP 21 18 20] 21 0 1 (ad [aI 25 2 3,bw 26 25,dA 27,bY 28 26 27 4,eo 29 28,cN 30,cU 31 30,aC 32 287 [.t 29,ew],af 24 32,eM 33 24,eL 34 24,af 9 33,ec 34] (dV (dJ 35) [fd 36,dR 37 35 36,dD 38,dn 39,cU 40 39,ab 41 (.mm true [.t 38,.t 40]),af 6 37,af 7 41])) [dA 22,cU 23 22,af 8 23]
theorem acC:jo (gY (.loop kY))=4398046504896:=nr rfl
def LK:fv:=cF 44 [eg 2,dh,dE] (dN [aB 6 1,aB 7 1] [cN 11,ep 12 11 16] 12 [d7 1,aB 5 1] (dw [eU] 0 kY [dJ 42,dD 43,cS 42,af 5 43])) [cE,eY]
theorem ae4:ft Tryz.prog 287 LK:=codeOk (hs:=[]) Tryz.func287 (by kernel_rfl)
def Oh:fv:=dL 21 [cZ,bN 3] [cm 4] (dq (ay [bk 6 4 1,dJ 5] (cD 5 [bk 7 4 2,dD 5] (cD 5 [bk 8 4 3,dA 5] (cD 5 [bk 9 4 4,fd 5] (cD 5 [bk 10 4 5,dn 5] (cg 5 [bk 11 4 6,dv 5]))))) (cq 5 [cZ,bN 3] (ay [bk 13 4 7,af 12 13] (cg 12 [bk 14 4 19,af 12 14]) (cq 12 [dQ,aB 3 1] (ay [bk 16 4 12,af 15 16] (cg 15 [bk 17 4 13,eA 15]) (cq 15 [dj 2,aB 3 200] (ay [bk 19 4 14,af 18 19] (cg 18 [bk 20 4 15,af 18 20]) (aP 18 [dj 3,aB 3 3]))))))))) [dj 2,aB 3 2] [bZ,.tmp 3]
theorem ae5:ft Tryz.prog 288 Oh:=codeOk (hs:=[]) Tryz.func288 (by kernel_rfl)
def LL:fv:=cF 21 [cM] (dN [cm 4,aC 5 304 [.t 4,eG 46],dy 3] [dk 6,dm 7 6 0] 7 [cm 8,aC 9 241 [.t 8],dW 9] (aA [cm 10,dk 11,ab 12 (.slS (.t 10) none (some et)),aC 13 97 [.t 12],af 14 13,bC 15 0 14,bC 16 3 14,db 17 .add 16 1 14,aG 18 (.slS d6 (some eP) none) 14,dz 19 97 [eu] 14,cP 20 14 19,dW 20])) [bZ]
theorem ae6:ft Tryz.prog 289 LL:=codeOk (hs:=[]) Tryz.func289 (by kernel_rfl)
def mE:fm:=cK [dy 6,eV,bD 8 7,bL 9 6 8] 9 0 1 (bI [cm 12,dy 13,bY 14 12 13 1,bw 15 14,cN 16,bb 17 .neq 15 16] 17 [dH]) [dy 10,cU 11 10,dv 5]
theorem acD:jo (gY (.loop mE))=262128:=nr rfl
def Oi:fv:=dL 18 [dH] [dE] (aN 0 mE) [ae 4 bo] [cE]
theorem ae7:ft Tryz.prog 290 Oi:=codeOk (hs:=[]) Tryz.func290 (by kernel_rfl)
def LM:fv:=dL 15 [ae 4 (bg []),cu 5] [cm 6,cN 7,aC 8 317 [.t 6,.t 7],ch 9 8] (aP 9 [cm 10,cS 10,cu 5]) [cm 11,cN 12,eQ 13 12,ab 14 (.slS et (some dP) none),cS 14,ae 5 bo] [cE,eY]
theorem ae8:ft Tryz.prog 294 LM:=codeOk (hs:=[]) Tryz.func294 (by kernel_rfl)
def Oj:fv:=dL 18 [cM] [dX] (dq (ay [ez 5 [97,110,100],cS 5] (cD 4 [ez 6 [111,114],cS 6] (cD 4 [ez 7 [110,111,116],cS 7] (cD 4 [ez 8 [105,109,112,108,105,101,115],cS 8] (cD 4 [ez 9 [105,110],cS 9] (cD 4 [ez 10 [116,111],cS 10] (cD 4 [ez 11 [116,114,117,101],cS 11] (cD 4 [ez 12 [102,97,108,115,101],cS 12] (cD 4 [ez 13 [109,105,110],cS 13] (cD 4 [ez 14 [109,97,120],cS 14] (cD 4 [ez 15 [105,102],cS 15] (cD 4 [ez 16 [116,104,101,110],cS 16] (cg 4 [ez 17 [101,108,115,101],cS 17])))))))))))) (aP 4 [ae 2 bo]))) [cM] [bZ]
theorem ae9:ft Tryz.prog 299 Oj:=codeOk (hs:=[]) Tryz.func299 (by kernel_rfl)
def Ok:fv:=dL 32 [dH] [cm 5] (dq (ay [ee 7 1,dD 6] (cD 6 [ee 8 2,dA 6] (cD 6 [ee 9 3,fd 6] (cD 6 [ee 10 4,dn 6] (cD 6 [ee 11 5,dv 6] (cg 6 [ee 12 6,dG 6]))))) (cq 6 [cN 13,bk 14 13 0,cS 14] (ay [ee 16 7,af 15 16] (cg 15 [ee 17 19,eA 15]) (cq 15 [cN 18,bk 19 18 1,cS 19] (ay [ee 21 12,af 20 21] (cg 20 [ee 22 13,af 20 22]) (cq 20 [cN 23,aE 24 .geq 23 2,cS 24] (ay [ee 26 14,af 25 26] (cg 25 [ee 27 15,af 25 27]) (aP 25 [cN 28,bk 29 28 3,cS 29]))))))))) [cN 30,bk 31 30 2,cS 31] [cE]
theorem afa:ft Tryz.prog 300 Ok:=codeOk (hs:=[]) Tryz.func300 (by kernel_rfl)
def LN:fv:=dL 21 [cM] [eV,aC 8 319 [.t 7,bg [46]],dA 6,eM 9 6,eL 10 6,bX 11 6 2,fd 3,cS 10,dv 5] (bI [dy 12] 12 [dk 13,aC 14 94 [dP],af 15 14,bC 16 4 15,dz 17 94 [ev] 15,cP 18 15 17,dW 18]) [cm 19,aC 20 271 [.t 19],dW 20] [bZ]
theorem afb:ft Tryz.prog 301 LN:=codeOk (hs:=[]) Tryz.func301 (by kernel_rfl)
def rE:fv:=dL 67 [dh] [cm 5] (dq (cW [ee 10 1,dn 9] 9 [d7 1] (cW [ee 12 2,dG 11] 11 [d7 2] (cW [ee 14 3,af 13 14] 13 [d7 3] (ay [ee 16 4,af 15 16] (cg 15 [ee 17 5,eA 15]) (cq 15 [d7 4] (ay [ee 19 7,af 18 19] (cD 18 [ee 20 8,af 18 20] (cD 18 [ee 21 9,af 18 21] (cD 18 [ee 22 12,af 18 22] (cg 18 [ee 23 13,af 18 23])))) (am 18 (bI [cN 24,ab 25 (aU 24 cV 1),bw 26 25,aC 27 320 [em],af 28 27,bC 29 1 28,bC 30 1 28,aG 31 (aU 30 cV 1) 28,eH 32 31 28,dz 33 321 [.t 29,.t 32] 28,cP 34 28 33] 34 [cN 35,ab 36 (aU 35 cV 1),bw 37 36,cS 37]) (ay [ee 39 10,af 38 39] (cg 38 [ee 40 11,af 38 40]) (am 38 (bJ [ca 41 0,ca 42 1,bh 43 (aU 42 cV 1),cz 44 43,ca 45 1,bh 46 (aU 45 cR 1),cj [3] 47 46,cX 48 322 [.t 41,.t 44,.t 47],ca 4 48] .ret) (ad [ee 50 14,af 49 50] (am 49 (bJ [ca 51 1,bh 52 (aU 51 cV 1),cz 53 52,di (bk 54 53 4),ca 55 54,eF 56 1 55,dx 57 (aU 56 cR 1) 55,dx 58 (bA 57) 55,eF 59 1 55,dx 60 (aU 59 eZ 1) 55,bV [7] 61 (bA 60) 55,dx 62 (cQ .eql 58 61) 55,bh 63 (en 55 62 aV)] (aP 63 [cN 64,ab 65 (aU 64 cR 1),bw 66 65,cS 66])) (bI [cm 6,cN 7,aC 8 323 [.t 6,.t 7]] 8 [d7 4]))))))))))))) [dh] [cE]
theorem afc:ft Tryz.prog 302 rE:=codeOk (hs:=[]) Tryz.func302 (by kernel_rfl)
def mF:fm:=cK [dy 6,eV,eQ 8 7,bL 9 6 8] 9 0 1 (bI [cm 12,dy 13,ab 14 (.ixS (.t 12) dP),cN 15,dY 16 14 15] 16 [dy 17,cS 17]) [dy 10,cU 11 10,dv 5]
theorem acE:jo (gY (.loop mF))=262128:=nr rfl
def LO:fv:=dL 18 [dh] [dE] (aN 0 mF) [d7 (-1)] [cE]
theorem afd:ft Tryz.prog 304 LO:=codeOk (hs:=[]) Tryz.func304 (by kernel_rfl)
def LP:fv:=dI 18 [dH] [cm 5,eQ 6 5,cN 7,eQ 8 7,bb 9 .geq 6 8,ec 9,bC 11 0 10,bC 12 1 10,aG 13 (cY 12) 10,aG 14 (.slS et none (some dP)) 10,bC 15 1 10,aG 16 (cQ .eql 14 15) 10,cP 17 10 16,cS 17] [cE]
theorem afe:ft Tryz.prog 317 LP:=codeOk (hs:=[]) Tryz.func317 (by kernel_rfl)
def HX:fv:=dI 13 [ae 4 (bg []),ae 5 (bg []),cu 6] [eV,cN 8,aC 9 325 [.t 7,.t 8],eM 10 9,eL 11 9,bX 12 9 2,cS 10,dv 5,dG 6] [cE,eY,ey]
theorem aff:ft Tryz.prog 319 HX:=codeOk (hs:=[]) Tryz.func319 (by kernel_rfl)
def LQ:fv:=dI 9 [cM] [dX,bk 4 3 1,dO 5,cJ 6 0 5,cO 7 .eql 6 2 5,cA 8 5 7,dA 2] [bZ]
theorem afg:ft Tryz.prog 320 LQ:=codeOk (hs:=[]) Tryz.func320 (by kernel_rfl)
def mG:fm:=dt [bL 10 9 8] 10 0 1 [bY 11 7 9 1,bw 12 11,dG 6] (bI [dJ 13,cN 14,bb 15 .neq 13 14] 15 [dH]) [cU 16 9,af 9 16]
theorem acF:jo (gY (.loop mG))=130640:=nr rfl
def Ol:fv:=dL 17 [dH] [eV,bD 8 7,eR] (aN 0 mG) [ae 4 bo] [cE]
theorem afh:ft Tryz.prog 321 Ol:=codeOk (hs:=[]) Tryz.func321 (by kernel_rfl)
def xE:fv:=bv 43 (ci [eS] (dq (cW [cN 8,bk 9 8 1,ec 9,bC 11 2 10,db 12 .eql 11 1 10,cP 13 10 12,af 7 13] 7 [aB 6 1] (cW [cN 15,bk 16 15 2,af 17 16,bC 18 2 17,db 19 .eql 18 1 17,cP 20 17 19,af 14 20] 14 [aB 6 2] (cW [cm 22,bk 23 22 10,af 24 23,bC 25 1 24,db 26 .eql 25 1 24,cP 27 24 26,af 28 27,bC 29 2 28,db 30 .eql 29 2 28,cP 31 28 30,af 21 31] 21 [aB 6 2] (bI [cm 33,bk 34 33 11,af 35 34,bC 36 1 35,db 37 .eql 36 2 35,cP 38 35 37,af 39 38,bC 40 2 39,db 41 .eql 40 2 39,cP 42 39 41,af 32 42] 32 [aB 6 1]))))) (aA [eS])) [ey]
theorem afi:ft Tryz.prog 322 xE:=codeOk (hs:=[]) Tryz.func322 (by kernel_rfl)
def BU:fv:=dL 37 [dH] [cm 5] (dq (cW [ee 7 15,dD 6] 6 [cN 8,aC 9 321 [.t 8,aj 3],cS 9] (ay [ee 11 16,dv 10] (cg 10 [ee 12 17,dG 10]) (am 10 (bJ [ca 13 1,bh 14 (aU 13 cV 1),cz 15 14,cX 16 320 [d6],ca 17 16,eF 18 1 17,dx 19 (aU 18 cV 1) 17,dx 20 (bA 19) 17,eF 21 1 17,dx 22 (aU 21 cR 1) 17,bV [7] 23 (bA 22) 17,dx 24 (cQ .eql 20 23) 17,bh 25 (aH 17 dZ aV),ca 4 25] .ret) (ad [ee 27 18,af 26 27] (aK 26 (bJ [ca 28 1,bh 29 (aU 28 cV 1),cz 30 29,ca 31 1,bh 32 (aU 31 cR 1),cj [2] 33 32,di (dY 34 30 33),ca 4 34] .ret))))))) [cN 35,aC 36 321 [.t 35,aj 4],cS 36] [cE]
theorem afj:ft Tryz.prog 323 BU:=codeOk (hs:=[]) Tryz.func323 (by kernel_rfl)
def HY:fv:=dL 23 [ae 4 (bg []),ae 5 (bg []),cu 6] [cm 8,cN 9,aC 10 326 [.t 8,.t 9],dn 7] (ad [dD 11,aE 12 .geq 11 0] (aK 12 (bJ [ca 13 0,ca 14 7,bh 15 (.slS dP none (some ek)),ca 16 0,ca 17 7,ca 18 1,bh 19 (cY 18),di (dR 20 17 19),bh 21 (.slS ev (some (.t 20)) none),ca 4 15,ca 5 21,di (ae 6 bo)] .ret))) [cm 22,cS 22,ae 5 (bg []),cu 6] [cE,eY,ey]
theorem afk:ft Tryz.prog 325 HY:=codeOk (hs:=[]) Tryz.func325 (by kernel_rfl)
end Go.Proofs.YtblcbheipjeoeaaGreat
