/- The codes of functions of the program, as the evaluator reads them: computed out of the model's functions; that each is what its compiler makes of the function. Conditions: none. -/
import Derived.Test.YtnkgnjecmfkcfaaGreatCoN
set_option maxRecDepth 100000
set_option maxHeartbeats 16000000
set_option linter.all false
namespace Go.Proofs.YtnkgnjecmfkcfaaGreat
open Go Go.Ev Tryz
def Bd:ak:=(⟨_,by cbv⟩:N0 (gW [] 2 f6)).1
def O0:dR (bO (.loop Bd))=2535301181566992871514825605120:=nr rfl
def Be:ak:=(⟨fun x=>_,fun x=>by cbv⟩:N1 2 (gW [] 0 f6)).1 Bd
def O1:dR (bO (.loop Be))=166153499473114484112974783023476752:=nr rfl
def c6:ai:=(⟨fun x=>_,fun x=>by cbv⟩:N1 0 (gF [] false f6)).1 Be
def kq6:aL 6 c6:=aB func6
def Er:ak:=(⟨_,by cbv⟩:N0 (gW [] 0 f7)).1
def O2:dR (bO (.loop Er))=34359737280:=nr rfl
def c7:ai:=(⟨fun x=>_,fun x=>by cbv⟩:N1 0 (gF [] false f7)).1 Er
def kq7:aL 7 c7:=aB func7
def c8:ai:=(⟨_,by cbv⟩:N0 (gF [] false f8)).1
def kq8:aL 8 c8:=aB func8
def c9:ai:=(⟨_,by cbv⟩:N0 (gF [] false f9)).1
def kq9:aL 9 c9:=aB func9
def xz:ak:=(⟨_,by cbv⟩:N0 (gW [] 0 f10)).1
def IW:dR (bO (.loop xz))=280925220904960:=nr rfl
def uF:ai:=(⟨fun x=>_,fun x=>by cbv⟩:N1 0 (gF [] false f10)).1 xz
def aED:aL 10 uF:=aB func10
def c14:ai:=(⟨_,by cbv⟩:N0 (gF [] false f14)).1
def aEE:aL 14 c14:=aB func14
def xD:ak:=(⟨_,by cbv⟩:N0 (gW [] 0 f16)).1
def IX:dR (bO (.loop xD))=42535295825503226675789657132199285504:=nr rfl
def c16:ai:=(⟨fun x=>_,fun x=>by cbv⟩:N1 0 (gF [] false f16)).1 xD
def aEF:aL 16 c16:=aB func16
def c21:ai:=(⟨_,by cbv⟩:N0 (gF [] false f21)).1
def aEG:aL 21 c21:=aB func21
def oW:ak:=(⟨_,by cbv⟩:N0 (gW [] 0 f22)).1
def IY:dR (bO (.loop oW))=713623846352979940529142980113061550032290816:=nr rfl
def c22:ai:=(⟨fun x=>_,fun x=>by cbv⟩:N1 0 (gF [] false f22)).1 oW
def aEH:aL 22 c22:=aB func22
def c23:ai:=(⟨_,by cbv⟩:N0 (gF [] false f23)).1
def aEI:aL 23 c23:=aB func23
def jK:ak:=(⟨_,by cbv⟩:N0 (gW [] 0 f24)).1
def IZ:dR (bO (.loop jK))=2535301200456458802993398030128:=nr rfl
def c24:ai:=(⟨fun x=>_,fun x=>by cbv⟩:N1 0 (gF [] false f24)).1 jK
def aEJ:aL 24 c24:=aB func24
def c25:ai:=(⟨_,by cbv⟩:N0 (gF [] false f25)).1
def aEK:aL 25 c25:=aB func25
def c26:ai:=(⟨_,by cbv⟩:N0 (gF [] false f26)).1
def aEL:aL 26 c26:=aB func26
def tH:ak:=(⟨_,by cbv⟩:N0 (gW [] 0 f27)).1
def I0:dR (bO (.loop tH))=8388576:=nr rfl
def c27:ai:=(⟨fun x=>_,fun x=>by cbv⟩:N1 0 (gF [] false f27)).1 tH
def aEM:aL 27 c27:=aB func27
def oX:ak:=(⟨_,by cbv⟩:N0 (gW [49,55,65] 4 f28)).1
def I1:dR (bO (.loop oX))=5444517870735015415266419766318616084480:=nr rfl
def xE:ak:=(⟨fun x=>_,fun x=>by cbv⟩:N1 4 (gW [49,55,65] 2 f28)).1 oX
def I2:dR (bO (.loop xE))=5444517870735015415413921661314255093760:=nr rfl
def xF:ak:=(⟨fun x=>_,fun x=>by cbv⟩:N1 2 (gW [49,55,65] 0 f28)).1 xE
def I3:dR (bO (.loop xF))=10889035741470030830827986311916677988352:=nr rfl
def c28:ai:=(⟨fun x=>_,fun x=>by cbv⟩:N1 0 (gF [49,55,65] false f28)).1 xF
def aEN:aL 28 c28:=codeOk (hs:=[49,55,65]) func28 (by kernel_rfl)
def nG:ak:=(⟨_,by cbv⟩:N0 (gW [] 0 f29)).1
def I4:dR (bO (.loop nG))=9007199254737072:=nr rfl
def c29:ai:=(⟨fun x=>_,fun x=>by cbv⟩:N1 0 (gF [] false f29)).1 nG
def aEO:aL 29 c29:=aB func29
def bG:ak:=(⟨_,by cbv⟩:N0 (gW [99] 4 f30)).1
def I5:dR (bO (.loop bG))=1298074214633706871103827067273220:=nr rfl
def tI:ak:=(⟨fun x=>_,fun x=>by cbv⟩:N1 4 (gW [99] 2 f30)).1 bG
def Bf:dR (bO (.loop tI))=1298074214633706906569674132946948:=nr rfl
def xG:ak:=(⟨_,by cbv⟩:N0 (gW [99] 0 f30)).1
def I6:dR (bO (.loop xG))=562400197705728:=nr rfl
def c30:ai:=(⟨fun x y=>_,fun x y=>by cbv⟩:N2 0 2 (gF [99] true f30)).1 xG tI
def aEP:aL 30 c30:=codeOk (hs:=[99]) func30 (by kernel_rfl)
def tJ:ak:=(⟨_,by cbv⟩:N0 (gW [] 2 f31)).1
def I7:dR (bO (.loop tJ))=4294902144:=nr rfl
def xH:ak:=(⟨fun x=>_,fun x=>by cbv⟩:N1 2 (gW [] 0 f31)).1 tJ
def I8:dR (bO (.loop xH))=68719476704:=nr rfl
def c31:ai:=(⟨fun x=>_,fun x=>by cbv⟩:N1 0 (gF [] false f31)).1 xH
def aEQ:aL 31 c31:=aB func31
def c32:ai:=(⟨_,by cbv⟩:N0 (gF [] false f32)).1
def aER:aL 32 c32:=aB func32
def c33:ai:=(⟨_,by cbv⟩:N0 (gF [] false f33)).1
def aES:aL 33 c33:=aB func33
def c34:ai:=(⟨_,by cbv⟩:N0 (gF [] false f34)).1
def aET:aL 34 c34:=aB func34
def bH:ak:=(⟨_,by cbv⟩:N0 (gW [99,128,150,171] 1028 f35)).1
def jL:ak:=(⟨_,by cbv⟩:N0 (gW [99,128,150,171] 12 f35)).1
def jM:ak:=(⟨_,by cbv⟩:N0 (gW [99,128,150,171] 10 f35)).1
def jN:ak:=(⟨_,by cbv⟩:N0 (gW [99,128,150,171] 8 f35)).1
def kW:ak:=(⟨fun x=>_,fun x=>by cbv⟩:N1 1028 (gW [99,128,150,171] 6 f35)).1 bH
def fV:ak:=(⟨_,by cbv⟩:N0 (gW [99,128,150,171] 4 f35)).1
def kY:ak:=(⟨_,by cbv⟩:N0 (gW [99,128,150,171] 2 f35)).1
def jO:ak:=(⟨_,by cbv⟩:N0 (gW [99,128,150,171] 0 f35)).1
def Bg:ai:=(⟨fun x y z w v u t=>_,fun x y z w v u t=>by cbv⟩:N7 0 2 4 6 8 10 12 (gF [99,128,150,171] false f35)).1 jO kY fV kW jN jM jL
def aEU:aL 35 Bg:=codeOk (hs:=[99,128,150,171]) func35 (by kernel_rfl)
def xI:ak:=(⟨_,by cbv⟩:N0 (gW [] 2 f36)).1
def tK:ak:=(⟨_,by cbv⟩:N0 (gW [] 0 f36)).1
theorem Vm:dR (bO (.loop tK))=268173392:=nr rfl
def c36:ai:=(⟨fun x y=>_,fun x y=>by cbv⟩:N2 0 2 (gF [] false f36)).1 tK xI
def aEV:aL 36 c36:=aB func36
def O3:ai:=(⟨_,by cbv⟩:N0 (gF [] false f37)).1
def aEW:aL 37 O3:=aB func37
def c38:ai:=(⟨_,by cbv⟩:N0 (gF [] false f38)).1
def aEX:aL 38 c38:=aB func38
def xJ:ak:=(⟨_,by cbv⟩:N0 (gW [] 2 f39)).1
def Vn:dR (bO (.loop xJ))=316912612278125487417014092560:=nr rfl
def Bh:ak:=(⟨_,by cbv⟩:N0 (gW [] 0 f39)).1
def c39:ai:=(⟨fun x y=>_,fun x y=>by cbv⟩:N2 0 2 (gF [] false f39)).1 Bh xJ
def aEY:aL 39 c39:=aB func39
def xK:ak:=(⟨_,by cbv⟩:N0 (gW [11] 0 f43)).1
theorem uG:dR (bO (.loop xK))=316912650057057350374175737792:=nr rfl
def c43:ai:=(⟨fun x=>_,fun x=>by cbv⟩:N1 0 (gF [11] false f43)).1 xK
def aEZ:aL 43 c43:=codeOk (hs:=[11]) func43 (by kernel_rfl)
def c45:ai:=(⟨_,by cbv⟩:N0 (gF [] false f45)).1
def aE0:aL 45 c45:=aB func45
def c46:ai:=(⟨_,by cbv⟩:N0 (gF [] false f46)).1
def aE1:aL 46 c46:=aB func46
def xL:ak:=(⟨_,by cbv⟩:N0 (gW [] 2 f47)).1
def I9:dR (bO (.loop xL))=9444588850551214580224:=nr rfl
def xM:ak:=(⟨_,by cbv⟩:N0 (gW [] 0 f47)).1
def Ja:dR (bO (.loop xM))=18014123631577600:=nr rfl
def c47:ai:=(⟨fun x y=>_,fun x y=>by cbv⟩:N2 0 2 (gF [] false f47)).1 xM xL
def aE2:aL 47 c47:=aB func47
def c48:ai:=(⟨_,by cbv⟩:N0 (gF [] false f48)).1
def aE3:aL 48 c48:=aB func48
def Bi:ak:=(⟨_,by cbv⟩:N0 (gW [] 0 f49)).1
def Vo:dR (bO (.loop Bi))=261712:=nr rfl
def c49:ai:=(⟨fun x=>_,fun x=>by cbv⟩:N1 0 (gF [] false f49)).1 Bi
def aE4:aL 49 c49:=aB func49
def c52:ai:=(⟨_,by cbv⟩:N0 (gF [] false f52)).1
def aE5:aL 52 c52:=aB func52
def c54:ai:=(⟨_,by cbv⟩:N0 (gF [] false f54)).1
def aE6:aL 54 c54:=aB func54
def amo:ak:=(⟨_,by cbv⟩:N0 (gW [] 3 f55)).1
def amp:ak:=(⟨_,by cbv⟩:N0 (gW [] 1 f55)).1
def c55:ai:=(⟨fun x y=>_,fun x y=>by cbv⟩:N2 1 3 (gF [] false f55)).1 amp amo
def aE7:aL 55 c55:=aB func55
def amq:ak:=(⟨_,by cbv⟩:N0 (gW [] 0 f56)).1
def c56:ai:=(⟨fun x=>_,fun x=>by cbv⟩:N1 0 (gF [] false f56)).1 amq
def aE9:aL 56 c56:=aB func56
def oY:ak:=(⟨_,by cbv⟩:N0 (gW [] 0 f57)).1
theorem Jb:dR (bO (.loop oY))=18446726481523531776:=nr rfl
def c57:ai:=(⟨fun x=>_,fun x=>by cbv⟩:N1 0 (gF [] false f57)).1 oY
def aFa:aL 57 c57:=aB func57
def tL:ak:=(⟨_,by cbv⟩:N0 (gW [] 0 f61)).1
theorem Jc:dR (bO (.loop tL))=2147483632:=nr rfl
def c61:ai:=(⟨fun x=>_,fun x=>by cbv⟩:N1 0 (gF [] false f61)).1 tL
def aFb:aL 61 c61:=aB func61
def c62:ai:=(⟨_,by cbv⟩:N0 (gF [] false f62)).1
def aFc:aL 62 c62:=aB func62
def c63:ai:=(⟨_,by cbv⟩:N0 (gF [] false f63)).1
def aFd:aL 63 c63:=aB func63
def xO:ak:=(⟨_,by cbv⟩:N0 (gW [7,8] 0 f64)).1
def Jd:dR (bO (.loop xO))=18014398492712472:=nr rfl
def c64:ai:=(⟨fun x=>_,fun x=>by cbv⟩:N1 0 (gF [7,8] false f64)).1 xO
def aFe:aL 64 c64:=codeOk (hs:=[7,8]) func64 (by kernel_rfl)
def tM:ak:=(⟨_,by cbv⟩:N0 (gW [] 2 f65)).1
def Je:dR (bO (.loop tM))=81129483672101771023254642753672:=nr rfl
def tN:ak:=(⟨_,by cbv⟩:N0 (gW [] 0 f65)).1
def Jf:dR (bO (.loop tN))=77371104881383677504782376:=nr rfl
def c65:ai:=(⟨fun x y=>_,fun x y=>by cbv⟩:N2 0 2 (gF [] false f65)).1 tN tM
def aFf:aL 65 c65:=aB func65
def xP:ak:=(⟨_,by cbv⟩:N0 (gW [] 0 f66)).1
def Jg:dR (bO (.loop xP))=8589903360:=nr rfl
def c66:ai:=(⟨fun x=>_,fun x=>by cbv⟩:N1 0 (gF [] false f66)).1 xP
def aFg:aL 66 c66:=aB func66
def c67:ai:=(⟨_,by cbv⟩:N0 (gF [] false f67)).1
def aFh:aL 67 c67:=aB func67
def c68:ai:=(⟨_,by cbv⟩:N0 (gF [] false f68)).1
def aFi:aL 68 c68:=aB func68
def c69:ai:=(⟨_,by cbv⟩:N0 (gF [] false f69)).1
def aFj:aL 69 c69:=aB func69
def xQ:ak:=(⟨_,by cbv⟩:N0 (gW [] 5 f70)).1
def Vp:dR (bO (.loop xQ))=81129635996755042466530655738884:=nr rfl
def xR:ak:=(⟨_,by cbv⟩:N0 (gW [] 2 f70)).1
theorem Jh:dR (bO (.loop xR))=302231436889258784195076:=nr rfl
def xS:ak:=(⟨_,by cbv⟩:N0 (gW [] 0 f70)).1
theorem Ji:dR (bO (.loop xS))=1125891316908132:=nr rfl
def c70:ai:=(⟨fun x y z=>_,fun x y z=>by cbv⟩:N3 0 2 5 (gF [] false f70)).1 xS xR xQ
def aFk:aL 70 c70:=aB func70
def Bj:ak:=(⟨_,by cbv⟩:N0 (gW [] 8 f71)).1
theorem Jj:dR (bO (.loop Bj))=41528233663476795193031997011263492:=nr rfl
def Bk:ak:=(⟨_,by cbv⟩:N0 (gW [] 6 f71)).1
theorem Jk:dR (bO (.loop Bk))=1267611914602001733363113000964:=nr rfl
def Bl:ak:=(⟨_,by cbv⟩:N0 (gW [] 4 f71)).1
theorem Jl:dR (bO (.loop Bl))=4835555704505927022460932:=nr rfl
def Bm:ak:=(⟨_,by cbv⟩:N0 (gW [] 2 f71)).1
theorem Jm:dR (bO (.loop Bm))=2251524935779204:=nr rfl
def Bn:ak:=(⟨fun x=>_,fun x=>by cbv⟩:N1 2 (gW [] 0 f71)).1 Bm
theorem Jn:dR (bO (.loop Bn))=2305843000623763428:=nr rfl
def c71:ai:=(⟨fun x y z w=>_,fun x y z w=>by cbv⟩:N4 0 4 6 8 (gF [] false f71)).1 Bn Bl Bk Bj
def aFl:aL 71 c71:=aB func71
def xT:ak:=(⟨_,by cbv⟩:N0 (gW [12,13,15,48] 4 f72)).1
theorem ko:dR (bO (.loop xT))=590259781561686689280:=nr rfl
def jP:ak:=(⟨fun x=>_,fun x=>by cbv⟩:N1 4 (gW [12,13,15,48] 2 f72)).1 xT
theorem Vq:dR (bO (.loop jP))=1180591611921318283008:=nr rfl
def tO:ak:=(⟨_,by cbv⟩:N0 (gW [12,13,15,48] 0 f72)).1
theorem Vr:dR (bO (.loop tO))=8796092760304:=nr rfl
def c72:ai:=(⟨fun x y=>_,fun x y=>by cbv⟩:N2 0 2 (gF [12,13,15,48] true f72)).1 tO jP
def aFm:aL 72 c72:=codeOk (hs:=[12,13,15,48]) func72 (by kernel_rfl)
def oZ:ak:=(⟨_,by cbv⟩:N0 (gW [] 1 f73)).1
theorem Vt:dR (bO (.loop oZ))=604426016319167168252928:=nr rfl
def Jo:ai:=(⟨fun x=>_,fun x=>by cbv⟩:N1 1 (gF [] true f73)).1 oZ
def aFn:aL 73 Jo:=aB func73
def tP:ak:=(⟨_,by cbv⟩:N0 (gW [] 0 f74)).1
def c74:ai:=(⟨fun x=>_,fun x=>by cbv⟩:N1 0 (gF [] false f74)).1 tP
def aFo:aL 74 c74:=aB func74
def c75:ai:=(⟨_,by cbv⟩:N0 (gF [] false f75)).1
def aFp:aL 75 c75:=aB func75
def c77:ai:=(⟨_,by cbv⟩:N0 (gF [] false f77)).1
def aFq:aL 77 c77:=aB func77
def Bo:ak:=(⟨_,by cbv⟩:N0 (gW [] 0 f78)).1
def Vu:dR (bO (.loop Bo))=17592186011676:=nr rfl
def c78:ai:=(⟨fun x=>_,fun x=>by cbv⟩:N1 0 (gF [] false f78)).1 Bo
def aFr:aL 78 c78:=aB func78
def amu:ak:=(⟨_,by cbv⟩:N0 (gW [] 3 f79)).1
def amv:ak:=(⟨fun x=>_,fun x=>by cbv⟩:N1 3 (gW [] 1 f79)).1 amu
def c79:ai:=(⟨fun x=>_,fun x=>by cbv⟩:N1 1 (gF [] false f79)).1 amv
def aFt:aL 79 c79:=aB func79
def c80:ai:=(⟨_,by cbv⟩:N0 (gF [] true f80)).1
def aFu:aL 80 c80:=aB func80
def c81:ai:=(⟨_,by cbv⟩:N0 (gF [] false f81)).1
def aFv:aL 81 c81:=aB func81
def c82:ai:=(⟨_,by cbv⟩:N0 (gF [] false f82)).1
def aFw:aL 82 c82:=aB func82
def qM:ak:=(⟨_,by cbv⟩:N0 (gW [] 1 f83)).1
def Et:ai:=(⟨fun x=>_,fun x=>by cbv⟩:N1 1 (gF [] false f83)).1 qM
def aFx:aL 83 Et:=aB func83
def xU:ak:=(⟨_,by cbv⟩:N0 (gW [] 0 f84)).1
def Jp:dR (bO (.loop xU))=33547265:=nr rfl
def c84:ai:=(⟨fun x=>_,fun x=>by cbv⟩:N1 0 (gF [] false f84)).1 xU
def aFy:aL 84 c84:=aB func84
def tQ:ak:=(⟨_,by cbv⟩:N0 (gW [] 0 f85)).1
def Jq:dR (bO (.loop tQ))=35184371041152:=nr rfl
def c85:ai:=(⟨fun x=>_,fun x=>by cbv⟩:N1 0 (gF [] false f85)).1 tQ
def aFz:aL 85 c85:=aB func85
def xV:ak:=(⟨_,by cbv⟩:N0 (gW [] 4 f86)).1
def Jr:dR (bO (.loop xV))=174224530325145625014626770761094690734088:=nr rfl
def xW:ak:=(⟨_,by cbv⟩:N0 (gW [] 2 f86)).1
def Js:dR (bO (.loop xW))=5192296858459269764804582005815304:=nr rfl
def xX:ak:=(⟨_,by cbv⟩:N0 (gW [] 0 f86)).1
def Jt:dR (bO (.loop xX))=9444732964639778800520:=nr rfl
def c86:ai:=(⟨fun x y z=>_,fun x y z=>by cbv⟩:N3 0 2 4 (gF [] false f86)).1 xX xW xV
def aFA:aL 86 c86:=aB func86
def c87:ai:=(⟨_,by cbv⟩:N0 (gF [] false f87)).1
def aFB:aL 87 c87:=aB func87
def qN:ak:=(⟨_,by cbv⟩:N0 (gW [] 0 f88)).1
def uH:dR (bO (.loop qN))=261200:=nr rfl
def c88:ai:=(⟨fun x=>_,fun x=>by cbv⟩:N1 0 (gF [] false f88)).1 qN
def aFC:aL 88 c88:=aB func88
def c89:ai:=(⟨_,by cbv⟩:N0 (gF [] false f89)).1
def aFE:aL 89 c89:=aB func89
def c90:ai:=(⟨_,by cbv⟩:N0 (gF [] false f90)).1
def aFG:aL 90 c90:=aB func90
end Go.Proofs.YtnkgnjecmfkcfaaGreat
