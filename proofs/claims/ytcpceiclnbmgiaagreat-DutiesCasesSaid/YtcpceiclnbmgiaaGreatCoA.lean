/- The codes of functions of the program, as the evaluator reads them: computed out of the model's functions; that each is what its compiler makes of the function. Conditions: none. -/
import Derived.Test.YtcpceiclnbmgiaaGreatCoN
import Derived.KernelRfl
set_option maxRecDepth 100000
set_option maxHeartbeats 16000000
namespace Go.Proofs.YtcpceiclnbmgiaaGreat
open Go Go.Ev Tryz
def c4:ai:=(⟨_,by cbv⟩:N0 (gF [] false f4)).1
theorem kq4:aW 4 c4:=aD func4 (by kernel_rfl)
def HN:ak:=(⟨_,by cbv⟩:N0 (gW [] 0 f7)).1
def c7:ai:=(⟨fun x=>_,fun x=>by cbv⟩:N1 0 (gF [] false f7)).1 HN
theorem kq7:aW 7 c7:=aD func7 (by kernel_rfl)
def c8:ai:=(⟨_,by cbv⟩:N0 (gF [] false f8)).1
theorem kq8:aW 8 c8:=aD func8 (by kernel_rfl)
def ta:ai:=(⟨_,by cbv⟩:N0 (gF [] false f10)).1
theorem aBq:aW 10 ta:=aD func10 (by kernel_rfl)
def Ar:ak:=(⟨_,by cbv⟩:N0 (gW [] 0 f11)).1
def tX:ai:=(⟨fun x=>_,fun x=>by cbv⟩:N1 0 (gF [] false f11)).1 Ar
theorem aBr:aW 11 tX:=aD func11 (by kernel_rfl)
def xJ:ai:=(⟨_,by cbv⟩:N0 (gF [] false f12)).1
theorem aBs:aW 12 xJ:=aD func12 (by kernel_rfl)
def c18:ai:=(⟨_,by cbv⟩:N0 (gF [] false f18)).1
theorem aBt:aW 18 c18:=aD func18 (by kernel_rfl)
def kV:ak:=(⟨_,by cbv⟩:N0 (gW [] 0 f19)).1
def c19:ai:=(⟨fun x=>_,fun x=>by cbv⟩:N1 0 (gF [] false f19)).1 kV
theorem aBu:aW 19 c19:=aD func19 (by kernel_rfl)
def c20:ai:=(⟨_,by cbv⟩:N0 (gF [] false f20)).1
theorem aBv:aW 20 c20:=aD func20 (by kernel_rfl)
def c21:ai:=(⟨_,by cbv⟩:N0 (gF [] false f21)).1
theorem aBw:aW 21 c21:=aD func21 (by kernel_rfl)
def wh:ak:=(⟨_,by cbv⟩:N0 (gW [] 0 f22)).1
def c22:ai:=(⟨fun x=>_,fun x=>by cbv⟩:N1 0 (gF [] false f22)).1 wh
theorem aBx:aW 22 c22:=aD func22 (by kernel_rfl)
def bL:ak:=(⟨_,by cbv⟩:N0 (gW [99,128,150,171] 1028 f23)).1
def jQ:ak:=(⟨_,by cbv⟩:N0 (gW [99,128,150,171] 12 f23)).1
def jR:ak:=(⟨_,by cbv⟩:N0 (gW [99,128,150,171] 10 f23)).1
def jS:ak:=(⟨_,by cbv⟩:N0 (gW [99,128,150,171] 8 f23)).1
def kW:ak:=(⟨fun x=>_,fun x=>by cbv⟩:N1 1028 (gW [99,128,150,171] 6 f23)).1 bL
def gz:ak:=(⟨_,by cbv⟩:N0 (gW [99,128,150,171] 4 f23)).1
def kY:ak:=(⟨_,by cbv⟩:N0 (gW [99,128,150,171] 2 f23)).1
def jT:ak:=(⟨_,by cbv⟩:N0 (gW [99,128,150,171] 0 f23)).1
def c23:ai:=(⟨fun x y z w v u t=>_,fun x y z w v u t=>by cbv⟩:N7 0 2 4 6 8 10 12 (gF [99,128,150,171] false f23)).1 jT kY gz kW jS jR jQ
theorem aBy:aW 23 c23:=codeOk (hs:=[99,128,150,171]) func23 (by kernel_rfl)
def As:ak:=(⟨_,by cbv⟩:N0 (gW [] 0 f24)).1
def c24:ai:=(⟨fun x=>_,fun x=>by cbv⟩:N1 0 (gF [] false f24)).1 As
theorem aBz:aW 24 c24:=aD func24 (by kernel_rfl)
def At:ak:=(⟨_,by cbv⟩:N0 (gW [10,11,12] 0 f25)).1
def c25:ai:=(⟨fun x=>_,fun x=>by cbv⟩:N1 0 (gF [10,11,12] false f25)).1 At
theorem aBA:aW 25 c25:=codeOk (hs:=[10,11,12]) func25 (by kernel_rfl)
def c26:ai:=(⟨_,by cbv⟩:N0 (gF [] false f26)).1
theorem aBB:aW 26 c26:=aD func26 (by kernel_rfl)
def c27:ai:=(⟨_,by cbv⟩:N0 (gF [] false f27)).1
theorem aBC:aW 27 c27:=aD func27 (by kernel_rfl)
def c28:ai:=(⟨_,by cbv⟩:N0 (gF [] false f28)).1
theorem aBD:aW 28 c28:=aD func28 (by kernel_rfl)
def c29:ai:=(⟨_,by cbv⟩:N0 (gF [] false f29)).1
theorem aBE:aW 29 c29:=aD func29 (by kernel_rfl)
def c30:ai:=(⟨_,by cbv⟩:N0 (gF [] false f30)).1
theorem aBF:aW 30 c30:=aD func30 (by kernel_rfl)
def c31:ai:=(⟨_,by cbv⟩:N0 (gF [] false f31)).1
theorem aBG:aW 31 c31:=aD func31 (by kernel_rfl)
def c32:ai:=(⟨_,by cbv⟩:N0 (gF [] false f32)).1
theorem aBH:aW 32 c32:=aD func32 (by kernel_rfl)
def Au:ak:=(⟨_,by cbv⟩:N0 (gW [] 0 f33)).1
def c33:ai:=(⟨fun x=>_,fun x=>by cbv⟩:N1 0 (gF [] false f33)).1 Au
theorem aBI:aW 33 c33:=aD func33 (by kernel_rfl)
def qy:ak:=(⟨_,by cbv⟩:N0 (gW [49,55,65] 4 f34)).1
def Av:ak:=(⟨fun x=>_,fun x=>by cbv⟩:N1 4 (gW [49,55,65] 2 f34)).1 qy
def Aw:ak:=(⟨fun x=>_,fun x=>by cbv⟩:N1 2 (gW [49,55,65] 0 f34)).1 Av
def c34:ai:=(⟨fun x=>_,fun x=>by cbv⟩:N1 0 (gF [49,55,65] false f34)).1 Aw
theorem aBJ:aW 34 c34:=codeOk (hs:=[49,55,65]) func34 (by kernel_rfl)
def uc:ai:=(⟨_,by cbv⟩:N0 (gF [] false f35)).1
theorem aBK:aW 35 uc:=aD func35 (by kernel_rfl)
def Ax:ak:=(⟨_,by cbv⟩:N0 (gW [] 0 f36)).1
def c36:ai:=(⟨fun x=>_,fun x=>by cbv⟩:N1 0 (gF [] false f36)).1 Ax
theorem aBL:aW 36 c36:=aD func36 (by kernel_rfl)
def wi:ak:=(⟨_,by cbv⟩:N0 (gW [] 0 f41)).1
def c41:ai:=(⟨fun x=>_,fun x=>by cbv⟩:N1 0 (gF [] false f41)).1 wi
theorem aBM:aW 41 c41:=aD func41 (by kernel_rfl)
def Ay:ak:=(⟨_,by cbv⟩:N0 (gW [11] 0 f42)).1
def c42:ai:=(⟨fun x=>_,fun x=>by cbv⟩:N1 0 (gF [11] false f42)).1 Ay
theorem aBN:aW 42 c42:=codeOk (hs:=[11]) func42 (by kernel_rfl)
def wj:ak:=(⟨_,by cbv⟩:N0 (gW [] 0 f44)).1
def c44:ai:=(⟨fun x=>_,fun x=>by cbv⟩:N1 0 (gF [] false f44)).1 wj
theorem aBO:aW 44 c44:=aD func44 (by kernel_rfl)
def c45:ai:=(⟨_,by cbv⟩:N0 (gF [] false f45)).1
theorem aBP:aW 45 c45:=aD func45 (by kernel_rfl)
def c46:ai:=(⟨_,by cbv⟩:N0 (gF [] false f46)).1
theorem aBQ:aW 46 c46:=aD func46 (by kernel_rfl)
def Az:ak:=(⟨_,by cbv⟩:N0 (gW [7,8] 0 f47)).1
def c47:ai:=(⟨fun x=>_,fun x=>by cbv⟩:N1 0 (gF [7,8] false f47)).1 Az
theorem aBR:aW 47 c47:=codeOk (hs:=[7,8]) func47 (by kernel_rfl)
def wk:ak:=(⟨_,by cbv⟩:N0 (gW [] 2 f48)).1
def wo:ak:=(⟨_,by cbv⟩:N0 (gW [] 0 f48)).1
def c48:ai:=(⟨fun x y=>_,fun x y=>by cbv⟩:N2 0 2 (gF [] false f48)).1 wo wk
theorem aBS:aW 48 c48:=aD func48 (by kernel_rfl)
def AA:ak:=(⟨_,by cbv⟩:N0 (gW [] 5 f49)).1
def AB:ak:=(⟨_,by cbv⟩:N0 (gW [] 2 f49)).1
def AD:ak:=(⟨_,by cbv⟩:N0 (gW [] 0 f49)).1
def c49:ai:=(⟨fun x y z=>_,fun x y z=>by cbv⟩:N3 0 2 5 (gF [] false f49)).1 AD AB AA
theorem aBT:aW 49 c49:=aD func49 (by kernel_rfl)
def EX:ak:=(⟨_,by cbv⟩:N0 (gW [] 8 f50)).1
def EY:ak:=(⟨_,by cbv⟩:N0 (gW [] 6 f50)).1
def EZ:ak:=(⟨_,by cbv⟩:N0 (gW [] 4 f50)).1
def E0:ak:=(⟨_,by cbv⟩:N0 (gW [] 2 f50)).1
def E1:ak:=(⟨fun x=>_,fun x=>by cbv⟩:N1 2 (gW [] 0 f50)).1 E0
def Tf:ai:=(⟨fun x y z w=>_,fun x y z w=>by cbv⟩:N4 0 4 6 8 (gF [] false f50)).1 E1 EZ EY EX
theorem aBU:aW 50 Tf:=aD func50 (by kernel_rfl)
def AE:ak:=(⟨_,by cbv⟩:N0 (gW [12,13,15,48] 4 f51)).1
def kZ:ak:=(⟨fun x=>_,fun x=>by cbv⟩:N1 4 (gW [12,13,15,48] 2 f51)).1 AE
def wq:ak:=(⟨_,by cbv⟩:N0 (gW [12,13,15,48] 0 f51)).1
def c51:ai:=(⟨fun x y=>_,fun x y=>by cbv⟩:N2 0 2 (gF [12,13,15,48] true f51)).1 wq kZ
theorem aBV:aW 51 c51:=codeOk (hs:=[12,13,15,48]) func51 (by kernel_rfl)
def qz:ak:=(⟨_,by cbv⟩:N0 (gW [] 1 f52)).1
def HO:ai:=(⟨fun x=>_,fun x=>by cbv⟩:N1 1 (gF [] true f52)).1 qz
theorem aBW:aW 52 HO:=aD func52 (by kernel_rfl)
def tb:ak:=(⟨_,by cbv⟩:N0 (gW [] 0 f53)).1
def c53:ai:=(⟨fun x=>_,fun x=>by cbv⟩:N1 0 (gF [] false f53)).1 tb
theorem aBX:aW 53 c53:=aD func53 (by kernel_rfl)
def c54:ai:=(⟨_,by cbv⟩:N0 (gF [] false f54)).1
theorem aBY:aW 54 c54:=aD func54 (by kernel_rfl)
def E2:ak:=(⟨_,by cbv⟩:N0 (gW [5,8,10,11,14] 8 f55)).1
def AF:ak:=(⟨fun x=>_,fun x=>by cbv⟩:N1 8 (gW [5,8,10,11,14] 6 f55)).1 E2
def AG:ak:=(⟨fun x=>_,fun x=>by cbv⟩:N1 6 (gW [5,8,10,11,14] 4 f55)).1 AF
def AH:ak:=(⟨fun x=>_,fun x=>by cbv⟩:N1 4 (gW [5,8,10,11,14] 2 f55)).1 AG
def AI:ak:=(⟨_,by cbv⟩:N0 (gW [5,8,10,11,14] 0 f55)).1
def c55:ai:=(⟨fun x y=>_,fun x y=>by cbv⟩:N2 0 2 (gF [5,8,10,11,14] false f55)).1 AI AH
theorem aBZ:aW 55 c55:=codeOk (hs:=[5,8,10,11,14]) func55 (by kernel_rfl)
def E3:ak:=(⟨_,by cbv⟩:N0 (gW [] 0 f56)).1
def c56:ai:=(⟨fun x=>_,fun x=>by cbv⟩:N1 0 (gF [] false f56)).1 E3
theorem aB0:aW 56 c56:=aD func56 (by kernel_rfl)
def tc:ak:=(⟨_,by cbv⟩:N0 (gW [35] 2 f57)).1
def AJ:ak:=(⟨fun x=>_,fun x=>by cbv⟩:N1 2 (gW [35] 0 f57)).1 tc
def c57:ai:=(⟨fun x=>_,fun x=>by cbv⟩:N1 0 (gF [35] false f57)).1 AJ
theorem aB1:aW 57 c57:=codeOk (hs:=[35]) func57 (by kernel_rfl)
def AK:ak:=(⟨_,by cbv⟩:N0 (gW [45,100045,56] 2 f58)).1
def bD:ak:=(⟨fun x=>_,fun x=>by cbv⟩:N1 2 (gW [45,100045,56] 0 f58)).1 AK
def c58:ai:=(⟨fun x=>_,fun x=>by cbv⟩:N1 0 (gF [45,100045,56] true f58)).1 bD
theorem aB2:aW 58 c58:=codeOk (hs:=[45,100045,56]) func58 (by kernel_rfl)
def c59:ai:=(⟨_,by cbv⟩:N0 (gF [1000100] false f59)).1
theorem aB3:aW 59 c59:=codeOk (hs:=[1000100]) func59 (by kernel_rfl)
def c60:ai:=(⟨_,by cbv⟩:N0 (gF [] false f60)).1
theorem aB4:aW 60 c60:=aD func60 (by kernel_rfl)
def c61:ai:=(⟨_,by cbv⟩:N0 (gF [] false f61)).1
theorem aB5:aW 61 c61:=aD func61 (by kernel_rfl)
def c62:ai:=(⟨_,by cbv⟩:N0 (gF [] false f62)).1
theorem aB6:aW 62 c62:=aD func62 (by kernel_rfl)
def wu:ak:=(⟨_,by cbv⟩:N0 (gW [] 2 f63)).1
def AL:ak:=(⟨fun x=>_,fun x=>by cbv⟩:N1 2 (gW [] 0 f63)).1 wu
def c63:ai:=(⟨fun x=>_,fun x=>by cbv⟩:N1 0 (gF [] false f63)).1 AL
theorem aB7:aW 63 c63:=aD func63 (by kernel_rfl)
def oQ:ak:=(⟨_,by cbv⟩:N0 (gW [] 0 f64)).1
def c64:ai:=(⟨fun x=>_,fun x=>by cbv⟩:N1 0 (gF [] false f64)).1 oQ
theorem aB8:aW 64 c64:=aD func64 (by kernel_rfl)
def AM:ak:=(⟨_,by cbv⟩:N0 (gW [] 0 f65)).1
def c65:ai:=(⟨fun x=>_,fun x=>by cbv⟩:N1 0 (gF [] false f65)).1 AM
theorem aB9:aW 65 c65:=aD func65 (by kernel_rfl)
def bO:ak:=(⟨_,by cbv⟩:N0 (gW [99] 4 f66)).1
def wv:ak:=(⟨fun x=>_,fun x=>by cbv⟩:N1 4 (gW [99] 2 f66)).1 bO
def AN:ak:=(⟨_,by cbv⟩:N0 (gW [99] 0 f66)).1
def c66:ai:=(⟨fun x y=>_,fun x y=>by cbv⟩:N2 0 2 (gF [99] true f66)).1 AN wv
theorem aCa:aW 66 c66:=codeOk (hs:=[99]) func66 (by kernel_rfl)
def c71:ai:=(⟨_,by cbv⟩:N0 (gF [] false f71)).1
theorem aCb:aW 71 c71:=aD func71 (by kernel_rfl)
def qC:ak:=(⟨_,by cbv⟩:N0 (gW [] 1 f72)).1
def DB:ai:=(⟨fun x=>_,fun x=>by cbv⟩:N1 1 (gF [] false f72)).1 qC
theorem aCc:aW 72 DB:=aD func72 (by kernel_rfl)
def c73:ai:=(⟨_,by cbv⟩:N0 (gF [] false f73)).1
theorem aCd:aW 73 c73:=aD func73 (by kernel_rfl)
def c74:ai:=(⟨_,by cbv⟩:N0 (gF [] false f74)).1
theorem aCe:aW 74 c74:=aD func74 (by kernel_rfl)
def c75:ai:=(⟨_,by cbv⟩:N0 (gF [] true f75)).1
theorem aCf:aW 75 c75:=aD func75 (by kernel_rfl)
def c76:ai:=(⟨_,by cbv⟩:N0 (gF [] false f76)).1
theorem aCg:aW 76 c76:=aD func76 (by kernel_rfl)
def wx:ak:=(⟨_,by cbv⟩:N0 (gW [] 2 f77)).1
def wy:ak:=(⟨_,by cbv⟩:N0 (gW [] 0 f77)).1
def c77:ai:=(⟨fun x y=>_,fun x y=>by cbv⟩:N2 0 2 (gF [] false f77)).1 wy wx
theorem aCh:aW 77 c77:=aD func77 (by kernel_rfl)
def ajP:ak:=(⟨_,by cbv⟩:N0 (gW [] 2 f78)).1
def ajQ:ak:=(⟨fun x=>_,fun x=>by cbv⟩:N1 2 (gW [] 0 f78)).1 ajP
def c78:ai:=(⟨fun x=>_,fun x=>by cbv⟩:N1 0 (gF [] false f78)).1 ajQ
theorem aCj:aW 78 c78:=aD func78 (by kernel_rfl)
def te:ak:=(⟨_,by cbv⟩:N0 (gW [121,160,192,275] 0 f79)).1
def c79:ai:=(⟨fun x=>_,fun x=>by cbv⟩:N1 0 (gF [121,160,192,275] true f79)).1 te
theorem aCk:aW 79 c79:=codeOk (hs:=[121,160,192,275]) func79 (by kernel_rfl)
end Go.Proofs.YtcpceiclnbmgiaaGreat
