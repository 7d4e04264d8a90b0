/- The codes of functions of the program, as the evaluator reads them: computed out of the model's functions; that each is what its compiler makes of the function. Conditions: none. -/
import Derived.Test.YtnkgnjecmfkcfaaGreatCoN
import Derived.KernelRfl
set_option maxRecDepth 100000
set_option maxHeartbeats 16000000
namespace Go.Proofs.YtnkgnjecmfkcfaaGreat
open Go Go.Ev Tryz
def xk:ak:=(⟨_,by cbv⟩:N0 (gW [] 0 f4)).1
theorem Mu:dO (bX (.loop xk))=75557863444439346765840:=nr rfl
def c4:aj:=(⟨fun x=>_,fun x=>by cbv⟩:N1 0 (gF [] false f4)).1 xk
theorem kq4:aQ 4 c4:=aB func4 (by kernel_rfl)
def Cj:ak:=(⟨_,by cbv⟩:N0 (gW [] 0 f7)).1
theorem Mv:dO (bX (.loop Cj))=34359737280:=nr rfl
def c7:aj:=(⟨fun x=>_,fun x=>by cbv⟩:N1 0 (gF [] false f7)).1 Cj
theorem kq7:aQ 7 c7:=aB func7 (by kernel_rfl)
def c8:aj:=(⟨_,by cbv⟩:N0 (gF [] false f8)).1
theorem kq8:aQ 8 c8:=aB func8 (by kernel_rfl)
def c9:aj:=(⟨_,by cbv⟩:N0 (gF [] false f9)).1
theorem kq9:aQ 9 c9:=aB func9 (by kernel_rfl)
def vO:ak:=(⟨_,by cbv⟩:N0 (gW [] 0 f10)).1
theorem GK:dO (bX (.loop vO))=280925220904960:=nr rfl
def ti:aj:=(⟨fun x=>_,fun x=>by cbv⟩:N1 0 (gF [] false f10)).1 vO
theorem azl:aQ 10 ti:=aB func10 (by kernel_rfl)
def vP:ak:=(⟨_,by cbv⟩:N0 (gW [] 0 f16)).1
theorem GL:dO (bX (.loop vP))=42535295825503226675789657132199285504:=nr rfl
def c16:aj:=(⟨fun x=>_,fun x=>by cbv⟩:N1 0 (gF [] false f16)).1 vP
theorem azm:aQ 16 c16:=aB func16 (by kernel_rfl)
def c23:aj:=(⟨_,by cbv⟩:N0 (gF [] false f23)).1
theorem azn:aQ 23 c23:=aB func23 (by kernel_rfl)
def jb:ak:=(⟨_,by cbv⟩:N0 (gW [] 0 f24)).1
theorem GM:dO (bX (.loop jb))=2535301200456458802993398030128:=nr rfl
def c24:aj:=(⟨fun x=>_,fun x=>by cbv⟩:N1 0 (gF [] false f24)).1 jb
theorem azo:aQ 24 c24:=aB func24 (by kernel_rfl)
def c25:aj:=(⟨_,by cbv⟩:N0 (gF [] false f25)).1
theorem azp:aQ 25 c25:=aB func25 (by kernel_rfl)
def c26:aj:=(⟨_,by cbv⟩:N0 (gF [] false f26)).1
theorem azq:aQ 26 c26:=aB func26 (by kernel_rfl)
def si:ak:=(⟨_,by cbv⟩:N0 (gW [] 0 f27)).1
theorem GN:dO (bX (.loop si))=8388576:=nr rfl
def c27:aj:=(⟨fun x=>_,fun x=>by cbv⟩:N1 0 (gF [] false f27)).1 si
theorem azr:aQ 27 c27:=aB func27 (by kernel_rfl)
def nZ:ak:=(⟨_,by cbv⟩:N0 (gW [49,55,65] 4 f28)).1
theorem GO:dO (bX (.loop nZ))=5444517870735015415266419766318616084480:=nr rfl
def vQ:ak:=(⟨fun x=>_,fun x=>by cbv⟩:N1 4 (gW [49,55,65] 2 f28)).1 nZ
theorem GP:dO (bX (.loop vQ))=5444517870735015415413921661314255093760:=nr rfl
def vR:ak:=(⟨fun x=>_,fun x=>by cbv⟩:N1 2 (gW [49,55,65] 0 f28)).1 vQ
theorem GQ:dO (bX (.loop vR))=10889035741470030830827986311916677988352:=nr rfl
def c28:aj:=(⟨fun x=>_,fun x=>by cbv⟩:N1 0 (gF [49,55,65] false f28)).1 vR
theorem azs:aQ 28 c28:=codeOk (hs:=[49,55,65]) func28 (by kernel_rfl)
def mE:ak:=(⟨_,by cbv⟩:N0 (gW [] 0 f29)).1
theorem GR:dO (bX (.loop mE))=9007199254737072:=nr rfl
def c29:aj:=(⟨fun x=>_,fun x=>by cbv⟩:N1 0 (gF [] false f29)).1 mE
theorem azt:aQ 29 c29:=aB func29 (by kernel_rfl)
def bB:ak:=(⟨_,by cbv⟩:N0 (gW [99] 4 f30)).1
theorem GS:dO (bX (.loop bB))=1298074214633706871103827067273220:=nr rfl
def sj:ak:=(⟨fun x=>_,fun x=>by cbv⟩:N1 4 (gW [99] 2 f30)).1 bB
theorem yX:dO (bX (.loop sj))=1298074214633706906569674132946948:=nr rfl
def vS:ak:=(⟨_,by cbv⟩:N0 (gW [99] 0 f30)).1
theorem GU:dO (bX (.loop vS))=562400197705728:=nr rfl
def c30:aj:=(⟨fun x y=>_,fun x y=>by cbv⟩:N2 0 2 (gF [99] true f30)).1 vS sj
theorem azu:aQ 30 c30:=codeOk (hs:=[99]) func30 (by kernel_rfl)
def sk:ak:=(⟨_,by cbv⟩:N0 (gW [] 2 f31)).1
theorem GV:dO (bX (.loop sk))=4294902144:=nr rfl
def vU:ak:=(⟨fun x=>_,fun x=>by cbv⟩:N1 2 (gW [] 0 f31)).1 sk
theorem GW:dO (bX (.loop vU))=68719476704:=nr rfl
def c31:aj:=(⟨fun x=>_,fun x=>by cbv⟩:N1 0 (gF [] false f31)).1 vU
theorem azv:aQ 31 c31:=aB func31 (by kernel_rfl)
def c32:aj:=(⟨_,by cbv⟩:N0 (gF [] false f32)).1
theorem azw:aQ 32 c32:=aB func32 (by kernel_rfl)
def c33:aj:=(⟨_,by cbv⟩:N0 (gF [] false f33)).1
theorem azx:aQ 33 c33:=aB func33 (by kernel_rfl)
def c34:aj:=(⟨_,by cbv⟩:N0 (gF [] false f34)).1
theorem azy:aQ 34 c34:=aB func34 (by kernel_rfl)
def bC:ak:=(⟨_,by cbv⟩:N0 (gW [99,128,150,171] 1028 f35)).1
def jc:ak:=(⟨_,by cbv⟩:N0 (gW [99,128,150,171] 12 f35)).1
def jd:ak:=(⟨_,by cbv⟩:N0 (gW [99,128,150,171] 10 f35)).1
def je:ak:=(⟨_,by cbv⟩:N0 (gW [99,128,150,171] 8 f35)).1
def jU:ak:=(⟨fun x=>_,fun x=>by cbv⟩:N1 1028 (gW [99,128,150,171] 6 f35)).1 bC
def fE:ak:=(⟨_,by cbv⟩:N0 (gW [99,128,150,171] 4 f35)).1
def jV:ak:=(⟨_,by cbv⟩:N0 (gW [99,128,150,171] 2 f35)).1
def jf:ak:=(⟨_,by cbv⟩:N0 (gW [99,128,150,171] 0 f35)).1
def yY:aj:=(⟨fun x y z w v u t=>_,fun x y z w v u t=>by cbv⟩:N7 0 2 4 6 8 10 12 (gF [99,128,150,171] false f35)).1 jf jV fE jU je jd jc
theorem azz:aQ 35 yY:=codeOk (hs:=[99,128,150,171]) func35 (by kernel_rfl)
def vV:ak:=(⟨_,by cbv⟩:N0 (gW [] 2 f36)).1
def sq:ak:=(⟨_,by cbv⟩:N0 (gW [] 0 f36)).1
theorem Sd:dO (bX (.loop sq))=268173392:=nr rfl
def c36:aj:=(⟨fun x y=>_,fun x y=>by cbv⟩:N2 0 2 (gF [] false f36)).1 sq vV
theorem azA:aQ 36 c36:=aB func36 (by kernel_rfl)
def Mw:aj:=(⟨_,by cbv⟩:N0 (gF [] false f37)).1
theorem azB:aQ 37 Mw:=aB func37 (by kernel_rfl)
def c38:aj:=(⟨_,by cbv⟩:N0 (gF [] false f38)).1
theorem azC:aQ 38 c38:=aB func38 (by kernel_rfl)
def vW:ak:=(⟨_,by cbv⟩:N0 (gW [] 2 f39)).1
theorem Se:dO (bX (.loop vW))=316912612278125487417014092560:=nr rfl
def yZ:ak:=(⟨_,by cbv⟩:N0 (gW [] 0 f39)).1
def c39:aj:=(⟨fun x y=>_,fun x y=>by cbv⟩:N2 0 2 (gF [] false f39)).1 yZ vW
theorem azD:aQ 39 c39:=aB func39 (by kernel_rfl)
def vX:ak:=(⟨_,by cbv⟩:N0 (gW [] 2 f47)).1
theorem GX:dO (bX (.loop vX))=9444588850551214580224:=nr rfl
def vY:ak:=(⟨_,by cbv⟩:N0 (gW [] 0 f47)).1
theorem GY:dO (bX (.loop vY))=18014123631577600:=nr rfl
def c47:aj:=(⟨fun x y=>_,fun x y=>by cbv⟩:N2 0 2 (gF [] false f47)).1 vY vX
theorem azE:aQ 47 c47:=aB func47 (by kernel_rfl)
def c48:aj:=(⟨_,by cbv⟩:N0 (gF [] false f48)).1
theorem azF:aQ 48 c48:=aB func48 (by kernel_rfl)
def zd:ak:=(⟨_,by cbv⟩:N0 (gW [] 0 f49)).1
theorem Sf:dO (bX (.loop zd))=261712:=nr rfl
def c49:aj:=(⟨fun x=>_,fun x=>by cbv⟩:N1 0 (gF [] false f49)).1 zd
theorem azG:aQ 49 c49:=aB func49 (by kernel_rfl)
def c52:aj:=(⟨_,by cbv⟩:N0 (gF [] false f52)).1
theorem azH:aQ 52 c52:=aB func52 (by kernel_rfl)
def c54:aj:=(⟨_,by cbv⟩:N0 (gF [] false f54)).1
theorem azI:aQ 54 c54:=aB func54 (by kernel_rfl)
def aif:ak:=(⟨_,by cbv⟩:N0 (gW [] 3 f55)).1
def aih:ak:=(⟨_,by cbv⟩:N0 (gW [] 1 f55)).1
def c55:aj:=(⟨fun x y=>_,fun x y=>by cbv⟩:N2 1 3 (gF [] false f55)).1 aih aif
theorem azJ:aQ 55 c55:=aB func55 (by kernel_rfl)
def aii:ak:=(⟨_,by cbv⟩:N0 (gW [] 0 f56)).1
def c56:aj:=(⟨fun x=>_,fun x=>by cbv⟩:N1 0 (gF [] false f56)).1 aii
theorem azL:aQ 56 c56:=aB func56 (by kernel_rfl)
def oa:ak:=(⟨_,by cbv⟩:N0 (gW [] 0 f57)).1
theorem GZ:dO (bX (.loop oa))=18446726481523531776:=nr rfl
def c57:aj:=(⟨fun x=>_,fun x=>by cbv⟩:N1 0 (gF [] false f57)).1 oa
theorem azM:aQ 57 c57:=aB func57 (by kernel_rfl)
def c63:aj:=(⟨_,by cbv⟩:N0 (gF [] false f63)).1
theorem azN:aQ 63 c63:=aB func63 (by kernel_rfl)
def vZ:ak:=(⟨_,by cbv⟩:N0 (gW [7,8] 0 f64)).1
theorem G0:dO (bX (.loop vZ))=18014398492712472:=nr rfl
def c64:aj:=(⟨fun x=>_,fun x=>by cbv⟩:N1 0 (gF [7,8] false f64)).1 vZ
theorem azO:aQ 64 c64:=codeOk (hs:=[7,8]) func64 (by kernel_rfl)
def sr:ak:=(⟨_,by cbv⟩:N0 (gW [] 2 f65)).1
theorem G1:dO (bX (.loop sr))=81129483672101771023254642753672:=nr rfl
def su:ak:=(⟨_,by cbv⟩:N0 (gW [] 0 f65)).1
theorem G2:dO (bX (.loop su))=77371104881383677504782376:=nr rfl
def c65:aj:=(⟨fun x y=>_,fun x y=>by cbv⟩:N2 0 2 (gF [] false f65)).1 su sr
theorem azP:aQ 65 c65:=aB func65 (by kernel_rfl)
def wc:ak:=(⟨_,by cbv⟩:N0 (gW [] 0 f66)).1
theorem G3:dO (bX (.loop wc))=8589903360:=nr rfl
def c66:aj:=(⟨fun x=>_,fun x=>by cbv⟩:N1 0 (gF [] false f66)).1 wc
theorem azQ:aQ 66 c66:=aB func66 (by kernel_rfl)
def c67:aj:=(⟨_,by cbv⟩:N0 (gF [] false f67)).1
theorem azR:aQ 67 c67:=aB func67 (by kernel_rfl)
def c68:aj:=(⟨_,by cbv⟩:N0 (gF [] false f68)).1
theorem azS:aQ 68 c68:=aB func68 (by kernel_rfl)
def c69:aj:=(⟨_,by cbv⟩:N0 (gF [] false f69)).1
theorem azT:aQ 69 c69:=aB func69 (by kernel_rfl)
def we:ak:=(⟨_,by cbv⟩:N0 (gW [] 5 f70)).1
theorem Sg:dO (bX (.loop we))=81129635996755042466530655738884:=nr rfl
def wg:ak:=(⟨_,by cbv⟩:N0 (gW [] 2 f70)).1
theorem G5:dO (bX (.loop wg))=302231436889258784195076:=nr rfl
def wh:ak:=(⟨_,by cbv⟩:N0 (gW [] 0 f70)).1
theorem G6:dO (bX (.loop wh))=1125891316908132:=nr rfl
def c70:aj:=(⟨fun x y z=>_,fun x y z=>by cbv⟩:N3 0 2 5 (gF [] false f70)).1 wh wg we
theorem azU:aQ 70 c70:=aB func70 (by kernel_rfl)
def ze:ak:=(⟨_,by cbv⟩:N0 (gW [] 8 f71)).1
theorem G8:dO (bX (.loop ze))=41528233663476795193031997011263492:=nr rfl
def zg:ak:=(⟨_,by cbv⟩:N0 (gW [] 6 f71)).1
theorem G9:dO (bX (.loop zg))=1267611914602001733363113000964:=nr rfl
def zh:ak:=(⟨_,by cbv⟩:N0 (gW [] 4 f71)).1
theorem Ha:dO (bX (.loop zh))=4835555704505927022460932:=nr rfl
def zi:ak:=(⟨_,by cbv⟩:N0 (gW [] 2 f71)).1
theorem Hb:dO (bX (.loop zi))=2251524935779204:=nr rfl
def zj:ak:=(⟨fun x=>_,fun x=>by cbv⟩:N1 2 (gW [] 0 f71)).1 zi
theorem Hc:dO (bX (.loop zj))=2305843000623763428:=nr rfl
def c71:aj:=(⟨fun x y z w=>_,fun x y z w=>by cbv⟩:N4 0 4 6 8 (gF [] false f71)).1 zj zh zg ze
theorem azV:aQ 71 c71:=aB func71 (by kernel_rfl)
def wi:ak:=(⟨_,by cbv⟩:N0 (gW [12,13,15,48] 4 f72)).1
theorem jz:dO (bX (.loop wi))=590259781561686689280:=nr rfl
def jg:ak:=(⟨fun x=>_,fun x=>by cbv⟩:N1 4 (gW [12,13,15,48] 2 f72)).1 wi
theorem Sh:dO (bX (.loop jg))=1180591611921318283008:=nr rfl
def sv:ak:=(⟨_,by cbv⟩:N0 (gW [12,13,15,48] 0 f72)).1
theorem Si:dO (bX (.loop sv))=8796092760304:=nr rfl
def c72:aj:=(⟨fun x y=>_,fun x y=>by cbv⟩:N2 0 2 (gF [12,13,15,48] true f72)).1 sv jg
theorem azW:aQ 72 c72:=codeOk (hs:=[12,13,15,48]) func72 (by kernel_rfl)
def oc:ak:=(⟨_,by cbv⟩:N0 (gW [] 1 f73)).1
theorem Sj:dO (bX (.loop oc))=604426016319167168252928:=nr rfl
def Hd:aj:=(⟨fun x=>_,fun x=>by cbv⟩:N1 1 (gF [] true f73)).1 oc
theorem azX:aQ 73 Hd:=aB func73 (by kernel_rfl)
def sw:ak:=(⟨_,by cbv⟩:N0 (gW [] 0 f74)).1
def c74:aj:=(⟨fun x=>_,fun x=>by cbv⟩:N1 0 (gF [] false f74)).1 sw
theorem azY:aQ 74 c74:=aB func74 (by kernel_rfl)
def c75:aj:=(⟨_,by cbv⟩:N0 (gF [] false f75)).1
theorem azZ:aQ 75 c75:=aB func75 (by kernel_rfl)
def c77:aj:=(⟨_,by cbv⟩:N0 (gF [] false f77)).1
theorem az0:aQ 77 c77:=aB func77 (by kernel_rfl)
def zk:ak:=(⟨_,by cbv⟩:N0 (gW [] 0 f78)).1
theorem Sk:dO (bX (.loop zk))=17592186011676:=nr rfl
def c78:aj:=(⟨fun x=>_,fun x=>by cbv⟩:N1 0 (gF [] false f78)).1 zk
theorem az1:aQ 78 c78:=aB func78 (by kernel_rfl)
def aim:ak:=(⟨_,by cbv⟩:N0 (gW [] 3 f79)).1
def ain:ak:=(⟨fun x=>_,fun x=>by cbv⟩:N1 3 (gW [] 1 f79)).1 aim
def c79:aj:=(⟨fun x=>_,fun x=>by cbv⟩:N1 1 (gF [] false f79)).1 ain
theorem az3:aQ 79 c79:=aB func79 (by kernel_rfl)
def c81:aj:=(⟨_,by cbv⟩:N0 (gF [] false f81)).1
theorem az4:aQ 81 c81:=aB func81 (by kernel_rfl)
def pP:ak:=(⟨_,by cbv⟩:N0 (gW [] 1 f83)).1
def Ck:aj:=(⟨fun x=>_,fun x=>by cbv⟩:N1 1 (gF [] false f83)).1 pP
theorem az5:aQ 83 Ck:=aB func83 (by kernel_rfl)
def wj:ak:=(⟨_,by cbv⟩:N0 (gW [] 4 f86)).1
theorem He:dO (bX (.loop wj))=174224530325145625014626770761094690734088:=nr rfl
def wk:ak:=(⟨_,by cbv⟩:N0 (gW [] 2 f86)).1
theorem Hf:dO (bX (.loop wk))=5192296858459269764804582005815304:=nr rfl
def wo:ak:=(⟨_,by cbv⟩:N0 (gW [] 0 f86)).1
theorem Hg:dO (bX (.loop wo))=9444732964639778800520:=nr rfl
def c86:aj:=(⟨fun x y z=>_,fun x y z=>by cbv⟩:N3 0 2 4 (gF [] false f86)).1 wo wk wj
theorem az6:aQ 86 c86:=aB func86 (by kernel_rfl)
def c87:aj:=(⟨_,by cbv⟩:N0 (gF [] false f87)).1
theorem az7:aQ 87 c87:=aB func87 (by kernel_rfl)
def pQ:ak:=(⟨_,by cbv⟩:N0 (gW [] 0 f88)).1
theorem tj:dO (bX (.loop pQ))=261200:=nr rfl
def c88:aj:=(⟨fun x=>_,fun x=>by cbv⟩:N1 0 (gF [] false f88)).1 pQ
theorem az8:aQ 88 c88:=aB func88 (by kernel_rfl)
def c89:aj:=(⟨_,by cbv⟩:N0 (gF [] false f89)).1
theorem aAa:aQ 89 c89:=aB func89 (by kernel_rfl)
def c90:aj:=(⟨_,by cbv⟩:N0 (gF [] false f90)).1
theorem aAc:aQ 90 c90:=aB func90 (by kernel_rfl)
def zl:ak:=(⟨_,by cbv⟩:N0 (gW [] 4 f92)).1
theorem Sl:dO (bX (.loop zl))=79218491107707420560146301316:=nr rfl
def zp:ak:=(⟨_,by cbv⟩:N0 (gW [] 2 f92)).1
theorem Hh:dO (bX (.loop zp))=9671406547909834142908516:=nr rfl
def zq:ak:=(⟨_,by cbv⟩:N0 (gW [] 0 f92)).1
theorem Hi:dO (bX (.loop zq))=9007199221186588:=nr rfl
def c92:aj:=(⟨fun x y z=>_,fun x y z=>by cbv⟩:N3 0 2 4 (gF [] false f92)).1 zq zp zl
theorem aAd:aQ 92 c92:=aB func92 (by kernel_rfl)
def zr:ak:=(⟨_,by cbv⟩:N0 (gW [] 6 f93)).1
theorem Hj:dO (bX (.loop zr))=20769028977814281985446798228985860:=nr rfl
def zt:ak:=(⟨_,by cbv⟩:N0 (gW [] 4 f93)).1
theorem Hk:dO (bX (.loop zt))=158456315583795709447797474820:=nr rfl
def zu:ak:=(⟨_,by cbv⟩:N0 (gW [] 2 f93)).1
theorem Hl:dO (bX (.loop zu))=9444732402789337006468:=nr rfl
def zw:ak:=(⟨_,by cbv⟩:N0 (gW [] 0 f93)).1
theorem Hm:dO (bX (.loop zw))=562949953159284:=nr rfl
def c93:aj:=(⟨fun x y z w=>_,fun x y z w=>by cbv⟩:N4 0 2 4 6 (gF [] false f93)).1 zw zu zt zr
theorem aAe:aQ 93 c93:=aB func93 (by kernel_rfl)
end Go.Proofs.YtnkgnjecmfkcfaaGreat
