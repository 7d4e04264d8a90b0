/- The codes of functions of the program, as the evaluator reads them: computed out of the model's functions; that each is what its compiler makes of the function. Conditions: none. -/
import Derived.Test.YtnkgnjecmfkcfaaGreatCoN
import Derived.KernelRfl
set_option maxRecDepth 100000
set_option maxHeartbeats 16000000
namespace Go.Proofs.YtnkgnjecmfkcfaaGreat
open Go Go.Ev Tryz
def zN:ak:=(⟨_,by cbv⟩:N0 (gW [] 0 f3)).1
theorem MY:eC (ch (.loop zN))=43556142965880123323311949469791371128848:=nr rfl
def c3:aj:=(⟨fun x=>_,fun x=>by cbv⟩:N1 0 (gF [] false f3)).1 zN
theorem kq3:aV 3 c3:=aC func3 (by kernel_rfl)
def C6:ak:=(⟨_,by cbv⟩:N0 (gW [] 0 f7)).1
theorem MZ:eC (ch (.loop C6))=34359737280:=nr rfl
def c7:aj:=(⟨fun x=>_,fun x=>by cbv⟩:N1 0 (gF [] false f7)).1 C6
theorem kq7:aV 7 c7:=aC func7 (by kernel_rfl)
def c8:aj:=(⟨_,by cbv⟩:N0 (gF [] false f8)).1
theorem kq8:aV 8 c8:=aC func8 (by kernel_rfl)
def c9:aj:=(⟨_,by cbv⟩:N0 (gF [] false f9)).1
theorem kq9:aV 9 c9:=aC func9 (by kernel_rfl)
def wo:ak:=(⟨_,by cbv⟩:N0 (gW [] 0 f10)).1
theorem Hi:eC (ch (.loop wo))=280925220904960:=nr rfl
def wh:aj:=(⟨fun x=>_,fun x=>by cbv⟩:N1 0 (gF [] false f10)).1 wo
theorem azm:aV 10 wh:=aC func10 (by kernel_rfl)
def yS:aj:=(⟨_,by cbv⟩:N0 (gF [] false f11)).1
theorem azn:aV 11 yS:=aC func11 (by kernel_rfl)
def Ce:aj:=(⟨_,by cbv⟩:N0 (gF [] false f12)).1
theorem azo:aV 12 Ce:=aC func12 (by kernel_rfl)
def c13:aj:=(⟨_,by cbv⟩:N0 (gF [] false f13)).1
theorem azp:aV 13 c13:=aC func13 (by kernel_rfl)
def c14:aj:=(⟨_,by cbv⟩:N0 (gF [] false f14)).1
theorem azq:aV 14 c14:=aC func14 (by kernel_rfl)
def zO:ak:=(⟨_,by cbv⟩:N0 (gW [] 0 f15)).1
def c15:aj:=(⟨fun x=>_,fun x=>by cbv⟩:N1 0 (gF [] false f15)).1 zO
theorem azr:aV 15 c15:=aC func15 (by kernel_rfl)
def c23:aj:=(⟨_,by cbv⟩:N0 (gF [] false f23)).1
theorem azs:aV 23 c23:=aC func23 (by kernel_rfl)
def jo:ak:=(⟨_,by cbv⟩:N0 (gW [] 0 f24)).1
theorem Hj:eC (ch (.loop jo))=2535301200456458802993398030128:=nr rfl
def c24:aj:=(⟨fun x=>_,fun x=>by cbv⟩:N1 0 (gF [] false f24)).1 jo
theorem azt:aV 24 c24:=aC func24 (by kernel_rfl)
def c25:aj:=(⟨_,by cbv⟩:N0 (gF [] false f25)).1
theorem azu:aV 25 c25:=aC func25 (by kernel_rfl)
def c26:aj:=(⟨_,by cbv⟩:N0 (gF [] false f26)).1
theorem azv:aV 26 c26:=aC func26 (by kernel_rfl)
def sI:ak:=(⟨_,by cbv⟩:N0 (gW [] 0 f27)).1
theorem Hk:eC (ch (.loop sI))=8388576:=nr rfl
def c27:aj:=(⟨fun x=>_,fun x=>by cbv⟩:N1 0 (gF [] false f27)).1 sI
theorem azw:aV 27 c27:=aC func27 (by kernel_rfl)
def om:ak:=(⟨_,by cbv⟩:N0 (gW [49,55,65] 4 f28)).1
theorem Hl:eC (ch (.loop om))=5444517870735015415266419766318616084480:=nr rfl
def wq:ak:=(⟨fun x=>_,fun x=>by cbv⟩:N1 4 (gW [49,55,65] 2 f28)).1 om
theorem Hm:eC (ch (.loop wq))=5444517870735015415413921661314255093760:=nr rfl
def wu:ak:=(⟨fun x=>_,fun x=>by cbv⟩:N1 2 (gW [49,55,65] 0 f28)).1 wq
theorem Hn:eC (ch (.loop wu))=10889035741470030830827986311916677988352:=nr rfl
def c28:aj:=(⟨fun x=>_,fun x=>by cbv⟩:N1 0 (gF [49,55,65] false f28)).1 wu
theorem azx:aV 28 c28:=codeOk (hs:=[49,55,65]) func28 (by kernel_rfl)
def mS:ak:=(⟨_,by cbv⟩:N0 (gW [] 0 f29)).1
theorem Ho:eC (ch (.loop mS))=9007199254737072:=nr rfl
def c29:aj:=(⟨fun x=>_,fun x=>by cbv⟩:N1 0 (gF [] false f29)).1 mS
theorem azy:aV 29 c29:=aC func29 (by kernel_rfl)
def bE:ak:=(⟨_,by cbv⟩:N0 (gW [99] 4 f30)).1
theorem Hp:eC (ch (.loop bE))=1298074214633706871103827067273220:=nr rfl
def sJ:ak:=(⟨fun x=>_,fun x=>by cbv⟩:N1 4 (gW [99] 2 f30)).1 bE
theorem zP:eC (ch (.loop sJ))=1298074214633706906569674132946948:=nr rfl
def wv:ak:=(⟨_,by cbv⟩:N0 (gW [99] 0 f30)).1
theorem Hq:eC (ch (.loop wv))=562400197705728:=nr rfl
def c30:aj:=(⟨fun x y=>_,fun x y=>by cbv⟩:N2 0 2 (gF [99] true f30)).1 wv sJ
theorem azz:aV 30 c30:=codeOk (hs:=[99]) func30 (by kernel_rfl)
def sL:ak:=(⟨_,by cbv⟩:N0 (gW [] 2 f31)).1
theorem Hr:eC (ch (.loop sL))=4294902144:=nr rfl
def wx:ak:=(⟨fun x=>_,fun x=>by cbv⟩:N1 2 (gW [] 0 f31)).1 sL
theorem Hs:eC (ch (.loop wx))=68719476704:=nr rfl
def c31:aj:=(⟨fun x=>_,fun x=>by cbv⟩:N1 0 (gF [] false f31)).1 wx
theorem azA:aV 31 c31:=aC func31 (by kernel_rfl)
def c32:aj:=(⟨_,by cbv⟩:N0 (gF [] false f32)).1
theorem azB:aV 32 c32:=aC func32 (by kernel_rfl)
def c33:aj:=(⟨_,by cbv⟩:N0 (gF [] false f33)).1
theorem azC:aV 33 c33:=aC func33 (by kernel_rfl)
def c34:aj:=(⟨_,by cbv⟩:N0 (gF [] false f34)).1
theorem azD:aV 34 c34:=aC func34 (by kernel_rfl)
def bG:ak:=(⟨_,by cbv⟩:N0 (gW [99,128,150,171] 1028 f35)).1
def jq:ak:=(⟨_,by cbv⟩:N0 (gW [99,128,150,171] 12 f35)).1
def jr:ak:=(⟨_,by cbv⟩:N0 (gW [99,128,150,171] 10 f35)).1
def js:ak:=(⟨_,by cbv⟩:N0 (gW [99,128,150,171] 8 f35)).1
def ko:ak:=(⟨fun x=>_,fun x=>by cbv⟩:N1 1028 (gW [99,128,150,171] 6 f35)).1 bG
def fN:ak:=(⟨_,by cbv⟩:N0 (gW [99,128,150,171] 4 f35)).1
def kq:ak:=(⟨_,by cbv⟩:N0 (gW [99,128,150,171] 2 f35)).1
def jt:ak:=(⟨_,by cbv⟩:N0 (gW [99,128,150,171] 0 f35)).1
def zQ:aj:=(⟨fun x y z w v u t=>_,fun x y z w v u t=>by cbv⟩:N7 0 2 4 6 8 10 12 (gF [99,128,150,171] false f35)).1 jt kq fN ko js jr jq
theorem azE:aV 35 zQ:=codeOk (hs:=[99,128,150,171]) func35 (by kernel_rfl)
def wy:ak:=(⟨_,by cbv⟩:N0 (gW [] 2 f36)).1
def sM:ak:=(⟨_,by cbv⟩:N0 (gW [] 0 f36)).1
theorem S6:eC (ch (.loop sM))=268173392:=nr rfl
def c36:aj:=(⟨fun x y=>_,fun x y=>by cbv⟩:N2 0 2 (gF [] false f36)).1 sM wy
theorem azF:aV 36 c36:=aC func36 (by kernel_rfl)
def M0:aj:=(⟨_,by cbv⟩:N0 (gF [] false f37)).1
theorem azG:aV 37 M0:=aC func37 (by kernel_rfl)
def c38:aj:=(⟨_,by cbv⟩:N0 (gF [] false f38)).1
theorem azH:aV 38 c38:=aC func38 (by kernel_rfl)
def wz:ak:=(⟨_,by cbv⟩:N0 (gW [] 2 f39)).1
theorem S7:eC (ch (.loop wz))=316912612278125487417014092560:=nr rfl
def zR:ak:=(⟨_,by cbv⟩:N0 (gW [] 0 f39)).1
def c39:aj:=(⟨fun x y=>_,fun x y=>by cbv⟩:N2 0 2 (gF [] false f39)).1 zR wz
theorem azI:aV 39 c39:=aC func39 (by kernel_rfl)
def zS:ak:=(⟨_,by cbv⟩:N0 (gW [] 0 f40)).1
def c40:aj:=(⟨fun x=>_,fun x=>by cbv⟩:N1 0 (gF [] false f40)).1 zS
theorem azJ:aV 40 c40:=aC func40 (by kernel_rfl)
def c41:aj:=(⟨_,by cbv⟩:N0 (gF [6] false f41)).1
theorem azK:aV 41 c41:=codeOk (hs:=[6]) func41 (by kernel_rfl)
def c42:aj:=(⟨_,by cbv⟩:N0 (gF [] false f42)).1
theorem azL:aV 42 c42:=aC func42 (by kernel_rfl)
def wD:ak:=(⟨_,by cbv⟩:N0 (gW [11] 0 f43)).1
theorem tL:eC (ch (.loop wD))=316912650057057350374175737792:=nr rfl
def c43:aj:=(⟨fun x=>_,fun x=>by cbv⟩:N1 0 (gF [11] false f43)).1 wD
theorem azM:aV 43 c43:=codeOk (hs:=[11]) func43 (by kernel_rfl)
def wE:ak:=(⟨_,by cbv⟩:N0 (gW [] 0 f44)).1
def c44:aj:=(⟨fun x=>_,fun x=>by cbv⟩:N1 0 (gF [] false f44)).1 wE
theorem azN:aV 44 c44:=aC func44 (by kernel_rfl)
def c45:aj:=(⟨_,by cbv⟩:N0 (gF [] false f45)).1
theorem azO:aV 45 c45:=aC func45 (by kernel_rfl)
def c46:aj:=(⟨_,by cbv⟩:N0 (gF [] false f46)).1
theorem azP:aV 46 c46:=aC func46 (by kernel_rfl)
def c52:aj:=(⟨_,by cbv⟩:N0 (gF [] false f52)).1
theorem azQ:aV 52 c52:=aC func52 (by kernel_rfl)
def c54:aj:=(⟨_,by cbv⟩:N0 (gF [] false f54)).1
theorem azR:aV 54 c54:=aC func54 (by kernel_rfl)
def ai0:ak:=(⟨_,by cbv⟩:N0 (gW [] 3 f55)).1
def ai2:ak:=(⟨_,by cbv⟩:N0 (gW [] 1 f55)).1
def c55:aj:=(⟨fun x y=>_,fun x y=>by cbv⟩:N2 1 3 (gF [] false f55)).1 ai2 ai0
theorem azS:aV 55 c55:=aC func55 (by kernel_rfl)
def ai3:ak:=(⟨_,by cbv⟩:N0 (gW [] 0 f56)).1
def c56:aj:=(⟨fun x=>_,fun x=>by cbv⟩:N1 0 (gF [] false f56)).1 ai3
theorem azU:aV 56 c56:=aC func56 (by kernel_rfl)
def oq:ak:=(⟨_,by cbv⟩:N0 (gW [] 0 f57)).1
theorem Ht:eC (ch (.loop oq))=18446726481523531776:=nr rfl
def c57:aj:=(⟨fun x=>_,fun x=>by cbv⟩:N1 0 (gF [] false f57)).1 oq
theorem azV:aV 57 c57:=aC func57 (by kernel_rfl)
def c63:aj:=(⟨_,by cbv⟩:N0 (gF [] false f63)).1
theorem azW:aV 63 c63:=aC func63 (by kernel_rfl)
def wF:ak:=(⟨_,by cbv⟩:N0 (gW [7,8] 0 f64)).1
theorem Hu:eC (ch (.loop wF))=18014398492712472:=nr rfl
def c64:aj:=(⟨fun x=>_,fun x=>by cbv⟩:N1 0 (gF [7,8] false f64)).1 wF
theorem azX:aV 64 c64:=codeOk (hs:=[7,8]) func64 (by kernel_rfl)
def sN:ak:=(⟨_,by cbv⟩:N0 (gW [] 2 f65)).1
theorem Hv:eC (ch (.loop sN))=81129483672101771023254642753672:=nr rfl
def sO:ak:=(⟨_,by cbv⟩:N0 (gW [] 0 f65)).1
theorem Hw:eC (ch (.loop sO))=77371104881383677504782376:=nr rfl
def c65:aj:=(⟨fun x y=>_,fun x y=>by cbv⟩:N2 0 2 (gF [] false f65)).1 sO sN
theorem azY:aV 65 c65:=aC func65 (by kernel_rfl)
def wG:ak:=(⟨_,by cbv⟩:N0 (gW [] 0 f66)).1
theorem Hy:eC (ch (.loop wG))=8589903360:=nr rfl
def c66:aj:=(⟨fun x=>_,fun x=>by cbv⟩:N1 0 (gF [] false f66)).1 wG
theorem azZ:aV 66 c66:=aC func66 (by kernel_rfl)
def c67:aj:=(⟨_,by cbv⟩:N0 (gF [] false f67)).1
theorem az0:aV 67 c67:=aC func67 (by kernel_rfl)
def c68:aj:=(⟨_,by cbv⟩:N0 (gF [] false f68)).1
theorem az1:aV 68 c68:=aC func68 (by kernel_rfl)
def c69:aj:=(⟨_,by cbv⟩:N0 (gF [] false f69)).1
theorem az2:aV 69 c69:=aC func69 (by kernel_rfl)
def wH:ak:=(⟨_,by cbv⟩:N0 (gW [] 5 f70)).1
theorem S8:eC (ch (.loop wH))=81129635996755042466530655738884:=nr rfl
def wI:ak:=(⟨_,by cbv⟩:N0 (gW [] 2 f70)).1
theorem Hz:eC (ch (.loop wI))=302231436889258784195076:=nr rfl
def wJ:ak:=(⟨_,by cbv⟩:N0 (gW [] 0 f70)).1
theorem HA:eC (ch (.loop wJ))=1125891316908132:=nr rfl
def c70:aj:=(⟨fun x y z=>_,fun x y z=>by cbv⟩:N3 0 2 5 (gF [] false f70)).1 wJ wI wH
theorem az3:aV 70 c70:=aC func70 (by kernel_rfl)
def zU:ak:=(⟨_,by cbv⟩:N0 (gW [] 8 f71)).1
theorem HC:eC (ch (.loop zU))=41528233663476795193031997011263492:=nr rfl
def zV:ak:=(⟨_,by cbv⟩:N0 (gW [] 6 f71)).1
theorem HD:eC (ch (.loop zV))=1267611914602001733363113000964:=nr rfl
def zW:ak:=(⟨_,by cbv⟩:N0 (gW [] 4 f71)).1
theorem HE:eC (ch (.loop zW))=4835555704505927022460932:=nr rfl
def zX:ak:=(⟨_,by cbv⟩:N0 (gW [] 2 f71)).1
theorem HF:eC (ch (.loop zX))=2251524935779204:=nr rfl
def zY:ak:=(⟨fun x=>_,fun x=>by cbv⟩:N1 2 (gW [] 0 f71)).1 zX
theorem HG:eC (ch (.loop zY))=2305843000623763428:=nr rfl
def c71:aj:=(⟨fun x y z w=>_,fun x y z w=>by cbv⟩:N4 0 4 6 8 (gF [] false f71)).1 zY zW zV zU
theorem az4:aV 71 c71:=aC func71 (by kernel_rfl)
def wK:ak:=(⟨_,by cbv⟩:N0 (gW [12,13,15,48] 4 f72)).1
theorem jN:eC (ch (.loop wK))=590259781561686689280:=nr rfl
def ju:ak:=(⟨fun x=>_,fun x=>by cbv⟩:N1 4 (gW [12,13,15,48] 2 f72)).1 wK
theorem S9:eC (ch (.loop ju))=1180591611921318283008:=nr rfl
def sP:ak:=(⟨_,by cbv⟩:N0 (gW [12,13,15,48] 0 f72)).1
theorem Ta:eC (ch (.loop sP))=8796092760304:=nr rfl
def c72:aj:=(⟨fun x y=>_,fun x y=>by cbv⟩:N2 0 2 (gF [12,13,15,48] true f72)).1 sP ju
theorem az5:aV 72 c72:=codeOk (hs:=[12,13,15,48]) func72 (by kernel_rfl)
def ot:ak:=(⟨_,by cbv⟩:N0 (gW [] 1 f73)).1
theorem Td:eC (ch (.loop ot))=604426016319167168252928:=nr rfl
def HH:aj:=(⟨fun x=>_,fun x=>by cbv⟩:N1 1 (gF [] true f73)).1 ot
theorem az6:aV 73 HH:=aC func73 (by kernel_rfl)
def sQ:ak:=(⟨_,by cbv⟩:N0 (gW [] 0 f74)).1
def c74:aj:=(⟨fun x=>_,fun x=>by cbv⟩:N1 0 (gF [] false f74)).1 sQ
theorem az7:aV 74 c74:=aC func74 (by kernel_rfl)
def c75:aj:=(⟨_,by cbv⟩:N0 (gF [] false f75)).1
theorem az8:aV 75 c75:=aC func75 (by kernel_rfl)
def c77:aj:=(⟨_,by cbv⟩:N0 (gF [] false f77)).1
theorem az9:aV 77 c77:=aC func77 (by kernel_rfl)
def zZ:ak:=(⟨_,by cbv⟩:N0 (gW [] 0 f78)).1
theorem Te:eC (ch (.loop zZ))=17592186011676:=nr rfl
def c78:aj:=(⟨fun x=>_,fun x=>by cbv⟩:N1 0 (gF [] false f78)).1 zZ
theorem aAa:aV 78 c78:=aC func78 (by kernel_rfl)
def ai7:ak:=(⟨_,by cbv⟩:N0 (gW [] 3 f79)).1
def ai8:ak:=(⟨fun x=>_,fun x=>by cbv⟩:N1 3 (gW [] 1 f79)).1 ai7
def c79:aj:=(⟨fun x=>_,fun x=>by cbv⟩:N1 1 (gF [] false f79)).1 ai8
theorem aAc:aV 79 c79:=aC func79 (by kernel_rfl)
def c80:aj:=(⟨_,by cbv⟩:N0 (gF [] true f80)).1
theorem aAd:aV 80 c80:=aC func80 (by kernel_rfl)
def c81:aj:=(⟨_,by cbv⟩:N0 (gF [] false f81)).1
theorem aAe:aV 81 c81:=aC func81 (by kernel_rfl)
def c82:aj:=(⟨_,by cbv⟩:N0 (gF [] false f82)).1
theorem aAf:aV 82 c82:=aC func82 (by kernel_rfl)
def qe:ak:=(⟨_,by cbv⟩:N0 (gW [] 1 f83)).1
def C7:aj:=(⟨fun x=>_,fun x=>by cbv⟩:N1 1 (gF [] false f83)).1 qe
theorem aAg:aV 83 C7:=aC func83 (by kernel_rfl)
def wL:ak:=(⟨_,by cbv⟩:N0 (gW [] 0 f84)).1
theorem HI:eC (ch (.loop wL))=33547265:=nr rfl
def c84:aj:=(⟨fun x=>_,fun x=>by cbv⟩:N1 0 (gF [] false f84)).1 wL
theorem aAh:aV 84 c84:=aC func84 (by kernel_rfl)
def sS:ak:=(⟨_,by cbv⟩:N0 (gW [] 0 f85)).1
theorem HJ:eC (ch (.loop sS))=35184371041152:=nr rfl
def c85:aj:=(⟨fun x=>_,fun x=>by cbv⟩:N1 0 (gF [] false f85)).1 sS
theorem aAi:aV 85 c85:=aC func85 (by kernel_rfl)
def c87:aj:=(⟨_,by cbv⟩:N0 (gF [] false f87)).1
theorem aAj:aV 87 c87:=aC func87 (by kernel_rfl)
end Go.Proofs.YtnkgnjecmfkcfaaGreat
