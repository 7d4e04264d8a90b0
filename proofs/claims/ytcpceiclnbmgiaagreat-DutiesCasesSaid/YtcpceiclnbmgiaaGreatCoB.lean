/- The codes of functions of the program, as the evaluator reads them: computed out of the model's functions; that each is what its compiler makes of the function. Conditions: none. -/
import Derived.Test.YtcpceiclnbmgiaaGreatCoN
import Derived.KernelRfl
set_option maxRecDepth 100000
set_option maxHeartbeats 16000000
namespace Go.Proofs.YtcpceiclnbmgiaaGreat
open Go Go.Ev Tryz
def E5:ak:=(⟨_,by cbv⟩:N0 (gW [] 10 f80)).1
def E6:ak:=(⟨_,by cbv⟩:N0 (gW [] 8 f80)).1
def E7:ak:=(⟨_,by cbv⟩:N0 (gW [] 6 f80)).1
def E8:ak:=(⟨fun x=>_,fun x=>by cbv⟩:N1 6 (gW [] 4 f80)).1 E7
def E9:ak:=(⟨_,by cbv⟩:N0 (gW [] 2 f80)).1
def Fa:ak:=(⟨fun x=>_,fun x=>by cbv⟩:N1 2 (gW [] 0 f80)).1 E9
def c80:ai:=(⟨fun x y z w=>_,fun x y z w=>by cbv⟩:N4 0 4 8 10 (gF [] false f80)).1 Fa E8 E6 E5
theorem aCl:aW 80 c80:=aD func80 (by kernel_rfl)
def c81:ai:=(⟨_,by cbv⟩:N0 (gF [] false f81)).1
theorem aCm:aW 81 c81:=aD func81 (by kernel_rfl)
def c82:ai:=(⟨_,by cbv⟩:N0 (gF [] false f82)).1
theorem aCn:aW 82 c82:=aD func82 (by kernel_rfl)
def c83:ai:=(⟨_,by cbv⟩:N0 (gF [] false f83)).1
theorem aCo:aW 83 c83:=aD func83 (by kernel_rfl)
def AO:ak:=(⟨_,by cbv⟩:N0 (gW [] 0 f84)).1
def c84:ai:=(⟨fun x=>_,fun x=>by cbv⟩:N1 0 (gF [] false f84)).1 AO
theorem aCp:aW 84 c84:=aD func84 (by kernel_rfl)
def Fb:ak:=(⟨_,by cbv⟩:N0 (gW [] 0 f85)).1
def c85:ai:=(⟨fun x=>_,fun x=>by cbv⟩:N1 0 (gF [] false f85)).1 Fb
theorem aCq:aW 85 c85:=aD func85 (by kernel_rfl)
def Fc:ak:=(⟨_,by cbv⟩:N0 (gW [] 1 f86)).1
def c86:ai:=(⟨fun x=>_,fun x=>by cbv⟩:N1 1 (gF [] false f86)).1 Fc
theorem aCr:aW 86 c86:=aD func86 (by kernel_rfl)
def c87:ai:=(⟨_,by cbv⟩:N0 (gF [] false f87)).1
theorem aCs:aW 87 c87:=aD func87 (by kernel_rfl)
def Fe:ak:=(⟨_,by cbv⟩:N0 (gW [] 3 f88)).1
def Ff:ak:=(⟨_,by cbv⟩:N0 (gW [] 1 f88)).1
def c88:ai:=(⟨fun x y=>_,fun x y=>by cbv⟩:N2 1 3 (gF [] false f88)).1 Ff Fe
theorem aCt:aW 88 c88:=aD func88 (by kernel_rfl)
def wz:ak:=(⟨_,by cbv⟩:N0 (gW [9,10,12] 0 f89)).1
def c89:ai:=(⟨fun x=>_,fun x=>by cbv⟩:N1 0 (gF [9,10,12] true f89)).1 wz
theorem aCu:aW 89 c89:=codeOk (hs:=[9,10,12]) func89 (by kernel_rfl)
def c90:ai:=(⟨_,by cbv⟩:N0 (gF [] false f90)).1
theorem aCv:aW 90 c90:=aD func90 (by kernel_rfl)
def c91:ai:=(⟨_,by cbv⟩:N0 (gF [] true f91)).1
theorem aCw:aW 91 c91:=aD func91 (by kernel_rfl)
def c92:ai:=(⟨_,by cbv⟩:N0 (gF [] true f92)).1
theorem aCx:aW 92 c92:=aD func92 (by kernel_rfl)
def ajV:ak:=(⟨_,by cbv⟩:N0 (gW [] 3 f93)).1
def ajW:ak:=(⟨fun x=>_,fun x=>by cbv⟩:N1 3 (gW [] 1 f93)).1 ajV
def c93:ai:=(⟨fun x=>_,fun x=>by cbv⟩:N1 1 (gF [] false f93)).1 ajW
theorem aCz:aW 93 c93:=aD func93 (by kernel_rfl)
def c94:ai:=(⟨_,by cbv⟩:N0 (gF [] true f94)).1
theorem aCA:aW 94 c94:=aD func94 (by kernel_rfl)
def Tg:ak:=(⟨_,by cbv⟩:N0 (gW [10] 0 f95)).1
def c95:ai:=(⟨fun x=>_,fun x=>by cbv⟩:N1 0 (gF [10] true f95)).1 Tg
theorem aCB:aW 95 c95:=codeOk (hs:=[10]) func95 (by kernel_rfl)
def c96:ai:=(⟨_,by cbv⟩:N0 (gF [] true f96)).1
theorem aCC:aW 96 c96:=aD func96 (by kernel_rfl)
def c97:ai:=(⟨_,by cbv⟩:N0 (gF [] false f97)).1
theorem aCD:aW 97 c97:=aD func97 (by kernel_rfl)
def wD:ak:=(⟨_,by cbv⟩:N0 (gW [] 0 f98)).1
def c98:ai:=(⟨fun x=>_,fun x=>by cbv⟩:N1 0 (gF [] false f98)).1 wD
theorem aCE:aW 98 c98:=aD func98 (by kernel_rfl)
def c99:ai:=(⟨_,by cbv⟩:N0 (gF [] false f99)).1
theorem aCF:aW 99 c99:=aD func99 (by kernel_rfl)
def Th:ai:=(⟨_,by cbv⟩:N0 (gF [] false f100)).1
theorem aqv:aW 100 Th:=aD func100 (by kernel_rfl)
def ue:ak:=(⟨_,by cbv⟩:N0 (gW [] 0 f101)).1
def Ti:ai:=(⟨fun x=>_,fun x=>by cbv⟩:N1 0 (gF [] false f101)).1 ue
theorem aqw:aW 101 Ti:=aD func101 (by kernel_rfl)
def rF:ak:=(⟨_,by cbv⟩:N0 (gW [] 0 f102)).1
def Tj:ai:=(⟨fun x=>_,fun x=>by cbv⟩:N1 0 (gF [] false f102)).1 rF
theorem aqx:aW 102 Tj:=aD func102 (by kernel_rfl)
def lC:ak:=(⟨_,by cbv⟩:N0 (gW [] 6 f103)).1
def mM:ak:=(⟨_,by cbv⟩:N0 (gW [] 4 f103)).1
def mN:ak:=(⟨_,by cbv⟩:N0 (gW [] 2 f103)).1
def mO:ak:=(⟨_,by cbv⟩:N0 (gW [] 0 f103)).1
def Tl:ai:=(⟨fun x y z w=>_,fun x y z w=>by cbv⟩:N4 0 2 4 6 (gF [] false f103)).1 mO mN mM lC
theorem aqy:aW 103 Tl:=aD func103 (by kernel_rfl)
def yQ:ak:=(⟨_,by cbv⟩:N0 (gW [] 4 f104)).1
def yR:ak:=(⟨_,by cbv⟩:N0 (gW [] 2 f104)).1
def yS:ak:=(⟨_,by cbv⟩:N0 (gW [] 0 f104)).1
def PI:ai:=(⟨fun x y z=>_,fun x y z=>by cbv⟩:N3 0 2 4 (gF [] false f104)).1 yS yR yQ
theorem aqz:aW 104 PI:=aD func104 (by kernel_rfl)
def yU:ak:=(⟨_,by cbv⟩:N0 (gW [] 6 f105)).1
def yV:ak:=(⟨_,by cbv⟩:N0 (gW [] 4 f105)).1
def yW:ak:=(⟨_,by cbv⟩:N0 (gW [] 2 f105)).1
def yX:ak:=(⟨_,by cbv⟩:N0 (gW [] 0 f105)).1
def KW:ai:=(⟨fun x y z w=>_,fun x y z w=>by cbv⟩:N4 0 2 4 6 (gF [] false f105)).1 yX yW yV yU
theorem aqA:aW 105 KW:=aD func105 (by kernel_rfl)
def Fg:ai:=(⟨_,by cbv⟩:N0 (gF [] false f106)).1
theorem aqB:aW 106 Fg:=aD func106 (by kernel_rfl)
def aqC:ai:=(⟨_,by cbv⟩:N0 (gF [] false f108)).1
theorem aqD:aW 108 aqC:=aD func108 (by kernel_rfl)
def Tm:ai:=(⟨_,by cbv⟩:N0 (gF [] false f109)).1
theorem aqE:aW 109 Tm:=aD func109 (by kernel_rfl)
def Tn:ai:=(⟨_,by cbv⟩:N0 (gF [] false f110)).1
theorem aqF:aW 110 Tn:=aD func110 (by kernel_rfl)
def PJ:ai:=(⟨_,by cbv⟩:N0 (gF [] false f111)).1
theorem aqG:aW 111 PJ:=aD func111 (by kernel_rfl)
def HQ:ai:=(⟨_,by cbv⟩:N0 (gF [] false f112)).1
theorem aqH:aW 112 HQ:=aD func112 (by kernel_rfl)
def uf:ai:=(⟨_,by cbv⟩:N0 (gF [] false f113)).1
theorem aqI:aW 113 uf:=aD func113 (by kernel_rfl)
def rG:ak:=(⟨_,by cbv⟩:N0 (gW [] 0 f114)).1
def PK:ai:=(⟨fun x=>_,fun x=>by cbv⟩:N1 0 (gF [] false f114)).1 rG
theorem aqJ:aW 114 PK:=aD func114 (by kernel_rfl)
def To:ai:=(⟨_,by cbv⟩:N0 (gF [] false f115)).1
theorem aqK:aW 115 To:=aD func115 (by kernel_rfl)
def rH:ak:=(⟨_,by cbv⟩:N0 (gW [] 0 f116)).1
def Tp:ai:=(⟨fun x=>_,fun x=>by cbv⟩:N1 0 (gF [] false f116)).1 rH
theorem aqL:aW 116 Tp:=aD func116 (by kernel_rfl)
def Tq:ai:=(⟨_,by cbv⟩:N0 (gF [] false f117)).1
theorem aqM:aW 117 Tq:=aD func117 (by kernel_rfl)
def Ts:ai:=(⟨_,by cbv⟩:N0 (gF [] false f118)).1
theorem aqN:aW 118 Ts:=aD func118 (by kernel_rfl)
def aqO:ai:=(⟨_,by cbv⟩:N0 (gF [] false f119)).1
theorem aqP:aW 119 aqO:=aD func119 (by kernel_rfl)
def aqQ:ai:=(⟨_,by cbv⟩:N0 (gF [] false f120)).1
theorem aqR:aW 120 aqQ:=aD func120 (by kernel_rfl)
def aqS:ai:=(⟨_,by cbv⟩:N0 (gF [] false f121)).1
theorem aqT:aW 121 aqS:=aD func121 (by kernel_rfl)
def Tu:ai:=(⟨_,by cbv⟩:N0 (gF [] false f122)).1
theorem aqU:aW 122 Tu:=aD func122 (by kernel_rfl)
def aqV:ai:=(⟨_,by cbv⟩:N0 (gF [] true f123)).1
theorem aqW:aW 123 aqV:=aD func123 (by kernel_rfl)
def Tv:ai:=(⟨_,by cbv⟩:N0 (gF [] false f124)).1
theorem aqX:aW 124 Tv:=aD func124 (by kernel_rfl)
def PL:ai:=(⟨_,by cbv⟩:N0 (gF [] false f125)).1
theorem aqY:aW 125 PL:=aD func125 (by kernel_rfl)
def ajY:ai:=(⟨_,by cbv⟩:N0 (gF [8] false f126)).1
theorem aqZ:aW 126 ajY:=codeOk (hs:=[8]) func126 (by kernel_rfl)
def HR:ai:=(⟨_,by cbv⟩:N0 (gF [] false f127)).1
theorem aq0:aW 127 HR:=aD func127 (by kernel_rfl)
def Tw:ai:=(⟨_,by cbv⟩:N0 (gF [] false f128)).1
theorem aq1:aW 128 Tw:=aD func128 (by kernel_rfl)
def Tx:ai:=(⟨_,by cbv⟩:N0 (gF [] false f129)).1
theorem aq2:aW 129 Tx:=aD func129 (by kernel_rfl)
def Ty:ai:=(⟨_,by cbv⟩:N0 (gF [] false f130)).1
theorem aq3:aW 130 Ty:=aD func130 (by kernel_rfl)
def ajZ:ai:=(⟨_,by cbv⟩:N0 (gF [] false f131)).1
theorem aq4:aW 131 ajZ:=aD func131 (by kernel_rfl)
def yY:ak:=(⟨_,by cbv⟩:N0 (gW [] 8 f132)).1
def yZ:ak:=(⟨_,by cbv⟩:N0 (gW [] 6 f132)).1
def zd:ak:=(⟨fun x y=>_,fun x y=>by cbv⟩:N2 6 8 (gW [] 4 f132)).1 yZ yY
def ze:ak:=(⟨_,by cbv⟩:N0 (gW [] 2 f132)).1
def zg:ak:=(⟨fun x=>_,fun x=>by cbv⟩:N1 2 (gW [] 0 f132)).1 ze
def Tz:ai:=(⟨fun x y=>_,fun x y=>by cbv⟩:N2 0 4 (gF [] false f132)).1 zg zd
theorem aq5:aW 132 Tz:=aD func132 (by kernel_rfl)
def zh:ak:=(⟨_,by cbv⟩:N0 (gW [] 0 f133)).1
def PM:ai:=(⟨fun x=>_,fun x=>by cbv⟩:N1 0 (gF [] false f133)).1 zh
theorem aq6:aW 133 PM:=aD func133 (by kernel_rfl)
def TA:ai:=(⟨_,by cbv⟩:N0 (gF [] false f134)).1
theorem aq7:aW 134 TA:=aD func134 (by kernel_rfl)
def TB:ai:=(⟨_,by cbv⟩:N0 (gF [] false f135)).1
theorem aq8:aW 135 TB:=aD func135 (by kernel_rfl)
def zi:ak:=(⟨_,by cbv⟩:N0 (gW [] 0 f136)).1
def PN:ai:=(⟨fun x=>_,fun x=>by cbv⟩:N1 0 (gF [] false f136)).1 zi
theorem aq9:aW 136 PN:=aD func136 (by kernel_rfl)
def TC:ai:=(⟨_,by cbv⟩:N0 (gF [] false f137)).1
theorem ara:aW 137 TC:=aD func137 (by kernel_rfl)
def ug:ak:=(⟨_,by cbv⟩:N0 (gW [] 0 f138)).1
def TD:ai:=(⟨fun x=>_,fun x=>by cbv⟩:N1 0 (gF [] false f138)).1 ug
theorem arb:aW 138 TD:=aD func138 (by kernel_rfl)
def uh:ak:=(⟨_,by cbv⟩:N0 (gW [] 0 f139)).1
def TE:ai:=(⟨fun x=>_,fun x=>by cbv⟩:N1 0 (gF [] false f139)).1 uh
theorem arc:aW 139 TE:=aD func139 (by kernel_rfl)
def TF:ai:=(⟨_,by cbv⟩:N0 (gF [] false f140)).1
theorem ard:aW 140 TF:=aD func140 (by kernel_rfl)
def aj0:ai:=(⟨_,by cbv⟩:N0 (gF [3] false f141)).1
theorem are:aW 141 aj0:=codeOk (hs:=[3]) func141 (by kernel_rfl)
def ui:ak:=(⟨_,by cbv⟩:N0 (gW [] 3 f142)).1
def uj:ak:=(⟨_,by cbv⟩:N0 (gW [] 0 f142)).1
def TG:ai:=(⟨fun x y=>_,fun x y=>by cbv⟩:N2 0 3 (gF [] false f142)).1 uj ui
theorem arf:aW 142 TG:=aD func142 (by kernel_rfl)
def TH:ai:=(⟨_,by cbv⟩:N0 (gF [] false f143)).1
theorem arh:aW 143 TH:=aD func143 (by kernel_rfl)
def KX:ai:=(⟨_,by cbv⟩:N0 (gF [] false f144)).1
theorem ari:aW 144 KX:=aD func144 (by kernel_rfl)
def TI:ai:=(⟨_,by cbv⟩:N0 (gF [] false f145)).1
theorem arj:aW 145 TI:=aD func145 (by kernel_rfl)
def PO:ai:=(⟨_,by cbv⟩:N0 (gF [] true f146)).1
theorem ark:aW 146 PO:=aD func146 (by kernel_rfl)
def TJ:ai:=(⟨_,by cbv⟩:N0 (gF [] false f147)).1
theorem arl:aW 147 TJ:=aD func147 (by kernel_rfl)
def TK:ai:=(⟨_,by cbv⟩:N0 (gF [] false f148)).1
theorem arn:aW 148 TK:=aD func148 (by kernel_rfl)
def mP:ak:=(⟨_,by cbv⟩:N0 (gW [] 0 f149)).1
def TL:ai:=(⟨fun x=>_,fun x=>by cbv⟩:N1 0 (gF [] false f149)).1 mP
theorem aro:aW 149 TL:=aD func149 (by kernel_rfl)
def uk:ak:=(⟨_,by cbv⟩:N0 (gW [] 0 f150)).1
def PQ:ai:=(⟨fun x=>_,fun x=>by cbv⟩:N1 0 (gF [] false f150)).1 uk
theorem arp:aW 150 PQ:=aD func150 (by kernel_rfl)
def zj:ak:=(⟨_,by cbv⟩:N0 (gW [] 0 f151)).1
def TM:ai:=(⟨fun x=>_,fun x=>by cbv⟩:N1 0 (gF [] false f151)).1 zj
theorem arq:aW 151 TM:=aD func151 (by kernel_rfl)
def PR:ai:=(⟨_,by cbv⟩:N0 (gF [] false f152)).1
theorem art:aW 152 PR:=aD func152 (by kernel_rfl)
def zk:ak:=(⟨_,by cbv⟩:N0 (gW [] 0 f153)).1
def TN:ai:=(⟨fun x=>_,fun x=>by cbv⟩:N1 0 (gF [] false f153)).1 zk
theorem aru:aW 153 TN:=aD func153 (by kernel_rfl)
def zl:ak:=(⟨_,by cbv⟩:N0 (gW [] 0 f154)).1
def PS:ai:=(⟨fun x=>_,fun x=>by cbv⟩:N1 0 (gF [] false f154)).1 zl
theorem arv:aW 154 PS:=aD func154 (by kernel_rfl)
def zp:ak:=(⟨_,by cbv⟩:N0 (gW [] 0 f155)).1
def TO:ai:=(⟨fun x=>_,fun x=>by cbv⟩:N1 0 (gF [] false f155)).1 zp
theorem arw:aW 155 TO:=aD func155 (by kernel_rfl)
def aj1:ai:=(⟨_,by cbv⟩:N0 (gF [] false f156)).1
theorem arx:aW 156 aj1:=aD func156 (by kernel_rfl)
def TP:ai:=(⟨_,by cbv⟩:N0 (gF [] false f157)).1
theorem ary:aW 157 TP:=aD func157 (by kernel_rfl)
def KY:ai:=(⟨_,by cbv⟩:N0 (gF [] false f158)).1
theorem arz:aW 158 KY:=aD func158 (by kernel_rfl)
def TQ:ai:=(⟨_,by cbv⟩:N0 (gF [] false f159)).1
theorem arA:aW 159 TQ:=aD func159 (by kernel_rfl)
def TR:ai:=(⟨_,by cbv⟩:N0 (gF [] false f160)).1
theorem arC:aW 160 TR:=aD func160 (by kernel_rfl)
def TS:ai:=(⟨_,by cbv⟩:N0 (gF [] false f161)).1
theorem arD:aW 161 TS:=aD func161 (by kernel_rfl)
def sx:ai:=(⟨_,by cbv⟩:N0 (gF [] false f162)).1
theorem arE:aW 162 sx:=aD func162 (by kernel_rfl)
def KZ:ai:=(⟨_,by cbv⟩:N0 (gF [] false f163)).1
theorem arF:aW 163 KZ:=aD func163 (by kernel_rfl)
def TT:ai:=(⟨_,by cbv⟩:N0 (gF [] false f164)).1
theorem arG:aW 164 TT:=aD func164 (by kernel_rfl)
def iu:ak:=(⟨_,by cbv⟩:N0 (gW [] 2 f165)).1
def j6:ak:=(⟨fun x=>_,fun x=>by cbv⟩:N1 2 (gW [] 0 f165)).1 iu
def PT:ai:=(⟨fun x=>_,fun x=>by cbv⟩:N1 0 (gF [] false f165)).1 j6
theorem arH:aW 165 PT:=aD func165 (by kernel_rfl)
def rI:ak:=(⟨_,by cbv⟩:N0 (gW [] 0 f166)).1
def TU:ai:=(⟨fun x=>_,fun x=>by cbv⟩:N1 0 (gF [] false f166)).1 rI
theorem arI:aW 166 TU:=aD func166 (by kernel_rfl)
def TV:ai:=(⟨_,by cbv⟩:N0 (gF [] false f167)).1
theorem arJ:aW 167 TV:=aD func167 (by kernel_rfl)
end Go.Proofs.YtcpceiclnbmgiaaGreat
