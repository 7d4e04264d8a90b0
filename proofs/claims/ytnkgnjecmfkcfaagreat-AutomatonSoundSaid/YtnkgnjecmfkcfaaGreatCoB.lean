/- The codes of functions of the program, as the evaluator reads them: computed out of the model's functions; that each is what its compiler makes of the function. Conditions: none. -/
import Derived.Test.YtnkgnjecmfkcfaaGreatCoN
set_option maxRecDepth 100000
set_option maxHeartbeats 16000000
set_option linter.all false
namespace Go.Proofs.YtnkgnjecmfkcfaaGreat
open Go Go.Ev Tryz
def Bp:ak:=(⟨_,by cbv⟩:N0 (gW [] 4 f92)).1
def Vv:dR (bO (.loop Bp))=79218491107707420560146301316:=nr rfl
def Bq:ak:=(⟨_,by cbv⟩:N0 (gW [] 2 f92)).1
theorem Ju:dR (bO (.loop Bq))=9671406547909834142908516:=nr rfl
def Br:ak:=(⟨_,by cbv⟩:N0 (gW [] 0 f92)).1
theorem Jv:dR (bO (.loop Br))=9007199221186588:=nr rfl
def c92:ai:=(⟨fun x y z=>_,fun x y z=>by cbv⟩:N3 0 2 4 (gF [] false f92)).1 Br Bq Bp
def aFH:aL 92 c92:=aB func92
def Bs:ak:=(⟨_,by cbv⟩:N0 (gW [] 6 f93)).1
theorem Jw:dR (bO (.loop Bs))=20769028977814281985446798228985860:=nr rfl
def Bt:ak:=(⟨_,by cbv⟩:N0 (gW [] 4 f93)).1
theorem Jx:dR (bO (.loop Bt))=158456315583795709447797474820:=nr rfl
def Bu:ak:=(⟨_,by cbv⟩:N0 (gW [] 2 f93)).1
theorem Jy:dR (bO (.loop Bu))=9444732402789337006468:=nr rfl
def Bv:ak:=(⟨_,by cbv⟩:N0 (gW [] 0 f93)).1
theorem Jz:dR (bO (.loop Bv))=562949953159284:=nr rfl
def c93:ai:=(⟨fun x y z w=>_,fun x y z w=>by cbv⟩:N4 0 2 4 6 (gF [] false f93)).1 Bv Bu Bt Bs
def aFI:aL 93 c93:=aB func93
def Bw:ak:=(⟨_,by cbv⟩:N0 (gW [] 0 f96)).1
def Vw:dR (bO (.loop Bw))=4398046248972:=nr rfl
def c96:ai:=(⟨fun x=>_,fun x=>by cbv⟩:N1 0 (gF [] false f96)).1 Bw
def aFJ:aL 96 c96:=aB func96
def c97:ai:=(⟨_,by cbv⟩:N0 (gF [] false f97)).1
def aFK:aL 97 c97:=aB func97
def tR:ak:=(⟨_,by cbv⟩:N0 (gW [] 0 f98)).1
def c98:ai:=(⟨fun x=>_,fun x=>by cbv⟩:N1 0 (gF [] false f98)).1 tR
def aFL:aL 98 c98:=aB func98
def xY:ak:=(⟨_,by cbv⟩:N0 (gW [] 0 f99)).1
def c99:ai:=(⟨fun x=>_,fun x=>by cbv⟩:N1 0 (gF [] false f99)).1 xY
def aFM:aL 99 c99:=aB func99
def Vx:ai:=(⟨_,by cbv⟩:N0 (gF [] false f100)).1
def asY:aL 100 Vx:=aB func100
def asZ:ai:=(⟨_,by cbv⟩:N0 (gF [] false f101)).1
def as0:aL 101 asZ:=aB func101
def amz:ai:=(⟨_,by cbv⟩:N0 (gF [] false f102)).1
def as1:aL 102 amz:=aB func102
def pc:ak:=(⟨_,by cbv⟩:N0 (gW [] 0 f103)).1
def RE:dR (bO (.loop pc))=590295792766519607472:=nr rfl
def qv:ai:=(⟨fun x=>_,fun x=>by cbv⟩:N1 0 (gF [] false f103)).1 pc
def as2:aL 103 qv:=aB func103
def Mz:ai:=(⟨_,by cbv⟩:N0 (gF [] false f104)).1
def as3:aL 104 Mz:=aB func104
def rO:ak:=(⟨_,by cbv⟩:N0 (gW [] 0 f105)).1
def RF:ai:=(⟨fun x=>_,fun x=>by cbv⟩:N1 0 (gF [] false f105)).1 rO
def as4:aL 105 RF:=aB func105
def mK:ak:=(⟨_,by cbv⟩:N0 (gW [] 0 f106)).1
def RG:ai:=(⟨fun x=>_,fun x=>by cbv⟩:N1 0 (gF [] false f106)).1 mK
def as5:aL 106 RG:=aB func106
def uI:ak:=(⟨_,by cbv⟩:N0 (gW [] 1 f107)).1
def RH:dR (bO (.loop uI))=309484419525534710019129728:=nr rfl
def qO:ai:=(⟨fun x=>_,fun x=>by cbv⟩:N1 1 (gF [] false f107)).1 uI
def as6:aL 107 qO:=aB func107
def RI:ai:=(⟨_,by cbv⟩:N0 (gF [] false f112)).1
def as7:aL 112 RI:=aB func112
def Vy:ai:=(⟨_,by cbv⟩:N0 (gF [] false f113)).1
def as8:aL 113 Vy:=aB func113
def rP:ak:=(⟨_,by cbv⟩:N0 (gW [] 0 f114)).1
def Vz:ai:=(⟨fun x=>_,fun x=>by cbv⟩:N1 0 (gF [] false f114)).1 rP
def as9:aL 114 Vz:=aB func114
def pd:ak:=(⟨_,by cbv⟩:N0 (gW [] 2 f115)).1
def Eu:dR (bO (.loop pd))=4503591037436128:=nr rfl
def pe:ak:=(⟨_,by cbv⟩:N0 (gW [] 0 f115)).1
def Ew:dR (bO (.loop pe))=8589932572:=nr rfl
def VA:ai:=(⟨fun x y=>_,fun x y=>by cbv⟩:N2 0 2 (gF [] false f115)).1 pe pd
def ata:aL 115 VA:=aB func115
def adM:ak:=(⟨_,by cbv⟩:N0 (gW [] 2 f116)).1
def adN:ak:=(⟨fun x=>_,fun x=>by cbv⟩:N1 2 (gW [] 0 f116)).1 adM
def amA:ai:=(⟨fun x=>_,fun x=>by cbv⟩:N1 0 (gF [] false f116)).1 adN
def atb:aL 116 amA:=aB func116
def mL:ak:=(⟨_,by cbv⟩:N0 (gW [121,160,192,275] 0 f117)).1
def rQ:dR (bO (.loop mL))=1099507433792:=nr rfl
def Gh:ai:=(⟨fun x=>_,fun x=>by cbv⟩:N1 0 (gF [121,160,192,275] true f117)).1 mL
def atc:aL 117 Gh:=codeOk (hs:=[121,160,192,275]) func117 (by kernel_rfl)
def uJ:ak:=(⟨_,by cbv⟩:N0 (gW [] 10 f118)).1
theorem Ey:dR (bO (.loop uJ))=13803282068997790460496115888498683564037580154149972012102539825655812:=nr rfl
def uK:ak:=(⟨_,by cbv⟩:N0 (gW [] 8 f118)).1
theorem Ez:dR (bO (.loop uK))=210624577060012638009155291531551441430123774698742778044587445252:=nr rfl
def uL:ak:=(⟨_,by cbv⟩:N0 (gW [] 6 f118)).1
theorem EA:dR (bO (.loop uL))=98079711692413612273128373330250122319033264507885453572:=nr rfl
def uM:ak:=(⟨fun x=>_,fun x=>by cbv⟩:N1 6 (gW [] 4 f118)).1 uL
theorem EB:dR (bO (.loop uM))=6277101735386680066937501969125693243111159424202737451972:=nr rfl
def uN:ak:=(⟨_,by cbv⟩:N0 (gW [] 2 f118)).1
theorem EC:dR (bO (.loop uN))=680562137693447659512934949615371812884:=nr rfl
def uO:ak:=(⟨fun x=>_,fun x=>by cbv⟩:N1 2 (gW [] 0 f118)).1 uN
theorem ED:dR (bO (.loop uO))=696898287454002745010476931682667753111612:=nr rfl
def MA:ai:=(⟨fun x y z w=>_,fun x y z w=>by cbv⟩:N4 0 4 8 10 (gF [] false f118)).1 uO uM uK uJ
def atd:aL 118 MA:=aB func118
def VB:ai:=(⟨_,by cbv⟩:N0 (gF [] false f119)).1
def ate:aL 119 VB:=aB func119
def VC:ai:=(⟨_,by cbv⟩:N0 (gF [] false f120)).1
def atf:aL 120 VC:=aB func120
def VD:ai:=(⟨_,by cbv⟩:N0 (gF [] false f121)).1
def atg:aL 121 VD:=aB func121
def MB:ai:=(⟨_,by cbv⟩:N0 (gF [] false f122)).1
def ath:aL 122 MB:=aB func122
def VE:ai:=(⟨_,by cbv⟩:N0 (gF [] false f123)).1
def ati:aL 123 VE:=aB func123
def VF:ai:=(⟨_,by cbv⟩:N0 (gF [] false f124)).1
def atj:aL 124 VF:=aB func124
def VG:ai:=(⟨_,by cbv⟩:N0 (gF [] false f125)).1
def atk:aL 125 VG:=aB func125
def rR:ak:=(⟨_,by cbv⟩:N0 (gW [] 0 f126)).1
def RJ:dR (bO (.loop rR))=1125899905794076:=nr rfl
def RK:ai:=(⟨fun x=>_,fun x=>by cbv⟩:N1 0 (gF [] false f126)).1 rR
def atl:aL 126 RK:=aB func126
def uP:ak:=(⟨_,by cbv⟩:N0 (gW [] 0 f127)).1
def RM:dR (bO (.loop uP))=8388108:=nr rfl
def RN:ai:=(⟨fun x=>_,fun x=>by cbv⟩:N1 0 (gF [] false f127)).1 uP
def atm:aL 127 RN:=aB func127
def uQ:ak:=(⟨_,by cbv⟩:N0 (gW [] 1 f128)).1
def RO:dR (bO (.loop uQ))=9435509593702435651664:=nr rfl
def VH:ai:=(⟨fun x=>_,fun x=>by cbv⟩:N1 1 (gF [] false f128)).1 uQ
def atn:aL 128 VH:=aB func128
def VI:ai:=(⟨_,by cbv⟩:N0 (gF [] false f129)).1
def ato:aL 129 VI:=aB func129
def uR:ak:=(⟨_,by cbv⟩:N0 (gW [] 3 f130)).1
theorem EE:dR (bO (.loop uR))=20748905024535658843698038065595908:=nr rfl
def uS:ak:=(⟨_,by cbv⟩:N0 (gW [] 1 f130)).1
theorem EF:dR (bO (.loop uS))=2535223829204003466726225215684:=nr rfl
def VJ:ai:=(⟨fun x y=>_,fun x y=>by cbv⟩:N2 1 3 (gF [] false f130)).1 uS uR
def atp:aL 130 VJ:=aB func130
def pf:ak:=(⟨_,by cbv⟩:N0 (gW [9,10,12] 0 f131)).1
theorem RP:dR (bO (.loop pf))=1099511595248:=nr rfl
def VK:ai:=(⟨fun x=>_,fun x=>by cbv⟩:N1 0 (gF [9,10,12] true f131)).1 pf
def atq:aL 131 VK:=codeOk (hs:=[9,10,12]) func131 (by kernel_rfl)
def MC:ai:=(⟨_,by cbv⟩:N0 (gF [] true f132)).1
def atr:aL 132 MC:=aB func132
def MD:ai:=(⟨_,by cbv⟩:N0 (gF [] true f133)).1
def ats:aL 133 MD:=aB func133
def RQ:ai:=(⟨_,by cbv⟩:N0 (gF [] true f134)).1
def att:aL 134 RQ:=aB func134
def VL:ai:=(⟨_,by cbv⟩:N0 (gF [] false f138)).1
def atu:aL 138 VL:=aB func138
def VM:ai:=(⟨_,by cbv⟩:N0 (gF [] false f139)).1
def atv:aL 139 VM:=aB func139
def rS:ak:=(⟨_,by cbv⟩:N0 (gW [] 0 f140)).1
def VN:ai:=(⟨fun x=>_,fun x=>by cbv⟩:N1 0 (gF [] false f140)).1 rS
def atw:aL 140 VN:=aB func140
def VO:ai:=(⟨_,by cbv⟩:N0 (gF [] false f141)).1
def atx:aL 141 VO:=aB func141
def VP:ai:=(⟨_,by cbv⟩:N0 (gF [] false f142)).1
def aty:aL 142 VP:=aB func142
def rU:ak:=(⟨_,by cbv⟩:N0 (gW [] 0 f143)).1
def RR:ai:=(⟨fun x=>_,fun x=>by cbv⟩:N1 0 (gF [] false f143)).1 rU
def atz:aL 143 RR:=aB func143
def atA:ai:=(⟨_,by cbv⟩:N0 (gF [] false f144)).1
def atC:aL 144 atA:=aB func144
def VQ:ai:=(⟨_,by cbv⟩:N0 (gF [] false f145)).1
def atD:aL 145 VQ:=aB func145
def VR:ai:=(⟨_,by cbv⟩:N0 (gF [] false f146)).1
def atE:aL 146 VR:=aB func146
def RS:ai:=(⟨_,by cbv⟩:N0 (gF [] false f147)).1
def atF:aL 147 RS:=aB func147
def JA:ai:=(⟨_,by cbv⟩:N0 (gF [] false f148)).1
def atG:aL 148 JA:=aB func148
def uT:ai:=(⟨_,by cbv⟩:N0 (gF [] false f149)).1
def atH:aL 149 uT:=aB func149
def amB:ai:=(⟨_,by cbv⟩:N0 (gF [] false f150)).1
def atI:aL 150 amB:=aB func150
def amC:ai:=(⟨_,by cbv⟩:N0 (gF [] false f151)).1
def atJ:aL 151 amC:=aB func151
def VS:ai:=(⟨_,by cbv⟩:N0 (gF [24,10] false f152)).1
def atL:aL 152 VS:=codeOk (hs:=[24,10]) func152 (by kernel_rfl)
def VT:ai:=(⟨_,by cbv⟩:N0 (gF [] false f153)).1
def atM:aL 153 VT:=aB func153
def ME:ai:=(⟨_,by cbv⟩:N0 (gF [] false f154)).1
def atN:aL 154 ME:=aB func154
def VU:ai:=(⟨_,by cbv⟩:N0 (gF [] false f155)).1
def atO:aL 155 VU:=aB func155
def adO:ak:=(⟨_,by cbv⟩:N0 (gW [] 4 f156)).1
def adP:ak:=(⟨_,by cbv⟩:N0 (gW [] 1 f156)).1
def amD:ai:=(⟨fun x y=>_,fun x y=>by cbv⟩:N2 1 4 (gF [] false f156)).1 adP adO
def atP:aL 156 amD:=aB func156
def atQ:ai:=(⟨_,by cbv⟩:N0 (gF [] false f157)).1
def atS:aL 157 atQ:=aB func157
def atU:ai:=(⟨_,by cbv⟩:N0 (gF [] false f158)).1
def atX:aL 158 atU:=aB func158
def atY:ai:=(⟨_,by cbv⟩:N0 (gF [] false f159)).1
def atZ:aL 159 atY:=aB func159
def at0:ai:=(⟨_,by cbv⟩:N0 (gF [] false f160)).1
def at1:aL 160 at0:=aB func160
def rV:ak:=(⟨_,by cbv⟩:N0 (gW [] 0 f161)).1
def RT:dR (bO (.loop rV))=576460752303357964:=nr rfl
def RU:ai:=(⟨fun x=>_,fun x=>by cbv⟩:N1 0 (gF [] false f161)).1 rV
def at2:aL 161 RU:=aB func161
def uU:ak:=(⟨_,by cbv⟩:N0 (gW [] 0 f162)).1
def RV:dR (bO (.loop uU))=1048560:=nr rfl
def VV:ai:=(⟨fun x=>_,fun x=>by cbv⟩:N1 0 (gF [] false f162)).1 uU
def at5:aL 162 VV:=aB func162
def RW:ai:=(⟨_,by cbv⟩:N0 (gF [] false f163)).1
def at6:aL 163 RW:=aB func163
def uV:ak:=(⟨_,by cbv⟩:N0 (gW [] 0 f164)).1
def RX:dR (bO (.loop uV))=1048560:=nr rfl
def VW:ai:=(⟨fun x=>_,fun x=>by cbv⟩:N1 0 (gF [] false f164)).1 uV
def at7:aL 164 VW:=aB func164
def uW:ak:=(⟨_,by cbv⟩:N0 (gW [] 0 f165)).1
theorem xZ:dR (bO (.loop uW))=2417814745741110930309200:=nr rfl
def RY:ai:=(⟨fun x=>_,fun x=>by cbv⟩:N1 0 (gF [] false f165)).1 uW
def at8:aL 165 RY:=aB func165
def uX:ak:=(⟨_,by cbv⟩:N0 (gW [] 0 f166)).1
def RZ:dR (bO (.loop uX))=262140:=nr rfl
def VY:ai:=(⟨fun x=>_,fun x=>by cbv⟩:N1 0 (gF [] false f166)).1 uX
def at9:aL 166 VY:=aB func166
def VZ:ai:=(⟨_,by cbv⟩:N0 (gF [] false f167)).1
def aua:aL 167 VZ:=aB func167
def R5:ai:=(⟨_,by cbv⟩:N0 (gF [] false f168)).1
def aub:aL 168 R5:=aB func168
def R6:ai:=(⟨_,by cbv⟩:N0 (gF [] false f169)).1
def auc:aL 169 R6:=aB func169
def V0:ai:=(⟨_,by cbv⟩:N0 (gF [] false f170)).1
def aud:aL 170 V0:=aB func170
def V3:ai:=(⟨_,by cbv⟩:N0 (gF [] false f171)).1
def aue:aL 171 V3:=aB func171
def V4:ai:=(⟨_,by cbv⟩:N0 (gF [] false f172)).1
def auf:aL 172 V4:=aB func172
def Gi:ai:=(⟨_,by cbv⟩:N0 (gF [] false f173)).1
def aug:aL 173 Gi:=aB func173
def V5:ai:=(⟨_,by cbv⟩:N0 (gF [] false f174)).1
def auh:aL 174 V5:=aB func174
def amE:ai:=(⟨_,by cbv⟩:N0 (gF [] false f175)).1
def aui:aL 175 amE:=aB func175
def adQ:ak:=(⟨_,by cbv⟩:N0 (gW [] 0 f176)).1
def auj:ai:=(⟨fun x=>_,fun x=>by cbv⟩:N1 0 (gF [] false f176)).1 adQ
def auk:aL 176 auj:=aB func176
def adR:ak:=(⟨_,by cbv⟩:N0 (gW [] 0 f177)).1
def aul:ai:=(⟨fun x=>_,fun x=>by cbv⟩:N1 0 (gF [] false f177)).1 adR
def aum:aL 177 aul:=aB func177
def V6:ai:=(⟨_,by cbv⟩:N0 (gF [] false f178)).1
def aun:aL 178 V6:=aB func178
def MF:ai:=(⟨_,by cbv⟩:N0 (gF [] false f179)).1
def auo:aL 179 MF:=aB func179
def Gj:ai:=(⟨_,by cbv⟩:N0 (gF [] false f180)).1
def aup:aL 180 Gj:=aB func180
def MG:ai:=(⟨_,by cbv⟩:N0 (gF [] false f181)).1
def auq:aL 181 MG:=aB func181
def R7:ai:=(⟨_,by cbv⟩:N0 (gF [] false f182)).1
def aur:aL 182 R7:=aB func182
def V7:ai:=(⟨_,by cbv⟩:N0 (gF [] false f183)).1
def aus:aL 183 V7:=aB func183
def aut:ai:=(⟨_,by cbv⟩:N0 (gF [] false f189)).1
def auu:aL 189 aut:=aB func189
def auv:ai:=(⟨_,by cbv⟩:N0 (gF [] false f190)).1
def auw:aL 190 auv:=aB func190
def auy:ai:=(⟨_,by cbv⟩:N0 (gF [] false f191)).1
def auz:aL 191 auy:=aB func191
def V8:ai:=(⟨_,by cbv⟩:N0 (gF [] false f192)).1
def auA:aL 192 V8:=aB func192
def auB:ai:=(⟨_,by cbv⟩:N0 (gF [] true f193)).1
def auC:aL 193 auB:=aB func193
end Go.Proofs.YtnkgnjecmfkcfaaGreat
