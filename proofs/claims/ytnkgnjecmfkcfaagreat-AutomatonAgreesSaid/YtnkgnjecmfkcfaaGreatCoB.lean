/- The codes of functions of the program, as the evaluator reads them: computed out of the model's functions; that each is what its compiler makes of the function. Conditions: none. -/
import Derived.Test.YtnkgnjecmfkcfaaGreatCoN
import Derived.KernelRfl
set_option maxRecDepth 100000
set_option maxHeartbeats 16000000
namespace Go.Proofs.YtnkgnjecmfkcfaaGreat
open Go Go.Ev Tryz
def Aa:ak:=(⟨_,by cbv⟩:N0 (gW [] 4 f92)).1
theorem Tf:eC (ch (.loop Aa))=79218491107707420560146301316:=nr rfl
def Ab:ak:=(⟨_,by cbv⟩:N0 (gW [] 2 f92)).1
theorem HK:eC (ch (.loop Ab))=9671406547909834142908516:=nr rfl
def Ac:ak:=(⟨_,by cbv⟩:N0 (gW [] 0 f92)).1
theorem HL:eC (ch (.loop Ac))=9007199221186588:=nr rfl
def c92:aj:=(⟨fun x y z=>_,fun x y z=>by cbv⟩:N3 0 2 4 (gF [] false f92)).1 Ac Ab Aa
theorem aAk:aV 92 c92:=aC func92 (by kernel_rfl)
def Ad:ak:=(⟨_,by cbv⟩:N0 (gW [] 6 f93)).1
theorem HM:eC (ch (.loop Ad))=20769028977814281985446798228985860:=nr rfl
def Ae:ak:=(⟨_,by cbv⟩:N0 (gW [] 4 f93)).1
theorem HN:eC (ch (.loop Ae))=158456315583795709447797474820:=nr rfl
def Af:ak:=(⟨_,by cbv⟩:N0 (gW [] 2 f93)).1
theorem HO:eC (ch (.loop Af))=9444732402789337006468:=nr rfl
def Ag:ak:=(⟨_,by cbv⟩:N0 (gW [] 0 f93)).1
theorem HQ:eC (ch (.loop Ag))=562949953159284:=nr rfl
def c93:aj:=(⟨fun x y z w=>_,fun x y z w=>by cbv⟩:N4 0 2 4 6 (gF [] false f93)).1 Ag Af Ae Ad
theorem aAl:aV 93 c93:=aC func93 (by kernel_rfl)
def Ah:ak:=(⟨_,by cbv⟩:N0 (gW [] 0 f96)).1
theorem Tg:eC (ch (.loop Ah))=4398046248972:=nr rfl
def c96:aj:=(⟨fun x=>_,fun x=>by cbv⟩:N1 0 (gF [] false f96)).1 Ah
theorem aAm:aV 96 c96:=aC func96 (by kernel_rfl)
def c97:aj:=(⟨_,by cbv⟩:N0 (gF [] false f97)).1
theorem aAn:aV 97 c97:=aC func97 (by kernel_rfl)
def sU:ak:=(⟨_,by cbv⟩:N0 (gW [] 0 f98)).1
def c98:aj:=(⟨fun x=>_,fun x=>by cbv⟩:N1 0 (gF [] false f98)).1 sU
theorem aAo:aV 98 c98:=aC func98 (by kernel_rfl)
def wM:ak:=(⟨_,by cbv⟩:N0 (gW [] 0 f99)).1
def c99:aj:=(⟨fun x=>_,fun x=>by cbv⟩:N1 0 (gF [] false f99)).1 wM
theorem aAp:aV 99 c99:=aC func99 (by kernel_rfl)
def Th:aj:=(⟨_,by cbv⟩:N0 (gF [] false f100)).1
theorem aoV:aV 100 Th:=aC func100 (by kernel_rfl)
def aoW:aj:=(⟨_,by cbv⟩:N0 (gF [] false f101)).1
theorem aoX:aV 101 aoW:=aC func101 (by kernel_rfl)
def ajb:aj:=(⟨_,by cbv⟩:N0 (gF [] false f102)).1
theorem aoY:aV 102 ajb:=aC func102 (by kernel_rfl)
def ou:ak:=(⟨_,by cbv⟩:N0 (gW [] 0 f103)).1
theorem Pz:eC (ch (.loop ou))=590295792766519607472:=nr rfl
def pO:aj:=(⟨fun x=>_,fun x=>by cbv⟩:N1 0 (gF [] false f103)).1 ou
theorem aoZ:aV 103 pO:=aC func103 (by kernel_rfl)
def KQ:aj:=(⟨_,by cbv⟩:N0 (gF [] false f104)).1
theorem ao0:aV 104 KQ:=aC func104 (by kernel_rfl)
def qT:ak:=(⟨_,by cbv⟩:N0 (gW [] 0 f105)).1
def PA:aj:=(⟨fun x=>_,fun x=>by cbv⟩:N1 0 (gF [] false f105)).1 qT
theorem ao1:aV 105 PA:=aC func105 (by kernel_rfl)
def ma:ak:=(⟨_,by cbv⟩:N0 (gW [] 0 f106)).1
def PB:aj:=(⟨fun x=>_,fun x=>by cbv⟩:N1 0 (gF [] false f106)).1 ma
theorem ao2:aV 106 PB:=aC func106 (by kernel_rfl)
def tM:ak:=(⟨_,by cbv⟩:N0 (gW [] 1 f107)).1
theorem PC:eC (ch (.loop tM))=309484419525534710019129728:=nr rfl
def qf:aj:=(⟨fun x=>_,fun x=>by cbv⟩:N1 1 (gF [] false f107)).1 tM
theorem ao3:aV 107 qf:=aC func107 (by kernel_rfl)
def ow:ak:=(⟨_,by cbv⟩:N0 (gW [] 2 f115)).1
theorem C8:eC (ch (.loop ow))=4503591037436128:=nr rfl
def oy:ak:=(⟨_,by cbv⟩:N0 (gW [] 0 f115)).1
theorem C9:eC (ch (.loop oy))=8589932572:=nr rfl
def Ti:aj:=(⟨fun x y=>_,fun x y=>by cbv⟩:N2 0 2 (gF [] false f115)).1 oy ow
theorem ao4:aV 115 Ti:=aC func115 (by kernel_rfl)
def aaY:ak:=(⟨_,by cbv⟩:N0 (gW [] 2 f116)).1
def aaZ:ak:=(⟨fun x=>_,fun x=>by cbv⟩:N1 2 (gW [] 0 f116)).1 aaY
def ajc:aj:=(⟨fun x=>_,fun x=>by cbv⟩:N1 0 (gF [] false f116)).1 aaZ
theorem ao5:aV 116 ajc:=aC func116 (by kernel_rfl)
def mb:ak:=(⟨_,by cbv⟩:N0 (gW [121,160,192,275] 0 f117)).1
theorem qU:eC (ch (.loop mb))=1099507433792:=nr rfl
def EI:aj:=(⟨fun x=>_,fun x=>by cbv⟩:N1 0 (gF [121,160,192,275] true f117)).1 mb
theorem ao6:aV 117 EI:=codeOk (hs:=[121,160,192,275]) func117 (by kernel_rfl)
def tN:ak:=(⟨_,by cbv⟩:N0 (gW [] 10 f118)).1
theorem Da:eC (ch (.loop tN))=13803282068997790460496115888498683564037580154149972012102539825655812:=nr rfl
def tO:ak:=(⟨_,by cbv⟩:N0 (gW [] 8 f118)).1
theorem Db:eC (ch (.loop tO))=210624577060012638009155291531551441430123774698742778044587445252:=nr rfl
def tP:ak:=(⟨_,by cbv⟩:N0 (gW [] 6 f118)).1
theorem Dc:eC (ch (.loop tP))=98079711692413612273128373330250122319033264507885453572:=nr rfl
def tQ:ak:=(⟨fun x=>_,fun x=>by cbv⟩:N1 6 (gW [] 4 f118)).1 tP
theorem Dd:eC (ch (.loop tQ))=6277101735386680066937501969125693243111159424202737451972:=nr rfl
def tR:ak:=(⟨_,by cbv⟩:N0 (gW [] 2 f118)).1
theorem De:eC (ch (.loop tR))=680562137693447659512934949615371812884:=nr rfl
def tS:ak:=(⟨fun x=>_,fun x=>by cbv⟩:N1 2 (gW [] 0 f118)).1 tR
theorem Df:eC (ch (.loop tS))=696898287454002745010476931682667753111612:=nr rfl
def KR:aj:=(⟨fun x y z w=>_,fun x y z w=>by cbv⟩:N4 0 4 8 10 (gF [] false f118)).1 tS tQ tO tN
theorem ao7:aV 118 KR:=aC func118 (by kernel_rfl)
def Tj:aj:=(⟨_,by cbv⟩:N0 (gF [] false f119)).1
theorem ao8:aV 119 Tj:=aC func119 (by kernel_rfl)
def Tl:aj:=(⟨_,by cbv⟩:N0 (gF [] false f120)).1
theorem ao9:aV 120 Tl:=aC func120 (by kernel_rfl)
def Tm:aj:=(⟨_,by cbv⟩:N0 (gF [] false f121)).1
theorem apa:aV 121 Tm:=aC func121 (by kernel_rfl)
def KS:aj:=(⟨_,by cbv⟩:N0 (gF [] false f122)).1
theorem apb:aV 122 KS:=aC func122 (by kernel_rfl)
def Tn:aj:=(⟨_,by cbv⟩:N0 (gF [] false f123)).1
theorem apc:aV 123 Tn:=aC func123 (by kernel_rfl)
def To:aj:=(⟨_,by cbv⟩:N0 (gF [] false f124)).1
theorem apd:aV 124 To:=aC func124 (by kernel_rfl)
def Tp:aj:=(⟨_,by cbv⟩:N0 (gF [] false f125)).1
theorem ape:aV 125 Tp:=aC func125 (by kernel_rfl)
def qV:ak:=(⟨_,by cbv⟩:N0 (gW [] 0 f126)).1
theorem PD:eC (ch (.loop qV))=1125899905794076:=nr rfl
def PE:aj:=(⟨fun x=>_,fun x=>by cbv⟩:N1 0 (gF [] false f126)).1 qV
theorem apf:aV 126 PE:=aC func126 (by kernel_rfl)
def tT:ak:=(⟨_,by cbv⟩:N0 (gW [] 0 f127)).1
theorem PF:eC (ch (.loop tT))=8388108:=nr rfl
def PG:aj:=(⟨fun x=>_,fun x=>by cbv⟩:N1 0 (gF [] false f127)).1 tT
theorem apg:aV 127 PG:=aC func127 (by kernel_rfl)
def tU:ak:=(⟨_,by cbv⟩:N0 (gW [] 1 f128)).1
theorem PH:eC (ch (.loop tU))=9435509593702435651664:=nr rfl
def Tq:aj:=(⟨fun x=>_,fun x=>by cbv⟩:N1 1 (gF [] false f128)).1 tU
theorem aph:aV 128 Tq:=aC func128 (by kernel_rfl)
def Ts:aj:=(⟨_,by cbv⟩:N0 (gF [] false f129)).1
theorem api:aV 129 Ts:=aC func129 (by kernel_rfl)
def tV:ak:=(⟨_,by cbv⟩:N0 (gW [] 3 f130)).1
theorem Dg:eC (ch (.loop tV))=20748905024535658843698038065595908:=nr rfl
def tW:ak:=(⟨_,by cbv⟩:N0 (gW [] 1 f130)).1
theorem Dh:eC (ch (.loop tW))=2535223829204003466726225215684:=nr rfl
def Tu:aj:=(⟨fun x y=>_,fun x y=>by cbv⟩:N2 1 3 (gF [] false f130)).1 tW tV
theorem apj:aV 130 Tu:=aC func130 (by kernel_rfl)
def oz:ak:=(⟨_,by cbv⟩:N0 (gW [9,10,12] 0 f131)).1
theorem PI:eC (ch (.loop oz))=1099511595248:=nr rfl
def Tv:aj:=(⟨fun x=>_,fun x=>by cbv⟩:N1 0 (gF [9,10,12] true f131)).1 oz
theorem apk:aV 131 Tv:=codeOk (hs:=[9,10,12]) func131 (by kernel_rfl)
def KT:aj:=(⟨_,by cbv⟩:N0 (gF [] true f132)).1
theorem apl:aV 132 KT:=aC func132 (by kernel_rfl)
def KU:aj:=(⟨_,by cbv⟩:N0 (gF [] true f133)).1
theorem apm:aV 133 KU:=aC func133 (by kernel_rfl)
def PJ:aj:=(⟨_,by cbv⟩:N0 (gF [] true f134)).1
theorem apn:aV 134 PJ:=aC func134 (by kernel_rfl)
def Tw:aj:=(⟨_,by cbv⟩:N0 (gF [] false f138)).1
theorem apo:aV 138 Tw:=aC func138 (by kernel_rfl)
def Tx:aj:=(⟨_,by cbv⟩:N0 (gF [] false f139)).1
theorem apq:aV 139 Tx:=aC func139 (by kernel_rfl)
def qW:ak:=(⟨_,by cbv⟩:N0 (gW [] 0 f140)).1
def Ty:aj:=(⟨fun x=>_,fun x=>by cbv⟩:N1 0 (gF [] false f140)).1 qW
theorem apr:aV 140 Ty:=aC func140 (by kernel_rfl)
def Tz:aj:=(⟨_,by cbv⟩:N0 (gF [] false f141)).1
theorem aps:aV 141 Tz:=aC func141 (by kernel_rfl)
def TA:aj:=(⟨_,by cbv⟩:N0 (gF [] false f142)).1
theorem apt:aV 142 TA:=aC func142 (by kernel_rfl)
def qX:ak:=(⟨_,by cbv⟩:N0 (gW [] 0 f143)).1
def PK:aj:=(⟨fun x=>_,fun x=>by cbv⟩:N1 0 (gF [] false f143)).1 qX
theorem apu:aV 143 PK:=aC func143 (by kernel_rfl)
def apv:aj:=(⟨_,by cbv⟩:N0 (gF [] false f144)).1
theorem apw:aV 144 apv:=aC func144 (by kernel_rfl)
def TB:aj:=(⟨_,by cbv⟩:N0 (gF [] false f145)).1
theorem apx:aV 145 TB:=aC func145 (by kernel_rfl)
def TC:aj:=(⟨_,by cbv⟩:N0 (gF [] false f146)).1
theorem apy:aV 146 TC:=aC func146 (by kernel_rfl)
def PL:aj:=(⟨_,by cbv⟩:N0 (gF [] false f147)).1
theorem apz:aV 147 PL:=aC func147 (by kernel_rfl)
def HR:aj:=(⟨_,by cbv⟩:N0 (gF [] false f148)).1
theorem apA:aV 148 HR:=aC func148 (by kernel_rfl)
def tX:aj:=(⟨_,by cbv⟩:N0 (gF [] false f149)).1
theorem apB:aV 149 tX:=aC func149 (by kernel_rfl)
def TD:aj:=(⟨_,by cbv⟩:N0 (gF [] false f153)).1
theorem apC:aV 153 TD:=aC func153 (by kernel_rfl)
def KV:aj:=(⟨_,by cbv⟩:N0 (gF [] false f154)).1
theorem apD:aV 154 KV:=aC func154 (by kernel_rfl)
def TE:aj:=(⟨_,by cbv⟩:N0 (gF [] false f155)).1
theorem apE:aV 155 TE:=aC func155 (by kernel_rfl)
def qY:ak:=(⟨_,by cbv⟩:N0 (gW [] 0 f161)).1
theorem PM:eC (ch (.loop qY))=576460752303357964:=nr rfl
def PN:aj:=(⟨fun x=>_,fun x=>by cbv⟩:N1 0 (gF [] false f161)).1 qY
theorem apF:aV 161 PN:=aC func161 (by kernel_rfl)
def tY:ak:=(⟨_,by cbv⟩:N0 (gW [] 0 f162)).1
theorem PO:eC (ch (.loop tY))=1048560:=nr rfl
def TF:aj:=(⟨fun x=>_,fun x=>by cbv⟩:N1 0 (gF [] false f162)).1 tY
theorem apG:aV 162 TF:=aC func162 (by kernel_rfl)
def PQ:aj:=(⟨_,by cbv⟩:N0 (gF [] false f163)).1
theorem apH:aV 163 PQ:=aC func163 (by kernel_rfl)
def tZ:ak:=(⟨_,by cbv⟩:N0 (gW [] 0 f164)).1
theorem PR:eC (ch (.loop tZ))=1048560:=nr rfl
def TG:aj:=(⟨fun x=>_,fun x=>by cbv⟩:N1 0 (gF [] false f164)).1 tZ
theorem apI:aV 164 TG:=aC func164 (by kernel_rfl)
def ua:ak:=(⟨_,by cbv⟩:N0 (gW [] 0 f165)).1
theorem wN:eC (ch (.loop ua))=2417814745741110930309200:=nr rfl
def PS:aj:=(⟨fun x=>_,fun x=>by cbv⟩:N1 0 (gF [] false f165)).1 ua
theorem apJ:aV 165 PS:=aC func165 (by kernel_rfl)
def ub:ak:=(⟨_,by cbv⟩:N0 (gW [] 0 f166)).1
theorem PT:eC (ch (.loop ub))=262140:=nr rfl
def TH:aj:=(⟨fun x=>_,fun x=>by cbv⟩:N1 0 (gF [] false f166)).1 ub
theorem apK:aV 166 TH:=aC func166 (by kernel_rfl)
def TI:aj:=(⟨_,by cbv⟩:N0 (gF [] false f167)).1
theorem apL:aV 167 TI:=aC func167 (by kernel_rfl)
def PU:aj:=(⟨_,by cbv⟩:N0 (gF [] false f168)).1
theorem apM:aV 168 PU:=aC func168 (by kernel_rfl)
def PV:aj:=(⟨_,by cbv⟩:N0 (gF [] false f169)).1
theorem apN:aV 169 PV:=aC func169 (by kernel_rfl)
def TJ:aj:=(⟨_,by cbv⟩:N0 (gF [] false f170)).1
theorem apO:aV 170 TJ:=aC func170 (by kernel_rfl)
def TK:aj:=(⟨_,by cbv⟩:N0 (gF [] false f171)).1
theorem apP:aV 171 TK:=aC func171 (by kernel_rfl)
def TL:aj:=(⟨_,by cbv⟩:N0 (gF [] false f172)).1
theorem apQ:aV 172 TL:=aC func172 (by kernel_rfl)
def EJ:aj:=(⟨_,by cbv⟩:N0 (gF [] false f173)).1
theorem apR:aV 173 EJ:=aC func173 (by kernel_rfl)
def TM:aj:=(⟨_,by cbv⟩:N0 (gF [] false f174)).1
theorem apU:aV 174 TM:=aC func174 (by kernel_rfl)
def ajd:aj:=(⟨_,by cbv⟩:N0 (gF [] false f175)).1
theorem apV:aV 175 ajd:=aC func175 (by kernel_rfl)
def aa0:ak:=(⟨_,by cbv⟩:N0 (gW [] 0 f176)).1
def apW:aj:=(⟨fun x=>_,fun x=>by cbv⟩:N1 0 (gF [] false f176)).1 aa0
theorem apX:aV 176 apW:=aC func176 (by kernel_rfl)
def aa1:ak:=(⟨_,by cbv⟩:N0 (gW [] 0 f177)).1
def apY:aj:=(⟨fun x=>_,fun x=>by cbv⟩:N1 0 (gF [] false f177)).1 aa1
theorem apZ:aV 177 apY:=aC func177 (by kernel_rfl)
def TN:aj:=(⟨_,by cbv⟩:N0 (gF [] false f178)).1
theorem ap0:aV 178 TN:=aC func178 (by kernel_rfl)
def KW:aj:=(⟨_,by cbv⟩:N0 (gF [] false f179)).1
theorem ap1:aV 179 KW:=aC func179 (by kernel_rfl)
def EL:aj:=(⟨_,by cbv⟩:N0 (gF [] false f180)).1
theorem ap2:aV 180 EL:=aC func180 (by kernel_rfl)
def KX:aj:=(⟨_,by cbv⟩:N0 (gF [] false f181)).1
theorem ap3:aV 181 KX:=aC func181 (by kernel_rfl)
def PW:aj:=(⟨_,by cbv⟩:N0 (gF [] false f182)).1
theorem ap4:aV 182 PW:=aC func182 (by kernel_rfl)
def TO:aj:=(⟨_,by cbv⟩:N0 (gF [] false f183)).1
theorem ap5:aV 183 TO:=aC func183 (by kernel_rfl)
def ap6:aj:=(⟨_,by cbv⟩:N0 (gF [] false f189)).1
theorem ap7:aV 189 ap6:=aC func189 (by kernel_rfl)
def ap8:aj:=(⟨_,by cbv⟩:N0 (gF [] false f190)).1
theorem ap9:aV 190 ap8:=aC func190 (by kernel_rfl)
end Go.Proofs.YtnkgnjecmfkcfaaGreat
