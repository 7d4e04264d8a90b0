/- The codes of functions of the program, as the evaluator reads them: computed out of the model's functions; that each is what its compiler makes of the function. Conditions: none. -/
import Derived.Test.YtnkgnjecmfkcfaaGreatCoN
import Derived.KernelRfl
set_option maxRecDepth 100000
set_option maxHeartbeats 16000000
namespace Go.Proofs.YtnkgnjecmfkcfaaGreat
open Go Go.Ev Tryz
def zx:ak:=(⟨_,by cbv⟩:N0 (gW [] 0 f96)).1
theorem Sn:dO (bX (.loop zx))=4398046248972:=nr rfl
def c96:aj:=(⟨fun x=>_,fun x=>by cbv⟩:N1 0 (gF [] false f96)).1 zx
theorem aAf:aQ 96 c96:=aB func96 (by kernel_rfl)
def c97:aj:=(⟨_,by cbv⟩:N0 (gF [] false f97)).1
theorem aAg:aQ 97 c97:=aB func97 (by kernel_rfl)
def sx:ak:=(⟨_,by cbv⟩:N0 (gW [] 0 f98)).1
def c98:aj:=(⟨fun x=>_,fun x=>by cbv⟩:N1 0 (gF [] false f98)).1 sx
theorem aAh:aQ 98 c98:=aB func98 (by kernel_rfl)
def wq:ak:=(⟨_,by cbv⟩:N0 (gW [] 0 f99)).1
def c99:aj:=(⟨fun x=>_,fun x=>by cbv⟩:N1 0 (gF [] false f99)).1 wq
theorem aAi:aQ 99 c99:=aB func99 (by kernel_rfl)
def So:aj:=(⟨_,by cbv⟩:N0 (gF [] false f100)).1
theorem aos:aQ 100 So:=aB func100 (by kernel_rfl)
def aot:aj:=(⟨_,by cbv⟩:N0 (gF [] false f101)).1
theorem aou:aQ 101 aot:=aB func101 (by kernel_rfl)
def air:aj:=(⟨_,by cbv⟩:N0 (gF [] false f102)).1
theorem aov:aQ 102 air:=aB func102 (by kernel_rfl)
def od:ak:=(⟨_,by cbv⟩:N0 (gW [] 0 f103)).1
theorem OR:dO (bX (.loop od))=590295792766519607472:=nr rfl
def pw:aj:=(⟨fun x=>_,fun x=>by cbv⟩:N1 0 (gF [] false f103)).1 od
theorem aow:aQ 103 pw:=aB func103 (by kernel_rfl)
def Kl:aj:=(⟨_,by cbv⟩:N0 (gF [] false f104)).1
theorem aox:aQ 104 Kl:=aB func104 (by kernel_rfl)
def qw:ak:=(⟨_,by cbv⟩:N0 (gW [] 0 f105)).1
def OS:aj:=(⟨fun x=>_,fun x=>by cbv⟩:N1 0 (gF [] false f105)).1 qw
theorem aoy:aQ 105 OS:=aB func105 (by kernel_rfl)
def lS:ak:=(⟨_,by cbv⟩:N0 (gW [] 0 f106)).1
def OT:aj:=(⟨fun x=>_,fun x=>by cbv⟩:N1 0 (gF [] false f106)).1 lS
theorem aoz:aQ 106 OT:=aB func106 (by kernel_rfl)
def tm:ak:=(⟨_,by cbv⟩:N0 (gW [] 1 f107)).1
theorem OU:dO (bX (.loop tm))=309484419525534710019129728:=nr rfl
def pR:aj:=(⟨fun x=>_,fun x=>by cbv⟩:N1 1 (gF [] false f107)).1 tm
theorem aoA:aQ 107 pR:=aB func107 (by kernel_rfl)
def oe:ak:=(⟨_,by cbv⟩:N0 (gW [] 2 f115)).1
theorem Cl:dO (bX (.loop oe))=4503591037436128:=nr rfl
def og:ak:=(⟨_,by cbv⟩:N0 (gW [] 0 f115)).1
theorem Cm:dO (bX (.loop og))=8589932572:=nr rfl
def Sq:aj:=(⟨fun x y=>_,fun x y=>by cbv⟩:N2 0 2 (gF [] false f115)).1 og oe
theorem aoB:aQ 115 Sq:=aB func115 (by kernel_rfl)
def aad:ak:=(⟨_,by cbv⟩:N0 (gW [] 2 f116)).1
def aae:ak:=(⟨fun x=>_,fun x=>by cbv⟩:N1 2 (gW [] 0 f116)).1 aad
def ais:aj:=(⟨fun x=>_,fun x=>by cbv⟩:N1 0 (gF [] false f116)).1 aae
theorem aoC:aQ 116 ais:=aB func116 (by kernel_rfl)
def lU:ak:=(⟨_,by cbv⟩:N0 (gW [121,160,192,275] 0 f117)).1
theorem qx:dO (bX (.loop lU))=1099507433792:=nr rfl
def D2:aj:=(⟨fun x=>_,fun x=>by cbv⟩:N1 0 (gF [121,160,192,275] true f117)).1 lU
theorem aoD:aQ 117 D2:=codeOk (hs:=[121,160,192,275]) func117 (by kernel_rfl)
def tn:ak:=(⟨_,by cbv⟩:N0 (gW [] 10 f118)).1
theorem Cp:dO (bX (.loop tn))=13803282068997790460496115888498683564037580154149972012102539825655812:=nr rfl
def tp:ak:=(⟨_,by cbv⟩:N0 (gW [] 8 f118)).1
theorem Cq:dO (bX (.loop tp))=210624577060012638009155291531551441430123774698742778044587445252:=nr rfl
def tq:ak:=(⟨_,by cbv⟩:N0 (gW [] 6 f118)).1
theorem Cu:dO (bX (.loop tq))=98079711692413612273128373330250122319033264507885453572:=nr rfl
def tu:ak:=(⟨fun x=>_,fun x=>by cbv⟩:N1 6 (gW [] 4 f118)).1 tq
theorem Cv:dO (bX (.loop tu))=6277101735386680066937501969125693243111159424202737451972:=nr rfl
def tw:ak:=(⟨_,by cbv⟩:N0 (gW [] 2 f118)).1
theorem Cw:dO (bX (.loop tw))=680562137693447659512934949615371812884:=nr rfl
def tz:ak:=(⟨fun x=>_,fun x=>by cbv⟩:N1 2 (gW [] 0 f118)).1 tw
theorem Cx:dO (bX (.loop tz))=696898287454002745010476931682667753111612:=nr rfl
def Km:aj:=(⟨fun x y z w=>_,fun x y z w=>by cbv⟩:N4 0 4 8 10 (gF [] false f118)).1 tz tu tp tn
theorem aoE:aQ 118 Km:=aB func118 (by kernel_rfl)
def Sr:aj:=(⟨_,by cbv⟩:N0 (gF [] false f119)).1
theorem aoF:aQ 119 Sr:=aB func119 (by kernel_rfl)
def Ss:aj:=(⟨_,by cbv⟩:N0 (gF [] false f120)).1
theorem aoG:aQ 120 Ss:=aB func120 (by kernel_rfl)
def Su:aj:=(⟨_,by cbv⟩:N0 (gF [] false f121)).1
theorem aoH:aQ 121 Su:=aB func121 (by kernel_rfl)
def Kn:aj:=(⟨_,by cbv⟩:N0 (gF [] false f122)).1
theorem aoI:aQ 122 Kn:=aB func122 (by kernel_rfl)
def Sv:aj:=(⟨_,by cbv⟩:N0 (gF [] false f123)).1
theorem aoJ:aQ 123 Sv:=aB func123 (by kernel_rfl)
def Sw:aj:=(⟨_,by cbv⟩:N0 (gF [] false f124)).1
theorem aoK:aQ 124 Sw:=aB func124 (by kernel_rfl)
def Sx:aj:=(⟨_,by cbv⟩:N0 (gF [] false f125)).1
theorem aoL:aQ 125 Sx:=aB func125 (by kernel_rfl)
def qy:ak:=(⟨_,by cbv⟩:N0 (gW [] 0 f126)).1
theorem OV:dO (bX (.loop qy))=1125899905794076:=nr rfl
def OW:aj:=(⟨fun x=>_,fun x=>by cbv⟩:N1 0 (gF [] false f126)).1 qy
theorem aoM:aQ 126 OW:=aB func126 (by kernel_rfl)
def tB:ak:=(⟨_,by cbv⟩:N0 (gW [] 0 f127)).1
theorem OX:dO (bX (.loop tB))=8388108:=nr rfl
def OY:aj:=(⟨fun x=>_,fun x=>by cbv⟩:N1 0 (gF [] false f127)).1 tB
theorem aoN:aQ 127 OY:=aB func127 (by kernel_rfl)
def tC:ak:=(⟨_,by cbv⟩:N0 (gW [] 1 f128)).1
theorem OZ:dO (bX (.loop tC))=9435509593702435651664:=nr rfl
def Sy:aj:=(⟨fun x=>_,fun x=>by cbv⟩:N1 1 (gF [] false f128)).1 tC
theorem aoO:aQ 128 Sy:=aB func128 (by kernel_rfl)
def Sz:aj:=(⟨_,by cbv⟩:N0 (gF [] false f129)).1
theorem aoP:aQ 129 Sz:=aB func129 (by kernel_rfl)
def tD:ak:=(⟨_,by cbv⟩:N0 (gW [] 3 f130)).1
theorem Cy:dO (bX (.loop tD))=20748905024535658843698038065595908:=nr rfl
def tE:ak:=(⟨_,by cbv⟩:N0 (gW [] 1 f130)).1
theorem Cz:dO (bX (.loop tE))=2535223829204003466726225215684:=nr rfl
def SA:aj:=(⟨fun x y=>_,fun x y=>by cbv⟩:N2 1 3 (gF [] false f130)).1 tE tD
theorem aoQ:aQ 130 SA:=aB func130 (by kernel_rfl)
def oh:ak:=(⟨_,by cbv⟩:N0 (gW [9,10,12] 0 f131)).1
theorem O0:dO (bX (.loop oh))=1099511595248:=nr rfl
def SC:aj:=(⟨fun x=>_,fun x=>by cbv⟩:N1 0 (gF [9,10,12] true f131)).1 oh
theorem aoR:aQ 131 SC:=codeOk (hs:=[9,10,12]) func131 (by kernel_rfl)
def Ko:aj:=(⟨_,by cbv⟩:N0 (gF [] true f132)).1
theorem aoS:aQ 132 Ko:=aB func132 (by kernel_rfl)
def Kp:aj:=(⟨_,by cbv⟩:N0 (gF [] true f133)).1
theorem aoT:aQ 133 Kp:=aB func133 (by kernel_rfl)
def O1:aj:=(⟨_,by cbv⟩:N0 (gF [] true f134)).1
theorem aoU:aQ 134 O1:=aB func134 (by kernel_rfl)
def qz:ak:=(⟨_,by cbv⟩:N0 (gW [] 0 f143)).1
def O2:aj:=(⟨fun x=>_,fun x=>by cbv⟩:N1 0 (gF [] false f143)).1 qz
theorem aoV:aQ 143 O2:=aB func143 (by kernel_rfl)
def SD:aj:=(⟨_,by cbv⟩:N0 (gF [] false f145)).1
theorem aoW:aQ 145 SD:=aB func145 (by kernel_rfl)
def SE:aj:=(⟨_,by cbv⟩:N0 (gF [] false f146)).1
theorem aoX:aQ 146 SE:=aB func146 (by kernel_rfl)
def O3:aj:=(⟨_,by cbv⟩:N0 (gF [] false f147)).1
theorem aoY:aQ 147 O3:=aB func147 (by kernel_rfl)
def Hn:aj:=(⟨_,by cbv⟩:N0 (gF [] false f148)).1
theorem aoZ:aQ 148 Hn:=aB func148 (by kernel_rfl)
def tF:aj:=(⟨_,by cbv⟩:N0 (gF [] false f149)).1
theorem ao0:aQ 149 tF:=aB func149 (by kernel_rfl)
def ait:aj:=(⟨_,by cbv⟩:N0 (gF [] false f150)).1
theorem ao1:aQ 150 ait:=aB func150 (by kernel_rfl)
def aiu:aj:=(⟨_,by cbv⟩:N0 (gF [] false f151)).1
theorem ao2:aQ 151 aiu:=aB func151 (by kernel_rfl)
def SF:aj:=(⟨_,by cbv⟩:N0 (gF [24,10] false f152)).1
theorem ao3:aQ 152 SF:=codeOk (hs:=[24,10]) func152 (by kernel_rfl)
def SG:aj:=(⟨_,by cbv⟩:N0 (gF [] false f153)).1
theorem ao4:aQ 153 SG:=aB func153 (by kernel_rfl)
def Kq:aj:=(⟨_,by cbv⟩:N0 (gF [] false f154)).1
theorem ao5:aQ 154 Kq:=aB func154 (by kernel_rfl)
def SI:aj:=(⟨_,by cbv⟩:N0 (gF [] false f155)).1
theorem ao6:aQ 155 SI:=aB func155 (by kernel_rfl)
def aaf:ak:=(⟨_,by cbv⟩:N0 (gW [] 4 f156)).1
def aag:ak:=(⟨_,by cbv⟩:N0 (gW [] 1 f156)).1
def aiv:aj:=(⟨fun x y=>_,fun x y=>by cbv⟩:N2 1 4 (gF [] false f156)).1 aag aaf
theorem ao7:aQ 156 aiv:=aB func156 (by kernel_rfl)
def ao8:aj:=(⟨_,by cbv⟩:N0 (gF [] false f157)).1
theorem ao9:aQ 157 ao8:=aB func157 (by kernel_rfl)
def apa:aj:=(⟨_,by cbv⟩:N0 (gF [] false f158)).1
theorem apb:aQ 158 apa:=aB func158 (by kernel_rfl)
def apc:aj:=(⟨_,by cbv⟩:N0 (gF [] false f159)).1
theorem apd:aQ 159 apc:=aB func159 (by kernel_rfl)
def ape:aj:=(⟨_,by cbv⟩:N0 (gF [] false f160)).1
theorem apf:aQ 160 ape:=aB func160 (by kernel_rfl)
def qC:ak:=(⟨_,by cbv⟩:N0 (gW [] 0 f161)).1
theorem O4:dO (bX (.loop qC))=576460752303357964:=nr rfl
def O5:aj:=(⟨fun x=>_,fun x=>by cbv⟩:N1 0 (gF [] false f161)).1 qC
theorem apg:aQ 161 O5:=aB func161 (by kernel_rfl)
def tG:ak:=(⟨_,by cbv⟩:N0 (gW [] 0 f162)).1
theorem O6:dO (bX (.loop tG))=1048560:=nr rfl
def SJ:aj:=(⟨fun x=>_,fun x=>by cbv⟩:N1 0 (gF [] false f162)).1 tG
theorem aph:aQ 162 SJ:=aB func162 (by kernel_rfl)
def O7:aj:=(⟨_,by cbv⟩:N0 (gF [] false f163)).1
theorem api:aQ 163 O7:=aB func163 (by kernel_rfl)
def tH:ak:=(⟨_,by cbv⟩:N0 (gW [] 0 f164)).1
theorem O8:dO (bX (.loop tH))=1048560:=nr rfl
def SK:aj:=(⟨fun x=>_,fun x=>by cbv⟩:N1 0 (gF [] false f164)).1 tH
theorem apj:aQ 164 SK:=aB func164 (by kernel_rfl)
def tI:ak:=(⟨_,by cbv⟩:N0 (gW [] 0 f165)).1
theorem wu:dO (bX (.loop tI))=2417814745741110930309200:=nr rfl
def O9:aj:=(⟨fun x=>_,fun x=>by cbv⟩:N1 0 (gF [] false f165)).1 tI
theorem apk:aQ 165 O9:=aB func165 (by kernel_rfl)
def tJ:ak:=(⟨_,by cbv⟩:N0 (gW [] 0 f166)).1
theorem Pb:dO (bX (.loop tJ))=262140:=nr rfl
def SL:aj:=(⟨fun x=>_,fun x=>by cbv⟩:N1 0 (gF [] false f166)).1 tJ
theorem apl:aQ 166 SL:=aB func166 (by kernel_rfl)
def SM:aj:=(⟨_,by cbv⟩:N0 (gF [] false f167)).1
theorem apm:aQ 167 SM:=aB func167 (by kernel_rfl)
def Pc:aj:=(⟨_,by cbv⟩:N0 (gF [] false f168)).1
theorem apn:aQ 168 Pc:=aB func168 (by kernel_rfl)
def Pd:aj:=(⟨_,by cbv⟩:N0 (gF [] false f169)).1
theorem apo:aQ 169 Pd:=aB func169 (by kernel_rfl)
def SN:aj:=(⟨_,by cbv⟩:N0 (gF [] false f170)).1
theorem apq:aQ 170 SN:=aB func170 (by kernel_rfl)
def SO:aj:=(⟨_,by cbv⟩:N0 (gF [] false f171)).1
theorem apr:aQ 171 SO:=aB func171 (by kernel_rfl)
def SP:aj:=(⟨_,by cbv⟩:N0 (gF [] false f172)).1
theorem aps:aQ 172 SP:=aB func172 (by kernel_rfl)
def D3:aj:=(⟨_,by cbv⟩:N0 (gF [] false f173)).1
theorem apt:aQ 173 D3:=aB func173 (by kernel_rfl)
def SQ:aj:=(⟨_,by cbv⟩:N0 (gF [] false f174)).1
theorem apu:aQ 174 SQ:=aB func174 (by kernel_rfl)
def aiw:aj:=(⟨_,by cbv⟩:N0 (gF [] false f175)).1
theorem apv:aQ 175 aiw:=aB func175 (by kernel_rfl)
def aah:ak:=(⟨_,by cbv⟩:N0 (gW [] 0 f176)).1
def apw:aj:=(⟨fun x=>_,fun x=>by cbv⟩:N1 0 (gF [] false f176)).1 aah
theorem apx:aQ 176 apw:=aB func176 (by kernel_rfl)
def aai:ak:=(⟨_,by cbv⟩:N0 (gW [] 0 f177)).1
def apy:aj:=(⟨fun x=>_,fun x=>by cbv⟩:N1 0 (gF [] false f177)).1 aai
theorem apz:aQ 177 apy:=aB func177 (by kernel_rfl)
def SR:aj:=(⟨_,by cbv⟩:N0 (gF [] false f178)).1
theorem apA:aQ 178 SR:=aB func178 (by kernel_rfl)
def Kr:aj:=(⟨_,by cbv⟩:N0 (gF [] false f179)).1
theorem apB:aQ 179 Kr:=aB func179 (by kernel_rfl)
def D4:aj:=(⟨_,by cbv⟩:N0 (gF [] false f180)).1
theorem apC:aQ 180 D4:=aB func180 (by kernel_rfl)
def Ks:aj:=(⟨_,by cbv⟩:N0 (gF [] false f181)).1
theorem apD:aQ 181 Ks:=aB func181 (by kernel_rfl)
def Pe:aj:=(⟨_,by cbv⟩:N0 (gF [] false f182)).1
theorem apE:aQ 182 Pe:=aB func182 (by kernel_rfl)
def SU:aj:=(⟨_,by cbv⟩:N0 (gF [] false f183)).1
theorem apF:aQ 183 SU:=aB func183 (by kernel_rfl)
def apG:aj:=(⟨_,by cbv⟩:N0 (gF [] false f189)).1
theorem apH:aQ 189 apG:=aB func189 (by kernel_rfl)
def apI:aj:=(⟨_,by cbv⟩:N0 (gF [] false f190)).1
theorem apJ:aQ 190 apI:=aB func190 (by kernel_rfl)
def apK:aj:=(⟨_,by cbv⟩:N0 (gF [] false f191)).1
theorem apL:aQ 191 apK:=aB func191 (by kernel_rfl)
def SV:aj:=(⟨_,by cbv⟩:N0 (gF [] false f192)).1
theorem apM:aQ 192 SV:=aB func192 (by kernel_rfl)
def apN:aj:=(⟨_,by cbv⟩:N0 (gF [] true f193)).1
theorem apO:aQ 193 apN:=aB func193 (by kernel_rfl)
def SW:aj:=(⟨_,by cbv⟩:N0 (gF [] false f194)).1
theorem apP:aQ 194 SW:=aB func194 (by kernel_rfl)
end Go.Proofs.YtnkgnjecmfkcfaaGreat
