/- The codes of functions of the program, as the evaluator reads them: computed out of the model's functions; that each is what its compiler makes of the function. Conditions: none. -/
import Derived.Test.YtcpceiclnbmgiaaGreatCoN
import Derived.KernelRfl
set_option maxRecDepth 100000
set_option maxHeartbeats 16000000
namespace Go.Proofs.YtcpceiclnbmgiaaGreat
open Go Go.Ev Tryz
def PU:ai:=(⟨_,by cbv⟩:N0 (gF [] false f168)).1
theorem arK:aW 168 PU:=aD func168 (by kernel_rfl)
def abW:ak:=(⟨_,by cbv⟩:N0 (gW [] 0 f169)).1
def arL:ai:=(⟨fun x=>_,fun x=>by cbv⟩:N1 0 (gF [] false f169)).1 abW
theorem arM:aW 169 arL:=aD func169 (by kernel_rfl)
def arN:ai:=(⟨_,by cbv⟩:N0 (gF [] false f170)).1
theorem arO:aW 170 arN:=aD func170 (by kernel_rfl)
def arP:ai:=(⟨_,by cbv⟩:N0 (gF [] false f171)).1
theorem arQ:aW 171 arP:=aD func171 (by kernel_rfl)
def abX:ak:=(⟨_,by cbv⟩:N0 (gW [] 0 f172)).1
def arR:ai:=(⟨fun x=>_,fun x=>by cbv⟩:N1 0 (gF [] false f172)).1 abX
theorem arS:aW 172 arR:=aD func172 (by kernel_rfl)
def arT:ai:=(⟨_,by cbv⟩:N0 (gF [] true f173)).1
theorem arU:aW 173 arT:=aD func173 (by kernel_rfl)
def arV:ai:=(⟨_,by cbv⟩:N0 (gF [] false f174)).1
theorem arW:aW 174 arV:=aD func174 (by kernel_rfl)
def zq:ak:=(⟨_,by cbv⟩:N0 (gW [] 0 f175)).1
def K0:ai:=(⟨fun x=>_,fun x=>by cbv⟩:N1 0 (gF [] false f175)).1 zq
theorem arX:aW 175 K0:=aD func175 (by kernel_rfl)
def M9:ak:=(⟨_,by cbv⟩:N0 (gW [] 0 f176)).1
def TW:ai:=(⟨fun x=>_,fun x=>by cbv⟩:N1 0 (gF [] false f176)).1 M9
theorem arY:aW 176 TW:=aD func176 (by kernel_rfl)
def arZ:ai:=(⟨_,by cbv⟩:N0 (gF [] false f177)).1
theorem ar0:aW 177 arZ:=aD func177 (by kernel_rfl)
def abY:ak:=(⟨_,by cbv⟩:N0 (gW [] 1 f178)).1
def ar1:ai:=(⟨fun x=>_,fun x=>by cbv⟩:N1 1 (gF [] false f178)).1 abY
theorem ar2:aW 178 ar1:=aD func178 (by kernel_rfl)
def TX:ai:=(⟨_,by cbv⟩:N0 (gF [] false f179)).1
theorem ar3:aW 179 TX:=aD func179 (by kernel_rfl)
def abZ:ak:=(⟨_,by cbv⟩:N0 (gW [] 0 f180)).1
def ar4:ai:=(⟨fun x=>_,fun x=>by cbv⟩:N1 0 (gF [] true f180)).1 abZ
theorem ar5:aW 180 ar4:=aD func180 (by kernel_rfl)
def ab0:ak:=(⟨_,by cbv⟩:N0 (gW [] 1 f181)).1
def ar6:ai:=(⟨fun x=>_,fun x=>by cbv⟩:N1 1 (gF [] false f181)).1 ab0
theorem ar7:aW 181 ar6:=aD func181 (by kernel_rfl)
def TY:ai:=(⟨_,by cbv⟩:N0 (gF [] false f182)).1
theorem ar8:aW 182 TY:=aD func182 (by kernel_rfl)
def TZ:ai:=(⟨_,by cbv⟩:N0 (gF [] false f183)).1
theorem ar9:aW 183 TZ:=aD func183 (by kernel_rfl)
def kb:ak:=(⟨_,by cbv⟩:N0 (gW [] 0 f184)).1
def AP:ai:=(⟨fun x=>_,fun x=>by cbv⟩:N1 0 (gF [] true f184)).1 kb
theorem asa:aW 184 AP:=aD func184 (by kernel_rfl)
def T1:ai:=(⟨_,by cbv⟩:N0 (gF [] false f185)).1
theorem asb:aW 185 T1:=aD func185 (by kernel_rfl)
def T2:ai:=(⟨_,by cbv⟩:N0 (gF [] false f186)).1
theorem asc:aW 186 T2:=aD func186 (by kernel_rfl)
def T3:ai:=(⟨_,by cbv⟩:N0 (gF [] false f187)).1
theorem asd:aW 187 T3:=aD func187 (by kernel_rfl)
def PV:ai:=(⟨_,by cbv⟩:N0 (gF [] false f188)).1
theorem ase:aW 188 PV:=aD func188 (by kernel_rfl)
def zr:ak:=(⟨_,by cbv⟩:N0 (gW [] 0 f189)).1
def T4:ai:=(⟨fun x=>_,fun x=>by cbv⟩:N1 0 (gF [] false f189)).1 zr
theorem asf:aW 189 T4:=aD func189 (by kernel_rfl)
def rJ:ak:=(⟨_,by cbv⟩:N0 (gW [] 0 f190)).1
def qf:ai:=(⟨fun x=>_,fun x=>by cbv⟩:N1 0 (gF [] false f190)).1 rJ
theorem asg:aW 190 qf:=aD func190 (by kernel_rfl)
def ab1:ak:=(⟨_,by cbv⟩:N0 (gW [] 0 f191)).1
def ash:ai:=(⟨fun x=>_,fun x=>by cbv⟩:N1 0 (gF [] false f191)).1 ab1
theorem asi:aW 191 ash:=aD func191 (by kernel_rfl)
def ab2:ak:=(⟨_,by cbv⟩:N0 (gW [] 0 f192)).1
def asj:ai:=(⟨fun x=>_,fun x=>by cbv⟩:N1 0 (gF [] false f192)).1 ab2
theorem asl:aW 192 asj:=aD func192 (by kernel_rfl)
def K1:ai:=(⟨_,by cbv⟩:N0 (gF [] false f193)).1
theorem asm:aW 193 K1:=aD func193 (by kernel_rfl)
def lD:ak:=(⟨_,by cbv⟩:N0 (gW [] 0 f194)).1
def T5:ai:=(⟨fun x=>_,fun x=>by cbv⟩:N1 0 (gF [] false f194)).1 lD
theorem asn:aW 194 T5:=aD func194 (by kernel_rfl)
def T6:ai:=(⟨_,by cbv⟩:N0 (gF [] false f195)).1
theorem aso:aW 195 T6:=aD func195 (by kernel_rfl)
def T7:ai:=(⟨_,by cbv⟩:N0 (gF [] false f196)).1
theorem asp:aW 196 T7:=aD func196 (by kernel_rfl)
def oR:ak:=(⟨_,by cbv⟩:N0 (gW [] 0 f197)).1
def T8:ai:=(⟨fun x=>_,fun x=>by cbv⟩:N1 0 (gF [] false f197)).1 oR
theorem asq:aW 197 T8:=aD func197 (by kernel_rfl)
def PW:ai:=(⟨_,by cbv⟩:N0 (gF [] false f198)).1
theorem asr:aW 198 PW:=aD func198 (by kernel_rfl)
def T9:ai:=(⟨_,by cbv⟩:N0 (gF [] false f199)).1
theorem ass:aW 199 T9:=aD func199 (by kernel_rfl)
def PX:ai:=(⟨_,by cbv⟩:N0 (gF [] false f200)).1
theorem ast:aW 200 PX:=aD func200 (by kernel_rfl)
def Ua:ai:=(⟨_,by cbv⟩:N0 (gF [] false f201)).1
theorem asu:aW 201 Ua:=aD func201 (by kernel_rfl)
def Ub:ai:=(⟨_,by cbv⟩:N0 (gF [] false f202)).1
theorem asv:aW 202 Ub:=aD func202 (by kernel_rfl)
def mQ:ak:=(⟨_,by cbv⟩:N0 (gW [] 0 f203)).1
def Uc:ai:=(⟨fun x=>_,fun x=>by cbv⟩:N1 0 (gF [] false f203)).1 mQ
theorem asw:aW 203 Uc:=aD func203 (by kernel_rfl)
def asx:ai:=(⟨_,by cbv⟩:N0 (gF [] false f204)).1
theorem asy:aW 204 asx:=aD func204 (by kernel_rfl)
def PY:ai:=(⟨_,by cbv⟩:N0 (gF [] false f205)).1
theorem asz:aW 205 PY:=aD func205 (by kernel_rfl)
def ab3:ak:=(⟨_,by cbv⟩:N0 (gW [] 0 f206)).1
def asA:ai:=(⟨fun x=>_,fun x=>by cbv⟩:N1 0 (gF [] true f206)).1 ab3
theorem asB:aW 206 asA:=aD func206 (by kernel_rfl)
def asC:ai:=(⟨_,by cbv⟩:N0 (gF [] true f207)).1
theorem asD:aW 207 asC:=aD func207 (by kernel_rfl)
def PZ:ai:=(⟨_,by cbv⟩:N0 (gF [] false f208)).1
theorem asE:aW 208 PZ:=aD func208 (by kernel_rfl)
def ab4:ak:=(⟨_,by cbv⟩:N0 (gW [] 0 f209)).1
def asF:ai:=(⟨fun x=>_,fun x=>by cbv⟩:N1 0 (gF [] false f209)).1 ab4
theorem asG:aW 209 asF:=aD func209 (by kernel_rfl)
def asH:ai:=(⟨_,by cbv⟩:N0 (gF [] false f210)).1
theorem asI:aW 210 asH:=aD func210 (by kernel_rfl)
def asJ:ai:=(⟨_,by cbv⟩:N0 (gF [] false f211)).1
theorem asK:aW 211 asJ:=aD func211 (by kernel_rfl)
def Ud:ai:=(⟨_,by cbv⟩:N0 (gF [] false f212)).1
theorem asL:aW 212 Ud:=aD func212 (by kernel_rfl)
def asM:ai:=(⟨_,by cbv⟩:N0 (gF [] false f213)).1
theorem asN:aW 213 asM:=aD func213 (by kernel_rfl)
def asO:ai:=(⟨_,by cbv⟩:N0 (gF [] false f214)).1
theorem asP:aW 214 asO:=aD func214 (by kernel_rfl)
def P0:ai:=(⟨_,by cbv⟩:N0 (gF [] false f215)).1
theorem asQ:aW 215 P0:=aD func215 (by kernel_rfl)
def nS:ai:=(⟨_,by cbv⟩:N0 (gF [] false f216)).1
theorem asR:aW 216 nS:=aD func216 (by kernel_rfl)
def ab5:ak:=(⟨_,by cbv⟩:N0 (gW [] 3 f217)).1
def ab6:ak:=(⟨_,by cbv⟩:N0 (gW [] 1 f217)).1
def Ue:ai:=(⟨fun x y=>_,fun x y=>by cbv⟩:N2 1 3 (gF [] false f217)).1 ab6 ab5
theorem asS:aW 217 Ue:=aD func217 (by kernel_rfl)
def mR:ak:=(⟨_,by cbv⟩:N0 (gW [] 0 f218)).1
def P1:ai:=(⟨fun x=>_,fun x=>by cbv⟩:N1 0 (gF [] false f218)).1 mR
theorem asT:aW 218 P1:=aD func218 (by kernel_rfl)
def asU:ai:=(⟨_,by cbv⟩:N0 (gF [] false f219)).1
theorem asV:aW 219 asU:=aD func219 (by kernel_rfl)
def Uf:ai:=(⟨_,by cbv⟩:N0 (gF [] false f220)).1
theorem asW:aW 220 Uf:=aD func220 (by kernel_rfl)
def zt:ak:=(⟨_,by cbv⟩:N0 (gW [] 2 f221)).1
def um:ak:=(⟨fun x=>_,fun x=>by cbv⟩:N1 2 (gW [] 0 f221)).1 zt
def Ug:ai:=(⟨fun x=>_,fun x=>by cbv⟩:N1 0 (gF [] false f221)).1 um
theorem asY:aW 221 Ug:=aD func221 (by kernel_rfl)
def ab7:ak:=(⟨_,by cbv⟩:N0 (gW [] 0 f222)).1
def aj2:ai:=(⟨fun x=>_,fun x=>by cbv⟩:N1 0 (gF [] false f222)).1 ab7
theorem asZ:aW 222 aj2:=aD func222 (by kernel_rfl)
def mS:ak:=(⟨_,by cbv⟩:N0 (gW [] 0 f223)).1
def HS:ai:=(⟨fun x=>_,fun x=>by cbv⟩:N1 0 (gF [] false f223)).1 mS
theorem as0:aW 223 HS:=aD func223 (by kernel_rfl)
def rL:ak:=(⟨_,by cbv⟩:N0 (gW [] 0 f224)).1
def P2:ai:=(⟨fun x=>_,fun x=>by cbv⟩:N1 0 (gF [] false f224)).1 rL
theorem as1:aW 224 P2:=aD func224 (by kernel_rfl)
def ab8:ak:=(⟨_,by cbv⟩:N0 (gW [] 0 f225)).1
def as2:ai:=(⟨fun x=>_,fun x=>by cbv⟩:N1 0 (gF [] true f225)).1 ab8
theorem as3:aW 225 as2:=aD func225 (by kernel_rfl)
def as4:ai:=(⟨_,by cbv⟩:N0 (gF [] false f226)).1
theorem as5:aW 226 as4:=aD func226 (by kernel_rfl)
def as6:ai:=(⟨_,by cbv⟩:N0 (gF [] false f227)).1
theorem as7:aW 227 as6:=aD func227 (by kernel_rfl)
def P3:ai:=(⟨_,by cbv⟩:N0 (gF [] false f228)).1
theorem as8:aW 228 P3:=aD func228 (by kernel_rfl)
def P4:ai:=(⟨_,by cbv⟩:N0 (gF [] false f229)).1
theorem as9:aW 229 P4:=aD func229 (by kernel_rfl)
def mU:ak:=(⟨_,by cbv⟩:N0 (gW [] 0 f230)).1
def Uh:ai:=(⟨fun x=>_,fun x=>by cbv⟩:N1 0 (gF [] false f230)).1 mU
theorem ata:aW 230 Uh:=aD func230 (by kernel_rfl)
def wE:ai:=(⟨_,by cbv⟩:N0 (gF [] false f231)).1
theorem atb:aW 231 wE:=aD func231 (by kernel_rfl)
def CY:ai:=(⟨_,by cbv⟩:N0 (gF [] false f232)).1
theorem atc:aW 232 CY:=aD func232 (by kernel_rfl)
def atd:ai:=(⟨_,by cbv⟩:N0 (gF [] false f233)).1
theorem ate:aW 233 atd:=aD func233 (by kernel_rfl)
def ab9:ak:=(⟨_,by cbv⟩:N0 (gW [] 0 f234)).1
def atf:ai:=(⟨fun x=>_,fun x=>by cbv⟩:N1 0 (gF [] false f234)).1 ab9
theorem atg:aW 234 atf:=aD func234 (by kernel_rfl)
def rM:ak:=(⟨_,by cbv⟩:N0 (gW [] 2 f235)).1
def oS:ak:=(⟨_,by cbv⟩:N0 (gW [] 0 f235)).1
def K2:ai:=(⟨fun x y=>_,fun x y=>by cbv⟩:N2 0 2 (gF [] false f235)).1 oS rM
theorem ath:aW 235 K2:=aD func235 (by kernel_rfl)
def P5:ai:=(⟨_,by cbv⟩:N0 (gF [] false f236)).1
theorem ati:aW 236 P5:=aD func236 (by kernel_rfl)
def oU:ak:=(⟨_,by cbv⟩:N0 (gW [] 0 f237)).1
def Ui:ai:=(⟨fun x=>_,fun x=>by cbv⟩:N1 0 (gF [] false f237)).1 oU
theorem atj:aW 237 Ui:=aD func237 (by kernel_rfl)
def K3:ai:=(⟨_,by cbv⟩:N0 (gF [] false f238)).1
theorem atk:aW 238 K3:=aD func238 (by kernel_rfl)
def zw:ak:=(⟨_,by cbv⟩:N0 (gW [] 1 f239)).1
def qD:ai:=(⟨fun x=>_,fun x=>by cbv⟩:N1 1 (gF [] false f239)).1 zw
theorem atl:aW 239 qD:=aD func239 (by kernel_rfl)
def atm:ai:=(⟨_,by cbv⟩:N0 (gF [] true f240)).1
theorem atn:aW 240 atm:=aD func240 (by kernel_rfl)
def ato:ai:=(⟨_,by cbv⟩:N0 (gF [] false f241)).1
theorem atp:aW 241 ato:=aD func241 (by kernel_rfl)
def Uj:ai:=(⟨_,by cbv⟩:N0 (gF [] false f242)).1
theorem atq:aW 242 Uj:=aD func242 (by kernel_rfl)
def oV:ak:=(⟨_,by cbv⟩:N0 (gW [] 0 f243)).1
def Uk:ai:=(⟨fun x=>_,fun x=>by cbv⟩:N1 0 (gF [] false f243)).1 oV
theorem atr:aW 243 Uk:=aD func243 (by kernel_rfl)
def rO:ak:=(⟨_,by cbv⟩:N0 (gW [] 0 f244)).1
def Ul:ai:=(⟨fun x=>_,fun x=>by cbv⟩:N1 0 (gF [] false f244)).1 rO
theorem ats:aW 244 Ul:=aD func244 (by kernel_rfl)
def Um:ai:=(⟨_,by cbv⟩:N0 (gF [] false f245)).1
theorem att:aW 245 Um:=aD func245 (by kernel_rfl)
def Un:ai:=(⟨_,by cbv⟩:N0 (gF [] false f246)).1
theorem atu:aW 246 Un:=aD func246 (by kernel_rfl)
def K4:ai:=(⟨_,by cbv⟩:N0 (gF [] false f247)).1
theorem atv:aW 247 K4:=aD func247 (by kernel_rfl)
def Fh:ai:=(⟨_,by cbv⟩:N0 (gF [] false f248)).1
theorem atw:aW 248 Fh:=aD func248 (by kernel_rfl)
def K5:ai:=(⟨_,by cbv⟩:N0 (gF [] false f249)).1
theorem atx:aW 249 K5:=aD func249 (by kernel_rfl)
def P6:ai:=(⟨_,by cbv⟩:N0 (gF [] false f250)).1
theorem aty:aW 250 P6:=aD func250 (by kernel_rfl)
def Uo:ai:=(⟨_,by cbv⟩:N0 (gF [] false f251)).1
theorem atz:aW 251 Uo:=aD func251 (by kernel_rfl)
def atA:ai:=(⟨_,by cbv⟩:N0 (gF [] true f252)).1
theorem atC:aW 252 atA:=aD func252 (by kernel_rfl)
def Uq:ai:=(⟨_,by cbv⟩:N0 (gF [] false f254)).1
theorem atD:aW 254 Uq:=aD func254 (by kernel_rfl)
def Ur:ai:=(⟨_,by cbv⟩:N0 (gF [] false f255)).1
theorem atE:aW 255 Ur:=aD func255 (by kernel_rfl)
def Fi:ai:=(⟨_,by cbv⟩:N0 (gF [] false f256)).1
theorem atF:aW 256 Fi:=aD func256 (by kernel_rfl)
def Us:ai:=(⟨_,by cbv⟩:N0 (gF [] false f257)).1
theorem atG:aW 257 Us:=aD func257 (by kernel_rfl)
def P7:ai:=(⟨_,by cbv⟩:N0 (gF [] false f258)).1
theorem atH:aW 258 P7:=aD func258 (by kernel_rfl)
def P8:ai:=(⟨_,by cbv⟩:N0 (gF [] false f259)).1
theorem atI:aW 259 P8:=aD func259 (by kernel_rfl)
def aca:ak:=(⟨_,by cbv⟩:N0 (gW [] 0 f260)).1
def atJ:ai:=(⟨fun x=>_,fun x=>by cbv⟩:N1 0 (gF [] true f260)).1 aca
theorem atK:aW 260 atJ:=aD func260 (by kernel_rfl)
def atL:ai:=(⟨_,by cbv⟩:N0 (gF [] true f261)).1
theorem atM:aW 261 atL:=aD func261 (by kernel_rfl)
def Ut:ai:=(⟨_,by cbv⟩:N0 (gF [] false f266)).1
theorem atN:aW 266 Ut:=aD func266 (by kernel_rfl)
def Uu:ai:=(⟨_,by cbv⟩:N0 (gF [] false f267)).1
theorem atO:aW 267 Uu:=aD func267 (by kernel_rfl)
def acb:ak:=(⟨_,by cbv⟩:N0 (gW [] 0 f268)).1
def atP:ai:=(⟨fun x=>_,fun x=>by cbv⟩:N1 0 (gF [] true f268)).1 acb
theorem atQ:aW 268 atP:=aD func268 (by kernel_rfl)
def Uv:ai:=(⟨_,by cbv⟩:N0 (gF [] false f271)).1
theorem atS:aW 271 Uv:=aD func271 (by kernel_rfl)
def atU:ai:=(⟨_,by cbv⟩:N0 (gF [] true f272)).1
theorem atX:aW 272 atU:=aD func272 (by kernel_rfl)
def acd:ak:=(⟨_,by cbv⟩:N0 (gW [] 0 f273)).1
def atY:ai:=(⟨fun x=>_,fun x=>by cbv⟩:N1 0 (gF [] true f273)).1 acd
theorem atZ:aW 273 atY:=aD func273 (by kernel_rfl)
end Go.Proofs.YtcpceiclnbmgiaaGreat
