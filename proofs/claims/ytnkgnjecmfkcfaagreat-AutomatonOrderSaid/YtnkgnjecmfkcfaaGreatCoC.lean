/- The codes of functions of the program, as the evaluator reads them: computed out of the model's functions; that each is what its compiler makes of the function. Conditions: none. -/
import Derived.Test.YtnkgnjecmfkcfaaGreatCoN
import Derived.KernelRfl
set_option maxRecDepth 100000
set_option maxHeartbeats 16000000
namespace Go.Proofs.YtnkgnjecmfkcfaaGreat
open Go Go.Ev Tryz
def Pf:aj:=(⟨_,by cbv⟩:N0 (gF [] false f195)).1
theorem apQ:aQ 195 Pf:=aB func195 (by kernel_rfl)
def aix:aj:=(⟨_,by cbv⟩:N0 (gF [8] false f196)).1
theorem apR:aQ 196 aix:=codeOk (hs:=[8]) func196 (by kernel_rfl)
def Ho:aj:=(⟨_,by cbv⟩:N0 (gF [] false f197)).1
theorem apU:aQ 197 Ho:=aB func197 (by kernel_rfl)
def SX:aj:=(⟨_,by cbv⟩:N0 (gF [] false f198)).1
theorem apV:aQ 198 SX:=aB func198 (by kernel_rfl)
def SY:aj:=(⟨_,by cbv⟩:N0 (gF [] false f199)).1
theorem apW:aQ 199 SY:=aB func199 (by kernel_rfl)
def SZ:aj:=(⟨_,by cbv⟩:N0 (gF [] false f200)).1
theorem apX:aQ 200 SZ:=aB func200 (by kernel_rfl)
def tK:ak:=(⟨_,by cbv⟩:N0 (gW [] 8 f201)).1
theorem CA:dO (bX (.loop tK))=1267573228975774065229522010628:=nr rfl
def tL:ak:=(⟨_,by cbv⟩:N0 (gW [] 6 f201)).1
theorem CB:dO (bX (.loop tL))=77370071863715549769892100:=nr rfl
def tM:ak:=(⟨fun x y=>_,fun x y=>by cbv⟩:N2 6 8 (gW [] 4 f201)).1 tL tK
theorem Pg:dO (bX (.loop tM))=5192296858534827610516097819739076:=nr rfl
def tN:ak:=(⟨_,by cbv⟩:N0 (gW [] 2 f201)).1
theorem CC:dO (bX (.loop tN))=1099444518948:=nr rfl
def tO:ak:=(⟨fun x=>_,fun x=>by cbv⟩:N1 2 (gW [] 0 f201)).1 tN
theorem CD:dO (bX (.loop tO))=18014398509481020:=nr rfl
def S0:aj:=(⟨fun x y=>_,fun x y=>by cbv⟩:N2 0 4 (gF [] false f201)).1 tO tM
theorem apY:aQ 201 S0:=aB func201 (by kernel_rfl)
def Kt:aj:=(⟨_,by cbv⟩:N0 (gF [] false f202)).1
theorem apZ:aQ 202 Kt:=aB func202 (by kernel_rfl)
def kE:ak:=(⟨_,by cbv⟩:N0 (gW [] 0 f203)).1
def S1:aj:=(⟨fun x=>_,fun x=>by cbv⟩:N1 0 (gF [] false f203)).1 kE
theorem ap0:aQ 203 S1:=aB func203 (by kernel_rfl)
def S2:aj:=(⟨_,by cbv⟩:N0 (gF [] false f204)).1
theorem ap1:aQ 204 S2:=aB func204 (by kernel_rfl)
def S3:aj:=(⟨_,by cbv⟩:N0 (gF [] false f205)).1
theorem ap2:aQ 205 S3:=aB func205 (by kernel_rfl)
def oi:ak:=(⟨_,by cbv⟩:N0 (gW [] 0 f206)).1
def S4:aj:=(⟨fun x=>_,fun x=>by cbv⟩:N1 0 (gF [] false f206)).1 oi
theorem ap3:aQ 206 S4:=aB func206 (by kernel_rfl)
def Ph:aj:=(⟨_,by cbv⟩:N0 (gF [] false f207)).1
theorem ap4:aQ 207 Ph:=aB func207 (by kernel_rfl)
def S5:aj:=(⟨_,by cbv⟩:N0 (gF [] false f208)).1
theorem ap5:aQ 208 S5:=aB func208 (by kernel_rfl)
def S6:aj:=(⟨_,by cbv⟩:N0 (gF [] false f209)).1
theorem ap6:aQ 209 S6:=aB func209 (by kernel_rfl)
def tP:ak:=(⟨_,by cbv⟩:N0 (gW [] 0 f210)).1
theorem Pj:dO (bX (.loop tP))=137438920732:=nr rfl
def Pk:aj:=(⟨fun x=>_,fun x=>by cbv⟩:N1 0 (gF [] false f210)).1 tP
theorem ap7:aQ 210 Pk:=aB func210 (by kernel_rfl)
def S7:aj:=(⟨_,by cbv⟩:N0 (gF [] false f211)).1
theorem ap8:aQ 211 S7:=aB func211 (by kernel_rfl)
def qD:ak:=(⟨_,by cbv⟩:N0 (gW [] 0 f212)).1
theorem Pl:dO (bX (.loop qD))=4294966372:=nr rfl
def S8:aj:=(⟨fun x=>_,fun x=>by cbv⟩:N1 0 (gF [] false f212)).1 qD
theorem ap9:aQ 212 S8:=aB func212 (by kernel_rfl)
def qE:ak:=(⟨_,by cbv⟩:N0 (gW [] 0 f213)).1
theorem Pm:dO (bX (.loop qE))=4398046509284:=nr rfl
def S9:aj:=(⟨fun x=>_,fun x=>by cbv⟩:N1 0 (gF [] false f213)).1 qE
theorem aqa:aQ 213 S9:=aB func213 (by kernel_rfl)
def Ta:aj:=(⟨_,by cbv⟩:N0 (gF [] false f214)).1
theorem aqb:aQ 214 Ta:=aB func214 (by kernel_rfl)
def aiy:aj:=(⟨_,by cbv⟩:N0 (gF [3] false f215)).1
theorem aqc:aQ 215 aiy:=codeOk (hs:=[3]) func215 (by kernel_rfl)
def qG:ak:=(⟨_,by cbv⟩:N0 (gW [] 3 f216)).1
theorem Pn:dO (bX (.loop qG))=1208925819051679221284996:=nr rfl
def qH:ak:=(⟨_,by cbv⟩:N0 (gW [] 0 f216)).1
theorem CE:dO (bX (.loop qH))=70368744173604:=nr rfl
def Td:aj:=(⟨fun x y=>_,fun x y=>by cbv⟩:N2 0 3 (gF [] false f216)).1 qH qG
theorem aqd:aQ 216 Td:=aB func216 (by kernel_rfl)
def Po:aj:=(⟨_,by cbv⟩:N0 (gF [] true f217)).1
theorem aqe:aQ 217 Po:=aB func217 (by kernel_rfl)
def rz:aj:=(⟨_,by cbv⟩:N0 (gF [] false f227)).1
theorem aqf:aQ 227 rz:=aB func227 (by kernel_rfl)
def Ku:aj:=(⟨_,by cbv⟩:N0 (gF [] false f228)).1
theorem aqg:aQ 228 Ku:=aB func228 (by kernel_rfl)
def Te:aj:=(⟨_,by cbv⟩:N0 (gF [] false f229)).1
theorem aqh:aQ 229 Te:=aB func229 (by kernel_rfl)
def aaj:ak:=(⟨_,by cbv⟩:N0 (gW [] 0 f230)).1
def aiz:aj:=(⟨fun x=>_,fun x=>by cbv⟩:N1 0 (gF [] true f230)).1 aaj
theorem aqi:aQ 230 aiz:=aB func230 (by kernel_rfl)
def Tf:aj:=(⟨_,by cbv⟩:N0 (gF [] false f231)).1
theorem aqj:aQ 231 Tf:=aB func231 (by kernel_rfl)
def aqk:aj:=(⟨_,by cbv⟩:N0 (gF [] false f232)).1
theorem aql:aQ 232 aqk:=aB func232 (by kernel_rfl)
def aqm:aj:=(⟨_,by cbv⟩:N0 (gF [] false f233)).1
theorem aqn:aQ 233 aqm:=aB func233 (by kernel_rfl)
def Tg:aj:=(⟨_,by cbv⟩:N0 (gF [] false f234)).1
theorem aqo:aQ 234 Tg:=aB func234 (by kernel_rfl)
def Th:aj:=(⟨_,by cbv⟩:N0 (gF [] false f235)).1
theorem aqp:aQ 235 Th:=aB func235 (by kernel_rfl)
def Pp:aj:=(⟨_,by cbv⟩:N0 (gF [] false f236)).1
theorem aqq:aQ 236 Pp:=aB func236 (by kernel_rfl)
def tQ:ak:=(⟨_,by cbv⟩:N0 (gW [] 0 f237)).1
theorem CF:dO (bX (.loop tQ))=4194300:=nr rfl
def Ti:aj:=(⟨fun x=>_,fun x=>by cbv⟩:N1 0 (gF [] false f237)).1 tQ
theorem aqr:aQ 237 Ti:=aB func237 (by kernel_rfl)
def Tj:aj:=(⟨_,by cbv⟩:N0 (gF [] false f238)).1
theorem aqs:aQ 238 Tj:=aB func238 (by kernel_rfl)
def Pq:aj:=(⟨_,by cbv⟩:N0 (gF [] false f239)).1
theorem aqt:aQ 239 Pq:=aB func239 (by kernel_rfl)
def Tl:aj:=(⟨_,by cbv⟩:N0 (gF [] false f240)).1
theorem aqu:aQ 240 Tl:=aB func240 (by kernel_rfl)
def aqv:aj:=(⟨_,by cbv⟩:N0 (gF [] false f241)).1
theorem aqw:aQ 241 aqv:=aB func241 (by kernel_rfl)
def aak:ak:=(⟨_,by cbv⟩:N0 (gW [] 1 f242)).1
def aqx:aj:=(⟨fun x=>_,fun x=>by cbv⟩:N1 1 (gF [] false f242)).1 aak
theorem aqy:aQ 242 aqx:=aB func242 (by kernel_rfl)
def aqz:aj:=(⟨_,by cbv⟩:N0 (gF [] false f243)).1
theorem aqA:aQ 243 aqz:=aB func243 (by kernel_rfl)
def Pr:aj:=(⟨_,by cbv⟩:N0 (gF [] false f244)).1
theorem aqB:aQ 244 Pr:=aB func244 (by kernel_rfl)
def aal:ak:=(⟨_,by cbv⟩:N0 (gW [] 0 f247)).1
def aqC:aj:=(⟨fun x=>_,fun x=>by cbv⟩:N1 0 (gF [] false f247)).1 aal
theorem aqD:aQ 247 aqC:=aB func247 (by kernel_rfl)
def aqE:aj:=(⟨_,by cbv⟩:N0 (gF [] false f248)).1
theorem aqF:aQ 248 aqE:=aB func248 (by kernel_rfl)
def aqG:aj:=(⟨_,by cbv⟩:N0 (gF [] false f249)).1
theorem aqH:aQ 249 aqG:=aB func249 (by kernel_rfl)
def aam:ak:=(⟨_,by cbv⟩:N0 (gW [] 0 f250)).1
def aqI:aj:=(⟨fun x=>_,fun x=>by cbv⟩:N1 0 (gF [] false f250)).1 aam
theorem aqJ:aQ 250 aqI:=aB func250 (by kernel_rfl)
def aqK:aj:=(⟨_,by cbv⟩:N0 (gF [] true f251)).1
theorem aqL:aQ 251 aqK:=aB func251 (by kernel_rfl)
def aqM:aj:=(⟨_,by cbv⟩:N0 (gF [] false f252)).1
theorem aqN:aQ 252 aqM:=aB func252 (by kernel_rfl)
def Mx:ak:=(⟨_,by cbv⟩:N0 (gW [] 0 f253)).1
def Tm:aj:=(⟨fun x=>_,fun x=>by cbv⟩:N1 0 (gF [] false f253)).1 Mx
theorem aqO:aQ 253 Tm:=aB func253 (by kernel_rfl)
def Tn:aj:=(⟨_,by cbv⟩:N0 (gF [] false f254)).1
theorem aqP:aQ 254 Tn:=aB func254 (by kernel_rfl)
def tR:ak:=(⟨_,by cbv⟩:N0 (gW [] 2 f255)).1
theorem wv:dO (bX (.loop tR))=4951684599277795185273274368:=nr rfl
def qI:ak:=(⟨fun x=>_,fun x=>by cbv⟩:N1 2 (gW [] 0 f255)).1 tR
theorem CG:dO (bX (.loop qI))=633825300114114700748343476096:=nr rfl
def To:aj:=(⟨fun x=>_,fun x=>by cbv⟩:N1 0 (gF [] false f255)).1 qI
theorem aqQ:aQ 255 To:=aB func255 (by kernel_rfl)
def Tp:aj:=(⟨_,by cbv⟩:N0 (gF [] false f256)).1
theorem aqR:aQ 256 Tp:=aB func256 (by kernel_rfl)
def aan:ak:=(⟨_,by cbv⟩:N0 (gW [] 0 f257)).1
def aqS:aj:=(⟨fun x=>_,fun x=>by cbv⟩:N1 0 (gF [] true f257)).1 aan
theorem aqT:aQ 257 aqS:=aB func257 (by kernel_rfl)
def aao:ak:=(⟨_,by cbv⟩:N0 (gW [] 1 f258)).1
def aqU:aj:=(⟨fun x=>_,fun x=>by cbv⟩:N1 1 (gF [] false f258)).1 aao
theorem aqV:aQ 258 aqU:=aB func258 (by kernel_rfl)
def Tq:aj:=(⟨_,by cbv⟩:N0 (gF [] false f259)).1
theorem aqW:aQ 259 Tq:=aB func259 (by kernel_rfl)
def iB:ak:=(⟨_,by cbv⟩:N0 (gW [] 0 f260)).1
theorem CH:dO (bX (.loop iB))=4835700972615507485623040:=nr rfl
def zy:aj:=(⟨fun x=>_,fun x=>by cbv⟩:N1 0 (gF [] true f260)).1 iB
theorem aqX:aQ 260 zy:=aB func260 (by kernel_rfl)
def Ts:aj:=(⟨_,by cbv⟩:N0 (gF [] false f266)).1
theorem aqY:aQ 266 Ts:=aB func266 (by kernel_rfl)
def Ps:aj:=(⟨_,by cbv⟩:N0 (gF [] false f267)).1
theorem aqZ:aQ 267 Ps:=aB func267 (by kernel_rfl)
def aap:ak:=(⟨_,by cbv⟩:N0 (gW [] 0 f268)).1
def aq0:aj:=(⟨fun x=>_,fun x=>by cbv⟩:N1 0 (gF [] false f268)).1 aap
theorem aq1:aQ 268 aq0:=aB func268 (by kernel_rfl)
def aq2:aj:=(⟨_,by cbv⟩:N0 (gF [] true f269)).1
theorem aq3:aQ 269 aq2:=aB func269 (by kernel_rfl)
def aq4:aj:=(⟨_,by cbv⟩:N0 (gF [] true f270)).1
theorem aq5:aQ 270 aq4:=aB func270 (by kernel_rfl)
def Pt:aj:=(⟨_,by cbv⟩:N0 (gF [] false f271)).1
theorem aq6:aQ 271 Pt:=aB func271 (by kernel_rfl)
def Tu:aj:=(⟨_,by cbv⟩:N0 (gF [] false f272)).1
theorem aq7:aQ 272 Tu:=aB func272 (by kernel_rfl)
def aaq:ak:=(⟨_,by cbv⟩:N0 (gW [] 0 f273)).1
def aq8:aj:=(⟨fun x=>_,fun x=>by cbv⟩:N1 0 (gF [] false f273)).1 aaq
theorem aq9:aQ 273 aq8:=aB func273 (by kernel_rfl)
def ara:aj:=(⟨_,by cbv⟩:N0 (gF [] false f274)).1
theorem arb:aQ 274 ara:=aB func274 (by kernel_rfl)
def arc:aj:=(⟨_,by cbv⟩:N0 (gF [] false f275)).1
theorem ard:aQ 275 arc:=aB func275 (by kernel_rfl)
def aar:ak:=(⟨_,by cbv⟩:N0 (gW [] 0 f276)).1
def arf:aj:=(⟨fun x=>_,fun x=>by cbv⟩:N1 0 (gF [] false f276)).1 aar
theorem arh:aQ 276 arf:=aB func276 (by kernel_rfl)
def ari:aj:=(⟨_,by cbv⟩:N0 (gF [] false f281)).1
theorem arj:aQ 281 ari:=aB func281 (by kernel_rfl)
def aas:ak:=(⟨_,by cbv⟩:N0 (gW [] 0 f282)).1
def ark:aj:=(⟨fun x=>_,fun x=>by cbv⟩:N1 0 (gF [] true f282)).1 aas
theorem arl:aQ 282 ark:=aB func282 (by kernel_rfl)
def arn:aj:=(⟨_,by cbv⟩:N0 (gF [] true f283)).1
theorem aro:aQ 283 arn:=aB func283 (by kernel_rfl)
def qJ:ak:=(⟨_,by cbv⟩:N0 (gW [] 2 f284)).1
def lV:ak:=(⟨_,by cbv⟩:N0 (gW [] 0 f284)).1
theorem Pu:dO (bX (.loop lV))=1099511496896:=nr rfl
def Kv:aj:=(⟨fun x y=>_,fun x y=>by cbv⟩:N2 0 2 (gF [] false f284)).1 lV qJ
theorem arp:aQ 284 Kv:=aB func284 (by kernel_rfl)
def om:ak:=(⟨_,by cbv⟩:N0 (gW [] 0 f285)).1
def Tv:aj:=(⟨fun x=>_,fun x=>by cbv⟩:N1 0 (gF [] false f285)).1 om
theorem arq:aQ 285 Tv:=aB func285 (by kernel_rfl)
def Tw:aj:=(⟨_,by cbv⟩:N0 (gF [] false f286)).1
theorem art:aQ 286 Tw:=aB func286 (by kernel_rfl)
def aru:aj:=(⟨_,by cbv⟩:N0 (gF [] false f287)).1
theorem arv:aQ 287 aru:=aB func287 (by kernel_rfl)
def arw:aj:=(⟨_,by cbv⟩:N0 (gF [] false f288)).1
theorem arx:aQ 288 arw:=aB func288 (by kernel_rfl)
def mV:aj:=(⟨_,by cbv⟩:N0 (gF [] false f289)).1
theorem ary:aQ 289 mV:=aB func289 (by kernel_rfl)
def arz:aj:=(⟨_,by cbv⟩:N0 (gF [1000000] false f291)).1
theorem arA:aQ 291 arz:=codeOk (hs:=[1000000]) func291 (by kernel_rfl)
def aat:ak:=(⟨_,by cbv⟩:N0 (gW [] 0 f292)).1
def arC:aj:=(⟨fun x=>_,fun x=>by cbv⟩:N1 0 (gF [] false f292)).1 aat
theorem arD:aQ 292 arC:=aB func292 (by kernel_rfl)
def arE:aj:=(⟨_,by cbv⟩:N0 (gF [] false f293)).1
theorem arF:aQ 293 arE:=aB func293 (by kernel_rfl)
def arG:aj:=(⟨_,by cbv⟩:N0 (gF [] false f294)).1
theorem arH:aQ 294 arG:=aB func294 (by kernel_rfl)
def arI:aj:=(⟨_,by cbv⟩:N0 (gF [] false f295)).1
theorem arJ:aQ 295 arI:=aB func295 (by kernel_rfl)
def arK:aj:=(⟨_,by cbv⟩:N0 (gF [] false f296)).1
theorem arL:aQ 296 arK:=aB func296 (by kernel_rfl)
def arM:aj:=(⟨_,by cbv⟩:N0 (gF [] false f297)).1
theorem arN:aQ 297 arM:=aB func297 (by kernel_rfl)
def arO:aj:=(⟨_,by cbv⟩:N0 (gF [] false f298)).1
theorem arP:aQ 298 arO:=aB func298 (by kernel_rfl)
def arQ:aj:=(⟨_,by cbv⟩:N0 (gF [] true f299)).1
theorem arR:aQ 299 arQ:=aB func299 (by kernel_rfl)
def arT:aj:=(⟨_,by cbv⟩:N0 (gF [] false f300)).1
theorem arU:aQ 300 arT:=aB func300 (by kernel_rfl)
def arV:aj:=(⟨_,by cbv⟩:N0 (gF [] false f301)).1
theorem arW:aQ 301 arV:=aB func301 (by kernel_rfl)
def arX:aj:=(⟨_,by cbv⟩:N0 (gF [] false f302)).1
theorem arY:aQ 302 arX:=aB func302 (by kernel_rfl)
def Pv:aj:=(⟨_,by cbv⟩:N0 (gF [] false f303)).1
theorem arZ:aQ 303 Pv:=aB func303 (by kernel_rfl)
def aau:ak:=(⟨_,by cbv⟩:N0 (gW [] 0 f305)).1
def ar0:aj:=(⟨fun x=>_,fun x=>by cbv⟩:N1 0 (gF [] true f305)).1 aau
theorem ar1:aQ 305 ar0:=aB func305 (by kernel_rfl)
def ar2:aj:=(⟨_,by cbv⟩:N0 (gF [] false f306)).1
theorem ar3:aQ 306 ar2:=aB func306 (by kernel_rfl)
def ar4:aj:=(⟨_,by cbv⟩:N0 (gF [] false f307)).1
theorem ar5:aQ 307 ar4:=aB func307 (by kernel_rfl)
def Pw:aj:=(⟨_,by cbv⟩:N0 (gF [] false f308)).1
theorem ar6:aQ 308 Pw:=aB func308 (by kernel_rfl)
def lW:ak:=(⟨_,by cbv⟩:N0 (gW [] 0 f309)).1
def Tx:aj:=(⟨fun x=>_,fun x=>by cbv⟩:N1 0 (gF [] false f309)).1 lW
theorem ar7:aQ 309 Tx:=aB func309 (by kernel_rfl)
def wx:aj:=(⟨_,by cbv⟩:N0 (gF [] false f310)).1
theorem ar8:aQ 310 wx:=aB func310 (by kernel_rfl)
def BN:aj:=(⟨_,by cbv⟩:N0 (gF [] false f311)).1
theorem ar9:aQ 311 BN:=aB func311 (by kernel_rfl)
def aav:ak:=(⟨_,by cbv⟩:N0 (gW [] 0 f312)).1
def asa:aj:=(⟨fun x=>_,fun x=>by cbv⟩:N1 0 (gF [] false f312)).1 aav
theorem asb:aQ 312 asa:=aB func312 (by kernel_rfl)
def asd:aj:=(⟨_,by cbv⟩:N0 (gF [] true f313)).1
theorem ase:aQ 313 asd:=aB func313 (by kernel_rfl)
def asf:aj:=(⟨_,by cbv⟩:N0 (gF [] false f314)).1
theorem asg:aQ 314 asf:=aB func314 (by kernel_rfl)
def ash:aj:=(⟨_,by cbv⟩:N0 (gF [] true f315)).1
theorem asi:aQ 315 ash:=aB func315 (by kernel_rfl)
def aaw:ak:=(⟨_,by cbv⟩:N0 (gW [] 0 f317)).1
def asj:aj:=(⟨fun x=>_,fun x=>by cbv⟩:N1 0 (gF [] true f317)).1 aaw
theorem asl:aQ 317 asj:=aB func317 (by kernel_rfl)
def asm:aj:=(⟨_,by cbv⟩:N0 (gF [] true f318)).1
theorem asn:aQ 318 asm:=aB func318 (by kernel_rfl)
def aax:ak:=(⟨_,by cbv⟩:N0 (gW [] 0 f323)).1
def aso:aj:=(⟨fun x=>_,fun x=>by cbv⟩:N1 0 (gF [] true f323)).1 aax
theorem asp:aQ 323 aso:=aB func323 (by kernel_rfl)
def asq:aj:=(⟨_,by cbv⟩:N0 (gF [] true f326)).1
theorem asr:aQ 326 asq:=aB func326 (by kernel_rfl)
def aay:ak:=(⟨_,by cbv⟩:N0 (gW [] 0 f327)).1
def ass:aj:=(⟨fun x=>_,fun x=>by cbv⟩:N1 0 (gF [] true f327)).1 aay
theorem ast:aQ 327 ass:=aB func327 (by kernel_rfl)
end Go.Proofs.YtnkgnjecmfkcfaaGreat
