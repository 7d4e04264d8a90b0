/- The codes of functions of the program, as the evaluator reads them: computed out of the model's functions; that each is what its compiler makes of the function. Conditions: none. -/
import Derived.Test.YtnkgnjecmfkcfaaGreatCoN
import Derived.KernelRfl
set_option maxRecDepth 100000
set_option maxHeartbeats 16000000
namespace Go.Proofs.YtnkgnjecmfkcfaaGreat
open Go Go.Ev Tryz
def aqa:aj:=(⟨_,by cbv⟩:N0 (gF [] false f191)).1
theorem aqb:aV 191 aqa:=aC func191 (by kernel_rfl)
def TP:aj:=(⟨_,by cbv⟩:N0 (gF [] false f192)).1
theorem aqc:aV 192 TP:=aC func192 (by kernel_rfl)
def aqd:aj:=(⟨_,by cbv⟩:N0 (gF [] true f193)).1
theorem aqe:aV 193 aqd:=aC func193 (by kernel_rfl)
def TQ:aj:=(⟨_,by cbv⟩:N0 (gF [] false f194)).1
theorem aqf:aV 194 TQ:=aC func194 (by kernel_rfl)
def PX:aj:=(⟨_,by cbv⟩:N0 (gF [] false f195)).1
theorem aqg:aV 195 PX:=aC func195 (by kernel_rfl)
def aje:aj:=(⟨_,by cbv⟩:N0 (gF [8] false f196)).1
theorem aqh:aV 196 aje:=codeOk (hs:=[8]) func196 (by kernel_rfl)
def HS:aj:=(⟨_,by cbv⟩:N0 (gF [] false f197)).1
theorem aqi:aV 197 HS:=aC func197 (by kernel_rfl)
def TR:aj:=(⟨_,by cbv⟩:N0 (gF [] false f198)).1
theorem aqj:aV 198 TR:=aC func198 (by kernel_rfl)
def TS:aj:=(⟨_,by cbv⟩:N0 (gF [] false f199)).1
theorem aqk:aV 199 TS:=aC func199 (by kernel_rfl)
def TT:aj:=(⟨_,by cbv⟩:N0 (gF [] false f200)).1
theorem aql:aV 200 TT:=aC func200 (by kernel_rfl)
def uc:ak:=(⟨_,by cbv⟩:N0 (gW [] 8 f201)).1
theorem Di:eC (ch (.loop uc))=1267573228975774065229522010628:=nr rfl
def ue:ak:=(⟨_,by cbv⟩:N0 (gW [] 6 f201)).1
theorem Dj:eC (ch (.loop ue))=77370071863715549769892100:=nr rfl
def uf:ak:=(⟨fun x y=>_,fun x y=>by cbv⟩:N2 6 8 (gW [] 4 f201)).1 ue uc
theorem PY:eC (ch (.loop uf))=5192296858534827610516097819739076:=nr rfl
def ug:ak:=(⟨_,by cbv⟩:N0 (gW [] 2 f201)).1
theorem Dk:eC (ch (.loop ug))=1099444518948:=nr rfl
def uh:ak:=(⟨fun x=>_,fun x=>by cbv⟩:N1 2 (gW [] 0 f201)).1 ug
theorem Dl:eC (ch (.loop uh))=18014398509481020:=nr rfl
def TU:aj:=(⟨fun x y=>_,fun x y=>by cbv⟩:N2 0 4 (gF [] false f201)).1 uh uf
theorem aqm:aV 201 TU:=aC func201 (by kernel_rfl)
def KY:aj:=(⟨_,by cbv⟩:N0 (gF [] false f202)).1
theorem aqn:aV 202 KY:=aC func202 (by kernel_rfl)
def kQ:ak:=(⟨_,by cbv⟩:N0 (gW [] 0 f203)).1
def TV:aj:=(⟨fun x=>_,fun x=>by cbv⟩:N1 0 (gF [] false f203)).1 kQ
theorem aqo:aV 203 TV:=aC func203 (by kernel_rfl)
def TW:aj:=(⟨_,by cbv⟩:N0 (gF [] false f204)).1
theorem aqp:aV 204 TW:=aC func204 (by kernel_rfl)
def TX:aj:=(⟨_,by cbv⟩:N0 (gF [] false f205)).1
theorem aqq:aV 205 TX:=aC func205 (by kernel_rfl)
def oB:ak:=(⟨_,by cbv⟩:N0 (gW [] 0 f206)).1
def TY:aj:=(⟨fun x=>_,fun x=>by cbv⟩:N1 0 (gF [] false f206)).1 oB
theorem aqr:aV 206 TY:=aC func206 (by kernel_rfl)
def PZ:aj:=(⟨_,by cbv⟩:N0 (gF [] false f207)).1
theorem aqs:aV 207 PZ:=aC func207 (by kernel_rfl)
def TZ:aj:=(⟨_,by cbv⟩:N0 (gF [] false f208)).1
theorem aqt:aV 208 TZ:=aC func208 (by kernel_rfl)
def T1:aj:=(⟨_,by cbv⟩:N0 (gF [] false f209)).1
theorem aqu:aV 209 T1:=aC func209 (by kernel_rfl)
def ui:ak:=(⟨_,by cbv⟩:N0 (gW [] 0 f210)).1
theorem P0:eC (ch (.loop ui))=137438920732:=nr rfl
def P1:aj:=(⟨fun x=>_,fun x=>by cbv⟩:N1 0 (gF [] false f210)).1 ui
theorem aqv:aV 210 P1:=aC func210 (by kernel_rfl)
def T2:aj:=(⟨_,by cbv⟩:N0 (gF [] false f211)).1
theorem aqw:aV 211 T2:=aC func211 (by kernel_rfl)
def qZ:ak:=(⟨_,by cbv⟩:N0 (gW [] 0 f212)).1
theorem P2:eC (ch (.loop qZ))=4294966372:=nr rfl
def T3:aj:=(⟨fun x=>_,fun x=>by cbv⟩:N1 0 (gF [] false f212)).1 qZ
theorem aqx:aV 212 T3:=aC func212 (by kernel_rfl)
def re:ak:=(⟨_,by cbv⟩:N0 (gW [] 0 f213)).1
theorem P3:eC (ch (.loop re))=4398046509284:=nr rfl
def T4:aj:=(⟨fun x=>_,fun x=>by cbv⟩:N1 0 (gF [] false f213)).1 re
theorem aqy:aV 213 T4:=aC func213 (by kernel_rfl)
def T5:aj:=(⟨_,by cbv⟩:N0 (gF [] false f214)).1
theorem aqz:aV 214 T5:=aC func214 (by kernel_rfl)
def ajf:aj:=(⟨_,by cbv⟩:N0 (gF [3] false f215)).1
theorem aqA:aV 215 ajf:=codeOk (hs:=[3]) func215 (by kernel_rfl)
def rf:ak:=(⟨_,by cbv⟩:N0 (gW [] 3 f216)).1
theorem P4:eC (ch (.loop rf))=1208925819051679221284996:=nr rfl
def rh:ak:=(⟨_,by cbv⟩:N0 (gW [] 0 f216)).1
theorem Dm:eC (ch (.loop rh))=70368744173604:=nr rfl
def T6:aj:=(⟨fun x y=>_,fun x y=>by cbv⟩:N2 0 3 (gF [] false f216)).1 rh rf
theorem aqB:aV 216 T6:=aC func216 (by kernel_rfl)
def P5:aj:=(⟨_,by cbv⟩:N0 (gF [] true f217)).1
theorem aqC:aV 217 P5:=aC func217 (by kernel_rfl)
def T7:aj:=(⟨_,by cbv⟩:N0 (gF [] false f222)).1
theorem aqD:aV 222 T7:=aC func222 (by kernel_rfl)
def gf:ak:=(⟨_,by cbv⟩:N0 (gW [] 2 f223)).1
def jC:ak:=(⟨fun x=>_,fun x=>by cbv⟩:N1 2 (gW [] 0 f223)).1 gf
def P6:aj:=(⟨fun x=>_,fun x=>by cbv⟩:N1 0 (gF [] false f223)).1 jC
theorem aqE:aV 223 P6:=aC func223 (by kernel_rfl)
def ri:ak:=(⟨_,by cbv⟩:N0 (gW [] 0 f224)).1
def T8:aj:=(⟨fun x=>_,fun x=>by cbv⟩:N1 0 (gF [] false f224)).1 ri
theorem aqF:aV 224 T8:=aC func224 (by kernel_rfl)
def T9:aj:=(⟨_,by cbv⟩:N0 (gF [] false f225)).1
theorem aqG:aV 225 T9:=aC func225 (by kernel_rfl)
def P7:aj:=(⟨_,by cbv⟩:N0 (gF [] false f226)).1
theorem aqH:aV 226 P7:=aC func226 (by kernel_rfl)
def rX:aj:=(⟨_,by cbv⟩:N0 (gF [] false f227)).1
theorem aqI:aV 227 rX:=aC func227 (by kernel_rfl)
def KZ:aj:=(⟨_,by cbv⟩:N0 (gF [] false f228)).1
theorem aqJ:aV 228 KZ:=aC func228 (by kernel_rfl)
def Ua:aj:=(⟨_,by cbv⟩:N0 (gF [] false f231)).1
theorem aqK:aV 231 Ua:=aC func231 (by kernel_rfl)
def Ub:aj:=(⟨_,by cbv⟩:N0 (gF [] false f234)).1
theorem aqL:aV 234 Ub:=aC func234 (by kernel_rfl)
def Uc:aj:=(⟨_,by cbv⟩:N0 (gF [] false f235)).1
theorem aqM:aV 235 Uc:=aC func235 (by kernel_rfl)
def P8:aj:=(⟨_,by cbv⟩:N0 (gF [] false f236)).1
theorem aqN:aV 236 P8:=aC func236 (by kernel_rfl)
def uj:ak:=(⟨_,by cbv⟩:N0 (gW [] 0 f237)).1
theorem Dn:eC (ch (.loop uj))=4194300:=nr rfl
def Ud:aj:=(⟨fun x=>_,fun x=>by cbv⟩:N1 0 (gF [] false f237)).1 uj
theorem aqO:aV 237 Ud:=aC func237 (by kernel_rfl)
def Ue:aj:=(⟨_,by cbv⟩:N0 (gF [] false f238)).1
theorem aqP:aV 238 Ue:=aC func238 (by kernel_rfl)
def P9:aj:=(⟨_,by cbv⟩:N0 (gF [] false f239)).1
theorem aqQ:aV 239 P9:=aC func239 (by kernel_rfl)
def Uf:aj:=(⟨_,by cbv⟩:N0 (gF [] false f240)).1
theorem aqR:aV 240 Uf:=aC func240 (by kernel_rfl)
def aqS:aj:=(⟨_,by cbv⟩:N0 (gF [] false f241)).1
theorem aqT:aV 241 aqS:=aC func241 (by kernel_rfl)
def aa2:ak:=(⟨_,by cbv⟩:N0 (gW [] 1 f242)).1
def aqU:aj:=(⟨fun x=>_,fun x=>by cbv⟩:N1 1 (gF [] false f242)).1 aa2
theorem aqV:aV 242 aqU:=aC func242 (by kernel_rfl)
def aqW:aj:=(⟨_,by cbv⟩:N0 (gF [] false f243)).1
theorem aqX:aV 243 aqW:=aC func243 (by kernel_rfl)
def Qa:aj:=(⟨_,by cbv⟩:N0 (gF [] false f244)).1
theorem aqY:aV 244 Qa:=aC func244 (by kernel_rfl)
def aa3:ak:=(⟨_,by cbv⟩:N0 (gW [] 0 f247)).1
def aqZ:aj:=(⟨fun x=>_,fun x=>by cbv⟩:N1 0 (gF [] false f247)).1 aa3
theorem aq0:aV 247 aqZ:=aC func247 (by kernel_rfl)
def aq1:aj:=(⟨_,by cbv⟩:N0 (gF [] false f248)).1
theorem aq2:aV 248 aq1:=aC func248 (by kernel_rfl)
def aq3:aj:=(⟨_,by cbv⟩:N0 (gF [] false f249)).1
theorem aq4:aV 249 aq3:=aC func249 (by kernel_rfl)
def aa4:ak:=(⟨_,by cbv⟩:N0 (gW [] 0 f250)).1
def aq5:aj:=(⟨fun x=>_,fun x=>by cbv⟩:N1 0 (gF [] false f250)).1 aa4
theorem aq6:aV 250 aq5:=aC func250 (by kernel_rfl)
def aq7:aj:=(⟨_,by cbv⟩:N0 (gF [] true f251)).1
theorem aq8:aV 251 aq7:=aC func251 (by kernel_rfl)
def aq9:aj:=(⟨_,by cbv⟩:N0 (gF [] false f252)).1
theorem ara:aV 252 aq9:=aC func252 (by kernel_rfl)
def M4:ak:=(⟨_,by cbv⟩:N0 (gW [] 0 f253)).1
def Ug:aj:=(⟨fun x=>_,fun x=>by cbv⟩:N1 0 (gF [] false f253)).1 M4
theorem arb:aV 253 Ug:=aC func253 (by kernel_rfl)
def Uh:aj:=(⟨_,by cbv⟩:N0 (gF [] false f254)).1
theorem arc:aV 254 Uh:=aC func254 (by kernel_rfl)
def uk:ak:=(⟨_,by cbv⟩:N0 (gW [] 2 f255)).1
theorem wO:eC (ch (.loop uk))=4951684599277795185273274368:=nr rfl
def rj:ak:=(⟨fun x=>_,fun x=>by cbv⟩:N1 2 (gW [] 0 f255)).1 uk
theorem Dp:eC (ch (.loop rj))=633825300114114700748343476096:=nr rfl
def Ui:aj:=(⟨fun x=>_,fun x=>by cbv⟩:N1 0 (gF [] false f255)).1 rj
theorem ard:aV 255 Ui:=aC func255 (by kernel_rfl)
def Uj:aj:=(⟨_,by cbv⟩:N0 (gF [] false f256)).1
theorem arf:aV 256 Uj:=aC func256 (by kernel_rfl)
def aa5:ak:=(⟨_,by cbv⟩:N0 (gW [] 0 f257)).1
def arh:aj:=(⟨fun x=>_,fun x=>by cbv⟩:N1 0 (gF [] true f257)).1 aa5
theorem ari:aV 257 arh:=aC func257 (by kernel_rfl)
def aa6:ak:=(⟨_,by cbv⟩:N0 (gW [] 1 f258)).1
def arj:aj:=(⟨fun x=>_,fun x=>by cbv⟩:N1 1 (gF [] false f258)).1 aa6
theorem ark:aV 258 arj:=aC func258 (by kernel_rfl)
def Uk:aj:=(⟨_,by cbv⟩:N0 (gF [] false f259)).1
theorem arl:aV 259 Uk:=aC func259 (by kernel_rfl)
def iJ:ak:=(⟨_,by cbv⟩:N0 (gW [] 0 f260)).1
theorem Dq:eC (ch (.loop iJ))=4835700972615507485623040:=nr rfl
def Ai:aj:=(⟨fun x=>_,fun x=>by cbv⟩:N1 0 (gF [] true f260)).1 iJ
theorem arn:aV 260 Ai:=aC func260 (by kernel_rfl)
def Ul:aj:=(⟨_,by cbv⟩:N0 (gF [] false f263)).1
theorem aro:aV 263 Ul:=aC func263 (by kernel_rfl)
def Um:aj:=(⟨_,by cbv⟩:N0 (gF [] false f264)).1
theorem arp:aV 264 Um:=aC func264 (by kernel_rfl)
def mc:ak:=(⟨_,by cbv⟩:N0 (gW [] 0 f265)).1
def Un:aj:=(⟨fun x=>_,fun x=>by cbv⟩:N1 0 (gF [] false f265)).1 mc
theorem arq:aV 265 Un:=aC func265 (by kernel_rfl)
def Uo:aj:=(⟨_,by cbv⟩:N0 (gF [] false f266)).1
theorem art:aV 266 Uo:=aC func266 (by kernel_rfl)
def Qb:aj:=(⟨_,by cbv⟩:N0 (gF [] false f267)).1
theorem aru:aV 267 Qb:=aC func267 (by kernel_rfl)
def Qc:aj:=(⟨_,by cbv⟩:N0 (gF [] false f271)).1
theorem arv:aV 271 Qc:=aC func271 (by kernel_rfl)
def Uq:aj:=(⟨_,by cbv⟩:N0 (gF [] false f272)).1
theorem arw:aV 272 Uq:=aC func272 (by kernel_rfl)
def aa7:ak:=(⟨_,by cbv⟩:N0 (gW [] 0 f273)).1
def arx:aj:=(⟨fun x=>_,fun x=>by cbv⟩:N1 0 (gF [] false f273)).1 aa7
theorem ary:aV 273 arx:=aC func273 (by kernel_rfl)
def arz:aj:=(⟨_,by cbv⟩:N0 (gF [] false f274)).1
theorem arA:aV 274 arz:=aC func274 (by kernel_rfl)
def arC:aj:=(⟨_,by cbv⟩:N0 (gF [] false f275)).1
theorem arD:aV 275 arC:=aC func275 (by kernel_rfl)
def aa8:ak:=(⟨_,by cbv⟩:N0 (gW [] 0 f276)).1
def arE:aj:=(⟨fun x=>_,fun x=>by cbv⟩:N1 0 (gF [] false f276)).1 aa8
theorem arF:aV 276 arE:=aC func276 (by kernel_rfl)
def arG:aj:=(⟨_,by cbv⟩:N0 (gF [] false f281)).1
theorem arH:aV 281 arG:=aC func281 (by kernel_rfl)
def aa9:ak:=(⟨_,by cbv⟩:N0 (gW [] 0 f282)).1
def arI:aj:=(⟨fun x=>_,fun x=>by cbv⟩:N1 0 (gF [] true f282)).1 aa9
theorem arJ:aV 282 arI:=aC func282 (by kernel_rfl)
def arK:aj:=(⟨_,by cbv⟩:N0 (gF [] true f283)).1
theorem arL:aV 283 arK:=aC func283 (by kernel_rfl)
def rk:ak:=(⟨_,by cbv⟩:N0 (gW [] 2 f284)).1
def mf:ak:=(⟨_,by cbv⟩:N0 (gW [] 0 f284)).1
theorem Qd:eC (ch (.loop mf))=1099511496896:=nr rfl
def K0:aj:=(⟨fun x y=>_,fun x y=>by cbv⟩:N2 0 2 (gF [] false f284)).1 mf rk
theorem arM:aV 284 K0:=aC func284 (by kernel_rfl)
def oC:ak:=(⟨_,by cbv⟩:N0 (gW [] 0 f285)).1
def Ur:aj:=(⟨fun x=>_,fun x=>by cbv⟩:N1 0 (gF [] false f285)).1 oC
theorem arN:aV 285 Ur:=aC func285 (by kernel_rfl)
def Us:aj:=(⟨_,by cbv⟩:N0 (gF [] false f286)).1
theorem arO:aV 286 Us:=aC func286 (by kernel_rfl)
def arP:aj:=(⟨_,by cbv⟩:N0 (gF [] false f287)).1
theorem arQ:aV 287 arP:=aC func287 (by kernel_rfl)
def arR:aj:=(⟨_,by cbv⟩:N0 (gF [] false f288)).1
theorem arS:aV 288 arR:=aC func288 (by kernel_rfl)
def np:aj:=(⟨_,by cbv⟩:N0 (gF [] false f289)).1
theorem arT:aV 289 np:=aC func289 (by kernel_rfl)
def Qe:aj:=(⟨_,by cbv⟩:N0 (gF [] false f303)).1
theorem arU:aV 303 Qe:=aC func303 (by kernel_rfl)
def aba:ak:=(⟨_,by cbv⟩:N0 (gW [] 0 f305)).1
def arV:aj:=(⟨fun x=>_,fun x=>by cbv⟩:N1 0 (gF [] true f305)).1 aba
theorem arW:aV 305 arV:=aC func305 (by kernel_rfl)
def arX:aj:=(⟨_,by cbv⟩:N0 (gF [] false f306)).1
theorem arY:aV 306 arX:=aC func306 (by kernel_rfl)
def arZ:aj:=(⟨_,by cbv⟩:N0 (gF [] false f307)).1
theorem ar0:aV 307 arZ:=aC func307 (by kernel_rfl)
def Qf:aj:=(⟨_,by cbv⟩:N0 (gF [] false f308)).1
theorem ar1:aV 308 Qf:=aC func308 (by kernel_rfl)
def mg:ak:=(⟨_,by cbv⟩:N0 (gW [] 0 f309)).1
def Ut:aj:=(⟨fun x=>_,fun x=>by cbv⟩:N1 0 (gF [] false f309)).1 mg
theorem ar2:aV 309 Ut:=aC func309 (by kernel_rfl)
def wP:aj:=(⟨_,by cbv⟩:N0 (gF [] false f310)).1
theorem ar3:aV 310 wP:=aC func310 (by kernel_rfl)
def Cu:aj:=(⟨_,by cbv⟩:N0 (gF [] false f311)).1
theorem ar4:aV 311 Cu:=aC func311 (by kernel_rfl)
def ar5:aj:=(⟨_,by cbv⟩:N0 (gF [] true f313)).1
theorem ar6:aV 313 ar5:=aC func313 (by kernel_rfl)
def ar7:aj:=(⟨_,by cbv⟩:N0 (gF [] false f314)).1
theorem ar8:aV 314 ar7:=aC func314 (by kernel_rfl)
def ar9:aj:=(⟨_,by cbv⟩:N0 (gF [] true f315)).1
theorem asa:aV 315 ar9:=aC func315 (by kernel_rfl)
def abb:ak:=(⟨_,by cbv⟩:N0 (gW [] 0 f317)).1
def asb:aj:=(⟨fun x=>_,fun x=>by cbv⟩:N1 0 (gF [] true f317)).1 abb
theorem asd:aV 317 asb:=aC func317 (by kernel_rfl)
def ase:aj:=(⟨_,by cbv⟩:N0 (gF [] true f318)).1
theorem asf:aV 318 ase:=aC func318 (by kernel_rfl)
def abc:ak:=(⟨_,by cbv⟩:N0 (gW [] 0 f323)).1
def asg:aj:=(⟨fun x=>_,fun x=>by cbv⟩:N1 0 (gF [] true f323)).1 abc
theorem ash:aV 323 asg:=aC func323 (by kernel_rfl)
def asi:aj:=(⟨_,by cbv⟩:N0 (gF [] true f326)).1
theorem asj:aV 326 asi:=aC func326 (by kernel_rfl)
def abd:ak:=(⟨_,by cbv⟩:N0 (gW [] 0 f327)).1
def asl:aj:=(⟨fun x=>_,fun x=>by cbv⟩:N1 0 (gF [] true f327)).1 abd
theorem asm:aV 327 asl:=aC func327 (by kernel_rfl)
end Go.Proofs.YtnkgnjecmfkcfaaGreat
