/- The codes of functions of the program, as the evaluator reads them: computed out of the model's functions; that each is what its compiler makes of the function. Conditions: none. -/
import Derived.Test.YtnkgnjecmfkcfaaGreatCoN
set_option maxRecDepth 100000
set_option maxHeartbeats 16000000
set_option linter.all false
namespace Go.Proofs.YtnkgnjecmfkcfaaGreat
open Go Go.Ev Tryz
def V9:ai:=(⟨_,by cbv⟩:N0 (gF [] false f194)).1
def auD:aL 194 V9:=aB func194
def R8:ai:=(⟨_,by cbv⟩:N0 (gF [] false f195)).1
def auE:aL 195 R8:=aB func195
def amF:ai:=(⟨_,by cbv⟩:N0 (gF [8] false f196)).1
def auF:aL 196 amF:=codeOk (hs:=[8]) func196 (by kernel_rfl)
def JB:ai:=(⟨_,by cbv⟩:N0 (gF [] false f197)).1
def auG:aL 197 JB:=aB func197
def Wa:ai:=(⟨_,by cbv⟩:N0 (gF [] false f198)).1
def auH:aL 198 Wa:=aB func198
def Wb:ai:=(⟨_,by cbv⟩:N0 (gF [] false f199)).1
def auI:aL 199 Wb:=aB func199
def Wc:ai:=(⟨_,by cbv⟩:N0 (gF [] false f200)).1
def auJ:aL 200 Wc:=aB func200
def uY:ak:=(⟨_,by cbv⟩:N0 (gW [] 8 f201)).1
theorem EG:dR (bO (.loop uY))=1267573228975774065229522010628:=nr rfl
def uZ:ak:=(⟨_,by cbv⟩:N0 (gW [] 6 f201)).1
theorem EH:dR (bO (.loop uZ))=77370071863715549769892100:=nr rfl
def u7:ak:=(⟨fun x y=>_,fun x y=>by cbv⟩:N2 6 8 (gW [] 4 f201)).1 uZ uY
def R9:dR (bO (.loop u7))=5192296858534827610516097819739076:=nr rfl
def u9:ak:=(⟨_,by cbv⟩:N0 (gW [] 2 f201)).1
theorem EI:dR (bO (.loop u9))=1099444518948:=nr rfl
def vd:ak:=(⟨fun x=>_,fun x=>by cbv⟩:N1 2 (gW [] 0 f201)).1 u9
theorem EJ:dR (bO (.loop vd))=18014398509481020:=nr rfl
def Wd:ai:=(⟨fun x y=>_,fun x y=>by cbv⟩:N2 0 4 (gF [] false f201)).1 vd u7
def auK:aL 201 Wd:=aB func201
def MH:ai:=(⟨_,by cbv⟩:N0 (gF [] false f202)).1
def auL:aL 202 MH:=aB func202
def lH:ak:=(⟨_,by cbv⟩:N0 (gW [] 0 f203)).1
def We:ai:=(⟨fun x=>_,fun x=>by cbv⟩:N1 0 (gF [] false f203)).1 lH
def auM:aL 203 We:=aB func203
def Wf:ai:=(⟨_,by cbv⟩:N0 (gF [] false f204)).1
def auN:aL 204 Wf:=aB func204
def Wg:ai:=(⟨_,by cbv⟩:N0 (gF [] false f205)).1
def auO:aL 205 Wg:=aB func205
def pg:ak:=(⟨_,by cbv⟩:N0 (gW [] 0 f206)).1
def Wh:ai:=(⟨fun x=>_,fun x=>by cbv⟩:N1 0 (gF [] false f206)).1 pg
def auP:aL 206 Wh:=aB func206
def Sa:ai:=(⟨_,by cbv⟩:N0 (gF [] false f207)).1
def auQ:aL 207 Sa:=aB func207
def Wi:ai:=(⟨_,by cbv⟩:N0 (gF [] false f208)).1
def auR:aL 208 Wi:=aB func208
def Wj:ai:=(⟨_,by cbv⟩:N0 (gF [] false f209)).1
def auS:aL 209 Wj:=aB func209
def ve:ak:=(⟨_,by cbv⟩:N0 (gW [] 0 f210)).1
def Sb:dR (bO (.loop ve))=137438920732:=nr rfl
def Sc:ai:=(⟨fun x=>_,fun x=>by cbv⟩:N1 0 (gF [] false f210)).1 ve
def auT:aL 210 Sc:=aB func210
def Wk:ai:=(⟨_,by cbv⟩:N0 (gF [] false f211)).1
def auU:aL 211 Wk:=aB func211
def rW:ak:=(⟨_,by cbv⟩:N0 (gW [] 0 f212)).1
def Sd:dR (bO (.loop rW))=4294966372:=nr rfl
def Wl:ai:=(⟨fun x=>_,fun x=>by cbv⟩:N1 0 (gF [] false f212)).1 rW
def auV:aL 212 Wl:=aB func212
def rX:ak:=(⟨_,by cbv⟩:N0 (gW [] 0 f213)).1
def Se:dR (bO (.loop rX))=4398046509284:=nr rfl
def Wm:ai:=(⟨fun x=>_,fun x=>by cbv⟩:N1 0 (gF [] false f213)).1 rX
def auW:aL 213 Wm:=aB func213
def Wn:ai:=(⟨_,by cbv⟩:N0 (gF [] false f214)).1
def auX:aL 214 Wn:=aB func214
def amG:ai:=(⟨_,by cbv⟩:N0 (gF [3] false f215)).1
def auY:aL 215 amG:=codeOk (hs:=[3]) func215 (by kernel_rfl)
def rY:ak:=(⟨_,by cbv⟩:N0 (gW [] 3 f216)).1
def Sf:dR (bO (.loop rY))=1208925819051679221284996:=nr rfl
def rZ:ak:=(⟨_,by cbv⟩:N0 (gW [] 0 f216)).1
theorem EL:dR (bO (.loop rZ))=70368744173604:=nr rfl
def Wo:ai:=(⟨fun x y=>_,fun x y=>by cbv⟩:N2 0 3 (gF [] false f216)).1 rZ rY
def auZ:aL 216 Wo:=aB func216
def Sg:ai:=(⟨_,by cbv⟩:N0 (gF [] true f217)).1
def au0:aL 217 Sg:=aB func217
def Wp:ai:=(⟨_,by cbv⟩:N0 (gF [] false f222)).1
def au1:aL 222 Wp:=aB func222
def gw:ak:=(⟨_,by cbv⟩:N0 (gW [] 2 f223)).1
def jY:ak:=(⟨fun x=>_,fun x=>by cbv⟩:N1 2 (gW [] 0 f223)).1 gw
def Sh:ai:=(⟨fun x=>_,fun x=>by cbv⟩:N1 0 (gF [] false f223)).1 jY
def au2:aL 223 Sh:=aB func223
def r8:ak:=(⟨_,by cbv⟩:N0 (gW [] 0 f224)).1
def Wq:ai:=(⟨fun x=>_,fun x=>by cbv⟩:N1 0 (gF [] false f224)).1 r8
def au3:aL 224 Wq:=aB func224
def Wr:ai:=(⟨_,by cbv⟩:N0 (gF [] false f225)).1
def au4:aL 225 Wr:=aB func225
def Si:ai:=(⟨_,by cbv⟩:N0 (gF [] false f226)).1
def au5:aL 226 Si:=aB func226
def sQ:ai:=(⟨_,by cbv⟩:N0 (gF [] false f227)).1
def au6:aL 227 sQ:=aB func227
def MI:ai:=(⟨_,by cbv⟩:N0 (gF [] false f228)).1
def au7:aL 228 MI:=aB func228
def Ws:ai:=(⟨_,by cbv⟩:N0 (gF [] false f229)).1
def au8:aL 229 Ws:=aB func229
def adS:ak:=(⟨_,by cbv⟩:N0 (gW [] 0 f230)).1
def amH:ai:=(⟨fun x=>_,fun x=>by cbv⟩:N1 0 (gF [] true f230)).1 adS
def au9:aL 230 amH:=aB func230
def Wt:ai:=(⟨_,by cbv⟩:N0 (gF [] false f231)).1
def ava:aL 231 Wt:=aB func231
def avb:ai:=(⟨_,by cbv⟩:N0 (gF [] false f232)).1
def avc:aL 232 avb:=aB func232
def avd:ai:=(⟨_,by cbv⟩:N0 (gF [] false f233)).1
def ave:aL 233 avd:=aB func233
def Wu:ai:=(⟨_,by cbv⟩:N0 (gF [] false f234)).1
def avf:aL 234 Wu:=aB func234
def Wv:ai:=(⟨_,by cbv⟩:N0 (gF [] false f235)).1
def avg:aL 235 Wv:=aB func235
def Sj:ai:=(⟨_,by cbv⟩:N0 (gF [] false f236)).1
def avh:aL 236 Sj:=aB func236
def vf:ak:=(⟨_,by cbv⟩:N0 (gW [] 0 f237)).1
theorem EM:dR (bO (.loop vf))=4194300:=nr rfl
def Ww:ai:=(⟨fun x=>_,fun x=>by cbv⟩:N1 0 (gF [] false f237)).1 vf
def avi:aL 237 Ww:=aB func237
def Wx:ai:=(⟨_,by cbv⟩:N0 (gF [] false f238)).1
def avj:aL 238 Wx:=aB func238
def Sk:ai:=(⟨_,by cbv⟩:N0 (gF [] false f239)).1
def avk:aL 239 Sk:=aB func239
def Wy:ai:=(⟨_,by cbv⟩:N0 (gF [] false f240)).1
def avl:aL 240 Wy:=aB func240
def avm:ai:=(⟨_,by cbv⟩:N0 (gF [] false f241)).1
def avn:aL 241 avm:=aB func241
def adT:ak:=(⟨_,by cbv⟩:N0 (gW [] 1 f242)).1
def avo:ai:=(⟨fun x=>_,fun x=>by cbv⟩:N1 1 (gF [] false f242)).1 adT
def avp:aL 242 avo:=aB func242
def avq:ai:=(⟨_,by cbv⟩:N0 (gF [] false f243)).1
def avr:aL 243 avq:=aB func243
def Sl:ai:=(⟨_,by cbv⟩:N0 (gF [] false f244)).1
def avs:aL 244 Sl:=aB func244
def adU:ak:=(⟨_,by cbv⟩:N0 (gW [] 0 f247)).1
def avt:ai:=(⟨fun x=>_,fun x=>by cbv⟩:N1 0 (gF [] false f247)).1 adU
def avu:aL 247 avt:=aB func247
def avv:ai:=(⟨_,by cbv⟩:N0 (gF [] false f248)).1
def avw:aL 248 avv:=aB func248
def avx:ai:=(⟨_,by cbv⟩:N0 (gF [] false f249)).1
def avy:aL 249 avx:=aB func249
def adV:ak:=(⟨_,by cbv⟩:N0 (gW [] 0 f250)).1
def avz:ai:=(⟨fun x=>_,fun x=>by cbv⟩:N1 0 (gF [] false f250)).1 adV
def avA:aL 250 avz:=aB func250
def avB:ai:=(⟨_,by cbv⟩:N0 (gF [] true f251)).1
def avC:aL 251 avB:=aB func251
def avD:ai:=(⟨_,by cbv⟩:N0 (gF [] false f252)).1
def avE:aL 252 avD:=aB func252
def O4:ak:=(⟨_,by cbv⟩:N0 (gW [] 0 f253)).1
def Wz:ai:=(⟨fun x=>_,fun x=>by cbv⟩:N1 0 (gF [] false f253)).1 O4
def avF:aL 253 Wz:=aB func253
def WA:ai:=(⟨_,by cbv⟩:N0 (gF [] false f254)).1
def avG:aL 254 WA:=aB func254
def vg:ak:=(⟨_,by cbv⟩:N0 (gW [] 2 f255)).1
theorem yc:dR (bO (.loop vg))=4951684599277795185273274368:=nr rfl
def r9:ak:=(⟨fun x=>_,fun x=>by cbv⟩:N1 2 (gW [] 0 f255)).1 vg
theorem EN:dR (bO (.loop r9))=633825300114114700748343476096:=nr rfl
def WB:ai:=(⟨fun x=>_,fun x=>by cbv⟩:N1 0 (gF [] false f255)).1 r9
def avH:aL 255 WB:=aB func255
def WC:ai:=(⟨_,by cbv⟩:N0 (gF [] false f256)).1
def avI:aL 256 WC:=aB func256
def adW:ak:=(⟨_,by cbv⟩:N0 (gW [] 0 f257)).1
def avJ:ai:=(⟨fun x=>_,fun x=>by cbv⟩:N1 0 (gF [] true f257)).1 adW
def avK:aL 257 avJ:=aB func257
def adX:ak:=(⟨_,by cbv⟩:N0 (gW [] 1 f258)).1
def avL:ai:=(⟨fun x=>_,fun x=>by cbv⟩:N1 1 (gF [] false f258)).1 adX
def avM:aL 258 avL:=aB func258
def WD:ai:=(⟨_,by cbv⟩:N0 (gF [] false f259)).1
def avN:aL 259 WD:=aB func259
def jg:ak:=(⟨_,by cbv⟩:N0 (gW [] 0 f260)).1
theorem EO:dR (bO (.loop jg))=4835700972615507485623040:=nr rfl
def Bx:ai:=(⟨fun x=>_,fun x=>by cbv⟩:N1 0 (gF [] true f260)).1 jg
def avO:aL 260 Bx:=aB func260
def WE:ai:=(⟨_,by cbv⟩:N0 (gF [] false f263)).1
def avP:aL 263 WE:=aB func263
def WG:ai:=(⟨_,by cbv⟩:N0 (gF [] false f264)).1
def avQ:aL 264 WG:=aB func264
def mM:ak:=(⟨_,by cbv⟩:N0 (gW [] 0 f265)).1
def WH:ai:=(⟨fun x=>_,fun x=>by cbv⟩:N1 0 (gF [] false f265)).1 mM
def avR:aL 265 WH:=aB func265
def WI:ai:=(⟨_,by cbv⟩:N0 (gF [] false f266)).1
def avS:aL 266 WI:=aB func266
def Sn:ai:=(⟨_,by cbv⟩:N0 (gF [] false f267)).1
def avT:aL 267 Sn:=aB func267
def adY:ak:=(⟨_,by cbv⟩:N0 (gW [] 0 f268)).1
def avU:ai:=(⟨fun x=>_,fun x=>by cbv⟩:N1 0 (gF [] false f268)).1 adY
def avV:aL 268 avU:=aB func268
def avW:ai:=(⟨_,by cbv⟩:N0 (gF [] true f269)).1
def avX:aL 269 avW:=aB func269
def avY:ai:=(⟨_,by cbv⟩:N0 (gF [] true f270)).1
def avZ:aL 270 avY:=aB func270
def So:ai:=(⟨_,by cbv⟩:N0 (gF [] false f271)).1
def av0:aL 271 So:=aB func271
def WJ:ai:=(⟨_,by cbv⟩:N0 (gF [] false f272)).1
def av1:aL 272 WJ:=aB func272
def adZ:ak:=(⟨_,by cbv⟩:N0 (gW [] 0 f273)).1
def av2:ai:=(⟨fun x=>_,fun x=>by cbv⟩:N1 0 (gF [] false f273)).1 adZ
def av3:aL 273 av2:=aB func273
def av4:ai:=(⟨_,by cbv⟩:N0 (gF [] false f274)).1
def av5:aL 274 av4:=aB func274
def av6:ai:=(⟨_,by cbv⟩:N0 (gF [] false f275)).1
def av7:aL 275 av6:=aB func275
def ad0:ak:=(⟨_,by cbv⟩:N0 (gW [] 0 f276)).1
def av8:ai:=(⟨fun x=>_,fun x=>by cbv⟩:N1 0 (gF [] false f276)).1 ad0
def av9:aL 276 av8:=aB func276
def awa:ai:=(⟨_,by cbv⟩:N0 (gF [] false f281)).1
def awb:aL 281 awa:=aB func281
def ad1:ak:=(⟨_,by cbv⟩:N0 (gW [] 0 f282)).1
def awc:ai:=(⟨fun x=>_,fun x=>by cbv⟩:N1 0 (gF [] true f282)).1 ad1
def awd:aL 282 awc:=aB func282
def awe:ai:=(⟨_,by cbv⟩:N0 (gF [] true f283)).1
def awf:aL 283 awe:=aB func283
def se:ak:=(⟨_,by cbv⟩:N0 (gW [] 2 f284)).1
def mN:ak:=(⟨_,by cbv⟩:N0 (gW [] 0 f284)).1
theorem Sq:dR (bO (.loop mN))=1099511496896:=nr rfl
def MJ:ai:=(⟨fun x y=>_,fun x y=>by cbv⟩:N2 0 2 (gF [] false f284)).1 mN se
def awg:aL 284 MJ:=aB func284
def ph:ak:=(⟨_,by cbv⟩:N0 (gW [] 0 f285)).1
def WK:ai:=(⟨fun x=>_,fun x=>by cbv⟩:N1 0 (gF [] false f285)).1 ph
def awh:aL 285 WK:=aB func285
def WL:ai:=(⟨_,by cbv⟩:N0 (gF [] false f286)).1
def awi:aL 286 WL:=aB func286
def awj:ai:=(⟨_,by cbv⟩:N0 (gF [] false f287)).1
def awk:aL 287 awj:=aB func287
def awl:ai:=(⟨_,by cbv⟩:N0 (gF [] false f288)).1
def awm:aL 288 awl:=aB func288
def nZ:ai:=(⟨_,by cbv⟩:N0 (gF [] false f289)).1
def awn:aL 289 nZ:=aB func289
def awo:ai:=(⟨_,by cbv⟩:N0 (gF [1000000] false f291)).1
def awp:aL 291 awo:=codeOk (hs:=[1000000]) func291 (by kernel_rfl)
def ad2:ak:=(⟨_,by cbv⟩:N0 (gW [] 0 f292)).1
def awq:ai:=(⟨fun x=>_,fun x=>by cbv⟩:N1 0 (gF [] false f292)).1 ad2
def awr:aL 292 awq:=aB func292
def aws:ai:=(⟨_,by cbv⟩:N0 (gF [] false f293)).1
def awt:aL 293 aws:=aB func293
def awu:ai:=(⟨_,by cbv⟩:N0 (gF [] false f294)).1
def awv:aL 294 awu:=aB func294
def aww:ai:=(⟨_,by cbv⟩:N0 (gF [] false f295)).1
def awx:aL 295 aww:=aB func295
def awy:ai:=(⟨_,by cbv⟩:N0 (gF [] false f296)).1
def awz:aL 296 awy:=aB func296
def awA:ai:=(⟨_,by cbv⟩:N0 (gF [] false f297)).1
def awB:aL 297 awA:=aB func297
def awC:ai:=(⟨_,by cbv⟩:N0 (gF [] false f298)).1
def awD:aL 298 awC:=aB func298
def awE:ai:=(⟨_,by cbv⟩:N0 (gF [] true f299)).1
def awF:aL 299 awE:=aB func299
def awG:ai:=(⟨_,by cbv⟩:N0 (gF [] false f300)).1
def awH:aL 300 awG:=aB func300
def awI:ai:=(⟨_,by cbv⟩:N0 (gF [] false f301)).1
def awJ:aL 301 awI:=aB func301
def awK:ai:=(⟨_,by cbv⟩:N0 (gF [] false f302)).1
def awL:aL 302 awK:=aB func302
def Sr:ai:=(⟨_,by cbv⟩:N0 (gF [] false f303)).1
def awM:aL 303 Sr:=aB func303
def ad3:ak:=(⟨_,by cbv⟩:N0 (gW [] 0 f305)).1
def awN:ai:=(⟨fun x=>_,fun x=>by cbv⟩:N1 0 (gF [] true f305)).1 ad3
def awO:aL 305 awN:=aB func305
def awP:ai:=(⟨_,by cbv⟩:N0 (gF [] false f306)).1
def awQ:aL 306 awP:=aB func306
def awR:ai:=(⟨_,by cbv⟩:N0 (gF [] false f307)).1
def awS:aL 307 awR:=aB func307
def Ss:ai:=(⟨_,by cbv⟩:N0 (gF [] false f308)).1
def awT:aL 308 Ss:=aB func308
def mO:ak:=(⟨_,by cbv⟩:N0 (gW [] 0 f309)).1
def WM:ai:=(⟨fun x=>_,fun x=>by cbv⟩:N1 0 (gF [] false f309)).1 mO
def awU:aL 309 WM:=aB func309
def ye:ai:=(⟨_,by cbv⟩:N0 (gF [] false f310)).1
def awV:aL 310 ye:=aB func310
def DP:ai:=(⟨_,by cbv⟩:N0 (gF [] false f311)).1
def awW:aL 311 DP:=aB func311
def ad4:ak:=(⟨_,by cbv⟩:N0 (gW [] 0 f312)).1
def awX:ai:=(⟨fun x=>_,fun x=>by cbv⟩:N1 0 (gF [] false f312)).1 ad4
def awY:aL 312 awX:=aB func312
def awZ:ai:=(⟨_,by cbv⟩:N0 (gF [] true f313)).1
def aw0:aL 313 awZ:=aB func313
def aw1:ai:=(⟨_,by cbv⟩:N0 (gF [] false f314)).1
def aw2:aL 314 aw1:=aB func314
def aw3:ai:=(⟨_,by cbv⟩:N0 (gF [] true f315)).1
def aw4:aL 315 aw3:=aB func315
def ad5:ak:=(⟨_,by cbv⟩:N0 (gW [] 0 f317)).1
def aw5:ai:=(⟨fun x=>_,fun x=>by cbv⟩:N1 0 (gF [] true f317)).1 ad5
def aw6:aL 317 aw5:=aB func317
def aw7:ai:=(⟨_,by cbv⟩:N0 (gF [] true f318)).1
def aw8:aL 318 aw7:=aB func318
def ad6:ak:=(⟨_,by cbv⟩:N0 (gW [] 0 f323)).1
def aw9:ai:=(⟨fun x=>_,fun x=>by cbv⟩:N1 0 (gF [] true f323)).1 ad6
def axa:aL 323 aw9:=aB func323
def axb:ai:=(⟨_,by cbv⟩:N0 (gF [] true f326)).1
def axc:aL 326 axb:=aB func326
def ad7:ak:=(⟨_,by cbv⟩:N0 (gW [] 0 f327)).1
def axd:ai:=(⟨fun x=>_,fun x=>by cbv⟩:N1 0 (gF [] true f327)).1 ad7
def axe:aL 327 axd:=aB func327
end Go.Proofs.YtnkgnjecmfkcfaaGreat
