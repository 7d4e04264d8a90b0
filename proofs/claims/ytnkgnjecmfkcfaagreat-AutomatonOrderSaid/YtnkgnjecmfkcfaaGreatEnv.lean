/- The functions that the statement reaches, as one table. Conditions: none. -/
import Derived.Test.YtnkgnjecmfkcfaaGreatCoA
import Derived.Test.YtnkgnjecmfkcfaaGreatCoB
import Derived.Test.YtnkgnjecmfkcfaaGreatCoC
import Derived.Test.YtnkgnjecmfkcfaaGreatCX
import Derived.Test.YtnkgnjecmfkcfaaGreatEvG
set_option linter.unusedVariables false
namespace Go.Proofs.YtnkgnjecmfkcfaaGreat
open Go Go.Ev
def pET:CJ:=(.nd (.nd (.nd (.nd (.nd (.nd (.nd (.nd .nil 4 c4 .nil) 7 c7 (.nd .nil 8 c8 .nil)) 9 c9 (.nd (.nd .nil 10 ti .nil) 16 c16 (.nd .nil 23 c23 .nil))) 24 c24 (.nd (.nd (.nd .nil 25 c25 .nil) 26 c26 (.nd .nil 27 c27 .nil)) 28 c28 (.nd (.nd .nil 29 c29 .nil) 30 c30 .nil))) 31 c31 (.nd (.nd (.nd (.nd .nil 32 c32 .nil) 33 c33 (.nd .nil 34 c34 .nil)) 35 yY (.nd (.nd .nil 36 c36 .nil) 37 Mw (.nd .nil 38 c38 .nil))) 39 c39 (.nd (.nd (.nd .nil 47 c47 .nil) 48 c48 (.nd .nil 49 c49 .nil)) 52 c52 (.nd (.nd .nil 54 c54 .nil) 55 c55 .nil)))) 56 c56 (.nd (.nd (.nd (.nd (.nd .nil 57 c57 .nil) 63 c63 (.nd .nil 64 c64 .nil)) 65 c65 (.nd (.nd .nil 66 c66 .nil) 67 c67 (.nd .nil 68 c68 .nil))) 69 c69 (.nd (.nd (.nd .nil 70 c70 .nil) 71 c71 (.nd .nil 72 c72 .nil)) 73 Hd (.nd (.nd .nil 74 c74 .nil) 75 c75 .nil))) 77 c77 (.nd (.nd (.nd (.nd .nil 78 c78 .nil) 79 c79 (.nd .nil 81 c81 .nil)) 83 Ck (.nd (.nd .nil 86 c86 .nil) 87 c87 (.nd .nil 88 c88 .nil))) 89 c89 (.nd (.nd (.nd .nil 90 c90 .nil) 92 c92 (.nd .nil 93 c93 .nil)) 96 c96 (.nd (.nd .nil 97 c97 .nil) 98 c98 .nil))))) 99 c99 (.nd (.nd (.nd (.nd (.nd (.nd .nil 100 So .nil) 101 aot (.nd .nil 102 air .nil)) 103 pw (.nd (.nd .nil 104 Kl .nil) 105 OS (.nd .nil 106 OT .nil))) 107 pR (.nd (.nd (.nd .nil 115 Sq .nil) 116 ais (.nd .nil 117 D2 .nil)) 118 Km (.nd (.nd .nil 119 Sr .nil) 120 Ss .nil))) 121 Su (.nd (.nd (.nd (.nd .nil 122 Kn .nil) 123 Sv (.nd .nil 124 Sw .nil)) 125 Sx (.nd (.nd .nil 126 OW .nil) 127 OY (.nd .nil 128 Sy .nil))) 129 Sz (.nd (.nd (.nd .nil 130 SA .nil) 131 SC (.nd .nil 132 Ko .nil)) 133 Kp (.nd (.nd .nil 134 O1 .nil) 143 O2 .nil)))) 145 SD (.nd (.nd (.nd (.nd (.nd .nil 146 SE .nil) 147 O3 (.nd .nil 148 Hn .nil)) 149 tF (.nd (.nd .nil 150 ait .nil) 151 aiu (.nd .nil 152 SF .nil))) 153 SG (.nd (.nd (.nd .nil 154 Kq .nil) 155 SI (.nd .nil 156 aiv .nil)) 157 ao8 (.nd (.nd .nil 158 apa .nil) 159 apc .nil))) 160 ape (.nd (.nd (.nd (.nd .nil 161 O5 .nil) 162 SJ (.nd .nil 163 O7 .nil)) 164 SK (.nd (.nd .nil 165 O9 .nil) 166 SL (.nd .nil 167 SM .nil))) 168 Pc (.nd (.nd (.nd .nil 169 Pd .nil) 170 SN (.nd .nil 171 SO .nil)) 172 SP (.nd (.nd .nil 173 D3 .nil) 174 SQ .nil)))))) 175 aiw (.nd (.nd (.nd (.nd (.nd (.nd (.nd .nil 176 apw .nil) 177 apy (.nd .nil 178 SR .nil)) 179 Kr (.nd (.nd .nil 180 D4 .nil) 181 Ks (.nd .nil 182 Pe .nil))) 183 SU (.nd (.nd (.nd .nil 189 apG .nil) 190 apI (.nd .nil 191 apK .nil)) 192 SV (.nd (.nd .nil 193 apN .nil) 194 SW .nil))) 195 Pf (.nd (.nd (.nd (.nd .nil 196 aix .nil) 197 Ho (.nd .nil 198 SX .nil)) 199 SY (.nd (.nd .nil 200 SZ .nil) 201 S0 (.nd .nil 202 Kt .nil))) 203 S1 (.nd (.nd (.nd .nil 204 S2 .nil) 205 S3 (.nd .nil 206 S4 .nil)) 207 Ph (.nd (.nd .nil 208 S5 .nil) 209 S6 .nil)))) 210 Pk (.nd (.nd (.nd (.nd (.nd .nil 211 S7 .nil) 212 S8 (.nd .nil 213 S9 .nil)) 214 Ta (.nd (.nd .nil 215 aiy .nil) 216 Td (.nd .nil 217 Po .nil))) 227 rz (.nd (.nd (.nd .nil 228 Ku .nil) 229 Te (.nd .nil 230 aiz .nil)) 231 Tf (.nd (.nd .nil 232 aqk .nil) 233 aqm .nil))) 234 Tg (.nd (.nd (.nd (.nd .nil 235 Th .nil) 236 Pp (.nd .nil 237 Ti .nil)) 238 Tj (.nd (.nd .nil 239 Pq .nil) 240 Tl (.nd .nil 241 aqv .nil))) 242 aqx (.nd (.nd (.nd .nil 243 aqz .nil) 244 Pr (.nd .nil 247 aqC .nil)) 248 aqE (.nd (.nd .nil 249 aqG .nil) 250 aqI .nil))))) 251 aqK (.nd (.nd (.nd (.nd (.nd (.nd .nil 252 aqM .nil) 253 Tm (.nd .nil 254 Tn .nil)) 255 To (.nd (.nd .nil 256 Tp .nil) 257 aqS (.nd .nil 258 aqU .nil))) 259 Tq (.nd (.nd (.nd .nil 260 zy .nil) 266 Ts (.nd .nil 267 Ps .nil)) 268 aq0 (.nd (.nd .nil 269 aq2 .nil) 270 aq4 .nil))) 271 Pt (.nd (.nd (.nd (.nd .nil 272 Tu .nil) 273 aq8 (.nd .nil 274 ara .nil)) 275 arc (.nd (.nd .nil 276 arf .nil) 281 ari (.nd .nil 282 ark .nil))) 283 arn (.nd (.nd (.nd .nil 284 Kv .nil) 285 Tv (.nd .nil 286 Tw .nil)) 287 aru (.nd (.nd .nil 288 arw .nil) 289 mV .nil)))) 291 arz (.nd (.nd (.nd (.nd (.nd .nil 292 arC .nil) 293 arE (.nd .nil 294 arG .nil)) 295 arI (.nd (.nd .nil 296 arK .nil) 297 arM (.nd .nil 298 arO .nil))) 299 arQ (.nd (.nd (.nd .nil 300 arT .nil) 301 arV (.nd .nil 302 arX .nil)) 303 Pv (.nd (.nd .nil 305 ar0 .nil) 306 ar2 .nil))) 307 ar4 (.nd (.nd (.nd (.nd .nil 308 Pw .nil) 309 Tx (.nd .nil 310 wx .nil)) 311 BN (.nd (.nd .nil 312 asa .nil) 313 asd .nil)) 314 asf (.nd (.nd (.nd .nil 315 ash .nil) 317 asj (.nd .nil 318 asm .nil)) 323 aso (.nd (.nd .nil 326 asq .nil) 327 ass .nil)))))))
theorem aiA:CJ.All (D5 Tryz.prog) pET:=⟨⟨⟨⟨⟨⟨⟨⟨trivial,kq4,trivial⟩,kq7,⟨trivial,kq8,trivial⟩⟩,kq9,⟨⟨trivial,azl,trivial⟩,azm,⟨trivial,azn,trivial⟩⟩⟩,azo,⟨⟨⟨trivial,azp,trivial⟩,azq,⟨trivial,azr,trivial⟩⟩,azs,⟨⟨trivial,azt,trivial⟩,azu,trivial⟩⟩⟩,azv,⟨⟨⟨⟨trivial,azw,trivial⟩,azx,⟨trivial,azy,trivial⟩⟩,azz,⟨⟨trivial,azA,trivial⟩,azB,⟨trivial,azC,trivial⟩⟩⟩,azD,⟨⟨⟨trivial,azE,trivial⟩,azF,⟨trivial,azG,trivial⟩⟩,azH,⟨⟨trivial,azI,trivial⟩,azJ,trivial⟩⟩⟩⟩,azL,⟨⟨⟨⟨⟨trivial,azM,trivial⟩,azN,⟨trivial,azO,trivial⟩⟩,azP,⟨⟨trivial,azQ,trivial⟩,azR,⟨trivial,azS,trivial⟩⟩⟩,azT,⟨⟨⟨trivial,azU,trivial⟩,azV,⟨trivial,azW,trivial⟩⟩,azX,⟨⟨trivial,azY,trivial⟩,azZ,trivial⟩⟩⟩,az0,⟨⟨⟨⟨trivial,az1,trivial⟩,az3,⟨trivial,az4,trivial⟩⟩,az5,⟨⟨trivial,az6,trivial⟩,az7,⟨trivial,az8,trivial⟩⟩⟩,aAa,⟨⟨⟨trivial,aAc,trivial⟩,aAd,⟨trivial,aAe,trivial⟩⟩,aAf,⟨⟨trivial,aAg,trivial⟩,aAh,trivial⟩⟩⟩⟩⟩,aAi,⟨⟨⟨⟨⟨⟨trivial,aos,trivial⟩,aou,⟨trivial,aov,trivial⟩⟩,aow,⟨⟨trivial,aox,trivial⟩,aoy,⟨trivial,aoz,trivial⟩⟩⟩,aoA,⟨⟨⟨trivial,aoB,trivial⟩,aoC,⟨trivial,aoD,trivial⟩⟩,aoE,⟨⟨trivial,aoF,trivial⟩,aoG,trivial⟩⟩⟩,aoH,⟨⟨⟨⟨trivial,aoI,trivial⟩,aoJ,⟨trivial,aoK,trivial⟩⟩,aoL,⟨⟨trivial,aoM,trivial⟩,aoN,⟨trivial,aoO,trivial⟩⟩⟩,aoP,⟨⟨⟨trivial,aoQ,trivial⟩,aoR,⟨trivial,aoS,trivial⟩⟩,aoT,⟨⟨trivial,aoU,trivial⟩,aoV,trivial⟩⟩⟩⟩,aoW,⟨⟨⟨⟨⟨trivial,aoX,trivial⟩,aoY,⟨trivial,aoZ,trivial⟩⟩,ao0,⟨⟨trivial,ao1,trivial⟩,ao2,⟨trivial,ao3,trivial⟩⟩⟩,ao4,⟨⟨⟨trivial,ao5,trivial⟩,ao6,⟨trivial,ao7,trivial⟩⟩,ao9,⟨⟨trivial,apb,trivial⟩,apd,trivial⟩⟩⟩,apf,⟨⟨⟨⟨trivial,apg,trivial⟩,aph,⟨trivial,api,trivial⟩⟩,apj,⟨⟨trivial,apk,trivial⟩,apl,⟨trivial,apm,trivial⟩⟩⟩,apn,⟨⟨⟨trivial,apo,trivial⟩,apq,⟨trivial,apr,trivial⟩⟩,aps,⟨⟨trivial,apt,trivial⟩,apu,trivial⟩⟩⟩⟩⟩⟩,apv,⟨⟨⟨⟨⟨⟨⟨trivial,apx,trivial⟩,apz,⟨trivial,apA,trivial⟩⟩,apB,⟨⟨trivial,apC,trivial⟩,apD,⟨trivial,apE,trivial⟩⟩⟩,apF,⟨⟨⟨trivial,apH,trivial⟩,apJ,⟨trivial,apL,trivial⟩⟩,apM,⟨⟨trivial,apO,trivial⟩,apP,trivial⟩⟩⟩,apQ,⟨⟨⟨⟨trivial,apR,trivial⟩,apU,⟨trivial,apV,trivial⟩⟩,apW,⟨⟨trivial,apX,trivial⟩,apY,⟨trivial,apZ,trivial⟩⟩⟩,ap0,⟨⟨⟨trivial,ap1,trivial⟩,ap2,⟨trivial,ap3,trivial⟩⟩,ap4,⟨⟨trivial,ap5,trivial⟩,ap6,trivial⟩⟩⟩⟩,ap7,⟨⟨⟨⟨⟨trivial,ap8,trivial⟩,ap9,⟨trivial,aqa,trivial⟩⟩,aqb,⟨⟨trivial,aqc,trivial⟩,aqd,⟨trivial,aqe,trivial⟩⟩⟩,aqf,⟨⟨⟨trivial,aqg,trivial⟩,aqh,⟨trivial,aqi,trivial⟩⟩,aqj,⟨⟨trivial,aql,trivial⟩,aqn,trivial⟩⟩⟩,aqo,⟨⟨⟨⟨trivial,aqp,trivial⟩,aqq,⟨trivial,aqr,trivial⟩⟩,aqs,⟨⟨trivial,aqt,trivial⟩,aqu,⟨trivial,aqw,trivial⟩⟩⟩,aqy,⟨⟨⟨trivial,aqA,trivial⟩,aqB,⟨trivial,aqD,trivial⟩⟩,aqF,⟨⟨trivial,aqH,trivial⟩,aqJ,trivial⟩⟩⟩⟩⟩,aqL,⟨⟨⟨⟨⟨⟨trivial,aqN,trivial⟩,aqO,⟨trivial,aqP,trivial⟩⟩,aqQ,⟨⟨trivial,aqR,trivial⟩,aqT,⟨trivial,aqV,trivial⟩⟩⟩,aqW,⟨⟨⟨trivial,aqX,trivial⟩,aqY,⟨trivial,aqZ,trivial⟩⟩,aq1,⟨⟨trivial,aq3,trivial⟩,aq5,trivial⟩⟩⟩,aq6,⟨⟨⟨⟨trivial,aq7,trivial⟩,aq9,⟨trivial,arb,trivial⟩⟩,ard,⟨⟨trivial,arh,trivial⟩,arj,⟨trivial,arl,trivial⟩⟩⟩,aro,⟨⟨⟨trivial,arp,trivial⟩,arq,⟨trivial,art,trivial⟩⟩,arv,⟨⟨trivial,arx,trivial⟩,ary,trivial⟩⟩⟩⟩,arA,⟨⟨⟨⟨⟨trivial,arD,trivial⟩,arF,⟨trivial,arH,trivial⟩⟩,arJ,⟨⟨trivial,arL,trivial⟩,arN,⟨trivial,arP,trivial⟩⟩⟩,arR,⟨⟨⟨trivial,arU,trivial⟩,arW,⟨trivial,arY,trivial⟩⟩,arZ,⟨⟨trivial,ar1,trivial⟩,ar3,trivial⟩⟩⟩,ar5,⟨⟨⟨⟨trivial,ar6,trivial⟩,ar7,⟨trivial,ar8,trivial⟩⟩,ar9,⟨⟨trivial,asb,trivial⟩,ase,trivial⟩⟩,asg,⟨⟨⟨trivial,asi,trivial⟩,asl,⟨trivial,asn,trivial⟩⟩,asp,⟨⟨trivial,asr,trivial⟩,ast,trivial⟩⟩⟩⟩⟩⟩⟩
def pEx(f:Nat):Option (List T→Option T):=bif Nat.beq f 76 then some countE else bif Nat.beq f 316 then some idxE else none
def pEy(_:Nat):Option (List T→Option (List T×Option Nat)):=none
def pE:Env:=⟨pET.find,pEx,pEy⟩
theorem asu:pd Tryz.prog pE:=asv aiA (fun f g h=>by
 unfold pEx at h
 cases hb:Nat.beq f 76 with
 |true=>rw[hb,cond_true]at h;cases h;rw[Nat.eq_of_beq_eq_true hb];exact Tryz.cntOk
 |false=>
  rw[hb,cond_false]at h
  cases hc:Nat.beq f 316 with
  |true=>rw[hc,cond_true]at h;cases h;rw[Nat.eq_of_beq_eq_true hc];exact Tryz.idxOk
  |false=>rw[hc,cond_false]at h;cases h) (fun f g h=>by
 cases h)
section
variable{f j:Nat}{c:aj}(e:pE.fn f=some c)
include e
theorem ZM(he:c.eff=true): ∀{z:Nat} {fr:Fr} {lh:aE ah} {sh:List ah} {args:List T},args.all kept=true→br pE (ae pE) z ⟨fr,lh,sh⟩ f args=(ae pE f args sh).bind fun r=>some (r.1,⟨fr,lh,r.2⟩):=fun h=>Px e he h
theorem yEd(he:c.eff=true): ∀{n:Nat} {fr:Fr} {lh:aE ah} {sh:List ah} {u:List Nat} {d:Option Nat} {opl:List aP} {ds:List (List Nat×aF)} {bo:List FP},(opl.map (rd fr)).all kept=true→aK pE (ae pE) n ((u,⟨d,.callf f opl,none⟩)::ds) bo ⟨fr,lh,sh⟩=if meets u bo xl=true then ke pE (ae pE) n ds (bo++ [xl]) (ai pE (ae pE) n [⟨d,.callf f opl,none⟩] ⟨fr,lh,sh⟩)else none:=fun h=>aaA e he h
theorem yE(he:c.eff=true): ∀{z:Nat} {fr:Fr} {lh:aE ah} {sh:List ah} {args:List T},br pE (ae pE) z ⟨fr,lh,sh⟩ f args=(yn lh sh true args).bind fun q=>(ae pE f q.1 ((St.mk fr lh sh).ups q.2).sh).bind fun r=>some (r.1,{(St.mk fr lh sh).ups q.2 with sh:=r.2}):=TA e he
theorem yT(he:c.eff=false)(ho:c.own=none): ∀{z:Nat} {fr:Fr} {lh:aE ah} {sh:List ah} {args:List T},args.all froz=true→br pE (ae pE) z ⟨fr,lh,sh⟩ f args=(ae pE f args []).bind fun r=>some (r.1,⟨fr,lh,sh⟩):=fun h=>Hp e he ho h
theorem yP(he:c.eff=false)(ho:c.own=none): ∀{z:Nat} {fr:Fr} {lh:aE ah} {sh:List ah} {args:List T},br pE (ae pE) z ⟨fr,lh,sh⟩ f args=(yn lh sh false args).bind fun q=>(ae pE f q.1 []).bind fun r=>some (r.1,if scalar r.1=true then⟨fr,lh,sh⟩else(St.mk fr lh sh).ups q.2):=Hq e he ho
theorem yd(he:c.eff=false)(ho:c.own=none): ∀{n:Nat} {fr:Fr} {lh:aE ah} {sh:List ah} {u:List Nat} {d:Option Nat} {opl:List aP} {ds:List (List Nat×aF)} {bo:List FP},(opl.map (rd fr)).all froz=true→aK pE (ae pE) n ((u,⟨d,.callf f opl,none⟩)::ds) bo ⟨fr,lh,sh⟩=ke pE (ae pE) n ds (bo++ [fF]) (ai pE (ae pE) n [⟨d,.callf f opl,none⟩] ⟨fr,lh,sh⟩):=fun h=>aiC e he ho h
end
set_option linter.defProp false
theorem fn4:pE.fn 4=some c4:=rfl
theorem fn7:pE.fn 7=some c7:=rfl
def dc7:=@yT _ _ fn7 rfl rfl
theorem fn8:pE.fn 8=some c8:=rfl
def dc8:=@yT _ _ fn8 rfl rfl
theorem fn9:pE.fn 9=some c9:=rfl
def dc9:=@yT _ _ fn9 rfl rfl
theorem aiD:pE.fn 10=some ti:=rfl
def aiE:=@yT _ _ aiD rfl rfl
def aiF:=@yd _ _ aiD rfl rfl
theorem aiG:pE.fn 16=some c16:=rfl
def aAo:=@yT _ _ aiG rfl rfl
def aAp:=@yd _ _ aiG rfl rfl
theorem aiH:pE.fn 23=some c23:=rfl
def mW:=@yT _ _ aiH rfl rfl
def aAq:=@yd _ _ aiH rfl rfl
theorem asw:pE.fn 24=some c24:=rfl
def aAr:=@yP _ _ asw rfl rfl
theorem aiI:pE.fn 25=some c25:=rfl
def aAs:=@yP _ _ aiI rfl rfl
theorem aiJ:pE.fn 26=some c26:=rfl
def aAt:=@yT _ _ aiJ rfl rfl
def aAu:=@yd _ _ aiJ rfl rfl
theorem aiK:pE.fn 27=some c27:=rfl
def aAv:=@yP _ _ aiK rfl rfl
theorem asx:pE.fn 28=some c28:=rfl
def TB:=@yT _ _ asx rfl rfl
theorem asy:pE.fn 29=some c29:=rfl
def Kw:=@yT _ _ asy rfl rfl
theorem Py:pE.fn 30=some c30:=rfl
def aiL:=@ZM _ _ Py rfl
def aiM:=@yEd _ _ Py rfl
def aAw:=@yE _ _ Py rfl
theorem aiN:pE.fn 31=some c31:=rfl
def aaB:=@yT _ _ aiN rfl rfl
def aiO:=@yd _ _ aiN rfl rfl
theorem asz:pE.fn 32=some c32:=rfl
def aAx:=@yT _ _ asz rfl rfl
theorem asA:pE.fn 33=some c33:=rfl
def aAy:=@yT _ _ asA rfl rfl
theorem asB:pE.fn 35=some yY:=rfl
def asC:=@yT _ _ asB rfl rfl
theorem asD:pE.fn 36=some c36:=rfl
def aAz:=@yT _ _ asD rfl rfl
theorem asE:pE.fn 37=some Mw:=rfl
def aAA:=@yT _ _ asE rfl rfl
theorem asF:pE.fn 38=some c38:=rfl
def aAB:=@yT _ _ asF rfl rfl
theorem asG:pE.fn 39=some c39:=rfl
def aAC:=@yT _ _ asG rfl rfl
theorem asH:pE.fn 47=some c47:=rfl
def asI:=@yT _ _ asH rfl rfl
theorem aiP:pE.fn 48=some c48:=rfl
def asJ:=@yT _ _ aiP rfl rfl
def aAD:=@yd _ _ aiP rfl rfl
theorem aiQ:pE.fn 49=some c49:=rfl
def aAE:=@yT _ _ aiQ rfl rfl
def aAF:=@yd _ _ aiQ rfl rfl
theorem asK:pE.fn 52=some c52:=rfl
def Pz:=@yT _ _ asK rfl rfl
theorem aiR:pE.fn 54=some c54:=rfl
def aAG:=@yT _ _ aiR rfl rfl
def aAH:=@yd _ _ aiR rfl rfl
theorem asL:pE.fn 55=some c55:=rfl
def Kx:=@yT _ _ asL rfl rfl
theorem asM:pE.fn 56=some c56:=rfl
def aiS:=@yT _ _ asM rfl rfl
def aAI:=@yd _ _ asM rfl rfl
theorem aiT:pE.fn 57=some c57:=rfl
def TC:=@yT _ _ aiT rfl rfl
def asN:=@yd _ _ aiT rfl rfl
theorem aiU:pE.fn 63=some c63:=rfl
def Hr:=@yT _ _ aiU rfl rfl
def Hs:=@yd _ _ aiU rfl rfl
theorem asO:pE.fn 64=some c64:=rfl
def aAJ:=@yT _ _ asO rfl rfl
theorem asP:pE.fn 65=some c65:=rfl
def aAK:=@yT _ _ asP rfl rfl
theorem PA:pE.fn 66=some c66:=rfl
def aiV:=@yP _ _ PA rfl rfl
theorem aaC:pE.fn 67=some c67:=rfl
def aiW:=@yP _ _ aaC rfl rfl
theorem aiX:pE.fn 68=some c68:=rfl
def aiY:=@yT _ _ aiX rfl rfl
def aAL:=@yd _ _ aiX rfl rfl
theorem asQ:pE.fn 69=some c69:=rfl
def asR:=@yT _ _ asQ rfl rfl
theorem asS:pE.fn 70=some c70:=rfl
def aAM:=@yT _ _ asS rfl rfl
theorem asT:pE.fn 71=some c71:=rfl
def asU:=@yT _ _ asT rfl rfl
theorem aiZ:pE.fn 72=some c72:=rfl
def asV:=@ZM _ _ aiZ rfl
def aAN:=@yEd _ _ aiZ rfl
theorem ai0:pE.fn 73=some Hd:=rfl
def lQ:=@ZM _ _ ai0 rfl
def mF:=@yEd _ _ ai0 rfl
theorem ai2:pE.fn 74=some c74:=rfl
def asW:=@yT _ _ ai2 rfl rfl
def asY:=@yP _ _ ai2 rfl rfl
theorem ai3:pE.fn 75=some c75:=rfl
def aAO:=@yT _ _ ai3 rfl rfl
def aAP:=@yd _ _ ai3 rfl rfl
theorem ai4:pE.fn 77=some c77:=rfl
def aaD:=@yT _ _ ai4 rfl rfl
def aAQ:=@yd _ _ ai4 rfl rfl
theorem asZ:pE.fn 78=some c78:=rfl
def PB:=@yT _ _ asZ rfl rfl
theorem aAR:pE.fn 79=some c79:=rfl
def aaE:=@yT _ _ aAR rfl rfl
theorem as0:pE.fn 81=some c81:=rfl
def aAS:=@yT _ _ as0 rfl rfl
theorem aaF:pE.fn 83=some Ck:=rfl
def Ht:=@yT _ _ aaF rfl rfl
def aAT:=@yP _ _ aaF rfl rfl
def as1:=@yd _ _ aaF rfl rfl
theorem as2:pE.fn 86=some c86:=rfl
def aAU:=@yT _ _ as2 rfl rfl
theorem as3:pE.fn 87=some c87:=rfl
def PC:=@yT _ _ as3 rfl rfl
theorem ai5:pE.fn 88=some c88:=rfl
def aAV:=@yT _ _ ai5 rfl rfl
theorem as4:pE.fn 89=some c89:=rfl
def as5:=@yT _ _ as4 rfl rfl
def as6:=@yd _ _ as4 rfl rfl
theorem as7:pE.fn 90=some c90:=rfl
def as8:=@yT _ _ as7 rfl rfl
def as9:=@yd _ _ as7 rfl rfl
theorem ata:pE.fn 92=some c92:=rfl
def aAW:=@yT _ _ ata rfl rfl
theorem ai6:pE.fn 93=some c93:=rfl
def aAX:=@yT _ _ ai6 rfl rfl
theorem atb:pE.fn 96=some c96:=rfl
def TD:=@yT _ _ atb rfl rfl
theorem ai7:pE.fn 97=some c97:=rfl
def atc:=@yT _ _ ai7 rfl rfl
def atd:=@yd _ _ ai7 rfl rfl
theorem ate:pE.fn 98=some c98:=rfl
def atf:=@yT _ _ ate rfl rfl
theorem ai8:pE.fn 99=some c99:=rfl
def TE:=@yT _ _ ai8 rfl rfl
def atg:=@yd _ _ ai8 rfl rfl
theorem TF:pE.fn 100=some So:=rfl
def ae5:=@yT _ _ TF rfl rfl
def ae6:=@yd _ _ TF rfl rfl
theorem ae7:pE.fn 102=some air:=rfl
def ae8:=@yT _ _ ae7 rfl rfl
def ath:=@yd _ _ ae7 rfl rfl
theorem zD:pE.fn 103=some pw:=rfl
def CM:=@yT _ _ zD rfl rfl
theorem ae9:pE.fn 104=some Kl:=rfl
def ati:=@yT _ _ ae9 rfl rfl
theorem afa:pE.fn 105=some OS:=rfl
def afb:=@yT _ _ afa rfl rfl
theorem afc:pE.fn 106=some OT:=rfl
def atj:=@yT _ _ afc rfl rfl
theorem TG:pE.fn 107=some pR:=rfl
def afd:=@yP _ _ TG rfl rfl
theorem afe:pE.fn 115=some Sq:=rfl
def atk:=@yT _ _ afe rfl rfl
theorem atl:pE.fn 116=some ais:=rfl
def atm:=@yT _ _ atl rfl rfl
theorem My:pE.fn 117=some D2:=rfl
def atn:=@yE _ _ My rfl
theorem Mz:pE.fn 118=some Km:=rfl
def aff:=@yT _ _ Mz rfl rfl
def ato:=@yP _ _ Mz rfl rfl
theorem afg:pE.fn 119=some Sr:=rfl
def atp:=@yT _ _ afg rfl rfl
theorem afh:pE.fn 120=some Ss:=rfl
def atq:=@yT _ _ afh rfl rfl
theorem afi:pE.fn 121=some Su:=rfl
def atr:=@yT _ _ afi rfl rfl
theorem TH:pE.fn 122=some Kn:=rfl
def TI:=@yT _ _ TH rfl rfl
theorem TJ:pE.fn 123=some Sv:=rfl
def afj:=@yT _ _ TJ rfl rfl
def ats:=@yd _ _ TJ rfl rfl
theorem afk:pE.fn 124=some Sw:=rfl
def att:=@yT _ _ afk rfl rfl
theorem afl:pE.fn 125=some Sx:=rfl
def atu:=@yT _ _ afl rfl rfl
theorem afm:pE.fn 126=some OW:=rfl
def afn:=@yT _ _ afm rfl rfl
theorem afo:pE.fn 127=some OY:=rfl
def afp:=@yT _ _ afo rfl rfl
theorem afq:pE.fn 128=some Sy:=rfl
def afr:=@yP _ _ afq rfl rfl
theorem TK:pE.fn 129=some Sz:=rfl
def atv:=@yT _ _ TK rfl rfl
def atw:=@yd _ _ TK rfl rfl
theorem afs:pE.fn 130=some SA:=rfl
def atx:=@yT _ _ afs rfl rfl
theorem TL:pE.fn 131=some SC:=rfl
def afu:=@ZM _ _ TL rfl
def aty:=@yEd _ _ TL rfl
theorem afv:pE.fn 132=some Ko:=rfl
def afw:=@ZM _ _ afv rfl
theorem afx:pE.fn 133=some Kp:=rfl
def TM:=@ZM _ _ afx rfl
theorem afy:pE.fn 134=some O1:=rfl
def MA:=@ZM _ _ afy rfl
theorem afz:pE.fn 143=some O2:=rfl
def atz:=@yT _ _ afz rfl rfl
theorem afA:pE.fn 145=some SD:=rfl
def Hu:=@yT _ _ afA rfl rfl
theorem TN:pE.fn 146=some SE:=rfl
def MB:=@yT _ _ TN rfl rfl
def atA:=@yd _ _ TN rfl rfl
theorem TO:pE.fn 147=some O3:=rfl
def atC:=@yT _ _ TO rfl rfl
def atD:=@yd _ _ TO rfl rfl
theorem afB:pE.fn 148=some Hn:=rfl
def TP:=@yT _ _ afB rfl rfl
theorem TQ:pE.fn 149=some tF:=rfl
def atE:=@yT _ _ TQ rfl rfl
def atF:=@yd _ _ TQ rfl rfl
theorem atG:pE.fn 150=some ait:=rfl
def atH:=@yT _ _ atG rfl rfl
theorem atI:pE.fn 151=some aiu:=rfl
def atJ:=@yT _ _ atI rfl rfl
theorem TR:pE.fn 152=some SF:=rfl
def TS:=@yT _ _ TR rfl rfl
def TT:=@yd _ _ TR rfl rfl
theorem afC:pE.fn 153=some SG:=rfl
def MC:=@yT _ _ afC rfl rfl
theorem afD:pE.fn 154=some Kq:=rfl
def atL:=@yT _ _ afD rfl rfl
theorem afE:pE.fn 155=some SI:=rfl
def atM:=@yT _ _ afE rfl rfl
theorem afF:pE.fn 156=some aiv:=rfl
def atN:=@yT _ _ afF rfl rfl
def atO:=@yd _ _ afF rfl rfl
theorem afG:pE.fn 161=some O5:=rfl
def TU:=@yT _ _ afG rfl rfl
theorem TV:pE.fn 162=some SJ:=rfl
def TW:=@yT _ _ TV rfl rfl
def afH:=@yd _ _ TV rfl rfl
theorem afI:pE.fn 163=some O7:=rfl
def atP:=@yT _ _ afI rfl rfl
theorem TX:pE.fn 164=some SK:=rfl
def MD:=@yT _ _ TX rfl rfl
def atQ:=@yd _ _ TX rfl rfl
theorem afJ:pE.fn 165=some O9:=rfl
def atS:=@yT _ _ afJ rfl rfl
theorem afK:pE.fn 166=some SL:=rfl
def atU:=@yT _ _ afK rfl rfl
theorem TY:pE.fn 167=some SM:=rfl
def TZ:=@yT _ _ TY rfl rfl
def T1:=@yd _ _ TY rfl rfl
theorem afL:pE.fn 168=some Pc:=rfl
def T2:=@yT _ _ afL rfl rfl
theorem afM:pE.fn 169=some Pd:=rfl
def afN:=@yT _ _ afM rfl rfl
theorem afO:pE.fn 170=some SN:=rfl
def atX:=@yT _ _ afO rfl rfl
theorem afP:pE.fn 171=some SO:=rfl
def atY:=@yT _ _ afP rfl rfl
theorem afQ:pE.fn 172=some SP:=rfl
def ME:=@yT _ _ afQ rfl rfl
theorem T3:pE.fn 173=some D3:=rfl
def T4:=@yT _ _ T3 rfl rfl
theorem afR:pE.fn 174=some SQ:=rfl
def atZ:=@yT _ _ afR rfl rfl
theorem at0:pE.fn 175=some aiw:=rfl
def MF:=@yT _ _ at0 rfl rfl
theorem T5:pE.fn 178=some SR:=rfl
def afS:=@yT _ _ T5 rfl rfl
def afT:=@yd _ _ T5 rfl rfl
theorem T6:pE.fn 179=some Kr:=rfl
def zE:=@yT _ _ T6 rfl rfl
theorem T7:pE.fn 180=some D4:=rfl
def afU:=@yT _ _ T7 rfl rfl
def at1:=@yd _ _ T7 rfl rfl
theorem T8:pE.fn 181=some Ks:=rfl
def at2:=@yT _ _ T8 rfl rfl
def at5:=@yd _ _ T8 rfl rfl
theorem T9:pE.fn 182=some Pe:=rfl
def at6:=@yT _ _ T9 rfl rfl
def at7:=@yd _ _ T9 rfl rfl
theorem Ua:pE.fn 183=some SU:=rfl
def at8:=@yT _ _ Ua rfl rfl
def at9:=@yd _ _ Ua rfl rfl
theorem afV:pE.fn 192=some SV:=rfl
def MG:=@yT _ _ afV rfl rfl
theorem afW:pE.fn 194=some SW:=rfl
def afX:=@yT _ _ afW rfl rfl
theorem afY:pE.fn 195=some Pf:=rfl
def tT:=@yT _ _ afY rfl rfl
theorem aua:pE.fn 196=some aix:=rfl
def tU:=@yT _ _ aua rfl rfl
theorem Ub:pE.fn 197=some Ho:=rfl
def tV:=@yT _ _ Ub rfl rfl
def CN:=@yd _ _ Ub rfl rfl
theorem afZ:pE.fn 198=some SX:=rfl
def aub:=@yT _ _ afZ rfl rfl
theorem af0:pE.fn 199=some SY:=rfl
def CP:=@yT _ _ af0 rfl rfl
theorem af1:pE.fn 200=some SZ:=rfl
def Hv:=@yT _ _ af1 rfl rfl
theorem af2:pE.fn 201=some S0:=rfl
def auc:=@yT _ _ af2 rfl rfl
theorem Uc:pE.fn 202=some Kt:=rfl
def MH:=@yT _ _ Uc rfl rfl
theorem af3:pE.fn 203=some S1:=rfl
def aud:=@yT _ _ af3 rfl rfl
theorem Ud:pE.fn 204=some S2:=rfl
def af4:=@yT _ _ Ud rfl rfl
def af5:=@yd _ _ Ud rfl rfl
theorem Ue:pE.fn 205=some S3:=rfl
def af6:=@yT _ _ Ue rfl rfl
def af7:=@yd _ _ Ue rfl rfl
theorem af8:pE.fn 206=some S4:=rfl
def aue:=@yT _ _ af8 rfl rfl
theorem af9:pE.fn 207=some Ph:=rfl
def auf:=@yT _ _ af9 rfl rfl
theorem aga:pE.fn 208=some S5:=rfl
def MI:=@yT _ _ aga rfl rfl
theorem agb:pE.fn 209=some S6:=rfl
def agc:=@yT _ _ agb rfl rfl
theorem agd:pE.fn 210=some Pk:=rfl
def aug:=@yT _ _ agd rfl rfl
theorem age:pE.fn 211=some S7:=rfl
def MJ:=@yT _ _ age rfl rfl
theorem agf:pE.fn 212=some S8:=rfl
def auh:=@yT _ _ agf rfl rfl
theorem agh:pE.fn 213=some S9:=rfl
def aui:=@yT _ _ agh rfl rfl
theorem agi:pE.fn 214=some Ta:=rfl
def Uf:=@yT _ _ agi rfl rfl
theorem agj:pE.fn 215=some aiy:=rfl
def agk:=@yT _ _ agj rfl rfl
def auj:=@yd _ _ agj rfl rfl
theorem agl:pE.fn 216=some Td:=rfl
def auk:=@yT _ _ agl rfl rfl
theorem Ug:pE.fn 217=some Po:=rfl
def CQ:=@ZM _ _ Ug rfl
def aul:=@yEd _ _ Ug rfl
theorem agm:pE.fn 227=some rz:=rfl
def agn:=@yT _ _ agm rfl rfl
theorem ago:pE.fn 228=some Ku:=rfl
def aum:=@yT _ _ ago rfl rfl
theorem Uh:pE.fn 229=some Te:=rfl
def aun:=@yT _ _ Uh rfl rfl
def auo:=@yd _ _ Uh rfl rfl
theorem agp:pE.fn 230=some aiz:=rfl
def aup:=@ZM _ _ agp rfl
def auq:=@yEd _ _ agp rfl
theorem agq:pE.fn 231=some Tf:=rfl
def Ui:=@yT _ _ agq rfl rfl
theorem ags:pE.fn 234=some Tg:=rfl
def MK:=@yT _ _ ags rfl rfl
theorem agt:pE.fn 235=some Th:=rfl
def Uj:=@yT _ _ agt rfl rfl
theorem agu:pE.fn 236=some Pp:=rfl
def agv:=@yT _ _ agu rfl rfl
theorem agw:pE.fn 237=some Ti:=rfl
def agx:=@yT _ _ agw rfl rfl
theorem agy:pE.fn 238=some Tj:=rfl
def aur:=@yT _ _ agy rfl rfl
theorem agz:pE.fn 239=some Pq:=rfl
def aus:=@yT _ _ agz rfl rfl
theorem agA:pE.fn 240=some Tl:=rfl
def aut:=@yT _ _ agA rfl rfl
theorem agB:pE.fn 244=some Pr:=rfl
def agC:=@yT _ _ agB rfl rfl
theorem agD:pE.fn 253=some Tm:=rfl
def auu:=@yT _ _ agD rfl rfl
theorem agE:pE.fn 254=some Tn:=rfl
def agF:=@yT _ _ agE rfl rfl
theorem agG:pE.fn 255=some To:=rfl
def auv:=@yT _ _ agG rfl rfl
theorem agH:pE.fn 256=some Tp:=rfl
def xm:=@yT _ _ agH rfl rfl
theorem agI:pE.fn 259=some Tq:=rfl
def auw:=@yT _ _ agI rfl rfl
theorem agJ:pE.fn 260=some zy:=rfl
def Uk:=@ZM _ _ agJ rfl
theorem agK:pE.fn 266=some Ts:=rfl
def pe:=@yT _ _ agK rfl rfl
theorem agL:pE.fn 267=some Ps:=rfl
def pf:=@yT _ _ agL rfl rfl
theorem agM:pE.fn 271=some Pt:=rfl
def auy:=@yT _ _ agM rfl rfl
theorem agN:pE.fn 272=some Tu:=rfl
def auz:=@yT _ _ agN rfl rfl
theorem agO:pE.fn 284=some Kv:=rfl
def auA:=@yT _ _ agO rfl rfl
theorem agQ:pE.fn 285=some Tv:=rfl
def auB:=@yT _ _ agQ rfl rfl
theorem agR:pE.fn 286=some Tw:=rfl
def auC:=@yT _ _ agR rfl rfl
theorem agS:pE.fn 289=some mV:=rfl
def agT:=@yP _ _ agS rfl rfl
theorem agU:pE.fn 303=some Pv:=rfl
def agV:=@yT _ _ agU rfl rfl
theorem Ul:pE.fn 308=some Pw:=rfl
def ML:=@yT _ _ Ul rfl rfl
def agW:=@yd _ _ Ul rfl rfl
theorem agX:pE.fn 309=some Tx:=rfl
def agY:=@yT _ _ agX rfl rfl
theorem Um:pE.fn 310=some wx:=rfl
def agZ:=@yT _ _ Um rfl rfl
def ag0:=@yd _ _ Um rfl rfl
theorem MM:pE.fn 311=some BN:=rfl
def auD:=@yT _ _ MM rfl rfl
end Go.Proofs.YtnkgnjecmfkcfaaGreat
