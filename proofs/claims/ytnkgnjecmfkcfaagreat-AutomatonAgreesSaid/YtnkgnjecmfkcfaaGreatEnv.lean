/- The functions that the statement reaches, as one table. Conditions: none. -/
import Derived.Test.YtnkgnjecmfkcfaaGreatCoA
import Derived.Test.YtnkgnjecmfkcfaaGreatCoB
import Derived.Test.YtnkgnjecmfkcfaaGreatCoC
import Derived.Test.YtnkgnjecmfkcfaaGreatCX
import Derived.Test.YtnkgnjecmfkcfaaGreatEvG
set_option linter.unusedVariables false
namespace Go.Proofs.YtnkgnjecmfkcfaaGreat
open Go Go.Ev
def pET:Ds:=(.nd (.nd (.nd (.nd (.nd (.nd (.nd (.nd .nil 3 c3 .nil) 7 c7 (.nd .nil 8 c8 .nil)) 9 c9 (.nd (.nd .nil 10 wh .nil) 11 yS (.nd .nil 12 Ce .nil))) 13 c13 (.nd (.nd (.nd .nil 14 c14 .nil) 15 c15 (.nd .nil 23 c23 .nil)) 24 c24 (.nd (.nd .nil 25 c25 .nil) 26 c26 .nil))) 27 c27 (.nd (.nd (.nd (.nd .nil 28 c28 .nil) 29 c29 (.nd .nil 30 c30 .nil)) 31 c31 (.nd (.nd .nil 32 c32 .nil) 33 c33 (.nd .nil 34 c34 .nil))) 35 zQ (.nd (.nd (.nd .nil 36 c36 .nil) 37 M0 (.nd .nil 38 c38 .nil)) 39 c39 (.nd (.nd .nil 40 c40 .nil) 41 c41 .nil)))) 42 c42 (.nd (.nd (.nd (.nd (.nd .nil 43 c43 .nil) 44 c44 (.nd .nil 45 c45 .nil)) 46 c46 (.nd (.nd .nil 52 c52 .nil) 54 c54 (.nd .nil 55 c55 .nil))) 56 c56 (.nd (.nd (.nd .nil 57 c57 .nil) 63 c63 (.nd .nil 64 c64 .nil)) 65 c65 (.nd (.nd .nil 66 c66 .nil) 67 c67 .nil))) 68 c68 (.nd (.nd (.nd (.nd .nil 69 c69 .nil) 70 c70 (.nd .nil 71 c71 .nil)) 72 c72 (.nd (.nd .nil 73 HH .nil) 74 c74 .nil)) 75 c75 (.nd (.nd (.nd .nil 77 c77 .nil) 78 c78 (.nd .nil 79 c79 .nil)) 80 c80 (.nd (.nd .nil 81 c81 .nil) 82 c82 .nil))))) 83 C7 (.nd (.nd (.nd (.nd (.nd (.nd .nil 84 c84 .nil) 85 c85 (.nd .nil 87 c87 .nil)) 92 c92 (.nd (.nd .nil 93 c93 .nil) 96 c96 (.nd .nil 97 c97 .nil))) 98 c98 (.nd (.nd (.nd .nil 99 c99 .nil) 100 Th (.nd .nil 101 aoW .nil)) 102 ajb (.nd (.nd .nil 103 pO .nil) 104 KQ .nil))) 105 PA (.nd (.nd (.nd (.nd .nil 106 PB .nil) 107 qf (.nd .nil 115 Ti .nil)) 116 ajc (.nd (.nd .nil 117 EI .nil) 118 KR .nil)) 119 Tj (.nd (.nd (.nd .nil 120 Tl .nil) 121 Tm (.nd .nil 122 KS .nil)) 123 Tn (.nd (.nd .nil 124 To .nil) 125 Tp .nil)))) 126 PE (.nd (.nd (.nd (.nd (.nd .nil 127 PG .nil) 128 Tq (.nd .nil 129 Ts .nil)) 130 Tu (.nd (.nd .nil 131 Tv .nil) 132 KT (.nd .nil 133 KU .nil))) 134 PJ (.nd (.nd (.nd .nil 138 Tw .nil) 139 Tx (.nd .nil 140 Ty .nil)) 141 Tz (.nd (.nd .nil 142 TA .nil) 143 PK .nil))) 144 apv (.nd (.nd (.nd (.nd .nil 145 TB .nil) 146 TC (.nd .nil 147 PL .nil)) 148 HR (.nd (.nd .nil 149 tX .nil) 153 TD .nil)) 154 KV (.nd (.nd (.nd .nil 155 TE .nil) 161 PN (.nd .nil 162 TF .nil)) 163 PQ (.nd (.nd .nil 164 TG .nil) 165 PS .nil)))))) 166 TH (.nd (.nd (.nd (.nd (.nd (.nd (.nd .nil 167 TI .nil) 168 PU (.nd .nil 169 PV .nil)) 170 TJ (.nd (.nd .nil 171 TK .nil) 172 TL (.nd .nil 173 EJ .nil))) 174 TM (.nd (.nd (.nd .nil 175 ajd .nil) 176 apW (.nd .nil 177 apY .nil)) 178 TN (.nd (.nd .nil 179 KW .nil) 180 EL .nil))) 181 KX (.nd (.nd (.nd (.nd .nil 182 PW .nil) 183 TO (.nd .nil 189 ap6 .nil)) 190 ap8 (.nd (.nd .nil 191 aqa .nil) 192 TP .nil)) 193 aqd (.nd (.nd (.nd .nil 194 TQ .nil) 195 PX (.nd .nil 196 aje .nil)) 197 HS (.nd (.nd .nil 198 TR .nil) 199 TS .nil)))) 200 TT (.nd (.nd (.nd (.nd (.nd .nil 201 TU .nil) 202 KY (.nd .nil 203 TV .nil)) 204 TW (.nd (.nd .nil 205 TX .nil) 206 TY (.nd .nil 207 PZ .nil))) 208 TZ (.nd (.nd (.nd .nil 209 T1 .nil) 210 P1 (.nd .nil 211 T2 .nil)) 212 T3 (.nd (.nd .nil 213 T4 .nil) 214 T5 .nil))) 215 ajf (.nd (.nd (.nd (.nd .nil 216 T6 .nil) 217 P5 (.nd .nil 222 T7 .nil)) 223 P6 (.nd (.nd .nil 224 T8 .nil) 225 T9 .nil)) 226 P7 (.nd (.nd (.nd .nil 227 rX .nil) 228 KZ (.nd .nil 231 Ua .nil)) 234 Ub (.nd (.nd .nil 235 Uc .nil) 236 P8 .nil))))) 237 Ud (.nd (.nd (.nd (.nd (.nd (.nd .nil 238 Ue .nil) 239 P9 (.nd .nil 240 Uf .nil)) 241 aqS (.nd (.nd .nil 242 aqU .nil) 243 aqW (.nd .nil 244 Qa .nil))) 247 aqZ (.nd (.nd (.nd .nil 248 aq1 .nil) 249 aq3 (.nd .nil 250 aq5 .nil)) 251 aq7 (.nd (.nd .nil 252 aq9 .nil) 253 Ug .nil))) 254 Uh (.nd (.nd (.nd (.nd .nil 255 Ui .nil) 256 Uj (.nd .nil 257 arh .nil)) 258 arj (.nd (.nd .nil 259 Uk .nil) 260 Ai .nil)) 263 Ul (.nd (.nd (.nd .nil 264 Um .nil) 265 Un (.nd .nil 266 Uo .nil)) 267 Qb (.nd (.nd .nil 271 Qc .nil) 272 Uq .nil)))) 273 arx (.nd (.nd (.nd (.nd (.nd .nil 274 arz .nil) 275 arC (.nd .nil 276 arE .nil)) 281 arG (.nd (.nd .nil 282 arI .nil) 283 arK (.nd .nil 284 K0 .nil))) 285 Ur (.nd (.nd (.nd .nil 286 Us .nil) 287 arP (.nd .nil 288 arR .nil)) 289 np (.nd (.nd .nil 303 Qe .nil) 305 arV .nil))) 306 arX (.nd (.nd (.nd (.nd .nil 307 arZ .nil) 308 Qf (.nd .nil 309 Ut .nil)) 310 wP (.nd (.nd .nil 311 Cu .nil) 313 ar5 .nil)) 314 ar7 (.nd (.nd (.nd .nil 315 ar9 .nil) 317 asb (.nd .nil 318 ase .nil)) 323 asg (.nd (.nd .nil 326 asi .nil) 327 asl .nil)))))))
theorem ajg:Ds.All (EM Tryz.prog) pET:=⟨⟨⟨⟨⟨⟨⟨⟨trivial,kq3,trivial⟩,kq7,⟨trivial,kq8,trivial⟩⟩,kq9,⟨⟨trivial,azm,trivial⟩,azn,⟨trivial,azo,trivial⟩⟩⟩,azp,⟨⟨⟨trivial,azq,trivial⟩,azr,⟨trivial,azs,trivial⟩⟩,azt,⟨⟨trivial,azu,trivial⟩,azv,trivial⟩⟩⟩,azw,⟨⟨⟨⟨trivial,azx,trivial⟩,azy,⟨trivial,azz,trivial⟩⟩,azA,⟨⟨trivial,azB,trivial⟩,azC,⟨trivial,azD,trivial⟩⟩⟩,azE,⟨⟨⟨trivial,azF,trivial⟩,azG,⟨trivial,azH,trivial⟩⟩,azI,⟨⟨trivial,azJ,trivial⟩,azK,trivial⟩⟩⟩⟩,azL,⟨⟨⟨⟨⟨trivial,azM,trivial⟩,azN,⟨trivial,azO,trivial⟩⟩,azP,⟨⟨trivial,azQ,trivial⟩,azR,⟨trivial,azS,trivial⟩⟩⟩,azU,⟨⟨⟨trivial,azV,trivial⟩,azW,⟨trivial,azX,trivial⟩⟩,azY,⟨⟨trivial,azZ,trivial⟩,az0,trivial⟩⟩⟩,az1,⟨⟨⟨⟨trivial,az2,trivial⟩,az3,⟨trivial,az4,trivial⟩⟩,az5,⟨⟨trivial,az6,trivial⟩,az7,trivial⟩⟩,az8,⟨⟨⟨trivial,az9,trivial⟩,aAa,⟨trivial,aAc,trivial⟩⟩,aAd,⟨⟨trivial,aAe,trivial⟩,aAf,trivial⟩⟩⟩⟩⟩,aAg,⟨⟨⟨⟨⟨⟨trivial,aAh,trivial⟩,aAi,⟨trivial,aAj,trivial⟩⟩,aAk,⟨⟨trivial,aAl,trivial⟩,aAm,⟨trivial,aAn,trivial⟩⟩⟩,aAo,⟨⟨⟨trivial,aAp,trivial⟩,aoV,⟨trivial,aoX,trivial⟩⟩,aoY,⟨⟨trivial,aoZ,trivial⟩,ao0,trivial⟩⟩⟩,ao1,⟨⟨⟨⟨trivial,ao2,trivial⟩,ao3,⟨trivial,ao4,trivial⟩⟩,ao5,⟨⟨trivial,ao6,trivial⟩,ao7,trivial⟩⟩,ao8,⟨⟨⟨trivial,ao9,trivial⟩,apa,⟨trivial,apb,trivial⟩⟩,apc,⟨⟨trivial,apd,trivial⟩,ape,trivial⟩⟩⟩⟩,apf,⟨⟨⟨⟨⟨trivial,apg,trivial⟩,aph,⟨trivial,api,trivial⟩⟩,apj,⟨⟨trivial,apk,trivial⟩,apl,⟨trivial,apm,trivial⟩⟩⟩,apn,⟨⟨⟨trivial,apo,trivial⟩,apq,⟨trivial,apr,trivial⟩⟩,aps,⟨⟨trivial,apt,trivial⟩,apu,trivial⟩⟩⟩,apw,⟨⟨⟨⟨trivial,apx,trivial⟩,apy,⟨trivial,apz,trivial⟩⟩,apA,⟨⟨trivial,apB,trivial⟩,apC,trivial⟩⟩,apD,⟨⟨⟨trivial,apE,trivial⟩,apF,⟨trivial,apG,trivial⟩⟩,apH,⟨⟨trivial,apI,trivial⟩,apJ,trivial⟩⟩⟩⟩⟩⟩,apK,⟨⟨⟨⟨⟨⟨⟨trivial,apL,trivial⟩,apM,⟨trivial,apN,trivial⟩⟩,apO,⟨⟨trivial,apP,trivial⟩,apQ,⟨trivial,apR,trivial⟩⟩⟩,apU,⟨⟨⟨trivial,apV,trivial⟩,apX,⟨trivial,apZ,trivial⟩⟩,ap0,⟨⟨trivial,ap1,trivial⟩,ap2,trivial⟩⟩⟩,ap3,⟨⟨⟨⟨trivial,ap4,trivial⟩,ap5,⟨trivial,ap7,trivial⟩⟩,ap9,⟨⟨trivial,aqb,trivial⟩,aqc,trivial⟩⟩,aqe,⟨⟨⟨trivial,aqf,trivial⟩,aqg,⟨trivial,aqh,trivial⟩⟩,aqi,⟨⟨trivial,aqj,trivial⟩,aqk,trivial⟩⟩⟩⟩,aql,⟨⟨⟨⟨⟨trivial,aqm,trivial⟩,aqn,⟨trivial,aqo,trivial⟩⟩,aqp,⟨⟨trivial,aqq,trivial⟩,aqr,⟨trivial,aqs,trivial⟩⟩⟩,aqt,⟨⟨⟨trivial,aqu,trivial⟩,aqv,⟨trivial,aqw,trivial⟩⟩,aqx,⟨⟨trivial,aqy,trivial⟩,aqz,trivial⟩⟩⟩,aqA,⟨⟨⟨⟨trivial,aqB,trivial⟩,aqC,⟨trivial,aqD,trivial⟩⟩,aqE,⟨⟨trivial,aqF,trivial⟩,aqG,trivial⟩⟩,aqH,⟨⟨⟨trivial,aqI,trivial⟩,aqJ,⟨trivial,aqK,trivial⟩⟩,aqL,⟨⟨trivial,aqM,trivial⟩,aqN,trivial⟩⟩⟩⟩⟩,aqO,⟨⟨⟨⟨⟨⟨trivial,aqP,trivial⟩,aqQ,⟨trivial,aqR,trivial⟩⟩,aqT,⟨⟨trivial,aqV,trivial⟩,aqX,⟨trivial,aqY,trivial⟩⟩⟩,aq0,⟨⟨⟨trivial,aq2,trivial⟩,aq4,⟨trivial,aq6,trivial⟩⟩,aq8,⟨⟨trivial,ara,trivial⟩,arb,trivial⟩⟩⟩,arc,⟨⟨⟨⟨trivial,ard,trivial⟩,arf,⟨trivial,ari,trivial⟩⟩,ark,⟨⟨trivial,arl,trivial⟩,arn,trivial⟩⟩,aro,⟨⟨⟨trivial,arp,trivial⟩,arq,⟨trivial,art,trivial⟩⟩,aru,⟨⟨trivial,arv,trivial⟩,arw,trivial⟩⟩⟩⟩,ary,⟨⟨⟨⟨⟨trivial,arA,trivial⟩,arD,⟨trivial,arF,trivial⟩⟩,arH,⟨⟨trivial,arJ,trivial⟩,arL,⟨trivial,arM,trivial⟩⟩⟩,arN,⟨⟨⟨trivial,arO,trivial⟩,arQ,⟨trivial,arS,trivial⟩⟩,arT,⟨⟨trivial,arU,trivial⟩,arW,trivial⟩⟩⟩,arY,⟨⟨⟨⟨trivial,ar0,trivial⟩,ar1,⟨trivial,ar2,trivial⟩⟩,ar3,⟨⟨trivial,ar4,trivial⟩,ar6,trivial⟩⟩,ar8,⟨⟨⟨trivial,asa,trivial⟩,asd,⟨trivial,asf,trivial⟩⟩,ash,⟨⟨trivial,asj,trivial⟩,asm,trivial⟩⟩⟩⟩⟩⟩⟩
def pEx(f:Nat):Option (List T→Option T):=bif Nat.beq f 76 then some countE else bif Nat.beq f 316 then some idxE else none
def pEy(_:Nat):Option (List T→Option (List T×Option Nat)):=none
def pE:Env:=⟨pET.find,pEx,pEy⟩
theorem aok:px Tryz.prog pE:=asn ajg (fun f g h=>by
 unfold pEx at h
 cases hb:Nat.beq f 76 with
 |true=>rw[hb,cond_true]at h;cases h;rw[Nat.eq_of_beq_eq_true hb];exact Tryz.cntOk
 |false=>
  rw[hb,cond_false]at h
  cases hc:Nat.beq f 316 with
  |true=>rw[hc,cond_true]at h;cases h;rw[Nat.eq_of_beq_eq_true hc];exact Tryz.idxOk
  |false=>rw[hc,cond_false]at h;cases h) (fun f g h=>by
 cases h)
section
variable{f j:Nat}{c:aj}(e:pE.fn f=some c)
include e
theorem yEK(he:c.eff=true): ∀{z:Nat} {fr:Fr} {lh:aD ah} {sh:List ah} {args:List T},args.all kept=true→bu pE (ae pE) z ⟨fr,lh,sh⟩ f args=(ae pE f args sh).bind fun r=>some (r.1,⟨fr,lh,r.2⟩):=fun h=>Qg e he h
theorem yEd(he:c.eff=true): ∀{n:Nat} {fr:Fr} {lh:aD ah} {sh:List ah} {u:List Nat} {d:Option Nat} {opl:List aP} {ds:List (List Nat×aF)} {br:List FP},(opl.map (rd fr)).all kept=true→aK pE (ae pE) n ((u,⟨d,.callf f opl,none⟩)::ds) br ⟨fr,lh,sh⟩=if meets u br xK=true then ke pE (ae pE) n ds (br++ [xK]) (ai pE (ae pE) n [⟨d,.callf f opl,none⟩] ⟨fr,lh,sh⟩)else none:=fun h=>abf e he h
theorem yE(he:c.eff=true): ∀{z:Nat} {fr:Fr} {lh:aD ah} {sh:List ah} {args:List T},bu pE (ae pE) z ⟨fr,lh,sh⟩ f args=(yU lh sh true args).bind fun q=>(ae pE f q.1 ((St.mk fr lh sh).ups q.2).sh).bind fun r=>some (r.1,{(St.mk fr lh sh).ups q.2 with sh:=r.2}):=Uw e he
theorem yT(he:c.eff=false)(ho:c.own=none): ∀{z:Nat} {fr:Fr} {lh:aD ah} {sh:List ah} {args:List T},args.all froz=true→bu pE (ae pE) z ⟨fr,lh,sh⟩ f args=(ae pE f args []).bind fun r=>some (r.1,⟨fr,lh,sh⟩):=fun h=>HT e he ho h
theorem yP(he:c.eff=false)(ho:c.own=none): ∀{z:Nat} {fr:Fr} {lh:aD ah} {sh:List ah} {args:List T},bu pE (ae pE) z ⟨fr,lh,sh⟩ f args=(yU lh sh false args).bind fun q=>(ae pE f q.1 []).bind fun r=>some (r.1,if scalar r.1=true then⟨fr,lh,sh⟩else(St.mk fr lh sh).ups q.2):=HU e he ho
theorem yd(he:c.eff=false)(ho:c.own=none): ∀{n:Nat} {fr:Fr} {lh:aD ah} {sh:List ah} {u:List Nat} {d:Option Nat} {opl:List aP} {ds:List (List Nat×aF)} {br:List FP},(opl.map (rd fr)).all froz=true→aK pE (ae pE) n ((u,⟨d,.callf f opl,none⟩)::ds) br ⟨fr,lh,sh⟩=ke pE (ae pE) n ds (br++ [fO]) (ai pE (ae pE) n [⟨d,.callf f opl,none⟩] ⟨fr,lh,sh⟩):=fun h=>aji e he ho h
end
set_option linter.defProp false
theorem fn3:pE.fn 3=some c3:=rfl
theorem fn7:pE.fn 7=some c7:=rfl
def dc7:=@yT _ _ fn7 rfl rfl
theorem fn8:pE.fn 8=some c8:=rfl
def dc8:=@yT _ _ fn8 rfl rfl
theorem fn9:pE.fn 9=some c9:=rfl
def dc9:=@yT _ _ fn9 rfl rfl
theorem aso:pE.fn 10=some wh:=rfl
def aAw:=@yT _ _ aso rfl rfl
theorem asp:pE.fn 11=some yS:=rfl
def aAx:=@yT _ _ asp rfl rfl
theorem asq:pE.fn 12=some Ce:=rfl
def aAy:=@yT _ _ asq rfl rfl
theorem asr:pE.fn 13=some c13:=rfl
def aAz:=@yT _ _ asr rfl rfl
theorem ajj:pE.fn 14=some c14:=rfl
def aAA:=@yT _ _ ajj rfl rfl
theorem ass:pE.fn 15=some c15:=rfl
def aAB:=@yT _ _ ass rfl rfl
theorem ajk:pE.fn 23=some c23:=rfl
def nq:=@yT _ _ ajk rfl rfl
def aAC:=@yd _ _ ajk rfl rfl
theorem ast:pE.fn 24=some c24:=rfl
def aAD:=@yP _ _ ast rfl rfl
theorem ajl:pE.fn 25=some c25:=rfl
def aAE:=@yP _ _ ajl rfl rfl
theorem ajm:pE.fn 26=some c26:=rfl
def aAF:=@yT _ _ ajm rfl rfl
def aAG:=@yd _ _ ajm rfl rfl
theorem ajn:pE.fn 27=some c27:=rfl
def aAH:=@yP _ _ ajn rfl rfl
theorem asu:pE.fn 28=some c28:=rfl
def Ux:=@yT _ _ asu rfl rfl
theorem asv:pE.fn 29=some c29:=rfl
def K1:=@yT _ _ asv rfl rfl
theorem Qh:pE.fn 30=some c30:=rfl
def ajo:=@yEK _ _ Qh rfl
def ajp:=@yEd _ _ Qh rfl
def aAI:=@yE _ _ Qh rfl
theorem ajq:pE.fn 31=some c31:=rfl
def abg:=@yT _ _ ajq rfl rfl
def ajr:=@yd _ _ ajq rfl rfl
theorem asw:pE.fn 32=some c32:=rfl
def aAJ:=@yT _ _ asw rfl rfl
theorem asx:pE.fn 33=some c33:=rfl
def aAK:=@yT _ _ asx rfl rfl
theorem asy:pE.fn 35=some zQ:=rfl
def Uy:=@yT _ _ asy rfl rfl
theorem asz:pE.fn 36=some c36:=rfl
def ajs:=@yT _ _ asz rfl rfl
theorem asA:pE.fn 37=some M0:=rfl
def aAL:=@yT _ _ asA rfl rfl
theorem asB:pE.fn 38=some c38:=rfl
def aAM:=@yT _ _ asB rfl rfl
theorem asC:pE.fn 39=some c39:=rfl
def asD:=@yT _ _ asC rfl rfl
theorem asE:pE.fn 40=some c40:=rfl
def asF:=@yT _ _ asE rfl rfl
theorem asG:pE.fn 41=some c41:=rfl
def asH:=@yT _ _ asG rfl rfl
theorem asI:pE.fn 42=some c42:=rfl
def aAN:=@yT _ _ asI rfl rfl
theorem asJ:pE.fn 43=some c43:=rfl
def asK:=@yT _ _ asJ rfl rfl
theorem asL:pE.fn 44=some c44:=rfl
def aAO:=@yT _ _ asL rfl rfl
theorem asM:pE.fn 45=some c45:=rfl
def asN:=@yT _ _ asM rfl rfl
theorem asO:pE.fn 46=some c46:=rfl
def aAP:=@yT _ _ asO rfl rfl
theorem asP:pE.fn 52=some c52:=rfl
def Qi:=@yT _ _ asP rfl rfl
theorem ajt:pE.fn 54=some c54:=rfl
def aAQ:=@yT _ _ ajt rfl rfl
def aAR:=@yd _ _ ajt rfl rfl
theorem asQ:pE.fn 55=some c55:=rfl
def K2:=@yT _ _ asQ rfl rfl
theorem asR:pE.fn 56=some c56:=rfl
def aju:=@yT _ _ asR rfl rfl
def aAS:=@yd _ _ asR rfl rfl
theorem ajv:pE.fn 57=some c57:=rfl
def Uz:=@yT _ _ ajv rfl rfl
def asS:=@yd _ _ ajv rfl rfl
theorem ajw:pE.fn 63=some c63:=rfl
def HV:=@yT _ _ ajw rfl rfl
def HX:=@yd _ _ ajw rfl rfl
theorem asT:pE.fn 64=some c64:=rfl
def aAT:=@yT _ _ asT rfl rfl
theorem asU:pE.fn 65=some c65:=rfl
def aAU:=@yT _ _ asU rfl rfl
theorem Qj:pE.fn 66=some c66:=rfl
def ajx:=@yP _ _ Qj rfl rfl
theorem abh:pE.fn 67=some c67:=rfl
def ajy:=@yP _ _ abh rfl rfl
theorem ajz:pE.fn 68=some c68:=rfl
def ajA:=@yT _ _ ajz rfl rfl
def aAV:=@yd _ _ ajz rfl rfl
theorem asV:pE.fn 69=some c69:=rfl
def asW:=@yT _ _ asV rfl rfl
theorem asY:pE.fn 70=some c70:=rfl
def aAW:=@yT _ _ asY rfl rfl
theorem asZ:pE.fn 71=some c71:=rfl
def aAX:=@yT _ _ asZ rfl rfl
theorem as0:pE.fn 72=some c72:=rfl
def aAY:=@yEK _ _ as0 rfl
theorem ajB:pE.fn 73=some HH:=rfl
def l7:=@yEK _ _ ajB rfl
def mU:=@yEd _ _ ajB rfl
theorem ajC:pE.fn 74=some c74:=rfl
def as1:=@yT _ _ ajC rfl rfl
def as2:=@yP _ _ ajC rfl rfl
theorem ajD:pE.fn 75=some c75:=rfl
def aAZ:=@yT _ _ ajD rfl rfl
def aA0:=@yd _ _ ajD rfl rfl
theorem ajE:pE.fn 77=some c77:=rfl
def EN:=@yT _ _ ajE rfl rfl
def ajF:=@yd _ _ ajE rfl rfl
theorem as3:pE.fn 78=some c78:=rfl
def Qk:=@yT _ _ as3 rfl rfl
theorem aA1:pE.fn 79=some c79:=rfl
def UA:=@yT _ _ aA1 rfl rfl
theorem ajG:pE.fn 80=some c80:=rfl
def as4:=@yEK _ _ ajG rfl
def aA2:=@yEd _ _ ajG rfl
theorem as5:pE.fn 81=some c81:=rfl
def as6:=@yP _ _ as5 rfl rfl
theorem as7:pE.fn 82=some c82:=rfl
def as8:=@yT _ _ as7 rfl rfl
theorem abi:pE.fn 83=some C7:=rfl
def Aj:=@yT _ _ abi rfl rfl
def aA3:=@yP _ _ abi rfl rfl
def as9:=@yd _ _ abi rfl rfl
theorem ata:pE.fn 84=some c84:=rfl
def aA4:=@yT _ _ ata rfl rfl
theorem atb:pE.fn 85=some c85:=rfl
def aA5:=@yT _ _ atb rfl rfl
theorem atc:pE.fn 87=some c87:=rfl
def UB:=@yT _ _ atc rfl rfl
theorem atd:pE.fn 92=some c92:=rfl
def aA6:=@yT _ _ atd rfl rfl
theorem ajH:pE.fn 93=some c93:=rfl
def aA7:=@yT _ _ ajH rfl rfl
theorem ate:pE.fn 96=some c96:=rfl
def UC:=@yT _ _ ate rfl rfl
theorem ajI:pE.fn 97=some c97:=rfl
def atf:=@yT _ _ ajI rfl rfl
def atg:=@yd _ _ ajI rfl rfl
theorem ath:pE.fn 98=some c98:=rfl
def ati:=@yT _ _ ath rfl rfl
theorem ajJ:pE.fn 99=some c99:=rfl
def UD:=@yT _ _ ajJ rfl rfl
def atj:=@yd _ _ ajJ rfl rfl
theorem UE:pE.fn 100=some Th:=rfl
def afH:=@yT _ _ UE rfl rfl
def afI:=@yd _ _ UE rfl rfl
theorem afJ:pE.fn 102=some ajb:=rfl
def afK:=@yT _ _ afJ rfl rfl
def atk:=@yd _ _ afJ rfl rfl
theorem Ak:pE.fn 103=some pO:=rfl
def Dt:=@yT _ _ Ak rfl rfl
theorem afL:pE.fn 104=some KQ:=rfl
def atl:=@yT _ _ afL rfl rfl
theorem afM:pE.fn 105=some PA:=rfl
def afN:=@yT _ _ afM rfl rfl
theorem afO:pE.fn 106=some PB:=rfl
def atm:=@yT _ _ afO rfl rfl
theorem UF:pE.fn 107=some qf:=rfl
def afP:=@yP _ _ UF rfl rfl
theorem afQ:pE.fn 115=some Ti:=rfl
def atn:=@yT _ _ afQ rfl rfl
theorem ato:pE.fn 116=some ajc:=rfl
def atp:=@yT _ _ ato rfl rfl
theorem M5:pE.fn 117=some EI:=rfl
def atq:=@yE _ _ M5 rfl
theorem M6:pE.fn 118=some KR:=rfl
def afR:=@yT _ _ M6 rfl rfl
def atr:=@yP _ _ M6 rfl rfl
theorem afS:pE.fn 119=some Tj:=rfl
def ats:=@yT _ _ afS rfl rfl
theorem afT:pE.fn 120=some Tl:=rfl
def att:=@yT _ _ afT rfl rfl
theorem afU:pE.fn 121=some Tm:=rfl
def atu:=@yT _ _ afU rfl rfl
theorem UG:pE.fn 122=some KS:=rfl
def UH:=@yT _ _ UG rfl rfl
theorem UI:pE.fn 123=some Tn:=rfl
def afV:=@yT _ _ UI rfl rfl
def atv:=@yd _ _ UI rfl rfl
theorem afW:pE.fn 124=some To:=rfl
def atw:=@yT _ _ afW rfl rfl
theorem afX:pE.fn 125=some Tp:=rfl
def atx:=@yT _ _ afX rfl rfl
theorem afY:pE.fn 126=some PE:=rfl
def M7:=@yT _ _ afY rfl rfl
theorem afZ:pE.fn 127=some PG:=rfl
def af0:=@yT _ _ afZ rfl rfl
theorem af1:pE.fn 128=some Tq:=rfl
def af2:=@yP _ _ af1 rfl rfl
theorem UJ:pE.fn 129=some Ts:=rfl
def aty:=@yT _ _ UJ rfl rfl
def atz:=@yd _ _ UJ rfl rfl
theorem af3:pE.fn 130=some Tu:=rfl
def atA:=@yT _ _ af3 rfl rfl
theorem af4:pE.fn 131=some Tv:=rfl
def atD:=@yEK _ _ af4 rfl
theorem af5:pE.fn 132=some KT:=rfl
def af6:=@yEK _ _ af5 rfl
theorem af7:pE.fn 133=some KU:=rfl
def UK:=@yEK _ _ af7 rfl
theorem af8:pE.fn 134=some PJ:=rfl
def M8:=@yEK _ _ af8 rfl
theorem af9:pE.fn 138=some Tw:=rfl
def aga:=@yT _ _ af9 rfl rfl
theorem agb:pE.fn 139=some Tx:=rfl
def agc:=@yT _ _ agb rfl rfl
theorem UL:pE.fn 140=some Ty:=rfl
def agd:=@yT _ _ UL rfl rfl
def age:=@yd _ _ UL rfl rfl
theorem agf:pE.fn 141=some Tz:=rfl
def UM:=@yT _ _ agf rfl rfl
theorem agh:pE.fn 142=some TA:=rfl
def agi:=@yT _ _ agh rfl rfl
theorem agj:pE.fn 143=some PK:=rfl
def atE:=@yT _ _ agj rfl rfl
theorem agk:pE.fn 145=some TB:=rfl
def HY:=@yT _ _ agk rfl rfl
theorem UN:pE.fn 146=some TC:=rfl
def M9:=@yT _ _ UN rfl rfl
def atF:=@yd _ _ UN rfl rfl
theorem UO:pE.fn 147=some PL:=rfl
def atG:=@yT _ _ UO rfl rfl
def atH:=@yd _ _ UO rfl rfl
theorem agl:pE.fn 148=some HR:=rfl
def UP:=@yT _ _ agl rfl rfl
theorem UQ:pE.fn 149=some tX:=rfl
def atI:=@yT _ _ UQ rfl rfl
def atJ:=@yd _ _ UQ rfl rfl
theorem agm:pE.fn 153=some TD:=rfl
def Na:=@yT _ _ agm rfl rfl
theorem agn:pE.fn 154=some KV:=rfl
def atK:=@yT _ _ agn rfl rfl
theorem ago:pE.fn 155=some TE:=rfl
def atL:=@yT _ _ ago rfl rfl
theorem agp:pE.fn 161=some PN:=rfl
def UR:=@yT _ _ agp rfl rfl
theorem US:pE.fn 162=some TF:=rfl
def UT:=@yT _ _ US rfl rfl
def agq:=@yd _ _ US rfl rfl
theorem agr:pE.fn 163=some PQ:=rfl
def atM:=@yT _ _ agr rfl rfl
theorem UU:pE.fn 164=some TG:=rfl
def Nb:=@yT _ _ UU rfl rfl
def atN:=@yd _ _ UU rfl rfl
theorem ags:pE.fn 165=some PS:=rfl
def atO:=@yT _ _ ags rfl rfl
theorem agt:pE.fn 166=some TH:=rfl
def atP:=@yT _ _ agt rfl rfl
theorem UW:pE.fn 167=some TI:=rfl
def UX:=@yT _ _ UW rfl rfl
def UY:=@yd _ _ UW rfl rfl
theorem agu:pE.fn 168=some PU:=rfl
def UZ:=@yT _ _ agu rfl rfl
theorem agv:pE.fn 169=some PV:=rfl
def agw:=@yT _ _ agv rfl rfl
theorem agx:pE.fn 170=some TJ:=rfl
def atQ:=@yT _ _ agx rfl rfl
theorem agy:pE.fn 171=some TK:=rfl
def atS:=@yT _ _ agy rfl rfl
theorem agz:pE.fn 172=some TL:=rfl
def Nc:=@yT _ _ agz rfl rfl
theorem U0:pE.fn 173=some EJ:=rfl
def U1:=@yT _ _ U0 rfl rfl
theorem agA:pE.fn 174=some TM:=rfl
def atU:=@yT _ _ agA rfl rfl
theorem atX:pE.fn 175=some ajd:=rfl
def Nd:=@yT _ _ atX rfl rfl
theorem U2:pE.fn 178=some TN:=rfl
def agB:=@yT _ _ U2 rfl rfl
def agC:=@yd _ _ U2 rfl rfl
theorem U3:pE.fn 179=some KW:=rfl
def Al:=@yT _ _ U3 rfl rfl
theorem U4:pE.fn 180=some EL:=rfl
def agD:=@yT _ _ U4 rfl rfl
def atY:=@yd _ _ U4 rfl rfl
theorem U5:pE.fn 181=some KX:=rfl
def atZ:=@yT _ _ U5 rfl rfl
def at0:=@yd _ _ U5 rfl rfl
theorem U6:pE.fn 182=some PW:=rfl
def at1:=@yT _ _ U6 rfl rfl
def at2:=@yd _ _ U6 rfl rfl
theorem U7:pE.fn 183=some TO:=rfl
def at5:=@yT _ _ U7 rfl rfl
def at6:=@yd _ _ U7 rfl rfl
theorem agE:pE.fn 192=some TP:=rfl
def Nf:=@yT _ _ agE rfl rfl
theorem agF:pE.fn 194=some TQ:=rfl
def agG:=@yT _ _ agF rfl rfl
theorem agH:pE.fn 195=some PX:=rfl
def uo:=@yT _ _ agH rfl rfl
theorem at7:pE.fn 196=some aje:=rfl
def uq:=@yT _ _ at7 rfl rfl
theorem U8:pE.fn 197=some HS:=rfl
def ur:=@yT _ _ U8 rfl rfl
def Du:=@yd _ _ U8 rfl rfl
theorem agI:pE.fn 198=some TR:=rfl
def at8:=@yT _ _ agI rfl rfl
theorem agJ:pE.fn 199=some TS:=rfl
def Dv:=@yT _ _ agJ rfl rfl
theorem agK:pE.fn 200=some TT:=rfl
def HZ:=@yT _ _ agK rfl rfl
theorem agL:pE.fn 201=some TU:=rfl
def at9:=@yT _ _ agL rfl rfl
theorem U9:pE.fn 202=some KY:=rfl
def Ng:=@yT _ _ U9 rfl rfl
theorem agM:pE.fn 203=some TV:=rfl
def aua:=@yT _ _ agM rfl rfl
theorem Va:pE.fn 204=some TW:=rfl
def agN:=@yT _ _ Va rfl rfl
def agO:=@yd _ _ Va rfl rfl
theorem Vb:pE.fn 205=some TX:=rfl
def agP:=@yT _ _ Vb rfl rfl
def agQ:=@yd _ _ Vb rfl rfl
theorem agR:pE.fn 206=some TY:=rfl
def aub:=@yT _ _ agR rfl rfl
theorem agS:pE.fn 207=some PZ:=rfl
def auc:=@yT _ _ agS rfl rfl
theorem agT:pE.fn 208=some TZ:=rfl
def Nh:=@yT _ _ agT rfl rfl
theorem agU:pE.fn 209=some T1:=rfl
def Vc:=@yT _ _ agU rfl rfl
theorem agV:pE.fn 210=some P1:=rfl
def aud:=@yT _ _ agV rfl rfl
theorem agW:pE.fn 211=some T2:=rfl
def Ni:=@yT _ _ agW rfl rfl
theorem agX:pE.fn 212=some T3:=rfl
def aue:=@yT _ _ agX rfl rfl
theorem agY:pE.fn 213=some T4:=rfl
def auf:=@yT _ _ agY rfl rfl
theorem agZ:pE.fn 214=some T5:=rfl
def Vd:=@yT _ _ agZ rfl rfl
theorem aug:pE.fn 215=some ajf:=rfl
def auh:=@yT _ _ aug rfl rfl
theorem ag0:pE.fn 216=some T6:=rfl
def aui:=@yT _ _ ag0 rfl rfl
theorem ag2:pE.fn 217=some P5:=rfl
def H0:=@yEK _ _ ag2 rfl
theorem ag3:pE.fn 222=some T7:=rfl
def auj:=@yT _ _ ag3 rfl rfl
theorem ag4:pE.fn 223=some P6:=rfl
def auk:=@yT _ _ ag4 rfl rfl
theorem ag5:pE.fn 224=some T8:=rfl
def aul:=@yT _ _ ag5 rfl rfl
theorem ag6:pE.fn 225=some T9:=rfl
def aum:=@yT _ _ ag6 rfl rfl
theorem ag7:pE.fn 226=some P7:=rfl
def ag8:=@yT _ _ ag7 rfl rfl
theorem ag9:pE.fn 227=some rX:=rfl
def aha:=@yT _ _ ag9 rfl rfl
theorem ahb:pE.fn 228=some KZ:=rfl
def aun:=@yT _ _ ahb rfl rfl
theorem ahc:pE.fn 231=some Ua:=rfl
def Ve:=@yT _ _ ahc rfl rfl
theorem ahd:pE.fn 234=some Ub:=rfl
def Nj:=@yT _ _ ahd rfl rfl
theorem ahe:pE.fn 235=some Uc:=rfl
def Vf:=@yT _ _ ahe rfl rfl
theorem ahf:pE.fn 236=some P8:=rfl
def ahg:=@yT _ _ ahf rfl rfl
theorem ahh:pE.fn 237=some Ud:=rfl
def ahi:=@yT _ _ ahh rfl rfl
theorem ahj:pE.fn 238=some Ue:=rfl
def auo:=@yT _ _ ahj rfl rfl
theorem ahk:pE.fn 239=some P9:=rfl
def aup:=@yT _ _ ahk rfl rfl
theorem ahl:pE.fn 240=some Uf:=rfl
def auq:=@yT _ _ ahl rfl rfl
theorem ahm:pE.fn 244=some Qa:=rfl
def ahn:=@yT _ _ ahm rfl rfl
theorem aho:pE.fn 253=some Ug:=rfl
def aur:=@yT _ _ aho rfl rfl
theorem ahp:pE.fn 254=some Uh:=rfl
def ahq:=@yT _ _ ahp rfl rfl
theorem ahr:pE.fn 255=some Ui:=rfl
def aus:=@yT _ _ ahr rfl rfl
theorem ahs:pE.fn 256=some Uj:=rfl
def xL:=@yT _ _ ahs rfl rfl
theorem aht:pE.fn 259=some Uk:=rfl
def aut:=@yT _ _ aht rfl rfl
theorem ahu:pE.fn 260=some Ai:=rfl
def Vg:=@yEK _ _ ahu rfl
theorem ahv:pE.fn 263=some Ul:=rfl
def auu:=@yT _ _ ahv rfl rfl
theorem ahw:pE.fn 264=some Um:=rfl
def auv:=@yT _ _ ahw rfl rfl
theorem ahx:pE.fn 265=some Un:=rfl
def auw:=@yT _ _ ahx rfl rfl
theorem ahy:pE.fn 266=some Uo:=rfl
def py:=@yT _ _ ahy rfl rfl
theorem ahz:pE.fn 267=some Qb:=rfl
def pz:=@yT _ _ ahz rfl rfl
theorem ahA:pE.fn 271=some Qc:=rfl
def auy:=@yT _ _ ahA rfl rfl
theorem ahB:pE.fn 272=some Uq:=rfl
def auz:=@yT _ _ ahB rfl rfl
theorem ahC:pE.fn 284=some K0:=rfl
def auA:=@yT _ _ ahC rfl rfl
theorem ahD:pE.fn 285=some Ur:=rfl
def auB:=@yT _ _ ahD rfl rfl
theorem ahE:pE.fn 286=some Us:=rfl
def auC:=@yT _ _ ahE rfl rfl
theorem ahF:pE.fn 289=some np:=rfl
def ahG:=@yP _ _ ahF rfl rfl
theorem ahH:pE.fn 303=some Qe:=rfl
def ahI:=@yT _ _ ahH rfl rfl
theorem Vh:pE.fn 308=some Qf:=rfl
def Nk:=@yT _ _ Vh rfl rfl
def ahJ:=@yd _ _ Vh rfl rfl
theorem ahK:pE.fn 309=some Ut:=rfl
def ahL:=@yT _ _ ahK rfl rfl
theorem Vi:pE.fn 310=some wP:=rfl
def ahM:=@yT _ _ Vi rfl rfl
def ahN:=@yd _ _ Vi rfl rfl
theorem Nl:pE.fn 311=some Cu:=rfl
def auD:=@yT _ _ Nl rfl rfl
end Go.Proofs.YtnkgnjecmfkcfaaGreat
