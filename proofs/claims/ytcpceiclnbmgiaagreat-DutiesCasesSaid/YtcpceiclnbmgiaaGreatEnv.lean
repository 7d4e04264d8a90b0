/- The functions that the statement reaches, as one table. Conditions: none. -/
import Derived.Test.YtcpceiclnbmgiaaGreatCoA
import Derived.Test.YtcpceiclnbmgiaaGreatCoB
import Derived.Test.YtcpceiclnbmgiaaGreatCoC
import Derived.Test.YtcpceiclnbmgiaaGreatExt
import Derived.Test.YtcpceiclnbmgiaaGreatEvG
set_option linter.unusedVariables false
namespace Go.Proofs.YtcpceiclnbmgiaaGreat
open Go Go.Ev
def pET:DE:=(.nd (.nd (.nd (.nd (.nd (.nd (.nd (.nd .nil 4 c4 .nil) 7 c7 (.nd .nil 8 c8 .nil)) 10 ta (.nd (.nd .nil 11 tX .nil) 12 xJ (.nd .nil 18 c18 .nil))) 19 c19 (.nd (.nd (.nd .nil 20 c20 .nil) 21 c21 (.nd .nil 22 c22 .nil)) 23 c23 (.nd (.nd .nil 24 c24 .nil) 25 c25 (.nd .nil 26 c26 .nil)))) 27 c27 (.nd (.nd (.nd (.nd .nil 28 c28 .nil) 29 c29 (.nd .nil 30 c30 .nil)) 31 c31 (.nd (.nd .nil 32 c32 .nil) 33 c33 (.nd .nil 34 c34 .nil))) 35 uc (.nd (.nd (.nd .nil 36 c36 .nil) 41 c41 (.nd .nil 42 c42 .nil)) 44 c44 (.nd (.nd .nil 45 c45 .nil) 46 c46 .nil)))) 47 c47 (.nd (.nd (.nd (.nd (.nd .nil 48 c48 .nil) 49 c49 (.nd .nil 50 Tf .nil)) 51 c51 (.nd (.nd .nil 52 HO .nil) 53 c53 (.nd .nil 54 c54 .nil))) 55 c55 (.nd (.nd (.nd .nil 56 c56 .nil) 57 c57 (.nd .nil 58 c58 .nil)) 59 c59 (.nd (.nd .nil 60 c60 .nil) 61 c61 (.nd .nil 62 c62 .nil)))) 63 c63 (.nd (.nd (.nd (.nd .nil 64 c64 .nil) 65 c65 (.nd .nil 66 c66 .nil)) 71 c71 (.nd (.nd .nil 72 DB .nil) 73 c73 (.nd .nil 74 c74 .nil))) 75 c75 (.nd (.nd (.nd .nil 76 c76 .nil) 77 c77 (.nd .nil 78 c78 .nil)) 79 c79 (.nd (.nd .nil 80 c80 .nil) 81 c81 .nil))))) 82 c82 (.nd (.nd (.nd (.nd (.nd (.nd .nil 83 c83 .nil) 84 c84 (.nd .nil 85 c85 .nil)) 86 c86 (.nd (.nd .nil 87 c87 .nil) 88 c88 (.nd .nil 89 c89 .nil))) 90 c90 (.nd (.nd (.nd .nil 91 c91 .nil) 92 c92 (.nd .nil 93 c93 .nil)) 94 c94 (.nd (.nd .nil 95 c95 .nil) 96 c96 (.nd .nil 97 c97 .nil)))) 98 c98 (.nd (.nd (.nd (.nd .nil 99 c99 .nil) 100 Th (.nd .nil 101 Ti .nil)) 102 Tj (.nd (.nd .nil 103 Tl .nil) 104 PI (.nd .nil 105 KW .nil))) 106 Fg (.nd (.nd (.nd .nil 108 aqC .nil) 109 Tm (.nd .nil 110 Tn .nil)) 111 PJ (.nd (.nd .nil 112 HQ .nil) 113 uf .nil)))) 114 PK (.nd (.nd (.nd (.nd (.nd .nil 115 To .nil) 116 Tp (.nd .nil 117 Tq .nil)) 118 Ts (.nd (.nd .nil 119 aqO .nil) 120 aqQ (.nd .nil 121 aqS .nil))) 122 Tu (.nd (.nd (.nd .nil 123 aqV .nil) 124 Tv (.nd .nil 125 PL .nil)) 126 ajY (.nd (.nd .nil 127 HR .nil) 128 Tw .nil))) 129 Tx (.nd (.nd (.nd (.nd .nil 130 Ty .nil) 131 ajZ (.nd .nil 132 Tz .nil)) 133 PM (.nd (.nd .nil 134 TA .nil) 135 TB (.nd .nil 136 PN .nil))) 137 TC (.nd (.nd (.nd .nil 138 TD .nil) 139 TE (.nd .nil 140 TF .nil)) 141 aj0 (.nd (.nd .nil 142 TG .nil) 143 TH .nil)))))) 144 KX (.nd (.nd (.nd (.nd (.nd (.nd (.nd .nil 145 TI .nil) 146 PO (.nd .nil 147 TJ .nil)) 148 TK (.nd (.nd .nil 149 TL .nil) 150 PQ (.nd .nil 151 TM .nil))) 152 PR (.nd (.nd (.nd .nil 153 TN .nil) 154 PS (.nd .nil 155 TO .nil)) 156 aj1 (.nd (.nd .nil 157 TP .nil) 158 KY (.nd .nil 159 TQ .nil)))) 160 TR (.nd (.nd (.nd (.nd .nil 161 TS .nil) 162 sx (.nd .nil 163 KZ .nil)) 164 TT (.nd (.nd .nil 165 PT .nil) 166 TU (.nd .nil 167 TV .nil))) 168 PU (.nd (.nd (.nd .nil 169 arL .nil) 170 arN (.nd .nil 171 arP .nil)) 172 arR (.nd (.nd .nil 173 arT .nil) 174 arV .nil)))) 175 K0 (.nd (.nd (.nd (.nd (.nd .nil 176 TW .nil) 177 arZ (.nd .nil 178 ar1 .nil)) 179 TX (.nd (.nd .nil 180 ar4 .nil) 181 ar6 (.nd .nil 182 TY .nil))) 183 TZ (.nd (.nd (.nd .nil 184 AP .nil) 185 T1 (.nd .nil 186 T2 .nil)) 187 T3 (.nd (.nd .nil 188 PV .nil) 189 T4 (.nd .nil 190 qf .nil)))) 191 ash (.nd (.nd (.nd (.nd .nil 192 asj .nil) 193 K1 (.nd .nil 194 T5 .nil)) 195 T6 (.nd (.nd .nil 196 T7 .nil) 197 T8 (.nd .nil 198 PW .nil))) 199 T9 (.nd (.nd (.nd .nil 200 PX .nil) 201 Ua (.nd .nil 202 Ub .nil)) 203 Uc (.nd (.nd .nil 204 asx .nil) 205 PY .nil))))) 206 asA (.nd (.nd (.nd (.nd (.nd (.nd .nil 207 asC .nil) 208 PZ (.nd .nil 209 asF .nil)) 210 asH (.nd (.nd .nil 211 asJ .nil) 212 Ud (.nd .nil 213 asM .nil))) 214 asO (.nd (.nd (.nd .nil 215 P0 .nil) 216 nS (.nd .nil 217 Ue .nil)) 218 P1 (.nd (.nd .nil 219 asU .nil) 220 Uf (.nd .nil 221 Ug .nil)))) 222 aj2 (.nd (.nd (.nd (.nd .nil 223 HS .nil) 224 P2 (.nd .nil 225 as2 .nil)) 226 as4 (.nd (.nd .nil 227 as6 .nil) 228 P3 (.nd .nil 229 P4 .nil))) 230 Uh (.nd (.nd (.nd .nil 231 wE .nil) 232 CY (.nd .nil 233 atd .nil)) 234 atf (.nd (.nd .nil 235 K2 .nil) 236 P5 .nil)))) 237 Ui (.nd (.nd (.nd (.nd (.nd .nil 238 K3 .nil) 239 qD (.nd .nil 240 atm .nil)) 241 ato (.nd (.nd .nil 242 Uj .nil) 243 Uk (.nd .nil 244 Ul .nil))) 245 Um (.nd (.nd (.nd .nil 246 Un .nil) 247 K4 (.nd .nil 248 Fh .nil)) 249 K5 (.nd (.nd .nil 250 P6 .nil) 251 Uo .nil))) 252 atA (.nd (.nd (.nd (.nd .nil 254 Uq .nil) 255 Ur (.nd .nil 256 Fi .nil)) 257 Us (.nd (.nd .nil 258 P7 .nil) 259 P8 (.nd .nil 260 atJ .nil))) 261 atL (.nd (.nd (.nd .nil 266 Ut .nil) 267 Uu (.nd .nil 268 atP .nil)) 271 Uv (.nd (.nd .nil 272 atU .nil) 273 atY .nil)))))))
theorem aj3:DE.All (Fj Tryz.prog) pET:=⟨⟨⟨⟨⟨⟨⟨⟨trivial,kq4,trivial⟩,kq7,⟨trivial,kq8,trivial⟩⟩,aBq,⟨⟨trivial,aBr,trivial⟩,aBs,⟨trivial,aBt,trivial⟩⟩⟩,aBu,⟨⟨⟨trivial,aBv,trivial⟩,aBw,⟨trivial,aBx,trivial⟩⟩,aBy,⟨⟨trivial,aBz,trivial⟩,aBA,⟨trivial,aBB,trivial⟩⟩⟩⟩,aBC,⟨⟨⟨⟨trivial,aBD,trivial⟩,aBE,⟨trivial,aBF,trivial⟩⟩,aBG,⟨⟨trivial,aBH,trivial⟩,aBI,⟨trivial,aBJ,trivial⟩⟩⟩,aBK,⟨⟨⟨trivial,aBL,trivial⟩,aBM,⟨trivial,aBN,trivial⟩⟩,aBO,⟨⟨trivial,aBP,trivial⟩,aBQ,trivial⟩⟩⟩⟩,aBR,⟨⟨⟨⟨⟨trivial,aBS,trivial⟩,aBT,⟨trivial,aBU,trivial⟩⟩,aBV,⟨⟨trivial,aBW,trivial⟩,aBX,⟨trivial,aBY,trivial⟩⟩⟩,aBZ,⟨⟨⟨trivial,aB0,trivial⟩,aB1,⟨trivial,aB2,trivial⟩⟩,aB3,⟨⟨trivial,aB4,trivial⟩,aB5,⟨trivial,aB6,trivial⟩⟩⟩⟩,aB7,⟨⟨⟨⟨trivial,aB8,trivial⟩,aB9,⟨trivial,aCa,trivial⟩⟩,aCb,⟨⟨trivial,aCc,trivial⟩,aCd,⟨trivial,aCe,trivial⟩⟩⟩,aCf,⟨⟨⟨trivial,aCg,trivial⟩,aCh,⟨trivial,aCj,trivial⟩⟩,aCk,⟨⟨trivial,aCl,trivial⟩,aCm,trivial⟩⟩⟩⟩⟩,aCn,⟨⟨⟨⟨⟨⟨trivial,aCo,trivial⟩,aCp,⟨trivial,aCq,trivial⟩⟩,aCr,⟨⟨trivial,aCs,trivial⟩,aCt,⟨trivial,aCu,trivial⟩⟩⟩,aCv,⟨⟨⟨trivial,aCw,trivial⟩,aCx,⟨trivial,aCz,trivial⟩⟩,aCA,⟨⟨trivial,aCB,trivial⟩,aCC,⟨trivial,aCD,trivial⟩⟩⟩⟩,aCE,⟨⟨⟨⟨trivial,aCF,trivial⟩,aqv,⟨trivial,aqw,trivial⟩⟩,aqx,⟨⟨trivial,aqy,trivial⟩,aqz,⟨trivial,aqA,trivial⟩⟩⟩,aqB,⟨⟨⟨trivial,aqD,trivial⟩,aqE,⟨trivial,aqF,trivial⟩⟩,aqG,⟨⟨trivial,aqH,trivial⟩,aqI,trivial⟩⟩⟩⟩,aqJ,⟨⟨⟨⟨⟨trivial,aqK,trivial⟩,aqL,⟨trivial,aqM,trivial⟩⟩,aqN,⟨⟨trivial,aqP,trivial⟩,aqR,⟨trivial,aqT,trivial⟩⟩⟩,aqU,⟨⟨⟨trivial,aqW,trivial⟩,aqX,⟨trivial,aqY,trivial⟩⟩,aqZ,⟨⟨trivial,aq0,trivial⟩,aq1,trivial⟩⟩⟩,aq2,⟨⟨⟨⟨trivial,aq3,trivial⟩,aq4,⟨trivial,aq5,trivial⟩⟩,aq6,⟨⟨trivial,aq7,trivial⟩,aq8,⟨trivial,aq9,trivial⟩⟩⟩,ara,⟨⟨⟨trivial,arb,trivial⟩,arc,⟨trivial,ard,trivial⟩⟩,are,⟨⟨trivial,arf,trivial⟩,arh,trivial⟩⟩⟩⟩⟩⟩,ari,⟨⟨⟨⟨⟨⟨⟨trivial,arj,trivial⟩,ark,⟨trivial,arl,trivial⟩⟩,arn,⟨⟨trivial,aro,trivial⟩,arp,⟨trivial,arq,trivial⟩⟩⟩,art,⟨⟨⟨trivial,aru,trivial⟩,arv,⟨trivial,arw,trivial⟩⟩,arx,⟨⟨trivial,ary,trivial⟩,arz,⟨trivial,arA,trivial⟩⟩⟩⟩,arC,⟨⟨⟨⟨trivial,arD,trivial⟩,arE,⟨trivial,arF,trivial⟩⟩,arG,⟨⟨trivial,arH,trivial⟩,arI,⟨trivial,arJ,trivial⟩⟩⟩,arK,⟨⟨⟨trivial,arM,trivial⟩,arO,⟨trivial,arQ,trivial⟩⟩,arS,⟨⟨trivial,arU,trivial⟩,arW,trivial⟩⟩⟩⟩,arX,⟨⟨⟨⟨⟨trivial,arY,trivial⟩,ar0,⟨trivial,ar2,trivial⟩⟩,ar3,⟨⟨trivial,ar5,trivial⟩,ar7,⟨trivial,ar8,trivial⟩⟩⟩,ar9,⟨⟨⟨trivial,asa,trivial⟩,asb,⟨trivial,asc,trivial⟩⟩,asd,⟨⟨trivial,ase,trivial⟩,asf,⟨trivial,asg,trivial⟩⟩⟩⟩,asi,⟨⟨⟨⟨trivial,asl,trivial⟩,asm,⟨trivial,asn,trivial⟩⟩,aso,⟨⟨trivial,asp,trivial⟩,asq,⟨trivial,asr,trivial⟩⟩⟩,ass,⟨⟨⟨trivial,ast,trivial⟩,asu,⟨trivial,asv,trivial⟩⟩,asw,⟨⟨trivial,asy,trivial⟩,asz,trivial⟩⟩⟩⟩⟩,asB,⟨⟨⟨⟨⟨⟨trivial,asD,trivial⟩,asE,⟨trivial,asG,trivial⟩⟩,asI,⟨⟨trivial,asK,trivial⟩,asL,⟨trivial,asN,trivial⟩⟩⟩,asP,⟨⟨⟨trivial,asQ,trivial⟩,asR,⟨trivial,asS,trivial⟩⟩,asT,⟨⟨trivial,asV,trivial⟩,asW,⟨trivial,asY,trivial⟩⟩⟩⟩,asZ,⟨⟨⟨⟨trivial,as0,trivial⟩,as1,⟨trivial,as3,trivial⟩⟩,as5,⟨⟨trivial,as7,trivial⟩,as8,⟨trivial,as9,trivial⟩⟩⟩,ata,⟨⟨⟨trivial,atb,trivial⟩,atc,⟨trivial,ate,trivial⟩⟩,atg,⟨⟨trivial,ath,trivial⟩,ati,trivial⟩⟩⟩⟩,atj,⟨⟨⟨⟨⟨trivial,atk,trivial⟩,atl,⟨trivial,atn,trivial⟩⟩,atp,⟨⟨trivial,atq,trivial⟩,atr,⟨trivial,ats,trivial⟩⟩⟩,att,⟨⟨⟨trivial,atu,trivial⟩,atv,⟨trivial,atw,trivial⟩⟩,atx,⟨⟨trivial,aty,trivial⟩,atz,trivial⟩⟩⟩,atC,⟨⟨⟨⟨trivial,atD,trivial⟩,atE,⟨trivial,atF,trivial⟩⟩,atG,⟨⟨trivial,atH,trivial⟩,atI,⟨trivial,atK,trivial⟩⟩⟩,atM,⟨⟨⟨trivial,atN,trivial⟩,atO,⟨trivial,atQ,trivial⟩⟩,atS,⟨⟨trivial,atX,trivial⟩,atZ,trivial⟩⟩⟩⟩⟩⟩⟩
def pEx(f:Nat):Option (List T→Option T):=bif Nat.beq f 253 then some idxE else none
def pEy(_:Nat):Option (List T→Option (List T×Option Nat)):=none
def pE:Env:=⟨pET.find,pEx,pEy⟩
theorem apO:pW Tryz.prog pE:=at0 aj3 (fun f g h=>by
 unfold pEx at h
 cases hc:Nat.beq f 253 with
 |true=>rw[hc,cond_true]at h;cases h;rw[Nat.eq_of_beq_eq_true hc];exact Tryz.idxOk
 |false=>rw[hc,cond_false]at h;cases h) (fun f g h=>by
 cases h)
section
variable{f j:Nat}{c:ai}(e:pE.fn f=some c)
include e
theorem Uy(he:c.eff=true): ∀{z:Nat} {fr:Fr} {lh:aB ah} {sh:List ah} {args:List T},args.all kept=true→bB pE (ae pE) z ⟨fr,lh,sh⟩ f args=(ae pE f args sh).bind fun r=>some (r.1,⟨fr,lh,r.2⟩):=fun h=>P9 e he h
theorem yEd(he:c.eff=true): ∀{n:Nat} {fr:Fr} {lh:aB ah} {sh:List ah} {u:List Nat} {d:Option Nat} {opl:List aX} {ds:List (List Nat×aF)} {bw:List FP},(opl.map (rd fr)).all kept=true→aM pE (ae pE) n ((u,⟨d,.callf f opl,none⟩)::ds) bw ⟨fr,lh,sh⟩=if meets u bw xK=true then ke pE (ae pE) n ds (bw++ [xK]) (aj pE (ae pE) n [⟨d,.callf f opl,none⟩] ⟨fr,lh,sh⟩)else none:=fun h=>acf e he h
theorem yE(he:c.eff=true): ∀{z:Nat} {fr:Fr} {lh:aB ah} {sh:List ah} {args:List T},bB pE (ae pE) z ⟨fr,lh,sh⟩ f args=(zD lh sh true args).bind fun q=>(ae pE f q.1 ((St.mk fr lh sh).ups q.2).sh).bind fun r=>some (r.1,{(St.mk fr lh sh).ups q.2 with sh:=r.2}):=Uz e he
theorem yT(he:c.eff=false)(ho:c.own=none): ∀{z:Nat} {fr:Fr} {lh:aB ah} {sh:List ah} {args:List T},args.all froz=true→bB pE (ae pE) z ⟨fr,lh,sh⟩ f args=(ae pE f args []).bind fun r=>some (r.1,⟨fr,lh,sh⟩):=fun h=>HT e he ho h
theorem yP(he:c.eff=false)(ho:c.own=none): ∀{z:Nat} {fr:Fr} {lh:aB ah} {sh:List ah} {args:List T},bB pE (ae pE) z ⟨fr,lh,sh⟩ f args=(zD lh sh false args).bind fun q=>(ae pE f q.1 []).bind fun r=>some (r.1,if scalar r.1=true then⟨fr,lh,sh⟩else(St.mk fr lh sh).ups q.2):=HU e he ho
theorem yd(he:c.eff=false)(ho:c.own=none): ∀{n:Nat} {fr:Fr} {lh:aB ah} {sh:List ah} {u:List Nat} {d:Option Nat} {opl:List aX} {ds:List (List Nat×aF)} {bw:List FP},(opl.map (rd fr)).all froz=true→aM pE (ae pE) n ((u,⟨d,.callf f opl,none⟩)::ds) bw ⟨fr,lh,sh⟩=ke pE (ae pE) n ds (bw++ [gG]) (aj pE (ae pE) n [⟨d,.callf f opl,none⟩] ⟨fr,lh,sh⟩):=fun h=>aj5 e he ho h
end
set_option linter.defProp false
theorem fn4:pE.fn 4=some c4:=rfl
theorem fn7:pE.fn 7=some c7:=rfl
def dc7:=@yT _ _ fn7 rfl rfl
theorem fn8:pE.fn 8=some c8:=rfl
def dc8:=@yT _ _ fn8 rfl rfl
theorem aCL:pE.fn 10=some ta:=rfl
def at1:=@yT _ _ aCL rfl rfl
theorem aj6:pE.fn 11=some tX:=rfl
def aCM:=@yT _ _ aj6 rfl rfl
theorem aj7:pE.fn 12=some xJ:=rfl
def aj8:=@yT _ _ aj7 rfl rfl
def aCN:=@yd _ _ aj7 rfl rfl
theorem aj9:pE.fn 18=some c18:=rfl
def nU:=@yT _ _ aj9 rfl rfl
def aCO:=@yd _ _ aj9 rfl rfl
theorem at2:pE.fn 19=some c19:=rfl
def aCP:=@yP _ _ at2 rfl rfl
theorem aka:pE.fn 20=some c20:=rfl
def aCQ:=@yP _ _ aka rfl rfl
theorem akb:pE.fn 21=some c21:=rfl
def aCR:=@yT _ _ akb rfl rfl
def aCS:=@yd _ _ akb rfl rfl
theorem akc:pE.fn 22=some c22:=rfl
def aCT:=@yP _ _ akc rfl rfl
theorem acg:pE.fn 23=some c23:=rfl
def Fk:=@yT _ _ acg rfl rfl
theorem at5:pE.fn 24=some c24:=rfl
def UA:=@yT _ _ at5 rfl rfl
theorem at6:pE.fn 25=some c25:=rfl
def at7:=@yT _ _ at6 rfl rfl
theorem akd:pE.fn 26=some c26:=rfl
def aCU:=@yT _ _ akd rfl rfl
def aCV:=@yd _ _ akd rfl rfl
theorem at8:pE.fn 27=some c27:=rfl
def aCW:=@yT _ _ at8 rfl rfl
theorem at9:pE.fn 28=some c28:=rfl
def aCX:=@yT _ _ at9 rfl rfl
theorem ach:pE.fn 29=some c29:=rfl
def aCY:=@yT _ _ ach rfl rfl
theorem aci:pE.fn 30=some c30:=rfl
def aua:=@yT _ _ aci rfl rfl
theorem ake:pE.fn 31=some c31:=rfl
def aCZ:=@yT _ _ ake rfl rfl
theorem aub:pE.fn 32=some c32:=rfl
def aC0:=@yT _ _ aub rfl rfl
theorem akf:pE.fn 33=some c33:=rfl
def aC1:=@yT _ _ akf rfl rfl
def aC2:=@yd _ _ akf rfl rfl
theorem auc:pE.fn 34=some c34:=rfl
def K6:=@yT _ _ auc rfl rfl
theorem acj:pE.fn 35=some uc:=rfl
def aC3:=@yT _ _ acj rfl rfl
theorem aud:pE.fn 36=some c36:=rfl
def aC4:=@yT _ _ aud rfl rfl
theorem akg:pE.fn 41=some c41:=rfl
def aC5:=@yT _ _ akg rfl rfl
def aC6:=@yd _ _ akg rfl rfl
theorem aue:pE.fn 42=some c42:=rfl
def auf:=@yT _ _ aue rfl rfl
theorem akh:pE.fn 44=some c44:=rfl
def aC7:=@yT _ _ akh rfl rfl
def aC8:=@yd _ _ akh rfl rfl
theorem aug:pE.fn 45=some c45:=rfl
def aC9:=@yT _ _ aug rfl rfl
theorem aki:pE.fn 46=some c46:=rfl
def HV:=@yT _ _ aki rfl rfl
def HW:=@yd _ _ aki rfl rfl
theorem auh:pE.fn 47=some c47:=rfl
def aDa:=@yT _ _ auh rfl rfl
theorem aui:pE.fn 48=some c48:=rfl
def aDb:=@yT _ _ aui rfl rfl
theorem auj:pE.fn 49=some c49:=rfl
def akj:=@yT _ _ auj rfl rfl
theorem akk:pE.fn 50=some Tf:=rfl
def auk:=@yT _ _ akk rfl rfl
theorem aul:pE.fn 51=some c51:=rfl
def aDc:=@Uy _ _ aul rfl
theorem akl:pE.fn 52=some HO:=rfl
def mG:=@Uy _ _ akl rfl
def nG:=@yEd _ _ akl rfl
theorem akm:pE.fn 53=some c53:=rfl
def aum:=@yT _ _ akm rfl rfl
def aun:=@yP _ _ akm rfl rfl
theorem auo:pE.fn 54=some c54:=rfl
def aup:=@yT _ _ auo rfl rfl
theorem auq:pE.fn 55=some c55:=rfl
def akn:=@yT _ _ auq rfl rfl
theorem ack:pE.fn 56=some c56:=rfl
def aDd:=@yT _ _ ack rfl rfl
def aDe:=@yP _ _ ack rfl rfl
def aDf:=@yd _ _ ack rfl rfl
theorem acm:pE.fn 57=some c57:=rfl
def aur:=@yT _ _ acm rfl rfl
def aDg:=@yP _ _ acm rfl rfl
def aDh:=@yd _ _ acm rfl rfl
theorem aus:pE.fn 58=some c58:=rfl
def aut:=@Uy _ _ aus rfl
theorem auu:pE.fn 59=some c59:=rfl
theorem auv:pE.fn 60=some c60:=rfl
def aDi:=@yT _ _ auv rfl rfl
theorem auw:pE.fn 61=some c61:=rfl
def ako:=@yT _ _ auw rfl rfl
theorem auy:pE.fn 62=some c62:=rfl
def K7:=@yT _ _ auy rfl rfl
theorem akp:pE.fn 63=some c63:=rfl
def UB:=@yT _ _ akp rfl rfl
def akq:=@yd _ _ akp rfl rfl
theorem auz:pE.fn 64=some c64:=rfl
def K8:=@yT _ _ auz rfl rfl
theorem Qa:pE.fn 65=some c65:=rfl
def akr:=@yP _ _ Qa rfl rfl
theorem Qb:pE.fn 66=some c66:=rfl
def aks:=@Uy _ _ Qb rfl
def akt:=@yEd _ _ Qb rfl
def aDj:=@yE _ _ Qb rfl
theorem auA:pE.fn 71=some c71:=rfl
def auB:=@yT _ _ auA rfl rfl
theorem acn:pE.fn 72=some DB:=rfl
def AQ:=@yT _ _ acn rfl rfl
def aDk:=@yP _ _ acn rfl rfl
def auC:=@yd _ _ acn rfl rfl
theorem aku:pE.fn 73=some c73:=rfl
def CZ:=@yT _ _ aku rfl rfl
def auD:=@yd _ _ aku rfl rfl
theorem auE:pE.fn 74=some c74:=rfl
def auF:=@yP _ _ auE rfl rfl
theorem akv:pE.fn 75=some c75:=rfl
def aDl:=@Uy _ _ akv rfl
def aDm:=@yEd _ _ akv rfl
theorem akw:pE.fn 76=some c76:=rfl
def akx:=@yT _ _ akw rfl rfl
def aDn:=@yd _ _ akw rfl rfl
theorem auG:pE.fn 77=some c77:=rfl
def aDo:=@yT _ _ auG rfl rfl
theorem aDp:pE.fn 78=some c78:=rfl
def aDq:=@yT _ _ aDp rfl rfl
theorem aco:pE.fn 79=some c79:=rfl
def aDr:=@yE _ _ aco rfl
theorem acp:pE.fn 80=some c80:=rfl
def auH:=@yT _ _ acp rfl rfl
def aDs:=@yP _ _ acp rfl rfl
theorem auI:pE.fn 81=some c81:=rfl
def aDt:=@yT _ _ auI rfl rfl
theorem auJ:pE.fn 82=some c82:=rfl
def aDu:=@yT _ _ auJ rfl rfl
theorem auK:pE.fn 83=some c83:=rfl
def aDv:=@yT _ _ auK rfl rfl
theorem auL:pE.fn 84=some c84:=rfl
def acq:=@yT _ _ auL rfl rfl
theorem auM:pE.fn 85=some c85:=rfl
def auN:=@yT _ _ auM rfl rfl
theorem auO:pE.fn 86=some c86:=rfl
def auP:=@yP _ _ auO rfl rfl
theorem aky:pE.fn 87=some c87:=rfl
def aDw:=@yT _ _ aky rfl rfl
def aDx:=@yd _ _ aky rfl rfl
theorem akz:pE.fn 88=some c88:=rfl
def auQ:=@yT _ _ akz rfl rfl
theorem auR:pE.fn 89=some c89:=rfl
def aDy:=@Uy _ _ auR rfl
theorem auS:pE.fn 90=some c90:=rfl
def UC:=@yT _ _ auS rfl rfl
theorem auT:pE.fn 91=some c91:=rfl
def auU:=@Uy _ _ auT rfl
theorem auV:pE.fn 92=some c92:=rfl
def akA:=@Uy _ _ auV rfl
theorem aDz:pE.fn 93=some c93:=rfl
def acr:=@yT _ _ aDz rfl rfl
theorem auW:pE.fn 94=some c94:=rfl
def acs:=@Uy _ _ auW rfl
theorem auX:pE.fn 95=some c95:=rfl
def auY:=@yE _ _ auX rfl
theorem UD:pE.fn 96=some c96:=rfl
def auZ:=@yE _ _ UD rfl
theorem au0:pE.fn 97=some c97:=rfl
def akB:=@yP _ _ au0 rfl rfl
theorem au1:pE.fn 98=some c98:=rfl
def au2:=@yT _ _ au1 rfl rfl
theorem akC:pE.fn 99=some c99:=rfl
def aDA:=@yT _ _ akC rfl rfl
def aDB:=@yd _ _ akC rfl rfl
theorem UE:pE.fn 100=some Th:=rfl
def au3:=@yT _ _ UE rfl rfl
def au4:=@yd _ _ UE rfl rfl
theorem agF:pE.fn 101=some Ti:=rfl
def au5:=@yT _ _ agF rfl rfl
theorem agG:pE.fn 102=some Tj:=rfl
def agH:=@yT _ _ agG rfl rfl
theorem agI:pE.fn 103=some Tl:=rfl
def au6:=@yT _ _ agI rfl rfl
theorem agJ:pE.fn 104=some PI:=rfl
def au7:=@yT _ _ agJ rfl rfl
theorem UF:pE.fn 105=some KW:=rfl
def au8:=@yT _ _ UF rfl rfl
theorem Na:pE.fn 106=some Fg:=rfl
def UG:=@yP _ _ Na rfl rfl
theorem agK:pE.fn 109=some Tm:=rfl
def HX:=@yT _ _ agK rfl rfl
theorem UH:pE.fn 110=some Tn:=rfl
def Nb:=@yT _ _ UH rfl rfl
def au9:=@yd _ _ UH rfl rfl
theorem UI:pE.fn 111=some PJ:=rfl
def ava:=@yT _ _ UI rfl rfl
def avb:=@yd _ _ UI rfl rfl
theorem agL:pE.fn 112=some HQ:=rfl
def UJ:=@yT _ _ agL rfl rfl
theorem UK:pE.fn 113=some uf:=rfl
def avc:=@yT _ _ UK rfl rfl
def avd:=@yd _ _ UK rfl rfl
theorem agM:pE.fn 114=some PK:=rfl
def ave:=@yT _ _ agM rfl rfl
theorem agN:pE.fn 115=some To:=rfl
def agO:=@yT _ _ agN rfl rfl
theorem UL:pE.fn 116=some Tp:=rfl
def agP:=@yT _ _ UL rfl rfl
def agQ:=@yd _ _ UL rfl rfl
theorem agR:pE.fn 117=some Tq:=rfl
def UM:=@yT _ _ agR rfl rfl
theorem agS:pE.fn 118=some Ts:=rfl
def agT:=@yT _ _ agS rfl rfl
theorem agU:pE.fn 122=some Tu:=rfl
def Nc:=@yT _ _ agU rfl rfl
theorem agV:pE.fn 124=some Tv:=rfl
def agW:=@yT _ _ agV rfl rfl
theorem agX:pE.fn 125=some PL:=rfl
def uq:=@yT _ _ agX rfl rfl
theorem avf:pE.fn 126=some ajY:=rfl
def ur:=@yT _ _ avf rfl rfl
theorem UN:pE.fn 127=some HR:=rfl
def uu:=@yT _ _ UN rfl rfl
def DF:=@yd _ _ UN rfl rfl
theorem agY:pE.fn 128=some Tw:=rfl
def avg:=@yT _ _ agY rfl rfl
theorem agZ:pE.fn 129=some Tx:=rfl
def DG:=@yT _ _ agZ rfl rfl
theorem ag0:pE.fn 130=some Ty:=rfl
def HY:=@yT _ _ ag0 rfl rfl
theorem avh:pE.fn 131=some ajZ:=rfl
def Nd:=@yT _ _ avh rfl rfl
theorem ag1:pE.fn 132=some Tz:=rfl
def avi:=@yT _ _ ag1 rfl rfl
theorem ag2:pE.fn 133=some PM:=rfl
def Nf:=@yT _ _ ag2 rfl rfl
theorem ag3:pE.fn 134=some TA:=rfl
def Ng:=@yT _ _ ag3 rfl rfl
theorem ag4:pE.fn 135=some TB:=rfl
def UO:=@yT _ _ ag4 rfl rfl
theorem ag5:pE.fn 136=some PN:=rfl
def avj:=@yT _ _ ag5 rfl rfl
theorem ag6:pE.fn 137=some TC:=rfl
def HZ:=@yT _ _ ag6 rfl rfl
theorem ag7:pE.fn 138=some TD:=rfl
def avk:=@yT _ _ ag7 rfl rfl
theorem ag8:pE.fn 139=some TE:=rfl
def avl:=@yT _ _ ag8 rfl rfl
theorem ag9:pE.fn 140=some TF:=rfl
def UP:=@yT _ _ ag9 rfl rfl
theorem avm:pE.fn 141=some aj0:=rfl
def avn:=@yT _ _ avm rfl rfl
theorem aha:pE.fn 142=some TG:=rfl
def avo:=@yT _ _ aha rfl rfl
theorem ahb:pE.fn 143=some TH:=rfl
def Nh:=@yT _ _ ahb rfl rfl
theorem ahc:pE.fn 144=some KX:=rfl
def avp:=@yT _ _ ahc rfl rfl
theorem ahd:pE.fn 145=some TI:=rfl
def avq:=@yT _ _ ahd rfl rfl
theorem ahe:pE.fn 146=some PO:=rfl
def H2:=@Uy _ _ ahe rfl
theorem UQ:pE.fn 147=some TJ:=rfl
def avr:=@yT _ _ UQ rfl rfl
def avs:=@yd _ _ UQ rfl rfl
theorem ahf:pE.fn 148=some TK:=rfl
def avt:=@yT _ _ ahf rfl rfl
theorem ahg:pE.fn 149=some TL:=rfl
def H3:=@yT _ _ ahg rfl rfl
theorem ahh:pE.fn 150=some PQ:=rfl
def UR:=@yT _ _ ahh rfl rfl
theorem US:pE.fn 151=some TM:=rfl
def UT:=@yT _ _ US rfl rfl
def ahi:=@yd _ _ US rfl rfl
theorem ahj:pE.fn 152=some PR:=rfl
def avu:=@yT _ _ ahj rfl rfl
theorem UU:pE.fn 153=some TN:=rfl
def Ni:=@yT _ _ UU rfl rfl
def avv:=@yd _ _ UU rfl rfl
theorem ahk:pE.fn 154=some PS:=rfl
def avw:=@yT _ _ ahk rfl rfl
theorem ahl:pE.fn 155=some TO:=rfl
def avx:=@yT _ _ ahl rfl rfl
theorem ahm:pE.fn 156=some aj1:=rfl
def ahn:=@yT _ _ ahm rfl rfl
def avy:=@yd _ _ ahm rfl rfl
theorem UW:pE.fn 157=some TP:=rfl
def UX:=@yT _ _ UW rfl rfl
def UY:=@yd _ _ UW rfl rfl
theorem UZ:pE.fn 158=some KY:=rfl
def U0:=@yT _ _ UZ rfl rfl
theorem U1:pE.fn 159=some TQ:=rfl
def aho:=@yT _ _ U1 rfl rfl
def avz:=@yd _ _ U1 rfl rfl
theorem ahp:pE.fn 160=some TR:=rfl
def avA:=@yT _ _ ahp rfl rfl
theorem ahq:pE.fn 161=some TS:=rfl
def avB:=@yT _ _ ahq rfl rfl
theorem ahr:pE.fn 162=some sx:=rfl
def ahs:=@yT _ _ ahr rfl rfl
theorem aht:pE.fn 163=some KZ:=rfl
def avC:=@yT _ _ aht rfl rfl
theorem ahu:pE.fn 164=some TT:=rfl
def avD:=@yT _ _ ahu rfl rfl
theorem ahv:pE.fn 165=some PT:=rfl
def avE:=@yT _ _ ahv rfl rfl
theorem ahw:pE.fn 166=some TU:=rfl
def avF:=@yT _ _ ahw rfl rfl
theorem ahx:pE.fn 167=some TV:=rfl
def avG:=@yT _ _ ahx rfl rfl
theorem ahy:pE.fn 168=some PU:=rfl
def ahz:=@yT _ _ ahy rfl rfl
theorem ahA:pE.fn 175=some K0:=rfl
def H4:=@yT _ _ ahA rfl rfl
theorem ahB:pE.fn 176=some TW:=rfl
def avH:=@yT _ _ ahB rfl rfl
theorem ahC:pE.fn 179=some TX:=rfl
def xL:=@yT _ _ ahC rfl rfl
theorem ahD:pE.fn 182=some TY:=rfl
def avI:=@yT _ _ ahD rfl rfl
theorem ahE:pE.fn 183=some TZ:=rfl
def U2:=@yT _ _ ahE rfl rfl
theorem ahF:pE.fn 184=some AP:=rfl
def U3:=@Uy _ _ ahF rfl
theorem U4:pE.fn 185=some T1:=rfl
def Nj:=@yT _ _ U4 rfl rfl
def U5:=@yd _ _ U4 rfl rfl
theorem ahG:pE.fn 186=some T2:=rfl
def Nk:=@yT _ _ ahG rfl rfl
theorem ahH:pE.fn 187=some T3:=rfl
def U6:=@yT _ _ ahH rfl rfl
theorem ahI:pE.fn 188=some PV:=rfl
def ahJ:=@yT _ _ ahI rfl rfl
theorem ahK:pE.fn 189=some T4:=rfl
def ahL:=@yT _ _ ahK rfl rfl
theorem AR:pE.fn 190=some qf:=rfl
def DH:=@yT _ _ AR rfl rfl
theorem U7:pE.fn 193=some K1:=rfl
def Nl:=@yT _ _ U7 rfl rfl
theorem ahM:pE.fn 194=some T5:=rfl
def avJ:=@yT _ _ ahM rfl rfl
theorem U8:pE.fn 195=some T6:=rfl
def ahN:=@yT _ _ U8 rfl rfl
def ahO:=@yd _ _ U8 rfl rfl
theorem U9:pE.fn 196=some T7:=rfl
def ahP:=@yT _ _ U9 rfl rfl
def ahQ:=@yd _ _ U9 rfl rfl
theorem ahR:pE.fn 197=some T8:=rfl
def avK:=@yT _ _ ahR rfl rfl
theorem ahS:pE.fn 198=some PW:=rfl
def avL:=@yT _ _ ahS rfl rfl
theorem ahT:pE.fn 199=some T9:=rfl
def pX:=@yT _ _ ahT rfl rfl
theorem ahU:pE.fn 200=some PX:=rfl
def pY:=@yT _ _ ahU rfl rfl
theorem ahV:pE.fn 201=some Ua:=rfl
def avM:=@yT _ _ ahV rfl rfl
theorem ahW:pE.fn 202=some Ub:=rfl
def avN:=@yT _ _ ahW rfl rfl
theorem ahX:pE.fn 203=some Uc:=rfl
def avO:=@yT _ _ ahX rfl rfl
theorem ahY:pE.fn 205=some PY:=rfl
def ahZ:=@yT _ _ ahY rfl rfl
theorem ah0:pE.fn 208=some PZ:=rfl
def Va:=@yT _ _ ah0 rfl rfl
theorem ah1:pE.fn 212=some Ud:=rfl
def avP:=@yT _ _ ah1 rfl rfl
theorem ah2:pE.fn 215=some P0:=rfl
def avQ:=@yT _ _ ah2 rfl rfl
theorem ah3:pE.fn 216=some nS:=rfl
def ah4:=@yP _ _ ah3 rfl rfl
theorem ah5:pE.fn 217=some Ue:=rfl
def AS:=@yT _ _ ah5 rfl rfl
theorem ah6:pE.fn 218=some P1:=rfl
def avR:=@yT _ _ ah6 rfl rfl
theorem ah7:pE.fn 220=some Uf:=rfl
def ah8:=@yT _ _ ah7 rfl rfl
theorem ah9:pE.fn 221=some Ug:=rfl
def avS:=@yT _ _ ah9 rfl rfl
theorem aia:pE.fn 222=some aj2:=rfl
def Vb:=@yT _ _ aia rfl rfl
def avU:=@yd _ _ aia rfl rfl
theorem Vc:pE.fn 223=some HS:=rfl
def H5:=@yT _ _ Vc rfl rfl
def aib:=@yd _ _ Vc rfl rfl
theorem aic:pE.fn 224=some P2:=rfl
def aid:=@yT _ _ aic rfl rfl
theorem aie:pE.fn 228=some P3:=rfl
def aif:=@yT _ _ aie rfl rfl
theorem Vd:pE.fn 229=some P4:=rfl
def Nm:=@yT _ _ Vd rfl rfl
def aih:=@yd _ _ Vd rfl rfl
theorem aii:pE.fn 230=some Uh:=rfl
def aij:=@yT _ _ aii rfl rfl
theorem Ve:pE.fn 231=some wE:=rfl
def aik:=@yT _ _ Ve rfl rfl
def ail:=@yd _ _ Ve rfl rfl
theorem Nn:pE.fn 232=some CY:=rfl
def avV:=@yT _ _ Nn rfl rfl
theorem aim:pE.fn 235=some K2:=rfl
def avW:=@yT _ _ aim rfl rfl
theorem Vf:pE.fn 236=some P5:=rfl
def avX:=@yT _ _ Vf rfl rfl
def avY:=@yd _ _ Vf rfl rfl
theorem ain:pE.fn 237=some Ui:=rfl
def avZ:=@yT _ _ ain rfl rfl
theorem aio:pE.fn 238=some K3:=rfl
def av0:=@yT _ _ aio rfl rfl
theorem Vg:pE.fn 239=some qD:=rfl
def aip:=@yP _ _ Vg rfl rfl
theorem Vh:pE.fn 242=some Uj:=rfl
def aiq:=@yT _ _ Vh rfl rfl
def air:=@yd _ _ Vh rfl rfl
theorem ais:pE.fn 243=some Uk:=rfl
def ait:=@yT _ _ ais rfl rfl
theorem Vi:pE.fn 244=some Ul:=rfl
def H6:=@yT _ _ Vi rfl rfl
def aiu:=@yd _ _ Vi rfl rfl
theorem Vj:pE.fn 245=some Um:=rfl
def aiv:=@yT _ _ Vj rfl rfl
def aiw:=@yd _ _ Vj rfl rfl
theorem aix:pE.fn 246=some Un:=rfl
def No:=@yT _ _ aix rfl rfl
theorem Vk:pE.fn 247=some K4:=rfl
def AU:=@yT _ _ Vk rfl rfl
theorem Vl:pE.fn 248=some Fh:=rfl
def aiy:=@yT _ _ Vl rfl rfl
def av1:=@yd _ _ Vl rfl rfl
theorem Vm:pE.fn 249=some K5:=rfl
def av2:=@yT _ _ Vm rfl rfl
def av3:=@yd _ _ Vm rfl rfl
theorem Vn:pE.fn 250=some P6:=rfl
def av4:=@yT _ _ Vn rfl rfl
def av5:=@yd _ _ Vn rfl rfl
theorem Vo:pE.fn 251=some Uo:=rfl
def av6:=@yT _ _ Vo rfl rfl
def av7:=@yd _ _ Vo rfl rfl
theorem aiz:pE.fn 254=some Uq:=rfl
def av8:=@yT _ _ aiz rfl rfl
theorem aiA:pE.fn 255=some Ur:=rfl
def av9:=@yT _ _ aiA rfl rfl
theorem Vp:pE.fn 256=some Fi:=rfl
def Vq:=@yT _ _ Vp rfl rfl
theorem aiB:pE.fn 257=some Us:=rfl
def awa:=@yT _ _ aiB rfl rfl
theorem aiC:pE.fn 258=some P7:=rfl
def awb:=@yT _ _ aiC rfl rfl
theorem aiD:pE.fn 259=some P8:=rfl
def aiE:=@yT _ _ aiD rfl rfl
theorem aiF:pE.fn 266=some Ut:=rfl
def awc:=@yT _ _ aiF rfl rfl
theorem aiG:pE.fn 267=some Uu:=rfl
def awd:=@yT _ _ aiG rfl rfl
theorem aiH:pE.fn 271=some Uv:=rfl
def awe:=@yT _ _ aiH rfl rfl
end Go.Proofs.YtcpceiclnbmgiaaGreat
