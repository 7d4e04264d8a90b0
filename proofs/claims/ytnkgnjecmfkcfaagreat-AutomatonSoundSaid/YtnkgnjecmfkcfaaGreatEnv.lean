/- The functions that the statement reaches, as one table. Conditions: none. -/
import Derived.Test.YtnkgnjecmfkcfaaGreatCoA
import Derived.Test.YtnkgnjecmfkcfaaGreatCoB
import Derived.Test.YtnkgnjecmfkcfaaGreatCoC
import Derived.Test.YtnkgnjecmfkcfaaGreatCX
set_option linter.all false
namespace Go.Proofs.YtnkgnjecmfkcfaaGreat
open Go Go.Ev
def pET:ER:=(.nd (.nd (.nd (.nd (.nd (.nd (.nd (.nd (.nd .nil 6 c6 .nil) 7 c7 .nil) 8 c8 (.nd .nil 9 c9 .nil)) 10 uF (.nd (.nd .nil 14 c14 .nil) 16 c16 (.nd .nil 21 c21 .nil))) 22 c22 (.nd (.nd (.nd .nil 23 c23 .nil) 24 c24 (.nd .nil 25 c25 .nil)) 26 c26 (.nd (.nd .nil 27 c27 .nil) 28 c28 (.nd .nil 29 c29 .nil)))) 30 c30 (.nd (.nd (.nd (.nd (.nd .nil 31 c31 .nil) 32 c32 .nil) 33 c33 (.nd .nil 34 c34 .nil)) 35 Bg (.nd (.nd .nil 36 c36 .nil) 37 O3 (.nd .nil 38 c38 .nil))) 39 c39 (.nd (.nd (.nd .nil 43 c43 .nil) 45 c45 (.nd .nil 46 c46 .nil)) 47 c47 (.nd (.nd .nil 48 c48 .nil) 49 c49 (.nd .nil 52 c52 .nil))))) 54 c54 (.nd (.nd (.nd (.nd (.nd (.nd .nil 55 c55 .nil) 56 c56 .nil) 57 c57 (.nd .nil 61 c61 .nil)) 62 c62 (.nd (.nd .nil 63 c63 .nil) 64 c64 (.nd .nil 65 c65 .nil))) 66 c66 (.nd (.nd (.nd .nil 67 c67 .nil) 68 c68 (.nd .nil 69 c69 .nil)) 70 c70 (.nd (.nd .nil 71 c71 .nil) 72 c72 (.nd .nil 73 Jo .nil)))) 74 c74 (.nd (.nd (.nd (.nd .nil 75 c75 .nil) 77 c77 (.nd .nil 78 c78 .nil)) 79 c79 (.nd (.nd .nil 80 c80 .nil) 81 c81 (.nd .nil 82 c82 .nil))) 83 Et (.nd (.nd (.nd .nil 84 c84 .nil) 85 c85 (.nd .nil 86 c86 .nil)) 87 c87 (.nd (.nd .nil 88 c88 .nil) 89 c89 (.nd .nil 90 c90 .nil)))))) 92 c92 (.nd (.nd (.nd (.nd (.nd (.nd (.nd .nil 93 c93 .nil) 96 c96 .nil) 97 c97 (.nd .nil 98 c98 .nil)) 99 c99 (.nd (.nd .nil 100 Vx .nil) 101 asZ (.nd .nil 102 amz .nil))) 103 qv (.nd (.nd (.nd .nil 104 Mz .nil) 105 RF (.nd .nil 106 RG .nil)) 107 qO (.nd (.nd .nil 112 RI .nil) 113 Vy (.nd .nil 114 Vz .nil)))) 115 VA (.nd (.nd (.nd (.nd (.nd .nil 116 amA .nil) 117 Gh .nil) 118 MA (.nd .nil 119 VB .nil)) 120 VC (.nd (.nd .nil 121 VD .nil) 122 MB (.nd .nil 123 VE .nil))) 124 VF (.nd (.nd (.nd .nil 125 VG .nil) 126 RK (.nd .nil 127 RN .nil)) 128 VH (.nd (.nd .nil 129 VI .nil) 130 VJ (.nd .nil 131 VK .nil))))) 132 MC (.nd (.nd (.nd (.nd (.nd (.nd .nil 133 MD .nil) 134 RQ .nil) 138 VL (.nd .nil 139 VM .nil)) 140 VN (.nd (.nd .nil 141 VO .nil) 142 VP (.nd .nil 143 RR .nil))) 144 atA (.nd (.nd (.nd .nil 145 VQ .nil) 146 VR (.nd .nil 147 RS .nil)) 148 JA (.nd (.nd .nil 149 uT .nil) 150 amB (.nd .nil 151 amC .nil)))) 152 VS (.nd (.nd (.nd (.nd .nil 153 VT .nil) 154 ME (.nd .nil 155 VU .nil)) 156 amD (.nd (.nd .nil 157 atQ .nil) 158 atU (.nd .nil 159 atY .nil))) 160 at0 (.nd (.nd (.nd .nil 161 RU .nil) 162 VV (.nd .nil 163 RW .nil)) 164 VW (.nd (.nd .nil 165 RY .nil) 166 VY (.nd .nil 167 VZ .nil))))))) 168 R5 (.nd (.nd (.nd (.nd (.nd (.nd (.nd (.nd .nil 169 R6 .nil) 170 V0 .nil) 171 V3 (.nd .nil 172 V4 .nil)) 173 Gi (.nd (.nd .nil 174 V5 .nil) 175 amE (.nd .nil 176 auj .nil))) 177 aul (.nd (.nd (.nd .nil 178 V6 .nil) 179 MF (.nd .nil 180 Gj .nil)) 181 MG (.nd (.nd .nil 182 R7 .nil) 183 V7 (.nd .nil 189 aut .nil)))) 190 auv (.nd (.nd (.nd (.nd (.nd .nil 191 auy .nil) 192 V8 .nil) 193 auB (.nd .nil 194 V9 .nil)) 195 R8 (.nd (.nd .nil 196 amF .nil) 197 JB (.nd .nil 198 Wa .nil))) 199 Wb (.nd (.nd (.nd .nil 200 Wc .nil) 201 Wd (.nd .nil 202 MH .nil)) 203 We (.nd (.nd .nil 204 Wf .nil) 205 Wg (.nd .nil 206 Wh .nil))))) 207 Sa (.nd (.nd (.nd (.nd (.nd (.nd .nil 208 Wi .nil) 209 Wj .nil) 210 Sc (.nd .nil 211 Wk .nil)) 212 Wl (.nd (.nd .nil 213 Wm .nil) 214 Wn (.nd .nil 215 amG .nil))) 216 Wo (.nd (.nd (.nd .nil 217 Sg .nil) 222 Wp (.nd .nil 223 Sh .nil)) 224 Wq (.nd (.nd .nil 225 Wr .nil) 226 Si (.nd .nil 227 sQ .nil)))) 228 MI (.nd (.nd (.nd (.nd .nil 229 Ws .nil) 230 amH (.nd .nil 231 Wt .nil)) 232 avb (.nd (.nd .nil 233 avd .nil) 234 Wu (.nd .nil 235 Wv .nil))) 236 Sj (.nd (.nd (.nd .nil 237 Ww .nil) 238 Wx (.nd .nil 239 Sk .nil)) 240 Wy (.nd (.nd .nil 241 avm .nil) 242 avo (.nd .nil 243 avq .nil)))))) 244 Sl (.nd (.nd (.nd (.nd (.nd (.nd (.nd .nil 247 avt .nil) 248 avv .nil) 249 avx (.nd .nil 250 avz .nil)) 251 avB (.nd (.nd .nil 252 avD .nil) 253 Wz (.nd .nil 254 WA .nil))) 255 WB (.nd (.nd (.nd .nil 256 WC .nil) 257 avJ (.nd .nil 258 avL .nil)) 259 WD (.nd (.nd .nil 260 Bx .nil) 263 WE (.nd .nil 264 WG .nil)))) 265 WH (.nd (.nd (.nd (.nd (.nd .nil 266 WI .nil) 267 Sn .nil) 268 avU (.nd .nil 269 avW .nil)) 270 avY (.nd (.nd .nil 271 So .nil) 272 WJ (.nd .nil 273 av2 .nil))) 274 av4 (.nd (.nd (.nd .nil 275 av6 .nil) 276 av8 (.nd .nil 281 awa .nil)) 282 awc (.nd (.nd .nil 283 awe .nil) 284 MJ (.nd .nil 285 WK .nil))))) 286 WL (.nd (.nd (.nd (.nd (.nd (.nd .nil 287 awj .nil) 288 awl .nil) 289 nZ (.nd .nil 291 awo .nil)) 292 awq (.nd (.nd .nil 293 aws .nil) 294 awu (.nd .nil 295 aww .nil))) 296 awy (.nd (.nd (.nd .nil 297 awA .nil) 298 awC (.nd .nil 299 awE .nil)) 300 awG (.nd (.nd .nil 301 awI .nil) 302 awK (.nd .nil 303 Sr .nil)))) 305 awN (.nd (.nd (.nd (.nd .nil 306 awP .nil) 307 awR (.nd .nil 308 Ss .nil)) 309 WM (.nd (.nd .nil 310 ye .nil) 311 DP (.nd .nil 312 awX .nil))) 313 awZ (.nd (.nd (.nd .nil 314 aw1 .nil) 315 aw3 (.nd .nil 317 aw5 .nil)) 318 aw7 (.nd (.nd .nil 323 aw9 .nil) 326 axb (.nd .nil 327 axd .nil))))))))
def amI:ER.All (Gk Tryz.prog) pET:=⟨⟨⟨⟨⟨⟨⟨⟨⟨trivial,kq6,trivial⟩,kq7,trivial⟩,kq8,⟨trivial,kq9,trivial⟩⟩,aED,⟨⟨trivial,aEE,trivial⟩,aEF,⟨trivial,aEG,trivial⟩⟩⟩,aEH,⟨⟨⟨trivial,aEI,trivial⟩,aEJ,⟨trivial,aEK,trivial⟩⟩,aEL,⟨⟨trivial,aEM,trivial⟩,aEN,⟨trivial,aEO,trivial⟩⟩⟩⟩,aEP,⟨⟨⟨⟨⟨trivial,aEQ,trivial⟩,aER,trivial⟩,aES,⟨trivial,aET,trivial⟩⟩,aEU,⟨⟨trivial,aEV,trivial⟩,aEW,⟨trivial,aEX,trivial⟩⟩⟩,aEY,⟨⟨⟨trivial,aEZ,trivial⟩,aE0,⟨trivial,aE1,trivial⟩⟩,aE2,⟨⟨trivial,aE3,trivial⟩,aE4,⟨trivial,aE5,trivial⟩⟩⟩⟩⟩,aE6,⟨⟨⟨⟨⟨⟨trivial,aE7,trivial⟩,aE9,trivial⟩,aFa,⟨trivial,aFb,trivial⟩⟩,aFc,⟨⟨trivial,aFd,trivial⟩,aFe,⟨trivial,aFf,trivial⟩⟩⟩,aFg,⟨⟨⟨trivial,aFh,trivial⟩,aFi,⟨trivial,aFj,trivial⟩⟩,aFk,⟨⟨trivial,aFl,trivial⟩,aFm,⟨trivial,aFn,trivial⟩⟩⟩⟩,aFo,⟨⟨⟨⟨trivial,aFp,trivial⟩,aFq,⟨trivial,aFr,trivial⟩⟩,aFt,⟨⟨trivial,aFu,trivial⟩,aFv,⟨trivial,aFw,trivial⟩⟩⟩,aFx,⟨⟨⟨trivial,aFy,trivial⟩,aFz,⟨trivial,aFA,trivial⟩⟩,aFB,⟨⟨trivial,aFC,trivial⟩,aFE,⟨trivial,aFG,trivial⟩⟩⟩⟩⟩⟩,aFH,⟨⟨⟨⟨⟨⟨⟨trivial,aFI,trivial⟩,aFJ,trivial⟩,aFK,⟨trivial,aFL,trivial⟩⟩,aFM,⟨⟨trivial,asY,trivial⟩,as0,⟨trivial,as1,trivial⟩⟩⟩,as2,⟨⟨⟨trivial,as3,trivial⟩,as4,⟨trivial,as5,trivial⟩⟩,as6,⟨⟨trivial,as7,trivial⟩,as8,⟨trivial,as9,trivial⟩⟩⟩⟩,ata,⟨⟨⟨⟨⟨trivial,atb,trivial⟩,atc,trivial⟩,atd,⟨trivial,ate,trivial⟩⟩,atf,⟨⟨trivial,atg,trivial⟩,ath,⟨trivial,ati,trivial⟩⟩⟩,atj,⟨⟨⟨trivial,atk,trivial⟩,atl,⟨trivial,atm,trivial⟩⟩,atn,⟨⟨trivial,ato,trivial⟩,atp,⟨trivial,atq,trivial⟩⟩⟩⟩⟩,atr,⟨⟨⟨⟨⟨⟨trivial,ats,trivial⟩,att,trivial⟩,atu,⟨trivial,atv,trivial⟩⟩,atw,⟨⟨trivial,atx,trivial⟩,aty,⟨trivial,atz,trivial⟩⟩⟩,atC,⟨⟨⟨trivial,atD,trivial⟩,atE,⟨trivial,atF,trivial⟩⟩,atG,⟨⟨trivial,atH,trivial⟩,atI,⟨trivial,atJ,trivial⟩⟩⟩⟩,atL,⟨⟨⟨⟨trivial,atM,trivial⟩,atN,⟨trivial,atO,trivial⟩⟩,atP,⟨⟨trivial,atS,trivial⟩,atX,⟨trivial,atZ,trivial⟩⟩⟩,at1,⟨⟨⟨trivial,at2,trivial⟩,at5,⟨trivial,at6,trivial⟩⟩,at7,⟨⟨trivial,at8,trivial⟩,at9,⟨trivial,aua,trivial⟩⟩⟩⟩⟩⟩⟩,aub,⟨⟨⟨⟨⟨⟨⟨⟨trivial,auc,trivial⟩,aud,trivial⟩,aue,⟨trivial,auf,trivial⟩⟩,aug,⟨⟨trivial,auh,trivial⟩,aui,⟨trivial,auk,trivial⟩⟩⟩,aum,⟨⟨⟨trivial,aun,trivial⟩,auo,⟨trivial,aup,trivial⟩⟩,auq,⟨⟨trivial,aur,trivial⟩,aus,⟨trivial,auu,trivial⟩⟩⟩⟩,auw,⟨⟨⟨⟨⟨trivial,auz,trivial⟩,auA,trivial⟩,auC,⟨trivial,auD,trivial⟩⟩,auE,⟨⟨trivial,auF,trivial⟩,auG,⟨trivial,auH,trivial⟩⟩⟩,auI,⟨⟨⟨trivial,auJ,trivial⟩,auK,⟨trivial,auL,trivial⟩⟩,auM,⟨⟨trivial,auN,trivial⟩,auO,⟨trivial,auP,trivial⟩⟩⟩⟩⟩,auQ,⟨⟨⟨⟨⟨⟨trivial,auR,trivial⟩,auS,trivial⟩,auT,⟨trivial,auU,trivial⟩⟩,auV,⟨⟨trivial,auW,trivial⟩,auX,⟨trivial,auY,trivial⟩⟩⟩,auZ,⟨⟨⟨trivial,au0,trivial⟩,au1,⟨trivial,au2,trivial⟩⟩,au3,⟨⟨trivial,au4,trivial⟩,au5,⟨trivial,au6,trivial⟩⟩⟩⟩,au7,⟨⟨⟨⟨trivial,au8,trivial⟩,au9,⟨trivial,ava,trivial⟩⟩,avc,⟨⟨trivial,ave,trivial⟩,avf,⟨trivial,avg,trivial⟩⟩⟩,avh,⟨⟨⟨trivial,avi,trivial⟩,avj,⟨trivial,avk,trivial⟩⟩,avl,⟨⟨trivial,avn,trivial⟩,avp,⟨trivial,avr,trivial⟩⟩⟩⟩⟩⟩,avs,⟨⟨⟨⟨⟨⟨⟨trivial,avu,trivial⟩,avw,trivial⟩,avy,⟨trivial,avA,trivial⟩⟩,avC,⟨⟨trivial,avE,trivial⟩,avF,⟨trivial,avG,trivial⟩⟩⟩,avH,⟨⟨⟨trivial,avI,trivial⟩,avK,⟨trivial,avM,trivial⟩⟩,avN,⟨⟨trivial,avO,trivial⟩,avP,⟨trivial,avQ,trivial⟩⟩⟩⟩,avR,⟨⟨⟨⟨⟨trivial,avS,trivial⟩,avT,trivial⟩,avV,⟨trivial,avX,trivial⟩⟩,avZ,⟨⟨trivial,av0,trivial⟩,av1,⟨trivial,av3,trivial⟩⟩⟩,av5,⟨⟨⟨trivial,av7,trivial⟩,av9,⟨trivial,awb,trivial⟩⟩,awd,⟨⟨trivial,awf,trivial⟩,awg,⟨trivial,awh,trivial⟩⟩⟩⟩⟩,awi,⟨⟨⟨⟨⟨⟨trivial,awk,trivial⟩,awm,trivial⟩,awn,⟨trivial,awp,trivial⟩⟩,awr,⟨⟨trivial,awt,trivial⟩,awv,⟨trivial,awx,trivial⟩⟩⟩,awz,⟨⟨⟨trivial,awB,trivial⟩,awD,⟨trivial,awF,trivial⟩⟩,awH,⟨⟨trivial,awJ,trivial⟩,awL,⟨trivial,awM,trivial⟩⟩⟩⟩,awO,⟨⟨⟨⟨trivial,awQ,trivial⟩,awS,⟨trivial,awT,trivial⟩⟩,awU,⟨⟨trivial,awV,trivial⟩,awW,⟨trivial,awY,trivial⟩⟩⟩,aw0,⟨⟨⟨trivial,aw2,trivial⟩,aw4,⟨trivial,aw6,trivial⟩⟩,aw8,⟨⟨trivial,axa,trivial⟩,axc,⟨trivial,axe,trivial⟩⟩⟩⟩⟩⟩⟩⟩
def pEx(f:Nat):Option (List T→Option T):=bif Nat.beq f 76 then some countE else bif Nat.beq f 316 then some idxE else none
def pEy(_:Nat):Option (List T→Option (List T×Option Nat)):=none
def pE:Env:=⟨pET.find,pEx,pEy⟩
def axf:qg Tryz.prog pE:=axg amI (fun f g h=>by
 unfold pEx at h
 cases hb:Nat.beq f 76 with
 |true=>rw[hb,cond_true]at h;cases h;rw[Nat.eq_of_beq_eq_true hb];exact Tryz.cntOk
 |false=>
  rw[hb,cond_false]at h
  cases hc:Nat.beq f 316 with
  |true=>rw[hc,cond_true]at h;cases h;rw[Nat.eq_of_beq_eq_true hc];exact Tryz.idxOk
  |false=>rw[hc,cond_false]at h;cases h) (fun f g h=>by
 cases h)
section
variable{f j:Nat}{c:ai}(e:pE.fn f=some c)
include e
def WQ(he:c.eff=true): ∀{z:Nat} {fr:Fr} {lh:aE ah} {sh:List ah} {args:List T},args.all kept=true→br pE (ae pE) z ⟨fr,lh,sh⟩ f args=(ae pE f args sh).bind fun r=>some (r.1,⟨fr,lh,r.2⟩):=fun h=>Su e he h
def yEd(he:c.eff=true): ∀{n:Nat} {fr:Fr} {lh:aE ah} {sh:List ah} {u:List Nat} {d:Option Nat} {opl:List aV} {ds:List (List Nat×aG)} {bu:List FP},(opl.map (rd fr)).all kept=true→aK pE (ae pE) n ((u,⟨d,.callf f opl,none⟩)::ds) bu ⟨fr,lh,sh⟩=if meets u bu zj=true then ke pE (ae pE) n ds (bu++ [zj]) (aj pE (ae pE) n [⟨d,.callf f opl,none⟩] ⟨fr,lh,sh⟩)else none:=fun h=>ad9 e he h
def yE(he:c.eff=true): ∀{z:Nat} {fr:Fr} {lh:aE ah} {sh:List ah} {args:List T},br pE (ae pE) z ⟨fr,lh,sh⟩ f args=(Aa lh sh true args).bind fun q=>(ae pE f q.1 ((St.mk fr lh sh).ups q.2).sh).bind fun r=>some (r.1,{(St.mk fr lh sh).ups q.2 with sh:=r.2}):=WR e he
def yT(he:c.eff=false)(ho:c.own=none): ∀{z:Nat} {fr:Fr} {lh:aE ah} {sh:List ah} {args:List T},args.all froz=true→br pE (ae pE) z ⟨fr,lh,sh⟩ f args=(ae pE f args []).bind fun r=>some (r.1,⟨fr,lh,sh⟩):=fun h=>JC e he ho h
def yP(he:c.eff=false)(ho:c.own=none): ∀{z:Nat} {fr:Fr} {lh:aE ah} {sh:List ah} {args:List T},br pE (ae pE) z ⟨fr,lh,sh⟩ f args=(Aa lh sh false args).bind fun q=>(ae pE f q.1 []).bind fun r=>some (r.1,if scalar r.1=true then⟨fr,lh,sh⟩else(St.mk fr lh sh).ups q.2):=JD e he ho
def yd(he:c.eff=false)(ho:c.own=none): ∀{n:Nat} {fr:Fr} {lh:aE ah} {sh:List ah} {u:List Nat} {d:Option Nat} {opl:List aV} {ds:List (List Nat×aG)} {bu:List FP},(opl.map (rd fr)).all froz=true→aK pE (ae pE) n ((u,⟨d,.callf f opl,none⟩)::ds) bu ⟨fr,lh,sh⟩=ke pE (ae pE) n ds (bu++ [fW]) (aj pE (ae pE) n [⟨d,.callf f opl,none⟩] ⟨fr,lh,sh⟩):=fun h=>amL e he ho h
end
theorem fn6:pE.fn 6=some c6:=rfl
theorem fn7:pE.fn 7=some c7:=rfl
def dc7:=@yT _ _ fn7 rfl rfl
theorem fn8:pE.fn 8=some c8:=rfl
def dc8:=@yT _ _ fn8 rfl rfl
def fn9:pE.fn 9=some c9:=rfl
def dc9:=@yT _ _ fn9 rfl rfl
theorem axh:pE.fn 10=some uF:=rfl
def axi:=@yT _ _ axh rfl rfl
theorem aea:pE.fn 14=some c14:=rfl
def axj:=@yT _ _ aea rfl rfl
def aFS:=@yP _ _ aea rfl rfl
theorem axk:pE.fn 16=some c16:=rfl
def axl:=@yT _ _ axk rfl rfl
theorem amM:pE.fn 21=some c21:=rfl
def axm:=@yT _ _ amM rfl rfl
def axn:=@yd _ _ amM rfl rfl
theorem axo:pE.fn 22=some c22:=rfl
def aFT:=@yT _ _ axo rfl rfl
theorem amN:pE.fn 23=some c23:=rfl
def oa:=@yT _ _ amN rfl rfl
def aFU:=@yd _ _ amN rfl rfl
theorem axp:pE.fn 24=some c24:=rfl
def aFV:=@yP _ _ axp rfl rfl
theorem amO:pE.fn 25=some c25:=rfl
def aFW:=@yP _ _ amO rfl rfl
theorem amP:pE.fn 26=some c26:=rfl
def aFX:=@yT _ _ amP rfl rfl
def aFY:=@yd _ _ amP rfl rfl
theorem amQ:pE.fn 27=some c27:=rfl
def aFZ:=@yP _ _ amQ rfl rfl
theorem axq:pE.fn 28=some c28:=rfl
def WS:=@yT _ _ axq rfl rfl
theorem axr:pE.fn 29=some c29:=rfl
def MK:=@yT _ _ axr rfl rfl
theorem Sv:pE.fn 30=some c30:=rfl
def amR:=@WQ _ _ Sv rfl
def amS:=@yEd _ _ Sv rfl
def aF0:=@yE _ _ Sv rfl
theorem amT:pE.fn 31=some c31:=rfl
def aeb:=@yT _ _ amT rfl rfl
def amU:=@yd _ _ amT rfl rfl
theorem axs:pE.fn 32=some c32:=rfl
def aF1:=@yT _ _ axs rfl rfl
theorem axt:pE.fn 33=some c33:=rfl
def aF2:=@yT _ _ axt rfl rfl
theorem axu:pE.fn 35=some Bg:=rfl
def amV:=@yT _ _ axu rfl rfl
theorem axv:pE.fn 36=some c36:=rfl
def axw:=@yT _ _ axv rfl rfl
theorem axx:pE.fn 37=some O3:=rfl
def aF3:=@yT _ _ axx rfl rfl
theorem axy:pE.fn 38=some c38:=rfl
def aF4:=@yT _ _ axy rfl rfl
theorem axz:pE.fn 39=some c39:=rfl
def aF5:=@yT _ _ axz rfl rfl
theorem axA:pE.fn 43=some c43:=rfl
def axB:=@yT _ _ axA rfl rfl
theorem axC:pE.fn 45=some c45:=rfl
def amW:=@yT _ _ axC rfl rfl
theorem axD:pE.fn 46=some c46:=rfl
def aF6:=@yT _ _ axD rfl rfl
theorem axE:pE.fn 47=some c47:=rfl
def axF:=@yT _ _ axE rfl rfl
theorem amX:pE.fn 48=some c48:=rfl
def axG:=@yT _ _ amX rfl rfl
def aF7:=@yd _ _ amX rfl rfl
theorem amY:pE.fn 49=some c49:=rfl
def aF8:=@yT _ _ amY rfl rfl
def aF9:=@yd _ _ amY rfl rfl
theorem axH:pE.fn 52=some c52:=rfl
def Sw:=@yT _ _ axH rfl rfl
theorem amZ:pE.fn 54=some c54:=rfl
def aGa:=@yT _ _ amZ rfl rfl
def aGb:=@yd _ _ amZ rfl rfl
theorem axI:pE.fn 55=some c55:=rfl
def ML:=@yT _ _ axI rfl rfl
def axJ:pE.fn 56=some c56:=rfl
def am0:=@yT _ _ axJ rfl rfl
def aGc:=@yd _ _ axJ rfl rfl
theorem am1:pE.fn 57=some c57:=rfl
def WT:=@yT _ _ am1 rfl rfl
def axK:=@yd _ _ am1 rfl rfl
theorem am2:pE.fn 61=some c61:=rfl
def aec:=@yT _ _ am2 rfl rfl
def aed:=@yd _ _ am2 rfl rfl
theorem am3:pE.fn 62=some c62:=rfl
def aGd:=@yT _ _ am3 rfl rfl
def aGe:=@yP _ _ am3 rfl rfl
theorem am4:pE.fn 63=some c63:=rfl
def JE:=@yT _ _ am4 rfl rfl
def JF:=@yd _ _ am4 rfl rfl
theorem axL:pE.fn 64=some c64:=rfl
def aGf:=@yT _ _ axL rfl rfl
theorem axM:pE.fn 65=some c65:=rfl
def aGg:=@yT _ _ axM rfl rfl
theorem Sx:pE.fn 66=some c66:=rfl
def am5:=@yP _ _ Sx rfl rfl
theorem aee:pE.fn 67=some c67:=rfl
def am6:=@yP _ _ aee rfl rfl
theorem am7:pE.fn 68=some c68:=rfl
def am8:=@yT _ _ am7 rfl rfl
def aGh:=@yd _ _ am7 rfl rfl
theorem axN:pE.fn 69=some c69:=rfl
def axO:=@yT _ _ axN rfl rfl
theorem axP:pE.fn 70=some c70:=rfl
def aGi:=@yT _ _ axP rfl rfl
theorem axQ:pE.fn 71=some c71:=rfl
def axR:=@yT _ _ axQ rfl rfl
theorem am9:pE.fn 72=some c72:=rfl
def axS:=@WQ _ _ am9 rfl
def aGj:=@yEd _ _ am9 rfl
theorem ana:pE.fn 73=some Jo:=rfl
def mH:=@WQ _ _ ana rfl
def nH:=@yEd _ _ ana rfl
theorem anb:pE.fn 74=some c74:=rfl
def axT:=@yT _ _ anb rfl rfl
def axU:=@yP _ _ anb rfl rfl
theorem anc:pE.fn 75=some c75:=rfl
def aGk:=@yT _ _ anc rfl rfl
def aGl:=@yd _ _ anc rfl rfl
theorem ane:pE.fn 77=some c77:=rfl
def Gl:=@yT _ _ ane rfl rfl
def anf:=@yd _ _ ane rfl rfl
theorem axV:pE.fn 78=some c78:=rfl
def Sy:=@yT _ _ axV rfl rfl
def aGm:pE.fn 79=some c79:=rfl
def aef:=@yT _ _ aGm rfl rfl
theorem ang:pE.fn 80=some c80:=rfl
def aGn:=@WQ _ _ ang rfl
def aGo:=@yEd _ _ ang rfl
theorem anh:pE.fn 81=some c81:=rfl
def aGp:=@yT _ _ anh rfl rfl
def axW:=@yP _ _ anh rfl rfl
theorem axX:pE.fn 82=some c82:=rfl
def axY:=@yT _ _ axX rfl rfl
theorem aeg:pE.fn 83=some Et:=rfl
def By:=@yT _ _ aeg rfl rfl
def aGq:=@yP _ _ aeg rfl rfl
def axZ:=@yd _ _ aeg rfl rfl
theorem ax0:pE.fn 84=some c84:=rfl
def aGr:=@yT _ _ ax0 rfl rfl
theorem ax1:pE.fn 85=some c85:=rfl
def aGs:=@yT _ _ ax1 rfl rfl
theorem ax2:pE.fn 86=some c86:=rfl
def aGt:=@yT _ _ ax2 rfl rfl
theorem ax3:pE.fn 87=some c87:=rfl
def Sz:=@yT _ _ ax3 rfl rfl
theorem ani:pE.fn 88=some c88:=rfl
def aGu:=@yT _ _ ani rfl rfl
def ax4:pE.fn 89=some c89:=rfl
def ax5:=@yT _ _ ax4 rfl rfl
def ax6:=@yd _ _ ax4 rfl rfl
def ax7:pE.fn 90=some c90:=rfl
def ax8:=@yT _ _ ax7 rfl rfl
def ax9:=@yd _ _ ax7 rfl rfl
theorem aya:pE.fn 92=some c92:=rfl
def aGv:=@yT _ _ aya rfl rfl
theorem anj:pE.fn 93=some c93:=rfl
def aGw:=@yT _ _ anj rfl rfl
theorem ayb:pE.fn 96=some c96:=rfl
def WU:=@yT _ _ ayb rfl rfl
theorem ank:pE.fn 97=some c97:=rfl
def ayc:=@yT _ _ ank rfl rfl
def ayd:=@yd _ _ ank rfl rfl
theorem aye:pE.fn 98=some c98:=rfl
def ayf:=@yT _ _ aye rfl rfl
theorem anl:pE.fn 99=some c99:=rfl
def WV:=@yT _ _ anl rfl rfl
def ayg:=@yd _ _ anl rfl rfl
theorem WW:pE.fn 100=some Vx:=rfl
def aiL:=@yT _ _ WW rfl rfl
def aiM:=@yd _ _ WW rfl rfl
def aiN:pE.fn 102=some amz:=rfl
def aiO:=@yT _ _ aiN rfl rfl
def ayh:=@yd _ _ aiN rfl rfl
theorem Bz:pE.fn 103=some qv:=rfl
def ES:=@yT _ _ Bz rfl rfl
theorem aiP:pE.fn 104=some Mz:=rfl
def ayi:=@yT _ _ aiP rfl rfl
theorem aiQ:pE.fn 105=some RF:=rfl
def aiR:=@yT _ _ aiQ rfl rfl
theorem aiS:pE.fn 106=some RG:=rfl
def ayj:=@yT _ _ aiS rfl rfl
theorem WX:pE.fn 107=some qO:=rfl
def aiT:=@yP _ _ WX rfl rfl
theorem WY:pE.fn 112=some RI:=rfl
def aiU:=@yT _ _ WY rfl rfl
def aiV:=@yd _ _ WY rfl rfl
theorem aiW:pE.fn 113=some Vy:=rfl
def ayk:=@yT _ _ aiW rfl rfl
theorem aiX:pE.fn 114=some Vz:=rfl
def ayl:=@yT _ _ aiX rfl rfl
theorem aiY:pE.fn 115=some VA:=rfl
def aym:=@yT _ _ aiY rfl rfl
def ayn:pE.fn 116=some amA:=rfl
def ayo:=@yT _ _ ayn rfl rfl
theorem O5:pE.fn 117=some Gh:=rfl
def ayp:=@yE _ _ O5 rfl
theorem O6:pE.fn 118=some MA:=rfl
def aiZ:=@yT _ _ O6 rfl rfl
def ayq:=@yP _ _ O6 rfl rfl
theorem ai0:pE.fn 119=some VB:=rfl
def ayr:=@yT _ _ ai0 rfl rfl
theorem ai2:pE.fn 120=some VC:=rfl
def ays:=@yT _ _ ai2 rfl rfl
theorem ai3:pE.fn 121=some VD:=rfl
def ayt:=@yT _ _ ai3 rfl rfl
theorem WZ:pE.fn 122=some MB:=rfl
def W0:=@yT _ _ WZ rfl rfl
theorem W1:pE.fn 123=some VE:=rfl
def ai4:=@yT _ _ W1 rfl rfl
def ayu:=@yd _ _ W1 rfl rfl
theorem ai5:pE.fn 124=some VF:=rfl
def ayv:=@yT _ _ ai5 rfl rfl
theorem ai6:pE.fn 125=some VG:=rfl
def ayw:=@yT _ _ ai6 rfl rfl
theorem ai7:pE.fn 126=some RK:=rfl
def O7:=@yT _ _ ai7 rfl rfl
theorem ai8:pE.fn 127=some RN:=rfl
def ai9:=@yT _ _ ai8 rfl rfl
theorem aja:pE.fn 128=some VH:=rfl
def ajb:=@yP _ _ aja rfl rfl
theorem W2:pE.fn 129=some VI:=rfl
def ayx:=@yT _ _ W2 rfl rfl
def ayy:=@yd _ _ W2 rfl rfl
theorem ajc:pE.fn 130=some VJ:=rfl
def ayz:=@yT _ _ ajc rfl rfl
theorem W3:pE.fn 131=some VK:=rfl
def ajd:=@WQ _ _ W3 rfl
def ayA:=@yEd _ _ W3 rfl
theorem aje:pE.fn 132=some MC:=rfl
def ajf:=@WQ _ _ aje rfl
theorem ajg:pE.fn 133=some MD:=rfl
def W4:=@WQ _ _ ajg rfl
theorem ajh:pE.fn 134=some RQ:=rfl
def O8:=@WQ _ _ ajh rfl
theorem aji:pE.fn 138=some VL:=rfl
def ajj:=@yT _ _ aji rfl rfl
theorem ajk:pE.fn 139=some VM:=rfl
def ajl:=@yT _ _ ajk rfl rfl
theorem W5:pE.fn 140=some VN:=rfl
def ajm:=@yT _ _ W5 rfl rfl
def ajn:=@yd _ _ W5 rfl rfl
theorem ajo:pE.fn 141=some VO:=rfl
def W6:=@yT _ _ ajo rfl rfl
theorem ajp:pE.fn 142=some VP:=rfl
def ajq:=@yT _ _ ajp rfl rfl
theorem ajr:pE.fn 143=some RR:=rfl
def ayB:=@yT _ _ ajr rfl rfl
theorem ajs:pE.fn 145=some VQ:=rfl
def JG:=@yT _ _ ajs rfl rfl
theorem W7:pE.fn 146=some VR:=rfl
def O9:=@yT _ _ W7 rfl rfl
def ayC:=@yd _ _ W7 rfl rfl
theorem W8:pE.fn 147=some RS:=rfl
def ayD:=@yT _ _ W8 rfl rfl
def ayE:=@yd _ _ W8 rfl rfl
theorem ajt:pE.fn 148=some JA:=rfl
def W9:=@yT _ _ ajt rfl rfl
theorem Xa:pE.fn 149=some uT:=rfl
def ayF:=@yT _ _ Xa rfl rfl
def ayG:=@yd _ _ Xa rfl rfl
def ayH:pE.fn 150=some amB:=rfl
def ayI:=@yT _ _ ayH rfl rfl
def ayJ:pE.fn 151=some amC:=rfl
def ayK:=@yT _ _ ayJ rfl rfl
theorem Xb:pE.fn 152=some VS:=rfl
def Xc:=@yT _ _ Xb rfl rfl
def Xd:=@yd _ _ Xb rfl rfl
theorem aju:pE.fn 153=some VT:=rfl
def Pb:=@yT _ _ aju rfl rfl
theorem ajv:pE.fn 154=some ME:=rfl
def ayL:=@yT _ _ ajv rfl rfl
theorem ajw:pE.fn 155=some VU:=rfl
def ayM:=@yT _ _ ajw rfl rfl
def ajx:pE.fn 156=some amD:=rfl
def ayN:=@yT _ _ ajx rfl rfl
def ayO:=@yd _ _ ajx rfl rfl
theorem ajy:pE.fn 161=some RU:=rfl
def Xe:=@yT _ _ ajy rfl rfl
theorem Xf:pE.fn 162=some VV:=rfl
def Xg:=@yT _ _ Xf rfl rfl
def ajz:=@yd _ _ Xf rfl rfl
theorem ajA:pE.fn 163=some RW:=rfl
def ayP:=@yT _ _ ajA rfl rfl
theorem Xh:pE.fn 164=some VW:=rfl
def Pc:=@yT _ _ Xh rfl rfl
def ayQ:=@yd _ _ Xh rfl rfl
theorem ajB:pE.fn 165=some RY:=rfl
def ayR:=@yT _ _ ajB rfl rfl
theorem ajC:pE.fn 166=some VY:=rfl
def ayS:=@yT _ _ ajC rfl rfl
theorem Xi:pE.fn 167=some VZ:=rfl
def Xj:=@yT _ _ Xi rfl rfl
def Xk:=@yd _ _ Xi rfl rfl
theorem ajD:pE.fn 168=some R5:=rfl
def Xl:=@yT _ _ ajD rfl rfl
theorem ajE:pE.fn 169=some R6:=rfl
def ajF:=@yT _ _ ajE rfl rfl
theorem ajG:pE.fn 170=some V0:=rfl
def ayT:=@yT _ _ ajG rfl rfl
theorem ajH:pE.fn 171=some V3:=rfl
def ayU:=@yT _ _ ajH rfl rfl
theorem ajI:pE.fn 172=some V4:=rfl
def Pd:=@yT _ _ ajI rfl rfl
theorem Xm:pE.fn 173=some Gi:=rfl
def Xn:=@yT _ _ Xm rfl rfl
theorem ajJ:pE.fn 174=some V5:=rfl
def ayV:=@yT _ _ ajJ rfl rfl
def ayW:pE.fn 175=some amE:=rfl
def Pe:=@yT _ _ ayW rfl rfl
theorem Xo:pE.fn 178=some V6:=rfl
def Pf:=@yT _ _ Xo rfl rfl
def Xp:=@yd _ _ Xo rfl rfl
theorem Xq:pE.fn 179=some MF:=rfl
def BA:=@yT _ _ Xq rfl rfl
theorem Xr:pE.fn 180=some Gj:=rfl
def ajK:=@yT _ _ Xr rfl rfl
def ayX:=@yd _ _ Xr rfl rfl
theorem Xs:pE.fn 181=some MG:=rfl
def ayY:=@yT _ _ Xs rfl rfl
def ayZ:=@yd _ _ Xs rfl rfl
theorem Xt:pE.fn 182=some R7:=rfl
def ay0:=@yT _ _ Xt rfl rfl
def ay1:=@yd _ _ Xt rfl rfl
theorem Xu:pE.fn 183=some V7:=rfl
def ay2:=@yT _ _ Xu rfl rfl
def ay3:=@yd _ _ Xu rfl rfl
theorem ajL:pE.fn 192=some V8:=rfl
def Pg:=@yT _ _ ajL rfl rfl
theorem ajM:pE.fn 194=some V9:=rfl
def ajN:=@yT _ _ ajM rfl rfl
theorem ajO:pE.fn 195=some R8:=rfl
def vi:=@yT _ _ ajO rfl rfl
def ay4:pE.fn 196=some amF:=rfl
def vq:=@yT _ _ ay4 rfl rfl
theorem Xv:pE.fn 197=some JB:=rfl
def vt:=@yT _ _ Xv rfl rfl
def ET:=@yd _ _ Xv rfl rfl
theorem ajP:pE.fn 198=some Wa:=rfl
def ay5:=@yT _ _ ajP rfl rfl
theorem ajQ:pE.fn 199=some Wb:=rfl
def EU:=@yT _ _ ajQ rfl rfl
theorem ajR:pE.fn 200=some Wc:=rfl
def JH:=@yT _ _ ajR rfl rfl
theorem ajS:pE.fn 201=some Wd:=rfl
def ay6:=@yT _ _ ajS rfl rfl
theorem Xw:pE.fn 202=some MH:=rfl
def Ph:=@yT _ _ Xw rfl rfl
theorem ajT:pE.fn 203=some We:=rfl
def ay7:=@yT _ _ ajT rfl rfl
theorem Xx:pE.fn 204=some Wf:=rfl
def ajU:=@yT _ _ Xx rfl rfl
def ajV:=@yd _ _ Xx rfl rfl
theorem Xy:pE.fn 205=some Wg:=rfl
def ajW:=@yT _ _ Xy rfl rfl
def ajX:=@yd _ _ Xy rfl rfl
theorem ajY:pE.fn 206=some Wh:=rfl
def ay8:=@yT _ _ ajY rfl rfl
theorem ajZ:pE.fn 207=some Sa:=rfl
def ay9:=@yT _ _ ajZ rfl rfl
theorem aj0:pE.fn 208=some Wi:=rfl
def Pj:=@yT _ _ aj0 rfl rfl
theorem aj1:pE.fn 209=some Wj:=rfl
def Xz:=@yT _ _ aj1 rfl rfl
theorem aj2:pE.fn 210=some Sc:=rfl
def aza:=@yT _ _ aj2 rfl rfl
theorem aj3:pE.fn 211=some Wk:=rfl
def Pk:=@yT _ _ aj3 rfl rfl
theorem aj4:pE.fn 212=some Wl:=rfl
def azb:=@yT _ _ aj4 rfl rfl
theorem aj5:pE.fn 213=some Wm:=rfl
def azc:=@yT _ _ aj5 rfl rfl
theorem aj6:pE.fn 214=some Wn:=rfl
def XA:=@yT _ _ aj6 rfl rfl
def aj7:pE.fn 215=some amG:=rfl
def aj8:=@yT _ _ aj7 rfl rfl
def azd:=@yd _ _ aj7 rfl rfl
theorem aj9:pE.fn 216=some Wo:=rfl
def aze:=@yT _ _ aj9 rfl rfl
theorem XD:pE.fn 217=some Sg:=rfl
def EV:=@WQ _ _ XD rfl
def azf:=@yEd _ _ XD rfl
theorem aka:pE.fn 222=some Wp:=rfl
def azg:=@yT _ _ aka rfl rfl
theorem akb:pE.fn 223=some Sh:=rfl
def azh:=@yT _ _ akb rfl rfl
theorem akc:pE.fn 224=some Wq:=rfl
def azi:=@yT _ _ akc rfl rfl
theorem akd:pE.fn 225=some Wr:=rfl
def azj:=@yT _ _ akd rfl rfl
theorem ake:pE.fn 226=some Si:=rfl
def akf:=@yT _ _ ake rfl rfl
theorem akg:pE.fn 227=some sQ:=rfl
def akh:=@yT _ _ akg rfl rfl
theorem aki:pE.fn 228=some MI:=rfl
def azk:=@yT _ _ aki rfl rfl
theorem XE:pE.fn 229=some Ws:=rfl
def azl:=@yT _ _ XE rfl rfl
def azm:=@yd _ _ XE rfl rfl
def akj:pE.fn 230=some amH:=rfl
def azn:=@WQ _ _ akj rfl
def azo:=@yEd _ _ akj rfl
theorem akk:pE.fn 231=some Wt:=rfl
def XF:=@yT _ _ akk rfl rfl
theorem akl:pE.fn 234=some Wu:=rfl
def Pl:=@yT _ _ akl rfl rfl
theorem akm:pE.fn 235=some Wv:=rfl
def XG:=@yT _ _ akm rfl rfl
theorem akn:pE.fn 236=some Sj:=rfl
def ako:=@yT _ _ akn rfl rfl
theorem akp:pE.fn 237=some Ww:=rfl
def akq:=@yT _ _ akp rfl rfl
theorem akr:pE.fn 238=some Wx:=rfl
def azp:=@yT _ _ akr rfl rfl
theorem aks:pE.fn 239=some Sk:=rfl
def azq:=@yT _ _ aks rfl rfl
theorem akt:pE.fn 240=some Wy:=rfl
def azr:=@yT _ _ akt rfl rfl
theorem aku:pE.fn 244=some Sl:=rfl
def akv:=@yT _ _ aku rfl rfl
theorem akw:pE.fn 253=some Wz:=rfl
def azs:=@yT _ _ akw rfl rfl
theorem akx:pE.fn 254=some WA:=rfl
def aky:=@yT _ _ akx rfl rfl
theorem akz:pE.fn 255=some WB:=rfl
def azt:=@yT _ _ akz rfl rfl
theorem akA:pE.fn 256=some WC:=rfl
def zk:=@yT _ _ akA rfl rfl
theorem akB:pE.fn 259=some WD:=rfl
def azu:=@yT _ _ akB rfl rfl
theorem akC:pE.fn 260=some Bx:=rfl
def XH:=@WQ _ _ akC rfl
theorem akD:pE.fn 263=some WE:=rfl
def azv:=@yT _ _ akD rfl rfl
theorem akE:pE.fn 264=some WG:=rfl
def azw:=@yT _ _ akE rfl rfl
theorem akF:pE.fn 265=some WH:=rfl
def azx:=@yT _ _ akF rfl rfl
theorem akG:pE.fn 266=some WI:=rfl
def qh:=@yT _ _ akG rfl rfl
theorem akH:pE.fn 267=some Sn:=rfl
def qk:=@yT _ _ akH rfl rfl
theorem akI:pE.fn 271=some So:=rfl
def azy:=@yT _ _ akI rfl rfl
theorem akJ:pE.fn 272=some WJ:=rfl
def azz:=@yT _ _ akJ rfl rfl
theorem akK:pE.fn 284=some MJ:=rfl
def azA:=@yT _ _ akK rfl rfl
theorem akL:pE.fn 285=some WK:=rfl
def azB:=@yT _ _ akL rfl rfl
theorem akM:pE.fn 286=some WL:=rfl
def azC:=@yT _ _ akM rfl rfl
theorem akN:pE.fn 289=some nZ:=rfl
def akO:=@yP _ _ akN rfl rfl
theorem akP:pE.fn 303=some Sr:=rfl
def akQ:=@yT _ _ akP rfl rfl
theorem XI:pE.fn 308=some Ss:=rfl
def Pm:=@yT _ _ XI rfl rfl
def akR:=@yd _ _ XI rfl rfl
theorem akS:pE.fn 309=some WM:=rfl
def akT:=@yT _ _ akS rfl rfl
theorem XJ:pE.fn 310=some ye:=rfl
def akU:=@yT _ _ XJ rfl rfl
def akV:=@yd _ _ XJ rfl rfl
theorem Pn:pE.fn 311=some DP:=rfl
def azD:=@yT _ _ Pn rfl rfl
end Go.Proofs.YtnkgnjecmfkcfaaGreat
