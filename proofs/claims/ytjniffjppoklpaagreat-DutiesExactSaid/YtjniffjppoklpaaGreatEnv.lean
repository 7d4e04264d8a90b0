/- The functions that the statement reaches, as one table. Conditions: none. -/
import Derived.Test.YtjniffjppoklpaaGreatCoA
import Derived.Test.YtjniffjppoklpaaGreatCoB
import Derived.Test.YtjniffjppoklpaaGreatCoC
import Derived.Test.YtjniffjppoklpaaGreatExt
import Derived.Test.YtjniffjppoklpaaGreatEvG
set_option linter.unusedVariables false
namespace Go.Proofs.YtjniffjppoklpaaGreat
open Go Go.Ev
def pET:Hk:=(.nd (.nd (.nd (.nd (.nd (.nd (.nd (.nd .nil 3 c3 .nil) 4 c4 (.nd .nil 5 c5 .nil)) 6 c6 (.nd (.nd .nil 7 c7 .nil) 8 c8 .nil)) 9 c9 (.nd (.nd (.nd .nil 10 tE .nil) 11 vN .nil) 12 vZ (.nd (.nd .nil 13 c13 .nil) 14 c14 .nil))) 15 c15 (.nd (.nd (.nd (.nd .nil 16 c16 .nil) 17 c17 (.nd .nil 18 c18 .nil)) 19 c19 (.nd (.nd .nil 20 c20 .nil) 21 c21 .nil)) 22 c22 (.nd (.nd (.nd .nil 23 c23 .nil) 24 c24 .nil) 25 c25 (.nd (.nd .nil 26 c26 .nil) 27 c27 .nil)))) 28 c28 (.nd (.nd (.nd (.nd (.nd .nil 29 c29 .nil) 30 c30 (.nd .nil 31 c31 .nil)) 32 c32 (.nd (.nd .nil 33 K7 .nil) 34 c34 .nil)) 35 C5 (.nd (.nd (.nd .nil 36 c36 .nil) 37 NU .nil) 38 c38 (.nd (.nd .nil 39 c39 .nil) 40 c40 .nil))) 41 c41 (.nd (.nd (.nd (.nd .nil 42 c42 .nil) 43 c43 .nil) 44 c44 (.nd (.nd .nil 45 c45 .nil) 46 c46 .nil)) 47 c47 (.nd (.nd (.nd .nil 48 c48 .nil) 49 c49 .nil) 50 c50 (.nd (.nd .nil 51 c51 .nil) 52 c52 .nil))))) 53 c53 (.nd (.nd (.nd (.nd (.nd (.nd .nil 54 c54 .nil) 55 c55 (.nd .nil 56 c56 .nil)) 57 c57 (.nd (.nd .nil 58 c58 .nil) 59 c59 .nil)) 60 c60 (.nd (.nd (.nd .nil 61 c61 .nil) 62 c62 .nil) 63 c63 (.nd (.nd .nil 64 c64 .nil) 65 c65 .nil))) 66 c66 (.nd (.nd (.nd (.nd .nil 67 c67 .nil) 68 c68 (.nd .nil 69 c69 .nil)) 70 c70 (.nd (.nd .nil 71 c71 .nil) 72 c72 .nil)) 73 c73 (.nd (.nd (.nd .nil 74 c74 .nil) 75 c75 .nil) 76 c76 (.nd (.nd .nil 77 c77 .nil) 78 c78 .nil)))) 79 c79 (.nd (.nd (.nd (.nd (.nd .nil 80 c80 .nil) 81 c81 (.nd .nil 82 c82 .nil)) 83 c83 (.nd (.nd .nil 84 c84 .nil) 85 c85 .nil)) 86 c86 (.nd (.nd (.nd .nil 87 c87 .nil) 88 c88 .nil) 89 c89 (.nd (.nd .nil 90 c90 .nil) 91 c91 .nil))) 92 c92 (.nd (.nd (.nd (.nd .nil 93 c93 .nil) 94 c94 .nil) 95 Hb (.nd (.nd .nil 96 c96 .nil) 97 c97 .nil)) 98 c98 (.nd (.nd (.nd .nil 99 c99 .nil) 100 VJ .nil) 101 VK (.nd (.nd .nil 102 VL .nil) 103 Od .nil)))))) 104 VM (.nd (.nd (.nd (.nd (.nd (.nd (.nd .nil 105 wa .nil) 106 GA (.nd .nil 107 VN .nil)) 108 VO (.nd (.nd .nil 109 Sj .nil) 110 VP .nil)) 111 VQ (.nd (.nd (.nd .nil 112 Oe .nil) 113 VR .nil) 114 VS (.nd (.nd .nil 115 VT .nil) 116 VU .nil))) 117 Sk (.nd (.nd (.nd (.nd .nil 118 VV .nil) 119 VW (.nd .nil 120 VY .nil)) 121 Lt (.nd (.nd .nil 122 Sn .nil) 123 VZ .nil)) 124 V0 (.nd (.nd (.nd .nil 125 Ez .nil) 126 V1 .nil) 127 So (.nd (.nd .nil 128 Lu .nil) 129 zH .nil)))) 130 Sq (.nd (.nd (.nd (.nd (.nd .nil 131 Sr .nil) 132 V2 (.nd .nil 133 V3 .nil)) 134 Su (.nd (.nd .nil 135 V4 .nil) 136 V5 .nil)) 137 Sv (.nd (.nd (.nd .nil 138 Lv .nil) 139 Sw .nil) 140 V6 (.nd (.nd .nil 141 V7 .nil) 142 V8 .nil))) 143 V9 (.nd (.nd (.nd (.nd .nil 144 apX .nil) 145 Wa .nil) 146 Wb (.nd (.nd .nil 147 Wc .nil) 148 Wd .nil)) 149 C6 (.nd (.nd (.nd .nil 150 Sx .nil) 151 We .nil) 152 Wf (.nd (.nd .nil 153 Wg .nil) 154 Sy .nil))))) 155 Sz (.nd (.nd (.nd (.nd (.nd (.nd .nil 156 tH .nil) 157 xV (.nd .nil 158 Og .nil)) 159 SA (.nd (.nd .nil 160 Wh .nil) 161 SC .nil)) 162 aqg (.nd (.nd (.nd .nil 163 Wi .nil) 164 Wj .nil) 165 SD (.nd (.nd .nil 166 Wk .nil) 167 Wl .nil))) 168 SE (.nd (.nd (.nd (.nd .nil 169 Oh .nil) 170 SG (.nd .nil 171 Wm .nil)) 172 Oi (.nd (.nd .nil 173 wE .nil) 174 Oj .nil)) 175 SJ (.nd (.nd (.nd .nil 176 SK .nil) 177 Wn .nil) 178 BF (.nd (.nd .nil 179 GB .nil) 180 Wo .nil)))) 181 SL (.nd (.nd (.nd (.nd (.nd .nil 182 SM .nil) 183 Wp (.nd .nil 184 Wq .nil)) 185 Wr (.nd (.nd .nil 186 Ws .nil) 187 Wt .nil)) 188 Wu (.nd (.nd (.nd .nil 189 Wv .nil) 190 Ww .nil) 191 Ok (.nd (.nd .nil 192 ID .nil) 193 Ol .nil))) 194 SN (.nd (.nd (.nd (.nd .nil 195 Wx .nil) 196 Om .nil) 197 Wy (.nd (.nd .nil 198 Wz .nil) 199 IE .nil)) 200 WA (.nd (.nd (.nd .nil 201 SO .nil) 202 SP .nil) 204 WB (.nd (.nd .nil 205 WC .nil) 210 WD .nil)))))))
theorem ajw:Hk.All (IF Tryz.prog) pET:=⟨⟨⟨⟨⟨⟨⟨⟨trivial,kq3,trivial⟩,kq4,⟨trivial,kq5,trivial⟩⟩,kq6,⟨⟨trivial,kq7,trivial⟩,kq8,trivial⟩⟩,kq9,⟨⟨⟨trivial,ayx,trivial⟩,ayy,trivial⟩,ayz,⟨⟨trivial,ayA,trivial⟩,ayB,trivial⟩⟩⟩,ayC,⟨⟨⟨⟨trivial,ayD,trivial⟩,ayE,⟨trivial,ayF,trivial⟩⟩,ayG,⟨⟨trivial,ayH,trivial⟩,ayI,trivial⟩⟩,ayJ,⟨⟨⟨trivial,ayK,trivial⟩,ayL,trivial⟩,ayM,⟨⟨trivial,ayN,trivial⟩,ayO,trivial⟩⟩⟩⟩,ayP,⟨⟨⟨⟨⟨trivial,ayQ,trivial⟩,ayR,⟨trivial,ayS,trivial⟩⟩,ayT,⟨⟨trivial,ayU,trivial⟩,ayV,trivial⟩⟩,ayW,⟨⟨⟨trivial,ayX,trivial⟩,ayY,trivial⟩,ayZ,⟨⟨trivial,ay0,trivial⟩,ay1,trivial⟩⟩⟩,ay2,⟨⟨⟨⟨trivial,ay3,trivial⟩,ay4,trivial⟩,ay5,⟨⟨trivial,ay6,trivial⟩,ay7,trivial⟩⟩,ay8,⟨⟨⟨trivial,ay9,trivial⟩,aza,trivial⟩,azb,⟨⟨trivial,azc,trivial⟩,azd,trivial⟩⟩⟩⟩⟩,aze,⟨⟨⟨⟨⟨⟨trivial,azf,trivial⟩,azg,⟨trivial,azh,trivial⟩⟩,azj,⟨⟨trivial,azk,trivial⟩,azl,trivial⟩⟩,azm,⟨⟨⟨trivial,azn,trivial⟩,azo,trivial⟩,azp,⟨⟨trivial,azq,trivial⟩,azr,trivial⟩⟩⟩,azs,⟨⟨⟨⟨trivial,azt,trivial⟩,azu,⟨trivial,azv,trivial⟩⟩,azw,⟨⟨trivial,azx,trivial⟩,azy,trivial⟩⟩,azz,⟨⟨⟨trivial,azA,trivial⟩,azB,trivial⟩,azC,⟨⟨trivial,azD,trivial⟩,azE,trivial⟩⟩⟩⟩,azF,⟨⟨⟨⟨⟨trivial,azG,trivial⟩,azH,⟨trivial,azI,trivial⟩⟩,azJ,⟨⟨trivial,azK,trivial⟩,azL,trivial⟩⟩,azM,⟨⟨⟨trivial,azN,trivial⟩,azO,trivial⟩,azP,⟨⟨trivial,azQ,trivial⟩,azR,trivial⟩⟩⟩,azS,⟨⟨⟨⟨trivial,azT,trivial⟩,azU,trivial⟩,azV,⟨⟨trivial,azW,trivial⟩,azX,trivial⟩⟩,azY,⟨⟨⟨trivial,azZ,trivial⟩,apc,trivial⟩,apd,⟨⟨trivial,ape,trivial⟩,apf,trivial⟩⟩⟩⟩⟩⟩,apg,⟨⟨⟨⟨⟨⟨⟨trivial,aph,trivial⟩,api,⟨trivial,apj,trivial⟩⟩,apk,⟨⟨trivial,apl,trivial⟩,apm,trivial⟩⟩,apn,⟨⟨⟨trivial,apo,trivial⟩,apq,trivial⟩,apr,⟨⟨trivial,apt,trivial⟩,apu,trivial⟩⟩⟩,apv,⟨⟨⟨⟨trivial,apw,trivial⟩,apx,⟨trivial,apy,trivial⟩⟩,apz,⟨⟨trivial,apA,trivial⟩,apB,trivial⟩⟩,apC,⟨⟨⟨trivial,apD,trivial⟩,apE,trivial⟩,apF,⟨⟨trivial,apG,trivial⟩,apH,trivial⟩⟩⟩⟩,apI,⟨⟨⟨⟨⟨trivial,apJ,trivial⟩,apK,⟨trivial,apL,trivial⟩⟩,apM,⟨⟨trivial,apN,trivial⟩,apO,trivial⟩⟩,apP,⟨⟨⟨trivial,apQ,trivial⟩,apR,trivial⟩,apT,⟨⟨trivial,apU,trivial⟩,apV,trivial⟩⟩⟩,apW,⟨⟨⟨⟨trivial,apY,trivial⟩,apZ,trivial⟩,ap0,⟨⟨trivial,ap1,trivial⟩,ap2,trivial⟩⟩,ap3,⟨⟨⟨trivial,ap4,trivial⟩,ap5,trivial⟩,ap6,⟨⟨trivial,ap7,trivial⟩,ap8,trivial⟩⟩⟩⟩⟩,ap9,⟨⟨⟨⟨⟨⟨trivial,aqa,trivial⟩,aqb,⟨trivial,aqc,trivial⟩⟩,aqd,⟨⟨trivial,aqe,trivial⟩,aqf,trivial⟩⟩,aqh,⟨⟨⟨trivial,aqi,trivial⟩,aqj,trivial⟩,aqk,⟨⟨trivial,aql,trivial⟩,aqm,trivial⟩⟩⟩,aqn,⟨⟨⟨⟨trivial,aqo,trivial⟩,aqp,⟨trivial,aqq,trivial⟩⟩,aqr,⟨⟨trivial,aqs,trivial⟩,aqt,trivial⟩⟩,aqu,⟨⟨⟨trivial,aqv,trivial⟩,aqw,trivial⟩,aqx,⟨⟨trivial,aqy,trivial⟩,aqz,trivial⟩⟩⟩⟩,aqA,⟨⟨⟨⟨⟨trivial,aqB,trivial⟩,aqC,⟨trivial,aqD,trivial⟩⟩,aqE,⟨⟨trivial,aqF,trivial⟩,aqG,trivial⟩⟩,aqH,⟨⟨⟨trivial,aqI,trivial⟩,aqJ,trivial⟩,aqK,⟨⟨trivial,aqL,trivial⟩,aqM,trivial⟩⟩⟩,aqN,⟨⟨⟨⟨trivial,aqO,trivial⟩,aqP,trivial⟩,aqQ,⟨⟨trivial,aqR,trivial⟩,aqS,trivial⟩⟩,aqT,⟨⟨⟨trivial,aqU,trivial⟩,aqV,trivial⟩,aqW,⟨⟨trivial,aqX,trivial⟩,aqY,trivial⟩⟩⟩⟩⟩⟩⟩
def pEx(f:Nat):Option (List T→Option T):=bif Nat.beq f 203 then some idxE else none
def pEy(_:Nat):Option (List T→Option (List T×Option Nat)):=none
def pE:Env:=⟨pET.find,pEx,pEy⟩
theorem aqZ:vO Tryz.prog pE:=aq0 ajw (fun f g h=>by
 unfold pEx at h
 cases hc:Nat.beq f 203 with
 |true=>rw[hc,cond_true]at h;cases h;rw[Nat.eq_of_beq_eq_true hc];exact Tryz.idxOk
 |false=>rw[hc,cond_false]at h;cases h) (fun f g h=>by
 cases h)
section
variable{f j:Nat}{c:iC}(e:pE.fn f=some c)
include e
theorem U0(he:c.eff=true): ∀{z:Nat} {fr:Fr} {lh:iL iy} {sh:List iy} {args:List T},args.all kept=true→jy pE (be pE) z ⟨fr,lh,sh⟩ f args=(be pE f args sh).bind fun r=>some (r.1,⟨fr,lh,r.2⟩):=fun h=>SR e he h
theorem yEd(he:c.eff=true): ∀{n:Nat} {fr:Fr} {lh:iL iy} {sh:List iy} {u:List Nat} {d:Option Nat} {opl:List iS} {ds:List (List Nat×iz)} {jR:List FP},(opl.map (rd fr)).all kept=true→jc pE (be pE) n ((u,⟨d,.callf f opl,none⟩)::ds) jR ⟨fr,lh,sh⟩=if meets u jR Hl=true then ke pE (be pE) n ds (jR++ [Hl]) (iB pE (be pE) n [⟨d,.callf f opl,none⟩] ⟨fr,lh,sh⟩)else none:=fun h=>acp e he h
theorem yE(he:c.eff=true): ∀{z:Nat} {fr:Fr} {lh:iL iy} {sh:List iy} {args:List T},jy pE (be pE) z ⟨fr,lh,sh⟩ f args=(Dn lh sh true args).bind fun q=>(be pE f q.1 ((St.mk fr lh sh).ups q.2).sh).bind fun r=>some (r.1,{(St.mk fr lh sh).ups q.2 with sh:=r.2}):=WE e he
theorem yT(he:c.eff=false)(ho:c.own=none): ∀{z:Nat} {fr:Fr} {lh:iL iy} {sh:List iy} {args:List T},args.all froz=true→jy pE (be pE) z ⟨fr,lh,sh⟩ f args=(be pE f args []).bind fun r=>some (r.1,⟨fr,lh,sh⟩):=fun h=>Lx e he ho h
theorem yP(he:c.eff=false)(ho:c.own=none): ∀{z:Nat} {fr:Fr} {lh:iL iy} {sh:List iy} {args:List T},jy pE (be pE) z ⟨fr,lh,sh⟩ f args=(Dn lh sh false args).bind fun q=>(be pE f q.1 []).bind fun r=>some (r.1,if scalar r.1=true then⟨fr,lh,sh⟩else(St.mk fr lh sh).ups q.2):=Ly e he ho
theorem yd(he:c.eff=false)(ho:c.own=none): ∀{n:Nat} {fr:Fr} {lh:iL iy} {sh:List iy} {u:List Nat} {d:Option Nat} {opl:List iS} {ds:List (List Nat×iz)} {jR:List FP},(opl.map (rd fr)).all froz=true→jc pE (be pE) n ((u,⟨d,.callf f opl,none⟩)::ds) jR ⟨fr,lh,sh⟩=ke pE (be pE) n ds (jR++ [oe]) (iB pE (be pE) n [⟨d,.callf f opl,none⟩] ⟨fr,lh,sh⟩):=fun h=>ajx e he ho h
theorem ye(he:c.eff=false)(ho:c.own=none): ∀{n:Nat} {fr:Fr} {lh:iL iy} {sh:List iy} {d:Option Nat} {opl:List iS} {ds:List (List Nat×iz)} {jR:List FP},SS ds=true→jc pE (be pE) n (([],⟨d,.callf f opl,none⟩)::ds) jR ⟨fr,lh,sh⟩=ke pE (be pE) n ds (jR++ [oe]) (iB pE (be pE) n [⟨d,.callf f opl,none⟩] ⟨fr,lh,sh⟩):=fun h=>acq e he ho h
end
set_option linter.defProp false
theorem fn3:pE.fn 3=some c3:=rfl
theorem fn4:pE.fn 4=some c4:=rfl
def dc4:=@yT _ _ fn4 rfl rfl
theorem fn5:pE.fn 5=some c5:=rfl
def dc5:=@yT _ _ fn5 rfl rfl
theorem fn6:pE.fn 6=some c6:=rfl
def dc6:=@yT _ _ fn6 rfl rfl
theorem fn7:pE.fn 7=some c7:=rfl
def dc7:=@yT _ _ fn7 rfl rfl
theorem fn8:pE.fn 8=some c8:=rfl
def dc8:=@yT _ _ fn8 rfl rfl
def dd8:=@yd _ _ fn8 rfl rfl
theorem fn9:pE.fn 9=some c9:=rfl
def dc9:=@yT _ _ fn9 rfl rfl
theorem aq1:pE.fn 10=some tE:=rfl
def Oo:=@yT _ _ aq1 rfl rfl
theorem acr:pE.fn 11=some vN:=rfl
def az3:=@yT _ _ acr rfl rfl
theorem acs:pE.fn 12=some vZ:=rfl
def az4:=@yT _ _ acs rfl rfl
theorem aq2:pE.fn 13=some c13:=rfl
def az5:=@yT _ _ aq2 rfl rfl
theorem aq3:pE.fn 14=some c14:=rfl
def ajy:=@yT _ _ aq3 rfl rfl
theorem acu:pE.fn 17=some c17:=rfl
def IG:=@yT _ _ acu rfl rfl
theorem acv:pE.fn 18=some c18:=rfl
def aq4:=@yT _ _ acv rfl rfl
def az6:=@yP _ _ acv rfl rfl
def az7:=@yd _ _ acv rfl rfl
theorem aq5:pE.fn 19=some c19:=rfl
def Oq:=@yT _ _ aq5 rfl rfl
theorem ajz:pE.fn 20=some c20:=rfl
def SU:=@yT _ _ ajz rfl rfl
def acw:=@yd _ _ ajz rfl rfl
theorem aq6:pE.fn 21=some c21:=rfl
def WG:=@yT _ _ aq6 rfl rfl
theorem aq7:pE.fn 22=some c22:=rfl
def ajA:=@yT _ _ aq7 rfl rfl
theorem ajB:pE.fn 23=some c23:=rfl
def Lz:=@yT _ _ ajB rfl rfl
def acx:=@yd _ _ ajB rfl rfl
theorem SV:pE.fn 24=some c24:=rfl
def ajC:=@yP _ _ SV rfl rfl
theorem aq8:pE.fn 25=some c25:=rfl
def aq9:=@yT _ _ aq8 rfl rfl
theorem SW:pE.fn 26=some c26:=rfl
def acy:=@U0 _ _ SW rfl
def acz:=@yEd _ _ SW rfl
def az8:=@yE _ _ SW rfl
theorem ajD:pE.fn 27=some c27:=rfl
def az9:=@yT _ _ ajD rfl rfl
def aAa:=@yd _ _ ajD rfl rfl
theorem ara:pE.fn 28=some c28:=rfl
def arb:=@yT _ _ ara rfl rfl
theorem arc:pE.fn 29=some c29:=rfl
def ard:=@yT _ _ arc rfl rfl
theorem are:pE.fn 30=some c30:=rfl
def ajE:=@yT _ _ are rfl rfl
theorem ajF:pE.fn 31=some c31:=rfl
def arf:=@yT _ _ ajF rfl rfl
theorem arh:pE.fn 32=some c32:=rfl
def aAb:=@U0 _ _ arh rfl
theorem ajG:pE.fn 33=some K7:=rfl
def sD:=@U0 _ _ ajG rfl
def tp:=@yEd _ _ ajG rfl
theorem ajH:pE.fn 34=some c34:=rfl
def ari:=@yT _ _ ajH rfl rfl
def arj:=@yP _ _ ajH rfl rfl
theorem ark:pE.fn 35=some C5:=rfl
def ajI:=@yP _ _ ark rfl rfl
theorem arl:pE.fn 36=some c36:=rfl
def aAc:=@yT _ _ arl rfl rfl
theorem ajJ:pE.fn 37=some NU:=rfl
def aAd:=@yT _ _ ajJ rfl rfl
theorem ajK:pE.fn 38=some c38:=rfl
def ajL:=@yT _ _ ajK rfl rfl
def aAe:=@yd _ _ ajK rfl rfl
theorem arn:pE.fn 39=some c39:=rfl
def aro:=@yT _ _ arn rfl rfl
theorem acA:pE.fn 40=some c40:=rfl
def aAf:=@yT _ _ acA rfl rfl
def aAg:=@yP _ _ acA rfl rfl
def aAh:=@yd _ _ acA rfl rfl
theorem arp:pE.fn 41=some c41:=rfl
def arq:=@yE _ _ arp rfl
theorem WH:pE.fn 42=some c42:=rfl
def art:=@yE _ _ WH rfl
theorem aru:pE.fn 43=some c43:=rfl
def arv:=@U0 _ _ aru rfl
theorem arw:pE.fn 44=some c44:=rfl
theorem acB:pE.fn 45=some c45:=rfl
def ajM:=@yP _ _ acB rfl rfl
theorem arx:pE.fn 46=some c46:=rfl
def aAi:=@yT _ _ arx rfl rfl
theorem ary:pE.fn 47=some c47:=rfl
def WI:=@yT _ _ ary rfl rfl
theorem arz:pE.fn 48=some c48:=rfl
def acC:=@yT _ _ arz rfl rfl
theorem arA:pE.fn 49=some c49:=rfl
def arB:=@yT _ _ arA rfl rfl
theorem arC:pE.fn 50=some c50:=rfl
def arD:=@yP _ _ arC rfl rfl
theorem ajN:pE.fn 51=some c51:=rfl
def aAj:=@yT _ _ ajN rfl rfl
def aAk:=@yd _ _ ajN rfl rfl
theorem ajO:pE.fn 52=some c52:=rfl
def arE:=@yT _ _ ajO rfl rfl
theorem arF:pE.fn 53=some c53:=rfl
def aAl:=@U0 _ _ arF rfl
theorem arG:pE.fn 54=some c54:=rfl
def WJ:=@yT _ _ arG rfl rfl
theorem arH:pE.fn 55=some c55:=rfl
def arI:=@U0 _ _ arH rfl
theorem arJ:pE.fn 56=some c56:=rfl
def ajP:=@U0 _ _ arJ rfl
theorem aAm:pE.fn 57=some c57:=rfl
def acD:=@yT _ _ aAm rfl rfl
theorem arK:pE.fn 58=some c58:=rfl
def acE:=@U0 _ _ arK rfl
theorem ajQ:pE.fn 59=some c59:=rfl
def GC:=@yT _ _ ajQ rfl rfl
def arL:=@yd _ _ ajQ rfl rfl
theorem arM:pE.fn 60=some c60:=rfl
def ajR:=@yT _ _ arM rfl rfl
theorem ajS:pE.fn 61=some c61:=rfl
def ajT:=@yT _ _ ajS rfl rfl
def arN:=@yd _ _ ajS rfl rfl
theorem arO:pE.fn 62=some c62:=rfl
def aAn:=@yT _ _ arO rfl rfl
theorem ajU:pE.fn 63=some c63:=rfl
def acF:=@yT _ _ ajU rfl rfl
def aAo:=@yd _ _ ajU rfl rfl
theorem arP:pE.fn 64=some c64:=rfl
def aAp:=@yT _ _ arP rfl rfl
theorem ajV:pE.fn 65=some c65:=rfl
def arQ:=@yT _ _ ajV rfl rfl
theorem arR:pE.fn 66=some c66:=rfl
def aAq:=@yT _ _ arR rfl rfl
theorem ajW:pE.fn 67=some c67:=rfl
def acG:=@yT _ _ ajW rfl rfl
def ajX:=@yd _ _ ajW rfl rfl
theorem ajY:pE.fn 68=some c68:=rfl
def ajZ:=@yT _ _ ajY rfl rfl
def aj0:=@yd _ _ ajY rfl rfl
theorem arS:pE.fn 69=some c69:=rfl
def arT:=@yT _ _ arS rfl rfl
theorem arU:pE.fn 70=some c70:=rfl
def arV:=@yT _ _ arU rfl rfl
theorem arW:pE.fn 71=some c71:=rfl
def aAr:=@yT _ _ arW rfl rfl
theorem aj1:pE.fn 72=some c72:=rfl
def aAs:=@yT _ _ aj1 rfl rfl
def aAt:=@yd _ _ aj1 rfl rfl
theorem aj2:pE.fn 73=some c73:=rfl
def aAu:=@yT _ _ aj2 rfl rfl
def aAv:=@yd _ _ aj2 rfl rfl
theorem aj3:pE.fn 74=some c74:=rfl
def aAw:=@yT _ _ aj3 rfl rfl
def aAx:=@yd _ _ aj3 rfl rfl
theorem aj4:pE.fn 75=some c75:=rfl
def aAy:=@yT _ _ aj4 rfl rfl
def aAz:=@yd _ _ aj4 rfl rfl
theorem aj5:pE.fn 76=some c76:=rfl
def aj6:=@yT _ _ aj5 rfl rfl
theorem aj7:pE.fn 77=some c77:=rfl
def arX:=@yT _ _ aj7 rfl rfl
def aAA:=@yd _ _ aj7 rfl rfl
theorem arY:pE.fn 78=some c78:=rfl
def aAB:=@yT _ _ arY rfl rfl
theorem arZ:pE.fn 79=some c79:=rfl
def aAC:=@yT _ _ arZ rfl rfl
theorem ar0:pE.fn 80=some c80:=rfl
def aAD:=@yT _ _ ar0 rfl rfl
theorem ar1:pE.fn 81=some c81:=rfl
def WK:=@yT _ _ ar1 rfl rfl
theorem ar2:pE.fn 82=some c82:=rfl
def acH:=@yT _ _ ar2 rfl rfl
theorem ar3:pE.fn 83=some c83:=rfl
def aj8:=@yT _ _ ar3 rfl rfl
theorem ar4:pE.fn 84=some c84:=rfl
def aAE:=@yT _ _ ar4 rfl rfl
theorem ar5:pE.fn 85=some c85:=rfl
def WL:=@yT _ _ ar5 rfl rfl
theorem ar6:pE.fn 86=some c86:=rfl
def aAF:=@yT _ _ ar6 rfl rfl
theorem ar7:pE.fn 87=some c87:=rfl
def aAG:=@yT _ _ ar7 rfl rfl
theorem ar8:pE.fn 88=some c88:=rfl
def aj9:=@yT _ _ ar8 rfl rfl
theorem ar9:pE.fn 89=some c89:=rfl
def aAH:=@yT _ _ ar9 rfl rfl
theorem asa:pE.fn 90=some c90:=rfl
def aAI:=@yT _ _ asa rfl rfl
theorem asb:pE.fn 91=some c91:=rfl
def acI:=@yT _ _ asb rfl rfl
theorem asc:pE.fn 92=some c92:=rfl
def aAJ:=@yT _ _ asc rfl rfl
theorem asd:pE.fn 93=some c93:=rfl
def aAK:=@yT _ _ asd rfl rfl
theorem ase:pE.fn 94=some c94:=rfl
def WM:=@U0 _ _ ase rfl
theorem acJ:pE.fn 95=some Hb:=rfl
def EA:=@yT _ _ acJ rfl rfl
def aAL:=@yP _ _ acJ rfl rfl
def asf:=@yd _ _ acJ rfl rfl
theorem asg:pE.fn 96=some c96:=rfl
def SX:=@yT _ _ asg rfl rfl
theorem ash:pE.fn 97=some c97:=rfl
def acK:=@yT _ _ ash rfl rfl
theorem asi:pE.fn 98=some c98:=rfl
def aka:=@yT _ _ asi rfl rfl
theorem asj:pE.fn 99=some c99:=rfl
def asl:=@yT _ _ asj rfl rfl
theorem ags:pE.fn 100=some VJ:=rfl
def agt:=@yT _ _ ags rfl rfl
theorem agu:pE.fn 101=some VK:=rfl
def Hm:=@yT _ _ agu rfl rfl
theorem agv:pE.fn 102=some VL:=rfl
def LA:=@yT _ _ agv rfl rfl
theorem agw:pE.fn 103=some Od:=rfl
def Cu:=@yT _ _ agw rfl rfl
theorem agx:pE.fn 104=some VM:=rfl
def asm:=@yT _ _ agx rfl rfl
theorem EB:pE.fn 105=some wa:=rfl
def yj:=@yT _ _ EB rfl rfl
theorem LB:pE.fn 106=some GA:=rfl
def WN:=@yT _ _ LB rfl rfl
def asn:=@yP _ _ LB rfl rfl
def WO:=@yd _ _ LB rfl rfl
def aso:=@ye _ _ LB rfl rfl
theorem WQ:pE.fn 107=some VN:=rfl
def asp:=@yT _ _ WQ rfl rfl
def asq:=@yd _ _ WQ rfl rfl
theorem agy:pE.fn 108=some VO:=rfl
def agz:=@yP _ _ agy rfl rfl
theorem WR:pE.fn 109=some Sj:=rfl
def asr:=@U0 _ _ WR rfl
def ass:=@yEd _ _ WR rfl
theorem agA:pE.fn 110=some VP:=rfl
def agB:=@yT _ _ agA rfl rfl
theorem WS:pE.fn 111=some VQ:=rfl
def WT:=@yT _ _ WS rfl rfl
def ast:=@yd _ _ WS rfl rfl
theorem WU:pE.fn 112=some Oe:=rfl
def Qg:=@yT _ _ WU rfl rfl
theorem agC:pE.fn 113=some VR:=rfl
def asu:=@yT _ _ agC rfl rfl
theorem WV:pE.fn 114=some VS:=rfl
def agD:=@yT _ _ WV rfl rfl
def agE:=@yd _ _ WV rfl rfl
theorem WW:pE.fn 115=some VT:=rfl
def agF:=@yT _ _ WW rfl rfl
def agG:=@yd _ _ WW rfl rfl
theorem agH:pE.fn 116=some VU:=rfl
def asv:=@yT _ _ agH rfl rfl
theorem agI:pE.fn 117=some Sk:=rfl
def asw:=@yT _ _ agI rfl rfl
theorem WX:pE.fn 118=some VV:=rfl
def asx:=@yT _ _ WX rfl rfl
def asy:=@yd _ _ WX rfl rfl
theorem agJ:pE.fn 119=some VW:=rfl
def asz:=@yT _ _ agJ rfl rfl
theorem agK:pE.fn 120=some VY:=rfl
def zL:=@yT _ _ agK rfl rfl
theorem agL:pE.fn 121=some Lt:=rfl
def Qh:=@U0 _ _ agL rfl
theorem agM:pE.fn 122=some Sn:=rfl
def agN:=@yT _ _ agM rfl rfl
theorem agO:pE.fn 123=some VZ:=rfl
def asA:=@yT _ _ agO rfl rfl
theorem agP:pE.fn 124=some V0:=rfl
def WY:=@yT _ _ agP rfl rfl
theorem agQ:pE.fn 125=some Ez:=rfl
def WZ:=@U0 _ _ agQ rfl
theorem W0:pE.fn 126=some V1:=rfl
def Qi:=@yT _ _ W0 rfl rfl
def asB:=@yd _ _ W0 rfl rfl
theorem W1:pE.fn 127=some So:=rfl
def asC:=@yT _ _ W1 rfl rfl
def asD:=@yd _ _ W1 rfl rfl
theorem agR:pE.fn 128=some Lu:=rfl
def W2:=@yT _ _ agR rfl rfl
theorem W3:pE.fn 129=some zH:=rfl
def asE:=@yT _ _ W3 rfl rfl
def asF:=@yd _ _ W3 rfl rfl
theorem agS:pE.fn 130=some Sq:=rfl
def W4:=@yT _ _ agS rfl rfl
theorem agT:pE.fn 131=some Sr:=rfl
def agU:=@yT _ _ agT rfl rfl
theorem agV:pE.fn 132=some V2:=rfl
def asG:=@yT _ _ agV rfl rfl
theorem agW:pE.fn 133=some V3:=rfl
def W5:=@yT _ _ agW rfl rfl
theorem agX:pE.fn 134=some Su:=rfl
def agY:=@yT _ _ agX rfl rfl
theorem agZ:pE.fn 135=some V4:=rfl
def asH:=@yT _ _ agZ rfl rfl
theorem ag0:pE.fn 136=some V5:=rfl
def EC:=@yT _ _ ag0 rfl rfl
theorem ag1:pE.fn 137=some Sv:=rfl
def Qj:=@yT _ _ ag1 rfl rfl
theorem ag2:pE.fn 138=some Lv:=rfl
def ag3:=@yP _ _ ag2 rfl rfl
theorem ag4:pE.fn 139=some Sw:=rfl
def asI:=@yT _ _ ag4 rfl rfl
theorem ag5:pE.fn 140=some V6:=rfl
def ag6:=@yT _ _ ag5 rfl rfl
theorem W6:pE.fn 141=some V7:=rfl
def ag7:=@yT _ _ W6 rfl rfl
def ag8:=@yd _ _ W6 rfl rfl
theorem ag9:pE.fn 142=some V8:=rfl
def W7:=@yT _ _ ag9 rfl rfl
theorem aha:pE.fn 143=some V9:=rfl
def ahb:=@yT _ _ aha rfl rfl
theorem ahc:pE.fn 145=some Wa:=rfl
def LC:=@yT _ _ ahc rfl rfl
theorem ahd:pE.fn 146=some Wb:=rfl
def ahe:=@yT _ _ ahd rfl rfl
theorem ahf:pE.fn 147=some Wc:=rfl
def asJ:=@yT _ _ ahf rfl rfl
theorem W8:pE.fn 148=some Wd:=rfl
def W9:=@yT _ _ W8 rfl rfl
def asK:=@yd _ _ W8 rfl rfl
theorem Hn:pE.fn 149=some C6:=rfl
def Ho:=@yT _ _ Hn rfl rfl
def asL:=@yP _ _ Hn rfl rfl
def ahg:=@yd _ _ Hn rfl rfl
def asM:=@ye _ _ Hn rfl rfl
theorem ahh:pE.fn 150=some Sx:=rfl
def ahi:=@yT _ _ ahh rfl rfl
theorem Xa:pE.fn 151=some We:=rfl
def Qk:=@yT _ _ Xa rfl rfl
def Xb:=@yd _ _ Xa rfl rfl
theorem ahj:pE.fn 152=some Wf:=rfl
def asN:=@yT _ _ ahj rfl rfl
theorem ahk:pE.fn 153=some Wg:=rfl
def asO:=@yT _ _ ahk rfl rfl
theorem ahl:pE.fn 154=some Sy:=rfl
def asP:=@yT _ _ ahl rfl rfl
theorem ahm:pE.fn 155=some Sz:=rfl
def asQ:=@yT _ _ ahm rfl rfl
theorem ahn:pE.fn 156=some tH:=rfl
def aho:=@yP _ _ ahn rfl rfl
theorem ahp:pE.fn 157=some xV:=rfl
def ahq:=@yT _ _ ahp rfl rfl
theorem ahr:pE.fn 158=some Og:=rfl
def asR:=@yT _ _ ahr rfl rfl
theorem ahs:pE.fn 159=some SA:=rfl
def Xc:=@yT _ _ ahs rfl rfl
theorem aht:pE.fn 160=some Wh:=rfl
def asS:=@yT _ _ aht rfl rfl
theorem ahu:pE.fn 161=some SC:=rfl
def asT:=@yT _ _ ahu rfl rfl
theorem ahv:pE.fn 163=some Wi:=rfl
def Ql:=@yT _ _ ahv rfl rfl
theorem ahw:pE.fn 164=some Wj:=rfl
def asU:=@yT _ _ ahw rfl rfl
theorem ahx:pE.fn 165=some SD:=rfl
def asV:=@yT _ _ ahx rfl rfl
theorem ahy:pE.fn 166=some Wk:=rfl
def asW:=@yT _ _ ahy rfl rfl
theorem ahz:pE.fn 167=some Wl:=rfl
def asY:=@yT _ _ ahz rfl rfl
theorem ahA:pE.fn 168=some SE:=rfl
def ahB:=@yT _ _ ahA rfl rfl
theorem ahC:pE.fn 169=some Oh:=rfl
def asZ:=@yT _ _ ahC rfl rfl
theorem Xd:pE.fn 170=some SG:=rfl
def as0:=@yT _ _ Xd rfl rfl
def as1:=@yd _ _ Xd rfl rfl
theorem ahD:pE.fn 171=some Wm:=rfl
def as2:=@yT _ _ ahD rfl rfl
theorem ahE:pE.fn 172=some Oi:=rfl
def as3:=@yT _ _ ahE rfl rfl
theorem Xe:pE.fn 173=some wE:=rfl
def Qm:=@yP _ _ Xe rfl rfl
theorem Xf:pE.fn 174=some Oj:=rfl
def ahF:=@yT _ _ Xf rfl rfl
theorem ahG:pE.fn 175=some SJ:=rfl
def ahH:=@yT _ _ ahG rfl rfl
theorem Xg:pE.fn 176=some SK:=rfl
def Qn:=@yT _ _ Xg rfl rfl
def ahI:=@yd _ _ Xg rfl rfl
theorem ahJ:pE.fn 177=some Wn:=rfl
def ahK:=@yT _ _ ahJ rfl rfl
theorem Xh:pE.fn 178=some BF:=rfl
def ahL:=@yT _ _ Xh rfl rfl
def ahM:=@yd _ _ Xh rfl rfl
theorem Qo:pE.fn 179=some GB:=rfl
def as4:=@yT _ _ Qo rfl rfl
theorem ahN:pE.fn 180=some Wo:=rfl
def vP:=@yT _ _ ahN rfl rfl
theorem ahO:pE.fn 181=some SL:=rfl
def vQ:=@yT _ _ ahO rfl rfl
theorem ahP:pE.fn 182=some SM:=rfl
def ahQ:=@yT _ _ ahP rfl rfl
theorem ahR:pE.fn 183=some Wp:=rfl
def as5:=@yT _ _ ahR rfl rfl
theorem ahS:pE.fn 184=some Wq:=rfl
def as6:=@yT _ _ ahS rfl rfl
theorem ahT:pE.fn 185=some Wr:=rfl
def as7:=@yT _ _ ahT rfl rfl
theorem Xi:pE.fn 186=some Ws:=rfl
def ahU:=@yT _ _ Xi rfl rfl
def ahV:=@yd _ _ Xi rfl rfl
theorem ahW:pE.fn 187=some Wt:=rfl
def ahX:=@yT _ _ ahW rfl rfl
theorem Xj:pE.fn 188=some Wu:=rfl
def LD:=@yT _ _ Xj rfl rfl
def ahY:=@yd _ _ Xj rfl rfl
theorem Xk:pE.fn 189=some Wv:=rfl
def ahZ:=@yT _ _ Xk rfl rfl
def ah0:=@yd _ _ Xk rfl rfl
theorem ah1:pE.fn 190=some Ww:=rfl
def Qp:=@yT _ _ ah1 rfl rfl
theorem Xl:pE.fn 191=some Ok:=rfl
def ED:=@yT _ _ Xl rfl rfl
theorem Xm:pE.fn 192=some ID:=rfl
def ah2:=@yT _ _ Xm rfl rfl
def as8:=@yd _ _ Xm rfl rfl
theorem Xn:pE.fn 193=some Ol:=rfl
def as9:=@yT _ _ Xn rfl rfl
def ata:=@yd _ _ Xn rfl rfl
theorem Xo:pE.fn 194=some SN:=rfl
def atb:=@yT _ _ Xo rfl rfl
def atc:=@yd _ _ Xo rfl rfl
theorem Xp:pE.fn 195=some Wx:=rfl
def atd:=@yT _ _ Xp rfl rfl
def ate:=@yd _ _ Xp rfl rfl
theorem Xq:pE.fn 196=some Om:=rfl
def ah3:=@yT _ _ Xq rfl rfl
theorem ah4:pE.fn 197=some Wy:=rfl
def atf:=@yT _ _ ah4 rfl rfl
theorem ah5:pE.fn 198=some Wz:=rfl
def atg:=@yT _ _ ah5 rfl rfl
theorem Xr:pE.fn 199=some IE:=rfl
def Xs:=@yT _ _ Xr rfl rfl
theorem ah6:pE.fn 200=some WA:=rfl
def ath:=@yT _ _ ah6 rfl rfl
theorem ah7:pE.fn 201=some SO:=rfl
def ati:=@yT _ _ ah7 rfl rfl
theorem ah8:pE.fn 202=some SP:=rfl
def ah9:=@yT _ _ ah8 rfl rfl
theorem aia:pE.fn 204=some WB:=rfl
def atj:=@yT _ _ aia rfl rfl
theorem aib:pE.fn 205=some WC:=rfl
def atk:=@yT _ _ aib rfl rfl
theorem aic:pE.fn 210=some WD:=rfl
def atl:=@yT _ _ aic rfl rfl
end Go.Proofs.YtjniffjppoklpaaGreat
