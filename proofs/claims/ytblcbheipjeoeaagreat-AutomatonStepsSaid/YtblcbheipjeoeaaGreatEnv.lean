/- The functions that the statement reaches, as one table. Conditions: none. -/
import Derived.Test.YtblcbheipjeoeaaGreatCoA
import Derived.Test.YtblcbheipjeoeaaGreatCoB
import Derived.Test.YtblcbheipjeoeaaGreatCoC
import Derived.Test.YtblcbheipjeoeaaGreatCX
set_option linter.unusedVariables false
namespace Go.Proofs.YtblcbheipjeoeaaGreat
open Go Go.Ev
def pET:Cl:=(.nd (.nd (.nd (.nd (.nd (.nd (.nd .nil 3 c3 .nil) 7 c7 (.nd .nil 8 c8 .nil)) 9 c9 (.nd (.nd .nil 10 pw .nil) 11 pX (.nd .nil 12 qD .nil))) 13 Ws (.nd (.nd (.nd .nil 14 Y3 .nil) 15 c15 (.nd .nil 38 c38 .nil)) 39 c39 (.nd (.nd .nil 40 c40 .nil) 41 c41 (.nd .nil 42 Ta .nil)))) 43 Y4 (.nd (.nd (.nd (.nd .nil 44 c44 .nil) 45 c45 (.nd .nil 46 c46 .nil)) 47 NO (.nd (.nd .nil 48 c48 .nil) 49 Y5 (.nd .nil 50 SA .nil))) 51 c51 (.nd (.nd (.nd .nil 52 c52 .nil) 53 Y6 (.nd .nil 54 c54 .nil)) 75 c75 (.nd (.nd .nil 85 c85 .nil) 86 NS (.nd .nil 87 Ns .nil))))) 88 c88 (.nd (.nd (.nd (.nd (.nd .nil 89 Fb .nil) 90 Y7 (.nd .nil 92 NW .nil)) 93 Nt (.nd (.nd .nil 94 Wt .nil) 95 c95 (.nd .nil 96 c96 .nil))) 97 Tb (.nd (.nd (.nd .nil 98 Y8 .nil) 113 Y9 (.nd .nil 119 adX .nil)) 121 rB (.nd (.nd .nil 122 Lj .nil) 123 tg (.nd .nil 126 Lk .nil)))) 129 Ff (.nd (.nd (.nd (.nd .nil 138 BR .nil) 139 HO (.nd .nil 140 vt .nil)) 141 Ll (.nd (.nd .nil 142 kz .nil) 143 NY (.nd .nil 144 HP .nil))) 145 HQ (.nd (.nd (.nd .nil 146 Lo .nil) 150 BS (.nd .nil 151 Lp .nil)) 152 Lq (.nd (.nd .nil 153 Lr .nil) 154 th (.nd .nil 155 kA .nil)))))) 156 Lt (.nd (.nd (.nd (.nd (.nd (.nd .nil 157 HR .nil) 158 Lu (.nd .nil 159 Lv .nil)) 191 NZ (.nd (.nd .nil 192 N0 .nil) 193 Lw (.nd .nil 194 Fg .nil))) 195 vW (.nd (.nd (.nd .nil 196 HS .nil) 197 BT (.nd .nil 198 N1 .nil)) 208 N2 (.nd (.nd .nil 209 HT .nil) 210 N3 (.nd .nil 222 Ly .nil)))) 223 LA (.nd (.nd (.nd (.nd .nil 224 Fh .nil) 225 N4 (.nd .nil 226 LB .nil)) 227 LC (.nd (.nd .nil 228 N5 .nil) 229 LD (.nd .nil 230 HU .nil))) 231 LF (.nd (.nd (.nd .nil 236 LG .nil) 237 LH (.nd .nil 238 LI .nil)) 239 Fi (.nd (.nd .nil 240 N6 .nil) 241 N7 (.nd .nil 242 HV .nil))))) 258 uJ (.nd (.nd (.nd (.nd (.nd .nil 259 zX .nil) 260 N8 (.nd .nil 261 oG .nil)) 262 pk (.nd (.nd .nil 266 N9 .nil) 271 Oa (.nd .nil 272 Fj .nil))) 273 pF (.nd (.nd (.nd .nil 274 Oc .nil) 275 zY (.nd .nil 278 Od .nil)) 279 Oe (.nd (.nd .nil 285 Og .nil) 286 LJ (.nd .nil 287 LK .nil)))) 288 Oh (.nd (.nd (.nd (.nd .nil 289 LL .nil) 290 Oi (.nd .nil 294 LM .nil)) 299 Oj (.nd (.nd .nil 300 Ok .nil) 301 LN (.nd .nil 302 rE .nil))) 304 LO (.nd (.nd (.nd .nil 317 LP .nil) 319 HX (.nd .nil 320 LQ .nil)) 321 Ol (.nd (.nd .nil 322 xE .nil) 323 BU (.nd .nil 325 HY .nil)))))))
theorem Za:Cl.All (ft Tryz.prog) pET:=⟨⟨⟨⟨⟨⟨⟨trivial,kq3,trivial⟩,kq7,⟨trivial,kq8,trivial⟩⟩,kq9,⟨⟨trivial,ak7,trivial⟩,ak8,⟨trivial,ak9,trivial⟩⟩⟩,ala,⟨⟨⟨trivial,alb,trivial⟩,alc,⟨trivial,ald,trivial⟩⟩,ale,⟨⟨trivial,alf,trivial⟩,alg,⟨trivial,alh,trivial⟩⟩⟩⟩,ali,⟨⟨⟨⟨trivial,alj,trivial⟩,alk,⟨trivial,alm,trivial⟩⟩,aln,⟨⟨trivial,alo,trivial⟩,alp,⟨trivial,alq,trivial⟩⟩⟩,alr,⟨⟨⟨trivial,als,trivial⟩,alu,⟨trivial,alv,trivial⟩⟩,alw,⟨⟨trivial,alx,trivial⟩,aly,⟨trivial,alz,trivial⟩⟩⟩⟩⟩,alA,⟨⟨⟨⟨⟨trivial,alB,trivial⟩,alC,⟨trivial,alD,trivial⟩⟩,alE,⟨⟨trivial,alF,trivial⟩,alG,⟨trivial,alH,trivial⟩⟩⟩,alI,⟨⟨⟨trivial,alJ,trivial⟩,adW,⟨trivial,adY,trivial⟩⟩,adZ,⟨⟨trivial,ad0,trivial⟩,ad1,⟨trivial,ad2,trivial⟩⟩⟩⟩,ad3,⟨⟨⟨⟨trivial,ad4,trivial⟩,ad5,⟨trivial,ad6,trivial⟩⟩,ad7,⟨⟨trivial,ad8,trivial⟩,ad9,⟨trivial,aea,trivial⟩⟩⟩,aeb,⟨⟨⟨trivial,aec,trivial⟩,aed,⟨trivial,aee,trivial⟩⟩,aef,⟨⟨trivial,aeg,trivial⟩,aeh,⟨trivial,aei,trivial⟩⟩⟩⟩⟩⟩,aej,⟨⟨⟨⟨⟨⟨trivial,aek,trivial⟩,ael,⟨trivial,aem,trivial⟩⟩,aen,⟨⟨trivial,aeo,trivial⟩,aep,⟨trivial,aeq,trivial⟩⟩⟩,aer,⟨⟨⟨trivial,aes,trivial⟩,aet,⟨trivial,aeu,trivial⟩⟩,aev,⟨⟨trivial,aew,trivial⟩,aex,⟨trivial,aey,trivial⟩⟩⟩⟩,aez,⟨⟨⟨⟨trivial,aeA,trivial⟩,aeB,⟨trivial,aeC,trivial⟩⟩,aeD,⟨⟨trivial,aeE,trivial⟩,aeF,⟨trivial,aeG,trivial⟩⟩⟩,aeH,⟨⟨⟨trivial,aeI,trivial⟩,aeJ,⟨trivial,aeK,trivial⟩⟩,aeL,⟨⟨trivial,aeM,trivial⟩,aeN,⟨trivial,aeO,trivial⟩⟩⟩⟩⟩,aeP,⟨⟨⟨⟨⟨trivial,aeQ,trivial⟩,aeR,⟨trivial,aeS,trivial⟩⟩,aeT,⟨⟨trivial,aeU,trivial⟩,aeV,⟨trivial,aeW,trivial⟩⟩⟩,aeX,⟨⟨⟨trivial,aeY,trivial⟩,aeZ,⟨trivial,ae0,trivial⟩⟩,ae1,⟨⟨trivial,ae2,trivial⟩,ae3,⟨trivial,ae4,trivial⟩⟩⟩⟩,ae5,⟨⟨⟨⟨trivial,ae6,trivial⟩,ae7,⟨trivial,ae8,trivial⟩⟩,ae9,⟨⟨trivial,afa,trivial⟩,afb,⟨trivial,afc,trivial⟩⟩⟩,afd,⟨⟨⟨trivial,afe,trivial⟩,aff,⟨trivial,afg,trivial⟩⟩,afh,⟨⟨trivial,afi,trivial⟩,afj,⟨trivial,afk,trivial⟩⟩⟩⟩⟩⟩⟩
def pEx(f:Nat):Option (List T→Option T):=bif Nat.beq f 91 then some ve else bif Nat.beq f 326 then some Tc else none
def pEy(f:Nat):Option (List T→Option (List T×Option Nat)):=none
def pE:Env:=⟨pET.find,pEx,pEy⟩
theorem afl:sV Tryz.prog pE:=afm Za (fun f g h=>by
 unfold pEx at h
 cases hb:Nat.beq f 91 with
 |true=>rw[hb,cond_true]at h;cases h;rw[Nat.eq_of_beq_eq_true hb];exact Tryz.cntOk
 |false=>
  rw[hb,cond_false]at h
  cases hc:Nat.beq f 326 with
  |true=>rw[hc,cond_true]at h;cases h;rw[Nat.eq_of_beq_eq_true hc];exact Tryz.idxOk
  |false=>rw[hc,cond_false]at h;cases h) (fun f g h=>by cases h)
section
variable{f j:Nat}{c:fv}(e:pE.fn f=some c)
include e
theorem Td(he:c.eff=true): ∀{z:Nat} {fr:Fr} {lh:fC fg} {sh:List fg} {args:List T},args.all kept=true→gq pE (fj pE) z ⟨fr,lh,sh⟩ f args=(fj pE f args sh).bind fun r=>some (r.1,⟨fr,lh,r.2⟩):=fun h=>LR e he h
theorem yEd(he:c.eff=true): ∀{n:Nat} {fr:Fr} {lh:fC fg} {sh:List fg} {u:List Nat} {d:Option Nat} {SC:List fM} {ds:List (List Nat×fe)} {g8:List FP},(SC.map (rd fr)).all kept=true→fN pE (fj pE) n ((u,⟨d,.callf f SC,none⟩)::ds) g8 ⟨fr,lh,sh⟩=if meets u g8 Cm=true then ke pE (fj pE) n ds (g8++ [Cm]) (fi pE (fj pE) n [⟨d,.callf f SC,none⟩] ⟨fr,lh,sh⟩)else none:=fun h=>Te e he h
theorem yT(he:c.eff=false)(ho:c.own=none): ∀{z:Nat} {fr:Fr} {lh:fC fg} {sh:List fg} {args:List T},args.all froz=true→gq pE (fj pE) z ⟨fr,lh,sh⟩ f args=(fj pE f args []).bind fun r=>some (r.1,⟨fr,lh,sh⟩):=fun h=>Fk e he ho h
theorem yP(he:c.eff=false)(ho:c.own=none): ∀{z:Nat} {fr:Fr} {lh:fC fg} {sh:List fg} {args:List T},gq pE (fj pE) z ⟨fr,lh,sh⟩ f args=(Fo lh sh false args).bind fun q=>(fj pE f q.1 []).bind fun r=>some (r.1,if scalar r.1=true then⟨fr,lh,sh⟩else(St.mk fr lh sh).ups q.2):=Fp e he ho
theorem yd(he:c.eff=false)(ho:c.own=none): ∀{n:Nat} {fr:Fr} {lh:fC fg} {sh:List fg} {u:List Nat} {d:Option Nat} {SC:List fM} {ds:List (List Nat×fe)} {g8:List FP},(SC.map (rd fr)).all froz=true→fN pE (fj pE) n ((u,⟨d,.callf f SC,none⟩)::ds) g8 ⟨fr,lh,sh⟩=ke pE (fj pE) n ds (g8++ [mL]) (fi pE (fj pE) n [⟨d,.callf f SC,none⟩] ⟨fr,lh,sh⟩):=fun h=>Zb e he ho h
theorem ye(he:c.eff=false)(ho:c.own=none): ∀{n:Nat} {fr:Fr} {lh:fC fg} {sh:List fg} {d:Option Nat} {SC:List fM} {ds:List (List Nat×fe)} {g8:List FP},Wu ds=true→fN pE (fj pE) n (([],⟨d,.callf f SC,none⟩)::ds) g8 ⟨fr,lh,sh⟩=ke pE (fj pE) n ds (g8++ [mL]) (fi pE (fj pE) n [⟨d,.callf f SC,none⟩] ⟨fr,lh,sh⟩):=fun h=>Tf e he ho h
end
set_option linter.defProp false
theorem fn3:pE.fn 3=some c3:=rfl
theorem fn7:pE.fn 7=some c7:=rfl
def dc7:=@yT _ _ fn7 rfl rfl
theorem fn8:pE.fn 8=some c8:=rfl
def dc8:=@yT _ _ fn8 rfl rfl
theorem fn9:pE.fn 9=some c9:=rfl
def dc9:=@yT _ _ fn9 rfl rfl
theorem Zc:pE.fn 10=some pw:=rfl
def afn:=@yT _ _ Zc rfl rfl
def alM:=@yd _ _ Zc rfl rfl
theorem Zd:pE.fn 11=some pX:=rfl
def alN:=@yT _ _ Zd rfl rfl
theorem Ze:pE.fn 12=some qD:=rfl
def afo:=@yT _ _ Ze rfl rfl
def alO:=@yd _ _ Ze rfl rfl
theorem Zf:pE.fn 13=some Ws:=rfl
def alP:=@yT _ _ Zf rfl rfl
theorem afp:pE.fn 14=some Y3:=rfl
def alQ:=@yT _ _ afp rfl rfl
theorem afq:pE.fn 15=some c15:=rfl
def alR:=@yT _ _ afq rfl rfl
theorem afr:pE.fn 38=some c38:=rfl
def alS:=@yT _ _ afr rfl rfl
theorem afs:pE.fn 39=some c39:=rfl
def alT:=@yT _ _ afs rfl rfl
theorem afu:pE.fn 40=some c40:=rfl
def alU:=@yT _ _ afu rfl rfl
theorem afv:pE.fn 41=some c41:=rfl
def alV:=@yT _ _ afv rfl rfl
theorem Tg:pE.fn 42=some Ta:=rfl
def yV:=@yT _ _ Tg rfl rfl
theorem afw:pE.fn 43=some Y4:=rfl
def DE:=@yT _ _ afw rfl rfl
theorem afx:pE.fn 44=some c44:=rfl
def afy:=@yT _ _ afx rfl rfl
theorem afz:pE.fn 45=some c45:=rfl
def BV:=@yT _ _ afz rfl rfl
theorem afA:pE.fn 46=some c46:=rfl
def Fq:=@yT _ _ afA rfl rfl
theorem afB:pE.fn 47=some NO:=rfl
def afC:=@yT _ _ afB rfl rfl
theorem afD:pE.fn 48=some c48:=rfl
def Om:=@yT _ _ afD rfl rfl
theorem Zg:pE.fn 49=some Y5:=rfl
def Th:=@yT _ _ Zg rfl rfl
def alW:=@yd _ _ Zg rfl rfl
theorem afE:pE.fn 50=some SA:=rfl
def afF:=@yT _ _ afE rfl rfl
theorem afG:pE.fn 51=some c51:=rfl
def On:=@yT _ _ afG rfl rfl
theorem Zh:pE.fn 52=some c52:=rfl
def Ti:=@yT _ _ Zh rfl rfl
def alX:=@yd _ _ Zh rfl rfl
theorem afH:pE.fn 53=some Y6:=rfl
def afI:=@yT _ _ afH rfl rfl
theorem afJ:pE.fn 54=some c54:=rfl
def Zi:=@yT _ _ afJ rfl rfl
theorem afK:pE.fn 75=some c75:=rfl
def LS:=@yT _ _ afK rfl rfl
theorem afL:pE.fn 85=some c85:=rfl
def Oo:=@yT _ _ afL rfl rfl
theorem afM:pE.fn 86=some NS:=rfl
def Zj:=@yT _ _ afM rfl rfl
theorem Zk:pE.fn 87=some Ns:=rfl
def afN:=@yT _ _ Zk rfl rfl
theorem afO:pE.fn 88=some c88:=rfl
def alY:=@Td _ _ afO rfl
theorem Zl:pE.fn 89=some Fb:=rfl
def qE:=@Td _ _ Zl rfl
def rj:=@yEd _ _ Zl rfl
theorem Zm:pE.fn 90=some Y7:=rfl
def afP:=@yT _ _ Zm rfl rfl
def afQ:=@yP _ _ Zm rfl rfl
theorem afR:pE.fn 92=some NW:=rfl
def alZ:=@yT _ _ afR rfl rfl
theorem Zn:pE.fn 93=some Nt:=rfl
def al0:=@yT _ _ Zn rfl rfl
theorem afS:pE.fn 94=some Wt:=rfl
def qG:=@yT _ _ afS rfl rfl
theorem Zp:pE.fn 95=some c95:=rfl
def Tj:=@yT _ _ Zp rfl rfl
def al1:=@yd _ _ Zp rfl rfl
theorem afT:pE.fn 96=some c96:=rfl
def afU:=@yT _ _ afT rfl rfl
theorem Zq:pE.fn 97=some Tb:=rfl
def qc:=@yT _ _ Zq rfl rfl
def afV:=@yd _ _ Zq rfl rfl
theorem afW:pE.fn 98=some Y8:=rfl
def al2:=@yT _ _ afW rfl rfl
theorem afX:pE.fn 113=some Y9:=rfl
def JC:=@yT _ _ afX rfl rfl
theorem JD:pE.fn 121=some rB:=rfl
def ym:=@yT _ _ JD rfl rfl
def afY:=@yP _ _ JD rfl rfl
def Wv:=@yd _ _ JD rfl rfl
theorem Oq:pE.fn 122=some Lj:=rfl
def Fs:=@yT _ _ Oq rfl rfl
def Ww:=@yd _ _ Oq rfl rfl
theorem zZ:pE.fn 123=some tg:=rfl
def yn:=@yT _ _ zZ rfl rfl
theorem Wx:pE.fn 126=some Lk:=rfl
def Wy:=@yT _ _ Wx rfl rfl
theorem Wz:pE.fn 129=some Ff:=rfl
def Cn:=@yT _ _ Wz rfl rfl
theorem WA:pE.fn 138=some BR:=rfl
def Ot:=@yT _ _ WA rfl rfl
theorem WB:pE.fn 139=some HO:=rfl
def JE:=@yT _ _ WB rfl rfl
theorem WC:pE.fn 140=some vt:=rfl
def JF:=@yP _ _ WC rfl rfl
theorem Ou:pE.fn 141=some Ll:=rfl
def WD:=@yT _ _ Ou rfl rfl
def WE:=@yd _ _ Ou rfl rfl
theorem Ov:pE.fn 142=some kz:=rfl
def z6:=@yT _ _ Ov rfl rfl
theorem WG:pE.fn 143=some NY:=rfl
def Ft:=@Td _ _ WG rfl
theorem WH:pE.fn 144=some HP:=rfl
def Ow:=@Td _ _ WH rfl
theorem WI:pE.fn 145=some HQ:=rfl
def Cp:=@Td _ _ WI rfl
theorem WJ:pE.fn 146=some Lo:=rfl
def JG:=@Td _ _ WJ rfl
theorem WK:pE.fn 150=some BS:=rfl
def Ox:=@yT _ _ WK rfl rfl
theorem Oy:pE.fn 151=some Lp:=rfl
def JH:=@yT _ _ Oy rfl rfl
def WL:=@yd _ _ Oy rfl rfl
theorem WM:pE.fn 152=some Lq:=rfl
def JI:=@yT _ _ WM rfl rfl
theorem Oz:pE.fn 153=some Lr:=rfl
def qd:=@yT _ _ Oz rfl rfl
def OA:=@yd _ _ Oz rfl rfl
theorem WN:pE.fn 154=some th:=rfl
def WO:=@yT _ _ WN rfl rfl
theorem OB:pE.fn 155=some kA:=rfl
def z7:=@yT _ _ OB rfl rfl
theorem WQ:pE.fn 156=some Lt:=rfl
def OC:=@yT _ _ WQ rfl rfl
theorem OD:pE.fn 157=some HR:=rfl
def Cq:=@yT _ _ OD rfl rfl
def Cr:=@yd _ _ OD rfl rfl
theorem WR:pE.fn 158=some Lu:=rfl
def z8:=@yT _ _ WR rfl rfl
theorem WS:pE.fn 159=some Lv:=rfl
def Fu:=@yT _ _ WS rfl rfl
theorem WT:pE.fn 191=some NZ:=rfl
def vX:=@yT _ _ WT rfl rfl
theorem OE:pE.fn 192=some N0:=rfl
def JJ:=@yT _ _ OE rfl rfl
def afZ:=@yd _ _ OE rfl rfl
theorem OF:pE.fn 193=some Lw:=rfl
def af0:=@yT _ _ OF rfl rfl
def af1:=@yd _ _ OF rfl rfl
theorem WU:pE.fn 194=some Fg:=rfl
def OG:=@yT _ _ WU rfl rfl
theorem OH:pE.fn 195=some vW:=rfl
def af2:=@yT _ _ OH rfl rfl
def af3:=@yd _ _ OH rfl rfl
theorem WV:pE.fn 196=some HS:=rfl
def sW:=@yT _ _ WV rfl rfl
theorem Fv:pE.fn 197=some BT:=rfl
def OI:=@yT _ _ Fv rfl rfl
def af4:=@yP _ _ Fv rfl rfl
def OJ:=@yd _ _ Fv rfl rfl
def af5:=@ye _ _ Fv rfl rfl
theorem OK:pE.fn 198=some N1:=rfl
def af6:=@yT _ _ OK rfl rfl
def af7:=@yd _ _ OK rfl rfl
theorem WW:pE.fn 208=some N2:=rfl
def JK:=@yT _ _ WW rfl rfl
theorem WX:pE.fn 209=some HT:=rfl
def af8:=@yT _ _ WX rfl rfl
theorem WY:pE.fn 210=some N3:=rfl
def af9:=@yT _ _ WY rfl rfl
theorem WZ:pE.fn 222=some Ly:=rfl
def vY:=@yT _ _ WZ rfl rfl
theorem W0:pE.fn 223=some LA:=rfl
def Fw:=@yT _ _ W0 rfl rfl
theorem W1:pE.fn 224=some Fh:=rfl
def tz:=@yT _ _ W1 rfl rfl
theorem W2:pE.fn 225=some N4:=rfl
def iv:=@yT _ _ W2 rfl rfl
theorem W3:pE.fn 226=some LB:=rfl
def Fx:=@yT _ _ W3 rfl rfl
theorem W4:pE.fn 227=some LC:=rfl
def JL:=@yT _ _ W4 rfl rfl
theorem W5:pE.fn 228=some N5:=rfl
def yo:=@yT _ _ W5 rfl rfl
theorem W6:pE.fn 229=some LD:=rfl
def aga:=@yT _ _ W6 rfl rfl
theorem W7:pE.fn 230=some HU:=rfl
def agb:=@yT _ _ W7 rfl rfl
theorem W8:pE.fn 231=some LF:=rfl
def Fy:=@Td _ _ W8 rfl
theorem W9:pE.fn 236=some LG:=rfl
def vZ:=@yT _ _ W9 rfl rfl
theorem Xa:pE.fn 237=some LH:=rfl
def FA:=@yT _ _ Xa rfl rfl
theorem Xb:pE.fn 238=some LI:=rfl
def JM:=@yT _ _ Xb rfl rfl
theorem Xc:pE.fn 239=some Fi:=rfl
def qK:=@yT _ _ Xc rfl rfl
theorem Xd:pE.fn 240=some N6:=rfl
def gT:=@yT _ _ Xd rfl rfl
theorem Xe:pE.fn 241=some N7:=rfl
def lZ:=@yT _ _ Xe rfl rfl
theorem Xf:pE.fn 242=some HV:=rfl
def agc:=@yT _ _ Xf rfl rfl
theorem Xg:pE.fn 258=some uJ:=rfl
def Xh:=@yT _ _ Xg rfl rfl
theorem Xi:pE.fn 259=some zX:=rfl
def agd:=@yT _ _ Xi rfl rfl
theorem Xj:pE.fn 260=some N8:=rfl
def OL:=@yT _ _ Xj rfl rfl
theorem Xk:pE.fn 261=some oG:=rfl
def OM:=@yT _ _ Xk rfl rfl
theorem Xl:pE.fn 262=some pk:=rfl
def Xm:=@yP _ _ Xl rfl rfl
theorem Xn:pE.fn 266=some N9:=rfl
def ON:=@yT _ _ Xn rfl rfl
theorem Xo:pE.fn 271=some Oa:=rfl
def mS:=@yT _ _ Xo rfl rfl
theorem Xp:pE.fn 272=some Fj:=rfl
def JN:=@Td _ _ Xp rfl
theorem Xq:pE.fn 273=some pF:=rfl
def OO:=@yT _ _ Xq rfl rfl
theorem Xr:pE.fn 274=some Oc:=rfl
def JO:=@yT _ _ Xr rfl rfl
theorem Xs:pE.fn 275=some zY:=rfl
def OP:=@Td _ _ Xs rfl
theorem Xt:pE.fn 278=some Od:=rfl
def age:=@yT _ _ Xt rfl rfl
theorem Xu:pE.fn 279=some Oe:=rfl
def JP:=@yT _ _ Xu rfl rfl
theorem Xv:pE.fn 285=some Og:=rfl
def sX:=@yT _ _ Xv rfl rfl
theorem Xw:pE.fn 286=some LJ:=rfl
def sY:=@yT _ _ Xw rfl rfl
theorem Xx:pE.fn 287=some LK:=rfl
def OQ:=@yT _ _ Xx rfl rfl
theorem Xy:pE.fn 288=some Oh:=rfl
def mT:=@yT _ _ Xy rfl rfl
theorem Xz:pE.fn 289=some LL:=rfl
def XA:=@yT _ _ Xz rfl rfl
theorem XC:pE.fn 290=some Oi:=rfl
def rG:=@yT _ _ XC rfl rfl
theorem XD:pE.fn 294=some LM:=rfl
def agf:=@yT _ _ XD rfl rfl
theorem XE:pE.fn 299=some Oj:=rfl
def agh:=@yT _ _ XE rfl rfl
theorem XF:pE.fn 300=some Ok:=rfl
def nO:=@yT _ _ XF rfl rfl
theorem XG:pE.fn 301=some LN:=rfl
def XH:=@yT _ _ XG rfl rfl
theorem XI:pE.fn 302=some rE:=rfl
def XJ:=@yP _ _ XI rfl rfl
theorem XK:pE.fn 304=some LO:=rfl
def XL:=@yT _ _ XK rfl rfl
theorem XM:pE.fn 317=some LP:=rfl
def XN:=@yT _ _ XM rfl rfl
theorem OR:pE.fn 319=some HX:=rfl
def XP:=@yT _ _ OR rfl rfl
theorem OS:pE.fn 320=some LQ:=rfl
def JQ:=@yT _ _ OS rfl rfl
def XQ:=@yd _ _ OS rfl rfl
theorem XR:pE.fn 321=some Ol:=rfl
def XS:=@yT _ _ XR rfl rfl
theorem OT:pE.fn 322=some xE:=rfl
def XT:=@yT _ _ OT rfl rfl
def XU:=@yd _ _ OT rfl rfl
theorem JR:pE.fn 323=some BU:=rfl
def agi:=@yT _ _ JR rfl rfl
theorem OU:pE.fn 325=some HY:=rfl
def XV:=@yT _ _ OU rfl rfl
end Go.Proofs.YtblcbheipjeoeaaGreat
