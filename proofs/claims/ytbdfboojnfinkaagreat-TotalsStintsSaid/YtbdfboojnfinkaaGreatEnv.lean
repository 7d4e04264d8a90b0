/- The functions that the statement reaches, as one table. Conditions: none. -/
import Derived.Test.YtbdfboojnfinkaaGreatCoA
import Derived.Test.YtbdfboojnfinkaaGreatCoB
import Derived.Test.YtbdfboojnfinkaaGreatCoC
import Derived.Test.YtbdfboojnfinkaaGreatExt
import Derived.Test.YtbdfboojnfinkaaGreatEvG
set_option linter.unusedVariables false
namespace Go.Proofs.YtbdfboojnfinkaaGreat
open Go Go.Ev
def pET:Ea:=(.nd (.nd (.nd (.nd (.nd (.nd (.nd (.nd .nil 3 c3 .nil) 4 c4 (.nd .nil 5 c5 .nil)) 6 c6 (.nd (.nd .nil 7 c7 .nil) 8 c8 .nil)) 9 c9 (.nd (.nd (.nd .nil 10 vU .nil) 11 wT (.nd .nil 12 yG .nil)) 13 c13 (.nd (.nd .nil 14 Kg .nil) 15 c15 .nil))) 16 c16 (.nd (.nd (.nd (.nd .nil 17 WX .nil) 18 c18 (.nd .nil 19 c19 .nil)) 20 c20 (.nd (.nd .nil 21 c21 .nil) 22 c22 .nil)) 23 c23 (.nd (.nd (.nd .nil 24 c24 .nil) 25 c25 .nil) 26 c26 (.nd (.nd .nil 27 c27 .nil) 28 c28 .nil)))) 29 c29 (.nd (.nd (.nd (.nd (.nd .nil 30 c30 .nil) 31 c31 (.nd .nil 32 Hv .nil)) 33 c33 (.nd (.nd .nil 34 c34 .nil) 35 AE .nil)) 36 c36 (.nd (.nd (.nd .nil 37 Qr .nil) 38 c38 .nil) 39 c39 (.nd (.nd .nil 40 WY .nil) 41 c41 .nil))) 42 c42 (.nd (.nd (.nd (.nd .nil 43 c43 .nil) 44 c44 (.nd .nil 45 c45 .nil)) 46 c46 (.nd (.nd .nil 47 c47 .nil) 48 c48 .nil)) 49 c49 (.nd (.nd (.nd .nil 50 c50 .nil) 51 c51 .nil) 52 c52 (.nd (.nd .nil 53 c53 .nil) 54 c54 .nil))))) 55 c55 (.nd (.nd (.nd (.nd (.nd (.nd .nil 56 c56 .nil) 57 c57 (.nd .nil 58 c58 .nil)) 59 c59 (.nd (.nd .nil 60 c60 .nil) 61 c61 .nil)) 62 c62 (.nd (.nd (.nd .nil 63 c63 .nil) 64 c64 .nil) 65 c65 (.nd (.nd .nil 66 c66 .nil) 67 c67 .nil))) 68 c68 (.nd (.nd (.nd (.nd .nil 69 c69 .nil) 70 D5 (.nd .nil 71 c71 .nil)) 72 c72 (.nd (.nd .nil 73 c73 .nil) 74 c74 .nil)) 75 c75 (.nd (.nd (.nd .nil 76 Qs .nil) 77 c77 .nil) 78 c78 (.nd (.nd .nil 79 c79 .nil) 81 c81 .nil)))) 82 c82 (.nd (.nd (.nd (.nd (.nd .nil 83 c83 .nil) 84 c84 (.nd .nil 85 c85 .nil)) 86 c86 (.nd (.nd .nil 87 c87 .nil) 88 c88 .nil)) 89 c89 (.nd (.nd (.nd .nil 90 c90 .nil) 91 c91 .nil) 92 c92 (.nd (.nd .nil 93 c93 .nil) 94 c94 .nil))) 95 c95 (.nd (.nd (.nd (.nd .nil 96 c96 .nil) 97 c97 (.nd .nil 98 c98 .nil)) 99 c99 (.nd (.nd .nil 100 NT .nil) 101 QZ .nil)) 102 NV (.nd (.nd (.nd .nil 103 Q0 .nil) 104 NX .nil) 105 Q1 (.nd (.nd .nil 106 Q2 .nil) 107 NZ .nil)))))) 108 Q3 (.nd (.nd (.nd (.nd (.nd (.nd (.nd .nil 109 Q4 .nil) 110 Q5 (.nd .nil 111 Q6 .nil)) 112 N2 (.nd (.nd .nil 113 Q7 .nil) 114 Q8 .nil)) 115 Kh (.nd (.nd (.nd .nil 116 Q9 .nil) 117 N4 .nil) 118 Ra (.nd (.nd .nil 119 Rb .nil) 120 Rc .nil))) 121 Re (.nd (.nd (.nd (.nd .nil 122 N5 .nil) 123 HO (.nd .nil 124 w8 .nil)) 125 Rf (.nd (.nd .nil 126 Rg .nil) 127 Rh .nil)) 128 Fp (.nd (.nd (.nd .nil 129 Ri .nil) 130 aiQ .nil) 131 tN (.nd (.nd .nil 132 Ki .nil) 133 N7 .nil)))) 134 ug (.nd (.nd (.nd (.nd (.nd .nil 135 Rj .nil) 136 N9 (.nd .nil 140 Oa .nil)) 141 aiZ (.nd (.nd .nil 142 ai2 .nil) 143 ai4 .nil)) 144 ai6 (.nd (.nd (.nd .nil 145 ai8 .nil) 146 Kj .nil) 147 Rk (.nd (.nd .nil 148 Rl .nil) 149 Oe .nil))) 150 Rm (.nd (.nd (.nd (.nd .nil 151 Rn .nil) 152 Og (.nd .nil 153 Ro .nil)) 154 Ds (.nd (.nd .nil 155 Rp .nil) 156 Rq .nil)) 157 HQ (.nd (.nd (.nd .nil 158 Oj .nil) 159 Rr .nil) 160 Rs (.nd (.nd .nil 161 BO .nil) 162 Rt .nil))))) 163 Ol (.nd (.nd (.nd (.nd (.nd (.nd .nil 164 Rv .nil) 165 Rw (.nd .nil 166 vL .nil)) 167 Kk (.nd (.nd .nil 168 Rx .nil) 169 Om .nil)) 170 Ry (.nd (.nd (.nd .nil 171 Rz .nil) 172 Kl .nil) 173 Fq (.nd (.nd .nil 174 Km .nil) 175 On .nil))) 176 RA (.nd (.nd (.nd (.nd .nil 180 ajF .nil) 181 Oo (.nd .nil 182 ajI .nil)) 183 ajK (.nd (.nd .nil 184 Oq .nil) 185 Ot .nil)) 186 RB (.nd (.nd (.nd .nil 187 Ou .nil) 188 HR .nil) 189 RC (.nd (.nd .nil 190 RD .nil) 191 Ov .nil)))) 192 Ow (.nd (.nd (.nd (.nd (.nd .nil 193 rO .nil) 194 RE (.nd .nil 195 RF .nil)) 196 RG (.nd (.nd .nil 197 RH .nil) 198 Ox .nil)) 199 RI (.nd (.nd (.nd .nil 200 Oy .nil) 212 aj3 .nil) 213 aj5 (.nd (.nd .nil 214 RJ .nil) 215 Kn .nil))) 216 Oz (.nd (.nd (.nd (.nd .nil 217 OA .nil) 218 RK (.nd .nil 219 yX .nil)) 220 Dt (.nd (.nd .nil 227 ake .nil) 228 Ko .nil)) 230 akh (.nd (.nd (.nd .nil 232 akj .nil) 233 akl .nil) 238 akn (.nd (.nd .nil 241 akp .nil) 242 akr .nil)))))))
theorem adv:Ea.All (Fs Tryz.prog) pET:=⟨⟨⟨⟨⟨⟨⟨⟨trivial,kq3,trivial⟩,kq4,⟨trivial,kq5,trivial⟩⟩,kq6,⟨⟨trivial,kq7,trivial⟩,kq8,trivial⟩⟩,kq9,⟨⟨⟨trivial,are,trivial⟩,arf,⟨trivial,arh,trivial⟩⟩,ari,⟨⟨trivial,arj,trivial⟩,ark,trivial⟩⟩⟩,arl,⟨⟨⟨⟨trivial,arn,trivial⟩,aro,⟨trivial,arp,trivial⟩⟩,arq,⟨⟨trivial,art,trivial⟩,aru,trivial⟩⟩,arv,⟨⟨⟨trivial,arw,trivial⟩,arx,trivial⟩,ary,⟨⟨trivial,arz,trivial⟩,arA,trivial⟩⟩⟩⟩,arB,⟨⟨⟨⟨⟨trivial,arC,trivial⟩,arD,⟨trivial,arE,trivial⟩⟩,arF,⟨⟨trivial,arG,trivial⟩,arH,trivial⟩⟩,arI,⟨⟨⟨trivial,arJ,trivial⟩,arK,trivial⟩,arL,⟨⟨trivial,arM,trivial⟩,arN,trivial⟩⟩⟩,arO,⟨⟨⟨⟨trivial,arP,trivial⟩,arQ,⟨trivial,arR,trivial⟩⟩,arS,⟨⟨trivial,arT,trivial⟩,arU,trivial⟩⟩,arV,⟨⟨⟨trivial,arW,trivial⟩,arY,trivial⟩,ar0,⟨⟨trivial,ar1,trivial⟩,ar2,trivial⟩⟩⟩⟩⟩,ar3,⟨⟨⟨⟨⟨⟨trivial,ar4,trivial⟩,ar5,⟨trivial,ar6,trivial⟩⟩,ar7,⟨⟨trivial,ar8,trivial⟩,ar9,trivial⟩⟩,asa,⟨⟨⟨trivial,asb,trivial⟩,asc,trivial⟩,asd,⟨⟨trivial,ase,trivial⟩,asf,trivial⟩⟩⟩,asg,⟨⟨⟨⟨trivial,ash,trivial⟩,asi,⟨trivial,asj,trivial⟩⟩,asl,⟨⟨trivial,asm,trivial⟩,asn,trivial⟩⟩,aso,⟨⟨⟨trivial,asp,trivial⟩,asq,trivial⟩,asr,⟨⟨trivial,ass,trivial⟩,ast,trivial⟩⟩⟩⟩,asu,⟨⟨⟨⟨⟨trivial,asv,trivial⟩,asw,⟨trivial,asx,trivial⟩⟩,asy,⟨⟨trivial,asz,trivial⟩,asA,trivial⟩⟩,asB,⟨⟨⟨trivial,asC,trivial⟩,asD,trivial⟩,asE,⟨⟨trivial,asF,trivial⟩,asG,trivial⟩⟩⟩,asH,⟨⟨⟨⟨trivial,asI,trivial⟩,asJ,⟨trivial,asK,trivial⟩⟩,asL,⟨⟨trivial,aim,trivial⟩,ain,trivial⟩⟩,aio,⟨⟨⟨trivial,aip,trivial⟩,aiq,trivial⟩,air,⟨⟨trivial,ais,trivial⟩,ait,trivial⟩⟩⟩⟩⟩⟩,aiu,⟨⟨⟨⟨⟨⟨⟨trivial,aiv,trivial⟩,aiw,⟨trivial,aix,trivial⟩⟩,aiy,⟨⟨trivial,aiz,trivial⟩,aiA,trivial⟩⟩,aiB,⟨⟨⟨trivial,aiC,trivial⟩,aiD,trivial⟩,aiE,⟨⟨trivial,aiF,trivial⟩,aiG,trivial⟩⟩⟩,aiH,⟨⟨⟨⟨trivial,aiI,trivial⟩,aiJ,⟨trivial,aiK,trivial⟩⟩,aiL,⟨⟨trivial,aiM,trivial⟩,aiN,trivial⟩⟩,aiO,⟨⟨⟨trivial,aiP,trivial⟩,aiR,trivial⟩,aiS,⟨⟨trivial,aiT,trivial⟩,aiU,trivial⟩⟩⟩⟩,aiV,⟨⟨⟨⟨⟨trivial,aiW,trivial⟩,aiX,⟨trivial,aiY,trivial⟩⟩,ai0,⟨⟨trivial,ai3,trivial⟩,ai5,trivial⟩⟩,ai7,⟨⟨⟨trivial,ai9,trivial⟩,aja,trivial⟩,ajb,⟨⟨trivial,ajc,trivial⟩,ajd,trivial⟩⟩⟩,aje,⟨⟨⟨⟨trivial,ajf,trivial⟩,ajg,⟨trivial,ajh,trivial⟩⟩,aji,⟨⟨trivial,ajj,trivial⟩,ajk,trivial⟩⟩,ajl,⟨⟨⟨trivial,ajm,trivial⟩,ajn,trivial⟩,ajo,⟨⟨trivial,ajp,trivial⟩,ajq,trivial⟩⟩⟩⟩⟩,ajr,⟨⟨⟨⟨⟨⟨trivial,ajs,trivial⟩,ajt,⟨trivial,aju,trivial⟩⟩,ajv,⟨⟨trivial,ajw,trivial⟩,ajx,trivial⟩⟩,ajy,⟨⟨⟨trivial,ajz,trivial⟩,ajA,trivial⟩,ajB,⟨⟨trivial,ajC,trivial⟩,ajD,trivial⟩⟩⟩,ajE,⟨⟨⟨⟨trivial,ajG,trivial⟩,ajH,⟨trivial,ajJ,trivial⟩⟩,ajL,⟨⟨trivial,ajM,trivial⟩,ajN,trivial⟩⟩,ajO,⟨⟨⟨trivial,ajP,trivial⟩,ajQ,trivial⟩,ajR,⟨⟨trivial,ajS,trivial⟩,ajT,trivial⟩⟩⟩⟩,ajU,⟨⟨⟨⟨⟨trivial,ajV,trivial⟩,ajW,⟨trivial,ajX,trivial⟩⟩,ajY,⟨⟨trivial,ajZ,trivial⟩,aj0,trivial⟩⟩,aj1,⟨⟨⟨trivial,aj2,trivial⟩,aj4,trivial⟩,aj6,⟨⟨trivial,aj7,trivial⟩,aj8,trivial⟩⟩⟩,aj9,⟨⟨⟨⟨trivial,aka,trivial⟩,akb,⟨trivial,akc,trivial⟩⟩,akd,⟨⟨trivial,akf,trivial⟩,akg,trivial⟩⟩,aki,⟨⟨⟨trivial,akk,trivial⟩,akm,trivial⟩,ako,⟨⟨trivial,akq,trivial⟩,aks,trivial⟩⟩⟩⟩⟩⟩⟩
def pEx(f:Nat):Option (List T→Option T):=bif Nat.beq f 80 then some (sortedKeys 139)else bif Nat.beq f 231 then some idxE else none
def pEy(_:Nat):Option (List T→Option (List T×Option Nat)):=none
def pE:Env:=⟨pET.find,pEx,pEy⟩
theorem akt:tB Tryz.prog pE:=aku adv (fun f g h=>by
 unfold pEx at h
 cases hb:Nat.beq f 80 with
 |true=>rw[hb,cond_true]at h;cases h;rw[Nat.eq_of_beq_eq_true hb];exact Tryz.sortedOk
 |false=>
  rw[hb,cond_false]at h
  cases hc:Nat.beq f 231 with
  |true=>rw[hc,cond_true]at h;cases h;rw[Nat.eq_of_beq_eq_true hc];exact Tryz.idxOk
  |false=>rw[hc,cond_false]at h;cases h) (fun f g h=>by
 cases h)
section
variable{f j:Nat}{c:ig}(e:pE.fn f=some c)
include e
theorem Ww(he:c.eff=true): ∀{z:Nat} {fr:Fr} {lh:iz ib} {sh:List ib} {args:List T},args.all kept=true→je pE (hZ pE) z ⟨fr,lh,sh⟩ f args=(hZ pE f args sh).bind fun r=>some (r.1,⟨fr,lh,r.2⟩):=fun h=>OB e he h
theorem yEd(he:c.eff=true): ∀{n:Nat} {fr:Fr} {lh:iz ib} {sh:List ib} {u:List Nat} {d:Option Nat} {Wx:List iD} {ds:List (List Nat×be)} {jT:List FP},(Wx.map (rd fr)).all kept=true→iQ pE (hZ pE) n ((u,⟨d,.callf f Wx,none⟩)::ds) jT ⟨fr,lh,sh⟩=if meets u jT Eb=true then ke pE (hZ pE) n ds (jT++ [Eb]) (ij pE (hZ pE) n [⟨d,.callf f Wx,none⟩] ⟨fr,lh,sh⟩)else none:=fun h=>W6 e he h
theorem yE(he:c.eff=true): ∀{z:Nat} {fr:Fr} {lh:iz ib} {sh:List ib} {args:List T},je pE (hZ pE) z ⟨fr,lh,sh⟩ f args=(Dn lh sh true args).bind fun q=>(hZ pE f q.1 ((St.mk fr lh sh).ups q.2).sh).bind fun r=>some (r.1,{(St.mk fr lh sh).ups q.2 with sh:=r.2}):=RM e he
theorem yT(he:c.eff=false)(ho:c.own=none): ∀{z:Nat} {fr:Fr} {lh:iz ib} {sh:List ib} {args:List T},args.all froz=true→je pE (hZ pE) z ⟨fr,lh,sh⟩ f args=(hZ pE f args []).bind fun r=>some (r.1,⟨fr,lh,sh⟩):=fun h=>HT e he ho h
theorem yP(he:c.eff=false)(ho:c.own=none): ∀{z:Nat} {fr:Fr} {lh:iz ib} {sh:List ib} {args:List T},je pE (hZ pE) z ⟨fr,lh,sh⟩ f args=(Dn lh sh false args).bind fun q=>(hZ pE f q.1 []).bind fun r=>some (r.1,if scalar r.1=true then⟨fr,lh,sh⟩else(St.mk fr lh sh).ups q.2):=HU e he ho
theorem yd(he:c.eff=false)(ho:c.own=none): ∀{n:Nat} {fr:Fr} {lh:iz ib} {sh:List ib} {u:List Nat} {d:Option Nat} {Wx:List iD} {ds:List (List Nat×be)} {jT:List FP},(Wx.map (rd fr)).all froz=true→iQ pE (hZ pE) n ((u,⟨d,.callf f Wx,none⟩)::ds) jT ⟨fr,lh,sh⟩=ke pE (hZ pE) n ds (jT++ [oB]) (ij pE (hZ pE) n [⟨d,.callf f Wx,none⟩] ⟨fr,lh,sh⟩):=fun h=>adw e he ho h
theorem ye(he:c.eff=false)(ho:c.own=none): ∀{n:Nat} {fr:Fr} {lh:iz ib} {sh:List ib} {d:Option Nat} {Wx:List iD} {ds:List (List Nat×be)} {jT:List FP},noU ds=true→iQ pE (hZ pE) n (([],⟨d,.callf f Wx,none⟩)::ds) jT ⟨fr,lh,sh⟩=ke pE (hZ pE) n ds (jT++ [oB]) (ij pE (hZ pE) n [⟨d,.callf f Wx,none⟩] ⟨fr,lh,sh⟩):=fun h=>W7 e he ho h
theorem yOT(he:c.eff=false)(ho:c.own=some j): ∀{z:Nat} {fr:Fr} {lh:iz ib} {sh:List ib} {args:List T},args.all froz=true→je pE (hZ pE) z ⟨fr,lh,sh⟩ f args=(hZ pE f args []).bind fun r=>rn z j r.1 ⟨fr,lh,sh⟩ []:=fun h=>OC e he ho h
end
set_option linter.defProp false
theorem fn3:pE.fn 3=some c3:=rfl
theorem fn4:pE.fn 4=some c4:=rfl
def dc4:=@yT _ _ fn4 rfl rfl
theorem fn5:pE.fn 5=some c5:=rfl
def dc5:=@yOT _ _ _ fn5 rfl rfl
theorem fn6:pE.fn 6=some c6:=rfl
def dp6:=@yP _ _ fn6 rfl rfl
theorem fn7:pE.fn 7=some c7:=rfl
def dp7:=@yP _ _ fn7 rfl rfl
theorem fn8:pE.fn 8=some c8:=rfl
def dp8:=@yP _ _ fn8 rfl rfl
theorem HV:pE.fn 9=some c9:=rfl
def dp9:=@yP _ _ HV rfl rfl
theorem akw:pE.fn 10=some vU:=rfl
def akx:=@yT _ _ akw rfl rfl
theorem asN:pE.fn 11=some wT:=rfl
def aky:=@yT _ _ asN rfl rfl
theorem akz:pE.fn 12=some yG:=rfl
def rq:=@yT _ _ akz rfl rfl
theorem akA:pE.fn 13=some c13:=rfl
def W8:=@yT _ _ akA rfl rfl
theorem Kp:pE.fn 14=some Kg:=rfl
def RN:=@yT _ _ Kp rfl rfl
theorem adx:pE.fn 15=some c15:=rfl
def ady:=@yT _ _ adx rfl rfl
def asO:=@yd _ _ adx rfl rfl
theorem adz:pE.fn 16=some c16:=rfl
def RO:=@yT _ _ adz rfl rfl
def asP:=@yP _ _ adz rfl rfl
theorem W9:pE.fn 17=some WX:=rfl
def adA:=@yT _ _ W9 rfl rfl
theorem akB:pE.fn 18=some c18:=rfl
def akC:=@yT _ _ akB rfl rfl
theorem akD:pE.fn 19=some c19:=rfl
def asQ:=@yT _ _ akD rfl rfl
theorem adB:pE.fn 20=some c20:=rfl
def akE:=@yT _ _ adB rfl rfl
def asR:=@yd _ _ adB rfl rfl
theorem akF:pE.fn 21=some c21:=rfl
def akG:=@yT _ _ akF rfl rfl
theorem akH:pE.fn 22=some c22:=rfl
def asS:=@yT _ _ akH rfl rfl
theorem akI:pE.fn 23=some c23:=rfl
def asT:=@yT _ _ akI rfl rfl
theorem akJ:pE.fn 26=some c26:=rfl
def OD:=@yT _ _ akJ rfl rfl
theorem akK:pE.fn 27=some c27:=rfl
def asU:=@yT _ _ akK rfl rfl
theorem akL:pE.fn 28=some c28:=rfl
def asV:=@yT _ _ akL rfl rfl
theorem akM:pE.fn 29=some c29:=rfl
def adC:=@yT _ _ akM rfl rfl
theorem adD:pE.fn 30=some c30:=rfl
def akN:=@yT _ _ adD rfl rfl
theorem akO:pE.fn 31=some c31:=rfl
def asW:=@Ww _ _ akO rfl
theorem adE:pE.fn 32=some Hv:=rfl
def qI:=@Ww _ _ adE rfl
def rv:=@yEd _ _ adE rfl
theorem adF:pE.fn 33=some c33:=rfl
def akP:=@yT _ _ adF rfl rfl
def akQ:=@yP _ _ adF rfl rfl
theorem akR:pE.fn 34=some c34:=rfl
def asY:=@yT _ _ akR rfl rfl
theorem adG:pE.fn 35=some AE:=rfl
def asZ:=@yT _ _ adG rfl rfl
def as0:=@yd _ _ adG rfl rfl
theorem akS:pE.fn 36=some c36:=rfl
def as1:=@yT _ _ akS rfl rfl
theorem as2:pE.fn 37=some Qr:=rfl
def RP:=@yT _ _ as2 rfl rfl
theorem akT:pE.fn 38=some c38:=rfl
def as3:=@yT _ _ akT rfl rfl
theorem adH:pE.fn 39=some c39:=rfl
def as4:=@yT _ _ adH rfl rfl
def as5:=@yd _ _ adH rfl rfl
theorem Xa:pE.fn 40=some WY:=rfl
def akU:=@yT _ _ Xa rfl rfl
def as6:=@yd _ _ Xa rfl rfl
theorem adI:pE.fn 41=some c41:=rfl
def akV:=@yT _ _ adI rfl rfl
def akW:=@yd _ _ adI rfl rfl
theorem adJ:pE.fn 42=some c42:=rfl
def akX:=@yT _ _ adJ rfl rfl
def akY:=@yd _ _ adJ rfl rfl
theorem adL:pE.fn 43=some c43:=rfl
def as7:=@yT _ _ adL rfl rfl
def as8:=@yd _ _ adL rfl rfl
theorem akZ:pE.fn 44=some c44:=rfl
def as9:=@yT _ _ akZ rfl rfl
theorem adM:pE.fn 45=some c45:=rfl
def ata:=@yT _ _ adM rfl rfl
theorem ak0:pE.fn 46=some c46:=rfl
def atb:=@yT _ _ ak0 rfl rfl
theorem ak1:pE.fn 47=some c47:=rfl
def adN:=@yT _ _ ak1 rfl rfl
theorem atc:pE.fn 50=some c50:=rfl
def atd:=@yT _ _ atc rfl rfl
theorem ate:pE.fn 51=some c51:=rfl
def atf:=@yT _ _ ate rfl rfl
theorem atg:pE.fn 52=some c52:=rfl
def ath:=@yE _ _ atg rfl
theorem Xb:pE.fn 53=some c53:=rfl
def ak2:=@yT _ _ Xb rfl rfl
def ati:=@yP _ _ Xb rfl rfl
theorem ak3:pE.fn 54=some c54:=rfl
def atj:=@yT _ _ ak3 rfl rfl
theorem adO:pE.fn 55=some c55:=rfl
def atk:=@yT _ _ adO rfl rfl
theorem ak4:pE.fn 56=some c56:=rfl
def Xc:=@yT _ _ ak4 rfl rfl
theorem ak5:pE.fn 57=some c57:=rfl
def ak6:=@yT _ _ ak5 rfl rfl
theorem ak7:pE.fn 58=some c58:=rfl
def ak8:=@yP _ _ ak7 rfl rfl
theorem adP:pE.fn 59=some c59:=rfl
def atl:=@yT _ _ adP rfl rfl
def atm:=@yd _ _ adP rfl rfl
theorem adQ:pE.fn 60=some c60:=rfl
def ak9:=@yT _ _ adQ rfl rfl
theorem ala:pE.fn 61=some c61:=rfl
def atn:=@Ww _ _ ala rfl
theorem alb:pE.fn 62=some c62:=rfl
def RQ:=@yT _ _ alb rfl rfl
theorem alc:pE.fn 63=some c63:=rfl
def ald:=@Ww _ _ alc rfl
theorem ale:pE.fn 64=some c64:=rfl
def adR:=@Ww _ _ ale rfl
theorem alf:pE.fn 65=some c65:=rfl
def Xd:=@Ww _ _ alf rfl
theorem adS:pE.fn 66=some c66:=rfl
def HW:=@yT _ _ adS rfl rfl
def alg:=@yd _ _ adS rfl rfl
theorem alh:pE.fn 67=some c67:=rfl
def ali:=@yP _ _ alh rfl rfl
theorem adT:pE.fn 68=some c68:=rfl
def ato:=@Ww _ _ adT rfl
def atp:=@yEd _ _ adT rfl
theorem adU:pE.fn 69=some c69:=rfl
def adV:=@yT _ _ adU rfl rfl
def atq:=@yd _ _ adU rfl rfl
theorem Xe:pE.fn 70=some D5:=rfl
def Ft:=@yT _ _ Xe rfl rfl
def atr:=@yP _ _ Xe rfl rfl
def alj:=@yd _ _ Xe rfl rfl
theorem adW:pE.fn 71=some c71:=rfl
def alk:=@yT _ _ adW rfl rfl
def alm:=@yd _ _ adW rfl rfl
theorem aln:pE.fn 72=some c72:=rfl
def alo:=@yT _ _ aln rfl rfl
theorem adX:pE.fn 73=some c73:=rfl
def RR:=@yT _ _ adX rfl rfl
def alp:=@yd _ _ adX rfl rfl
theorem adY:pE.fn 74=some c74:=rfl
def alq:=@yT _ _ adY rfl rfl
def alr:=@yd _ _ adY rfl rfl
theorem als:pE.fn 75=some c75:=rfl
def Kq:=@yT _ _ als rfl rfl
theorem OE:pE.fn 76=some Qs:=rfl
def adZ:=@yT _ _ OE rfl rfl
def ats:=@yP _ _ OE rfl rfl
def att:=@yd _ _ OE rfl rfl
def atu:=@ye _ _ OE rfl rfl
theorem ad0:pE.fn 77=some c77:=rfl
def atv:=@yT _ _ ad0 rfl rfl
def atw:=@yd _ _ ad0 rfl rfl
theorem alu:pE.fn 79=some c79:=rfl
def alv:=@yT _ _ alu rfl rfl
theorem alw:pE.fn 91=some c91:=rfl
def atx:=@yT _ _ alw rfl rfl
theorem alx:pE.fn 92=some c92:=rfl
def OF:=@yT _ _ alx rfl rfl
theorem aly:pE.fn 93=some c93:=rfl
def RS:=@yT _ _ aly rfl rfl
theorem alz:pE.fn 94=some c94:=rfl
def HX:=@yT _ _ alz rfl rfl
theorem alA:pE.fn 95=some c95:=rfl
def aty:=@yT _ _ alA rfl rfl
theorem alB:pE.fn 96=some c96:=rfl
def ad1:=@yT _ _ alB rfl rfl
theorem ad2:pE.fn 97=some c97:=rfl
def ad3:=@yT _ _ ad2 rfl rfl
def alC:=@yd _ _ ad2 rfl rfl
theorem alD:pE.fn 98=some c98:=rfl
def atz:=@yT _ _ alD rfl rfl
theorem ad4:pE.fn 99=some c99:=rfl
def Xf:=@yT _ _ ad4 rfl rfl
def atA:=@yd _ _ ad4 rfl rfl
theorem aav:pE.fn 100=some NT:=rfl
def alE:=@yT _ _ aav rfl rfl
theorem aaw:pE.fn 101=some QZ:=rfl
def alF:=@yT _ _ aaw rfl rfl
theorem RT:pE.fn 102=some NV:=rfl
def L3:=@yT _ _ RT rfl rfl
def RU:=@yd _ _ RT rfl rfl
theorem RV:pE.fn 103=some Q0:=rfl
def RW:=@yT _ _ RV rfl rfl
def RX:=@yd _ _ RV rfl rfl
theorem aax:pE.fn 104=some NX:=rfl
def HY:=@yT _ _ aax rfl rfl
theorem aay:pE.fn 105=some Q1:=rfl
def L4:=@yT _ _ aay rfl rfl
theorem aaz:pE.fn 106=some Q2:=rfl
def RY:=@yT _ _ aaz rfl rfl
theorem aaA:pE.fn 107=some NZ:=rfl
def alG:=@yT _ _ aaA rfl rfl
theorem aaB:pE.fn 108=some Q3:=rfl
def HZ:=@yT _ _ aaB rfl rfl
theorem aaC:pE.fn 109=some Q4:=rfl
def alH:=@yT _ _ aaC rfl rfl
theorem aaD:pE.fn 110=some Q5:=rfl
def alI:=@yT _ _ aaD rfl rfl
theorem aaE:pE.fn 111=some Q6:=rfl
def RZ:=@yT _ _ aaE rfl rfl
theorem aaF:pE.fn 112=some N2:=rfl
def alJ:=@yT _ _ aaF rfl rfl
theorem aaG:pE.fn 113=some Q7:=rfl
def alK:=@yT _ _ aaG rfl rfl
theorem aaH:pE.fn 114=some Q8:=rfl
def L5:=@yT _ _ aaH rfl rfl
theorem aaI:pE.fn 115=some Kh:=rfl
def alM:=@yT _ _ aaI rfl rfl
theorem aaJ:pE.fn 116=some Q9:=rfl
def alN:=@yT _ _ aaJ rfl rfl
theorem aaK:pE.fn 117=some N4:=rfl
def H0:=@Ww _ _ aaK rfl
theorem aaL:pE.fn 118=some Ra:=rfl
def aaM:=@yT _ _ aaL rfl rfl
theorem R5:pE.fn 119=some Rb:=rfl
def aaN:=@yT _ _ R5 rfl rfl
def aaO:=@yd _ _ R5 rfl rfl
theorem aaP:pE.fn 120=some Rc:=rfl
def R6:=@yT _ _ aaP rfl rfl
theorem R7:pE.fn 121=some Re:=rfl
def L6:=@yT _ _ R7 rfl rfl
def alO:=@yd _ _ R7 rfl rfl
theorem R8:pE.fn 122=some N5:=rfl
def alP:=@yT _ _ R8 rfl rfl
def alQ:=@yd _ _ R8 rfl rfl
theorem aaQ:pE.fn 123=some HO:=rfl
def R9:=@yT _ _ aaQ rfl rfl
theorem Sa:pE.fn 124=some w8:=rfl
def alR:=@yT _ _ Sa rfl rfl
def alS:=@yd _ _ Sa rfl rfl
theorem aaR:pE.fn 125=some Rf:=rfl
def alT:=@yT _ _ aaR rfl rfl
theorem aaS:pE.fn 126=some Rg:=rfl
def alU:=@yT _ _ aaS rfl rfl
theorem aaT:pE.fn 127=some Rh:=rfl
def L7:=@yT _ _ aaT rfl rfl
theorem Sb:pE.fn 128=some Fp:=rfl
def Sc:=@yT _ _ Sb rfl rfl
theorem aaU:pE.fn 129=some Ri:=rfl
def alV:=@yT _ _ aaU rfl rfl
theorem BP:pE.fn 131=some tN:=rfl
def vV:=@yT _ _ BP rfl rfl
theorem aaV:pE.fn 132=some Ki:=rfl
def alW:=@yT _ _ aaV rfl rfl
theorem aaW:pE.fn 133=some N7:=rfl
def L8:=@yT _ _ aaW rfl rfl
theorem Sd:pE.fn 134=some ug:=rfl
def L9:=@yP _ _ Sd rfl rfl
theorem aaX:pE.fn 135=some Rj:=rfl
def alX:=@yT _ _ aaX rfl rfl
theorem aaY:pE.fn 136=some N9:=rfl
def aaZ:=@yT _ _ aaY rfl rfl
theorem aa0:pE.fn 140=some Oa:=rfl
def aa1:=@yT _ _ aa0 rfl rfl
theorem aa2:pE.fn 146=some Kj:=rfl
def Ec:=@yT _ _ aa2 rfl rfl
theorem aa3:pE.fn 147=some Rk:=rfl
def alY:=@yT _ _ aa3 rfl rfl
theorem aa4:pE.fn 148=some Rl:=rfl
def Se:=@yT _ _ aa4 rfl rfl
theorem aa5:pE.fn 149=some Oe:=rfl
def aa6:=@yT _ _ aa5 rfl rfl
theorem aa7:pE.fn 150=some Rm:=rfl
def Ma:=@yT _ _ aa7 rfl rfl
theorem aa8:pE.fn 151=some Rn:=rfl
def Sf:=@yT _ _ aa8 rfl rfl
theorem aa9:pE.fn 152=some Og:=rfl
def aba:=@yT _ _ aa9 rfl rfl
theorem abb:pE.fn 153=some Ro:=rfl
def abc:=@yT _ _ abb rfl rfl
theorem H2:pE.fn 154=some Ds:=rfl
def Sg:=@yT _ _ H2 rfl rfl
def alZ:=@yP _ _ H2 rfl rfl
def Sh:=@yd _ _ H2 rfl rfl
def al6:=@ye _ _ H2 rfl rfl
theorem Si:pE.fn 155=some Rp:=rfl
def al7:=@yT _ _ Si rfl rfl
def al8:=@yd _ _ Si rfl rfl
theorem abd:pE.fn 156=some Rq:=rfl
def xg:=@yT _ _ abd rfl rfl
theorem abe:pE.fn 157=some HQ:=rfl
def Mb:=@Ww _ _ abe rfl
theorem abf:pE.fn 158=some Oj:=rfl
def abg:=@yT _ _ abf rfl rfl
theorem abh:pE.fn 159=some Rr:=rfl
def al9:=@yT _ _ abh rfl rfl
theorem abi:pE.fn 160=some Rs:=rfl
def Sj:=@yT _ _ abi rfl rfl
theorem abj:pE.fn 161=some BO:=rfl
def Sk:=@Ww _ _ abj rfl
theorem abk:pE.fn 162=some Rt:=rfl
def ama:=@yT _ _ abk rfl rfl
theorem abl:pE.fn 163=some Ol:=rfl
def amb:=@yT _ _ abl rfl rfl
theorem abm:pE.fn 164=some Rv:=rfl
def amc:=@yT _ _ abm rfl rfl
theorem abn:pE.fn 165=some Rw:=rfl
def H3:=@yT _ _ abn rfl rfl
theorem abo:pE.fn 166=some vL:=rfl
def abp:=@yT _ _ abo rfl rfl
theorem abq:pE.fn 167=some Kk:=rfl
def amd:=@yT _ _ abq rfl rfl
theorem abr:pE.fn 168=some Rx:=rfl
def ame:=@yT _ _ abr rfl rfl
theorem abt:pE.fn 169=some Om:=rfl
def amf:=@yT _ _ abt rfl rfl
theorem abu:pE.fn 170=some Ry:=rfl
def amg:=@yT _ _ abu rfl rfl
theorem Sl:pE.fn 171=some Rz:=rfl
def abv:=@yT _ _ Sl rfl rfl
def abw:=@yd _ _ Sl rfl rfl
theorem Sm:pE.fn 172=some Kl:=rfl
def BQ:=@yT _ _ Sm rfl rfl
theorem Sn:pE.fn 173=some Fq:=rfl
def abx:=@yT _ _ Sn rfl rfl
def amh:=@yd _ _ Sn rfl rfl
theorem Sq:pE.fn 174=some Km:=rfl
def ami:=@yT _ _ Sq rfl rfl
def amj:=@yd _ _ Sq rfl rfl
theorem Sr:pE.fn 175=some On:=rfl
def amk:=@yT _ _ Sr rfl rfl
def aml:=@yd _ _ Sr rfl rfl
theorem Ss:pE.fn 176=some RA:=rfl
def amm:=@yT _ _ Ss rfl rfl
def amn:=@yd _ _ Ss rfl rfl
theorem aby:pE.fn 181=some Oo:=rfl
def abz:=@yT _ _ aby rfl rfl
theorem abA:pE.fn 184=some Oq:=rfl
def Su:=@yT _ _ abA rfl rfl
theorem abB:pE.fn 185=some Ot:=rfl
def Sv:=@yT _ _ abB rfl rfl
theorem abC:pE.fn 186=some RB:=rfl
def amo:=@yT _ _ abC rfl rfl
theorem abD:pE.fn 187=some Ou:=rfl
def amp:=@yT _ _ abD rfl rfl
theorem abE:pE.fn 188=some HR:=rfl
def abF:=@yP _ _ abE rfl rfl
theorem abG:pE.fn 189=some RC:=rfl
def amq:=@yT _ _ abG rfl rfl
theorem abH:pE.fn 190=some RD:=rfl
def amr:=@yT _ _ abH rfl rfl
theorem abI:pE.fn 191=some Ov:=rfl
def ams:=@yT _ _ abI rfl rfl
theorem abJ:pE.fn 192=some Ow:=rfl
def amt:=@yT _ _ abJ rfl rfl
theorem abK:pE.fn 193=some rO:=rfl
def abL:=@yP _ _ abK rfl rfl
theorem abM:pE.fn 194=some RE:=rfl
def amu:=@yT _ _ abM rfl rfl
theorem abN:pE.fn 195=some RF:=rfl
def amv:=@yT _ _ abN rfl rfl
theorem abO:pE.fn 196=some RG:=rfl
def amw:=@yT _ _ abO rfl rfl
theorem abP:pE.fn 197=some RH:=rfl
def tE:=@yT _ _ abP rfl rfl
theorem abQ:pE.fn 198=some Ox:=rfl
def tF:=@yT _ _ abQ rfl rfl
theorem abR:pE.fn 199=some RI:=rfl
def amx:=@yT _ _ abR rfl rfl
theorem abS:pE.fn 200=some Oy:=rfl
def abT:=@yT _ _ abS rfl rfl
theorem abU:pE.fn 214=some RJ:=rfl
def Mc:=@yT _ _ abU rfl rfl
theorem Sw:pE.fn 215=some Kn:=rfl
def abV:=@yT _ _ Sw rfl rfl
theorem abW:pE.fn 216=some Oz:=rfl
def abX:=@yT _ _ abW rfl rfl
theorem Sx:pE.fn 217=some OA:=rfl
def Md:=@yT _ _ Sx rfl rfl
def abY:=@yd _ _ Sx rfl rfl
theorem abZ:pE.fn 218=some RK:=rfl
def ab0:=@yT _ _ abZ rfl rfl
theorem Sy:pE.fn 219=some yX:=rfl
def ab1:=@yT _ _ Sy rfl rfl
def ab2:=@yd _ _ Sy rfl rfl
theorem Me:pE.fn 220=some Dt:=rfl
def amy:=@yT _ _ Me rfl rfl
theorem Sz:pE.fn 228=some Ko:=rfl
def ab3:=@yT _ _ Sz rfl rfl
end Go.Proofs.YtbdfboojnfinkaaGreat
