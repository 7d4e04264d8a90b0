/- The functions that the statement reaches, as one table. Conditions: none. -/
import Derived.Test.YtcpceiclnbmgiaaGreatCoA
import Derived.Test.YtcpceiclnbmgiaaGreatCoB
import Derived.Test.YtcpceiclnbmgiaaGreatCoC
import Derived.Test.YtcpceiclnbmgiaaGreatExt
import Derived.Test.YtcpceiclnbmgiaaGreatEvG
set_option linter.unusedVariables false
namespace Go.Proofs.YtcpceiclnbmgiaaGreat
open Go Go.Ev
def pET:F4:=(.nd (.nd (.nd (.nd (.nd (.nd (.nd (.nd .nil 6 c6 .nil) 7 c7 .nil) 8 c8 (.nd (.nd .nil 10 FV .nil) 13 c13 .nil)) 14 c14 (.nd (.nd (.nd .nil 15 c15 .nil) 16 c16 .nil) 17 c17 (.nd .nil 18 c18 .nil))) 19 c19 (.nd (.nd (.nd (.nd .nil 20 c20 .nil) 21 c21 .nil) 22 c22 (.nd (.nd .nil 23 ZY .nil) 24 c24 .nil)) 25 c25 (.nd (.nd (.nd .nil 27 c27 .nil) 28 c28 .nil) 29 c29 (.nd .nil 37 N6 .nil)))) 38 c38 (.nd (.nd (.nd (.nd (.nd .nil 39 c39 .nil) 40 c40 .nil) 41 c41 (.nd (.nd .nil 42 c42 .nil) 43 c43 .nil)) 44 c44 (.nd (.nd (.nd .nil 45 c45 .nil) 46 c46 .nil) 47 c47 (.nd .nil 48 c48 .nil))) 49 c49 (.nd (.nd (.nd (.nd .nil 50 To .nil) 51 c51 .nil) 52 Jd (.nd (.nd .nil 53 c53 .nil) 54 c54 .nil)) 55 c55 (.nd (.nd (.nd .nil 56 c56 .nil) 57 c57 .nil) 58 c58 (.nd .nil 59 c59 .nil))))) 67 c67 (.nd (.nd (.nd (.nd (.nd (.nd .nil 68 c68 .nil) 69 c69 .nil) 70 c70 (.nd (.nd .nil 71 c71 .nil) 72 FW .nil)) 73 c73 (.nd (.nd (.nd .nil 74 c74 .nil) 75 c75 .nil) 76 c76 (.nd .nil 77 c77 .nil))) 78 c78 (.nd (.nd (.nd (.nd .nil 79 ZZ .nil) 80 c80 .nil) 81 c81 (.nd (.nd .nil 82 c82 .nil) 83 c83 .nil)) 84 c84 (.nd (.nd (.nd .nil 85 c85 .nil) 86 c86 .nil) 87 c87 (.nd .nil 88 c88 .nil)))) 89 c89 (.nd (.nd (.nd (.nd (.nd .nil 90 c90 .nil) 91 c91 .nil) 92 c92 (.nd (.nd .nil 93 c93 .nil) 94 c94 .nil)) 95 c95 (.nd (.nd (.nd .nil 96 c96 .nil) 97 c97 .nil) 98 c98 (.nd .nil 99 c99 .nil))) 100 TA (.nd (.nd (.nd (.nd .nil 107 TB .nil) 108 am6 .nil) 109 TC (.nd (.nd .nil 110 TD .nil) 111 Qp .nil)) 112 JA (.nd (.nd (.nd .nil 113 xV .nil) 114 Qq .nil) 115 TE (.nd .nil 116 TF .nil)))))) 117 TG (.nd (.nd (.nd (.nd (.nd (.nd (.nd .nil 118 TH .nil) 119 anj .nil) 120 anl (.nd (.nd .nil 121 ann .nil) 122 TI .nil)) 123 anq (.nd (.nd (.nd .nil 124 TJ .nil) 125 Qr .nil) 126 agA (.nd .nil 127 JB .nil))) 128 TK (.nd (.nd (.nd (.nd .nil 129 TL .nil) 130 TM .nil) 131 L3 (.nd (.nd .nil 132 TN .nil) 133 Qu .nil)) 134 TO (.nd (.nd (.nd .nil 135 TP .nil) 136 Qw .nil) 137 TQ (.nd .nil 138 TR .nil)))) 139 TS (.nd (.nd (.nd (.nd (.nd .nil 140 TT .nil) 141 Qz .nil) 142 TU (.nd (.nd .nil 143 TV .nil) 144 L4 .nil)) 145 TW (.nd (.nd (.nd .nil 146 QB .nil) 162 vX .nil) 163 L5 (.nd .nil 164 TX .nil))) 165 QC (.nd (.nd (.nd (.nd .nil 166 TY .nil) 167 TZ .nil) 168 QD (.nd (.nd .nil 169 QE .nil) 170 anY .nil)) 171 an0 (.nd (.nd (.nd .nil 172 an2 .nil) 173 an4 .nil) 174 an6 (.nd .nil 175 L6 .nil))))) 176 T0 (.nd (.nd (.nd (.nd (.nd (.nd .nil 177 T1 .nil) 178 QH .nil) 179 T2 (.nd (.nd .nil 180 JC .nil) 181 QJ .nil)) 182 T3 (.nd (.nd (.nd .nil 183 T4 .nil) 184 C8 .nil) 199 T5 (.nd .nil 200 QK .nil))) 201 T6 (.nd (.nd (.nd (.nd .nil 202 T7 .nil) 203 T8 .nil) 204 aon (.nd (.nd .nil 205 QL .nil) 206 aor .nil)) 207 aot (.nd (.nd (.nd .nil 208 QM .nil) 209 QN .nil) 210 T9 (.nd .nil 211 QO .nil)))) 212 Ua (.nd (.nd (.nd (.nd (.nd .nil 213 Ub .nil) 214 QP .nil) 215 QQ (.nd (.nd .nil 216 si .nil) 225 aoE .nil)) 226 aoG (.nd (.nd (.nd .nil 227 L7 .nil) 228 QR .nil) 229 QS (.nd .nil 230 Uc .nil))) 231 Aq (.nd (.nd (.nd (.nd .nil 232 Fa .nil) 240 aoO .nil) 241 L8 (.nd .nil 252 aoR .nil)) 260 aoT (.nd (.nd (.nd .nil 261 aoV .nil) 268 aoX .nil) 272 aoZ (.nd .nil 273 ao1 .nil)))))))
theorem agB:F4.All (G8 Tryz.prog) pET:=⟨⟨⟨⟨⟨⟨⟨⟨trivial,kq6,trivial⟩,kq7,trivial⟩,kq8,⟨⟨trivial,avU,trivial⟩,avV,trivial⟩⟩,avW,⟨⟨⟨trivial,avX,trivial⟩,avY,trivial⟩,avZ,⟨trivial,av0,trivial⟩⟩⟩,av1,⟨⟨⟨⟨trivial,av2,trivial⟩,av3,trivial⟩,av4,⟨⟨trivial,av5,trivial⟩,av6,trivial⟩⟩,av7,⟨⟨⟨trivial,av8,trivial⟩,av9,trivial⟩,awa,⟨trivial,awb,trivial⟩⟩⟩⟩,awc,⟨⟨⟨⟨⟨trivial,awd,trivial⟩,awe,trivial⟩,awf,⟨⟨trivial,awg,trivial⟩,awh,trivial⟩⟩,awi,⟨⟨⟨trivial,awj,trivial⟩,awk,trivial⟩,awl,⟨trivial,awm,trivial⟩⟩⟩,awn,⟨⟨⟨⟨trivial,awo,trivial⟩,awp,trivial⟩,awq,⟨⟨trivial,awr,trivial⟩,aws,trivial⟩⟩,awt,⟨⟨⟨trivial,awu,trivial⟩,awv,trivial⟩,aww,⟨trivial,awx,trivial⟩⟩⟩⟩⟩,awy,⟨⟨⟨⟨⟨⟨trivial,awz,trivial⟩,awA,trivial⟩,awB,⟨⟨trivial,awC,trivial⟩,awD,trivial⟩⟩,awE,⟨⟨⟨trivial,awF,trivial⟩,awG,trivial⟩,awH,⟨trivial,awI,trivial⟩⟩⟩,awK,⟨⟨⟨⟨trivial,awL,trivial⟩,awM,trivial⟩,awN,⟨⟨trivial,awO,trivial⟩,awP,trivial⟩⟩,awQ,⟨⟨⟨trivial,awR,trivial⟩,awS,trivial⟩,awT,⟨trivial,awU,trivial⟩⟩⟩⟩,awV,⟨⟨⟨⟨⟨trivial,awW,trivial⟩,awX,trivial⟩,awY,⟨⟨trivial,aw0,trivial⟩,aw1,trivial⟩⟩,aw2,⟨⟨⟨trivial,aw3,trivial⟩,aw4,trivial⟩,aw5,⟨trivial,aw6,trivial⟩⟩⟩,am4,⟨⟨⟨⟨trivial,am5,trivial⟩,am7,trivial⟩,am8,⟨⟨trivial,am9,trivial⟩,ana,trivial⟩⟩,anb,⟨⟨⟨trivial,anc,trivial⟩,ane,trivial⟩,anf,⟨trivial,ang,trivial⟩⟩⟩⟩⟩⟩,anh,⟨⟨⟨⟨⟨⟨⟨trivial,ani,trivial⟩,ank,trivial⟩,anm,⟨⟨trivial,ano,trivial⟩,anp,trivial⟩⟩,anr,⟨⟨⟨trivial,ans,trivial⟩,ant,trivial⟩,anu,⟨trivial,anv,trivial⟩⟩⟩,anw,⟨⟨⟨⟨trivial,anx,trivial⟩,anz,trivial⟩,anA,⟨⟨trivial,anB,trivial⟩,anC,trivial⟩⟩,anD,⟨⟨⟨trivial,anE,trivial⟩,anF,trivial⟩,anG,⟨trivial,anH,trivial⟩⟩⟩⟩,anI,⟨⟨⟨⟨⟨trivial,anJ,trivial⟩,anK,trivial⟩,anL,⟨⟨trivial,anM,trivial⟩,anN,trivial⟩⟩,anO,⟨⟨⟨trivial,anP,trivial⟩,anQ,trivial⟩,anR,⟨trivial,anS,trivial⟩⟩⟩,anT,⟨⟨⟨⟨trivial,anU,trivial⟩,anV,trivial⟩,anW,⟨⟨trivial,anX,trivial⟩,anZ,trivial⟩⟩,an1,⟨⟨⟨trivial,an3,trivial⟩,an5,trivial⟩,an7,⟨trivial,an8,trivial⟩⟩⟩⟩⟩,an9,⟨⟨⟨⟨⟨⟨trivial,aoa,trivial⟩,aob,trivial⟩,aoc,⟨⟨trivial,aod,trivial⟩,aoe,trivial⟩⟩,aof,⟨⟨⟨trivial,aog,trivial⟩,aoh,trivial⟩,aoi,⟨trivial,aoj,trivial⟩⟩⟩,aok,⟨⟨⟨⟨trivial,aol,trivial⟩,aom,trivial⟩,aoo,⟨⟨trivial,aoq,trivial⟩,aos,trivial⟩⟩,aou,⟨⟨⟨trivial,aov,trivial⟩,aow,trivial⟩,aox,⟨trivial,aoy,trivial⟩⟩⟩⟩,aoz,⟨⟨⟨⟨⟨trivial,aoA,trivial⟩,aoB,trivial⟩,aoC,⟨⟨trivial,aoD,trivial⟩,aoF,trivial⟩⟩,aoH,⟨⟨⟨trivial,aoI,trivial⟩,aoJ,trivial⟩,aoK,⟨trivial,aoL,trivial⟩⟩⟩,aoM,⟨⟨⟨⟨trivial,aoN,trivial⟩,aoP,trivial⟩,aoQ,⟨trivial,aoS,trivial⟩⟩,aoU,⟨⟨⟨trivial,aoW,trivial⟩,aoY,trivial⟩,ao0,⟨trivial,ao2,trivial⟩⟩⟩⟩⟩⟩⟩
def pEx(f:Nat):Option (List T→Option T):=bif Nat.beq f 253 then some idxE else none
def pEy(_:Nat):Option (List T→Option (List T×Option Nat)):=none
def pE:Env:=⟨pET.find,pEx,pEy⟩
theorem ao3:tY Tryz.prog pE:=ao4 agB (fun f g h=>by
 unfold pEx at h
 cases hc:Nat.beq f 253 with
 |true=>rw[hc,cond_true]at h;cases h;rw[Nat.eq_of_beq_eq_true hc];exact Tryz.idxOk
 |false=>rw[hc,cond_false]at h;cases h) (fun f g h=>by
 cases h)
section
variable{f j:Nat}{c:ij}(e:pE.fn f=some c)
include e
theorem Ue(he:c.eff=true): ∀{z:Nat} {fr:Fr} {lh:iw b8} {sh:List b8} {args:List T},args.all kept=true→jf pE (be pE) z ⟨fr,lh,sh⟩ f args=(be pE f args sh).bind fun r=>some (r.1,⟨fr,lh,r.2⟩):=fun h=>QT e he h
theorem yEd(he:c.eff=true): ∀{n:Nat} {fr:Fr} {lh:iw b8} {sh:List b8} {u:List Nat} {d:Option Nat} {opl:List iF} {ds:List (List Nat×dy)} {jJ:List FP},(opl.map (rd fr)).all kept=true→iN pE (be pE) n ((u,⟨d,.callf f opl,none⟩)::ds) jJ ⟨fr,lh,sh⟩=if meets u jJ F5=true then ke pE (be pE) n ds (jJ++ [F5]) (dE pE (be pE) n [⟨d,.callf f opl,none⟩] ⟨fr,lh,sh⟩)else none:=fun h=>Z6 e he h
theorem yE(he:c.eff=true): ∀{z:Nat} {fr:Fr} {lh:iw b8} {sh:List b8} {args:List T},jf pE (be pE) z ⟨fr,lh,sh⟩ f args=(B4 lh sh true args).bind fun q=>(be pE f q.1 ((St.mk fr lh sh).ups q.2).sh).bind fun r=>some (r.1,{(St.mk fr lh sh).ups q.2 with sh:=r.2}):=Uf e he
theorem yT(he:c.eff=false)(ho:c.own=none): ∀{z:Nat} {fr:Fr} {lh:iw b8} {sh:List b8} {args:List T},args.all froz=true→jf pE (be pE) z ⟨fr,lh,sh⟩ f args=(be pE f args []).bind fun r=>some (r.1,⟨fr,lh,sh⟩):=fun h=>JD e he ho h
theorem yP(he:c.eff=false)(ho:c.own=none): ∀{z:Nat} {fr:Fr} {lh:iw b8} {sh:List b8} {args:List T},jf pE (be pE) z ⟨fr,lh,sh⟩ f args=(B4 lh sh false args).bind fun q=>(be pE f q.1 []).bind fun r=>some (r.1,if scalar r.1=true then⟨fr,lh,sh⟩else(St.mk fr lh sh).ups q.2):=JE e he ho
theorem yd(he:c.eff=false)(ho:c.own=none): ∀{n:Nat} {fr:Fr} {lh:iw b8} {sh:List b8} {u:List Nat} {d:Option Nat} {opl:List iF} {ds:List (List Nat×dy)} {jJ:List FP},(opl.map (rd fr)).all froz=true→iN pE (be pE) n ((u,⟨d,.callf f opl,none⟩)::ds) jJ ⟨fr,lh,sh⟩=ke pE (be pE) n ds (jJ++ [qf]) (dE pE (be pE) n [⟨d,.callf f opl,none⟩] ⟨fr,lh,sh⟩):=fun h=>agD e he ho h
end
set_option linter.defProp false
theorem fn6:pE.fn 6=some c6:=rfl
theorem fn7:pE.fn 7=some c7:=rfl
def dc7:=@yT _ _ fn7 rfl rfl
theorem fn8:pE.fn 8=some c8:=rfl
def dc8:=@yT _ _ fn8 rfl rfl
theorem aw7:pE.fn 10=some FV:=rfl
def aw8:=@yT _ _ aw7 rfl rfl
theorem agE:pE.fn 13=some c13:=rfl
def aw9:=@yT _ _ agE rfl rfl
theorem agF:pE.fn 14=some c14:=rfl
def axa:=@yT _ _ agF rfl rfl
def axb:=@yd _ _ agF rfl rfl
theorem ao5:pE.fn 15=some c15:=rfl
def axc:=@yT _ _ ao5 rfl rfl
theorem ao6:pE.fn 16=some c16:=rfl
def axd:=@yT _ _ ao6 rfl rfl
theorem ao7:pE.fn 17=some c17:=rfl
def axe:=@yT _ _ ao7 rfl rfl
theorem agG:pE.fn 18=some c18:=rfl
def sj:=@yT _ _ agG rfl rfl
def axf:=@yd _ _ agG rfl rfl
theorem ao8:pE.fn 19=some c19:=rfl
def axg:=@yP _ _ ao8 rfl rfl
theorem agH:pE.fn 20=some c20:=rfl
def axh:=@yP _ _ agH rfl rfl
theorem agI:pE.fn 21=some c21:=rfl
def axi:=@yT _ _ agI rfl rfl
def axj:=@yd _ _ agI rfl rfl
theorem agJ:pE.fn 22=some c22:=rfl
def axk:=@yP _ _ agJ rfl rfl
theorem Z7:pE.fn 23=some ZY:=rfl
def QU:=@yT _ _ Z7 rfl rfl
theorem ao9:pE.fn 24=some c24:=rfl
def agK:=@yT _ _ ao9 rfl rfl
theorem apa:pE.fn 25=some c25:=rfl
def apb:=@yT _ _ apa rfl rfl
theorem apc:pE.fn 27=some c27:=rfl
def axl:=@yT _ _ apc rfl rfl
theorem apd:pE.fn 28=some c28:=rfl
def axm:=@yT _ _ apd rfl rfl
theorem ape:pE.fn 37=some N6:=rfl
def agL:=@yT _ _ ape rfl rfl
theorem apf:pE.fn 38=some c38:=rfl
def axn:=@yT _ _ apf rfl rfl
theorem apg:pE.fn 39=some c39:=rfl
def axo:=@yT _ _ apg rfl rfl
theorem aph:pE.fn 40=some c40:=rfl
def api:=@yT _ _ aph rfl rfl
theorem agM:pE.fn 41=some c41:=rfl
def apj:=@yT _ _ agM rfl rfl
def axp:=@yd _ _ agM rfl rfl
theorem apk:pE.fn 42=some c42:=rfl
def Ug:=@yT _ _ apk rfl rfl
theorem apl:pE.fn 43=some c43:=rfl
def apm:=@yT _ _ apl rfl rfl
theorem agN:pE.fn 44=some c44:=rfl
def apn:=@yT _ _ agN rfl rfl
def axq:=@yd _ _ agN rfl rfl
theorem apo:pE.fn 45=some c45:=rfl
def apq:=@yT _ _ apo rfl rfl
theorem agO:pE.fn 46=some c46:=rfl
def JF:=@yT _ _ agO rfl rfl
def JG:=@yd _ _ agO rfl rfl
theorem apr:pE.fn 47=some c47:=rfl
def axr:=@yT _ _ apr rfl rfl
theorem aps:pE.fn 48=some c48:=rfl
def axs:=@yT _ _ aps rfl rfl
theorem apt:pE.fn 49=some c49:=rfl
def agP:=@yT _ _ apt rfl rfl
theorem agQ:pE.fn 50=some To:=rfl
def apu:=@yT _ _ agQ rfl rfl
theorem apv:pE.fn 51=some c51:=rfl
def axt:=@Ue _ _ apv rfl
theorem agR:pE.fn 52=some Jd:=rfl
def qY:=@Ue _ _ agR rfl
def rT:=@yEd _ _ agR rfl
theorem agS:pE.fn 53=some c53:=rfl
def apw:=@yT _ _ agS rfl rfl
def apx:=@yP _ _ agS rfl rfl
theorem apy:pE.fn 54=some c54:=rfl
def agT:=@yT _ _ apy rfl rfl
theorem apz:pE.fn 55=some c55:=rfl
def apA:=@yT _ _ apz rfl rfl
theorem Z8:pE.fn 56=some c56:=rfl
def axu:=@yT _ _ Z8 rfl rfl
def axv:=@yP _ _ Z8 rfl rfl
def axw:=@yd _ _ Z8 rfl rfl
theorem Z9:pE.fn 57=some c57:=rfl
def axx:=@yT _ _ Z9 rfl rfl
def axy:=@yP _ _ Z9 rfl rfl
def axz:=@yd _ _ Z9 rfl rfl
theorem apB:pE.fn 58=some c58:=rfl
def apC:=@Ue _ _ apB rfl
theorem apD:pE.fn 59=some c59:=rfl
theorem apE:pE.fn 67=some c67:=rfl
def apF:=@yT _ _ apE rfl rfl
theorem apG:pE.fn 68=some c68:=rfl
def axA:=@yT _ _ apG rfl rfl
theorem apH:pE.fn 69=some c69:=rfl
def axB:=@yT _ _ apH rfl rfl
theorem apI:pE.fn 70=some c70:=rfl
def agU:=@yT _ _ apI rfl rfl
theorem apJ:pE.fn 71=some c71:=rfl
def agV:=@yT _ _ apJ rfl rfl
theorem aaa:pE.fn 72=some FW:=rfl
def Ar:=@yT _ _ aaa rfl rfl
def axC:=@yP _ _ aaa rfl rfl
def apK:=@yd _ _ aaa rfl rfl
theorem agW:pE.fn 73=some c73:=rfl
def Fb:=@yT _ _ agW rfl rfl
def apL:=@yd _ _ agW rfl rfl
theorem apM:pE.fn 74=some c74:=rfl
def apN:=@yP _ _ apM rfl rfl
theorem agX:pE.fn 75=some c75:=rfl
def axD:=@Ue _ _ agX rfl
def axE:=@yEd _ _ agX rfl
theorem agY:pE.fn 76=some c76:=rfl
def agZ:=@yT _ _ agY rfl rfl
def axF:=@yd _ _ agY rfl rfl
theorem apO:pE.fn 77=some c77:=rfl
def axG:=@yT _ _ apO rfl rfl
theorem axH:pE.fn 78=some c78:=rfl
def axI:=@yT _ _ axH rfl rfl
theorem aab:pE.fn 79=some ZZ:=rfl
def axJ:=@yE _ _ aab rfl
theorem apP:pE.fn 80=some c80:=rfl
def axK:=@yP _ _ apP rfl rfl
theorem apQ:pE.fn 81=some c81:=rfl
def axL:=@yT _ _ apQ rfl rfl
theorem apR:pE.fn 82=some c82:=rfl
def apU:=@yT _ _ apR rfl rfl
theorem apV:pE.fn 83=some c83:=rfl
def apW:=@yT _ _ apV rfl rfl
theorem apX:pE.fn 84=some c84:=rfl
def aac:=@yT _ _ apX rfl rfl
theorem apY:pE.fn 85=some c85:=rfl
def apZ:=@yT _ _ apY rfl rfl
theorem ap0:pE.fn 86=some c86:=rfl
def ap1:=@yP _ _ ap0 rfl rfl
theorem ag0:pE.fn 87=some c87:=rfl
def axM:=@yT _ _ ag0 rfl rfl
def axN:=@yd _ _ ag0 rfl rfl
theorem ag1:pE.fn 88=some c88:=rfl
def ap2:=@yT _ _ ag1 rfl rfl
theorem ap3:pE.fn 89=some c89:=rfl
def axO:=@Ue _ _ ap3 rfl
theorem ap4:pE.fn 90=some c90:=rfl
def Uh:=@yT _ _ ap4 rfl rfl
theorem ap5:pE.fn 91=some c91:=rfl
def ap6:=@Ue _ _ ap5 rfl
theorem ap7:pE.fn 92=some c92:=rfl
def ag2:=@Ue _ _ ap7 rfl
theorem axP:pE.fn 93=some c93:=rfl
def aad:=@yT _ _ axP rfl rfl
theorem ap8:pE.fn 94=some c94:=rfl
def aae:=@Ue _ _ ap8 rfl
theorem ap9:pE.fn 95=some c95:=rfl
def aqa:=@yE _ _ ap9 rfl
theorem Ui:pE.fn 96=some c96:=rfl
def aqb:=@yE _ _ Ui rfl
theorem aaf:pE.fn 97=some c97:=rfl
def axQ:=@yT _ _ aaf rfl rfl
def ag3:=@yP _ _ aaf rfl rfl
def axR:=@yd _ _ aaf rfl rfl
theorem aqc:pE.fn 98=some c98:=rfl
def aqd:=@yT _ _ aqc rfl rfl
theorem ag4:pE.fn 99=some c99:=rfl
def axS:=@yT _ _ ag4 rfl rfl
def axT:=@yd _ _ ag4 rfl rfl
theorem Uj:pE.fn 100=some TA:=rfl
def aqe:=@yT _ _ Uj rfl rfl
def aqf:=@yd _ _ Uj rfl rfl
theorem adT:pE.fn 107=some TB:=rfl
def adU:=@yT _ _ adT rfl rfl
theorem adV:pE.fn 109=some TC:=rfl
def JH:=@yT _ _ adV rfl rfl
theorem Uk:pE.fn 110=some TD:=rfl
def N8:=@yT _ _ Uk rfl rfl
def aqg:=@yd _ _ Uk rfl rfl
theorem Ul:pE.fn 111=some Qp:=rfl
def aqh:=@yT _ _ Ul rfl rfl
def aqi:=@yd _ _ Ul rfl rfl
theorem adW:pE.fn 112=some JA:=rfl
def Um:=@yT _ _ adW rfl rfl
theorem Un:pE.fn 113=some xV:=rfl
def aqj:=@yT _ _ Un rfl rfl
def aqk:=@yd _ _ Un rfl rfl
theorem adX:pE.fn 114=some Qq:=rfl
def aql:=@yT _ _ adX rfl rfl
theorem adY:pE.fn 115=some TE:=rfl
def adZ:=@yT _ _ adY rfl rfl
theorem Uo:pE.fn 116=some TF:=rfl
def ad0:=@yT _ _ Uo rfl rfl
def ad1:=@yd _ _ Uo rfl rfl
theorem ad2:pE.fn 117=some TG:=rfl
def Uq:=@yT _ _ ad2 rfl rfl
theorem ad3:pE.fn 118=some TH:=rfl
def ad4:=@yT _ _ ad3 rfl rfl
theorem ad5:pE.fn 122=some TI:=rfl
def sk:=@yT _ _ ad5 rfl rfl
theorem ad6:pE.fn 124=some TJ:=rfl
def yi:=@yT _ _ ad6 rfl rfl
theorem ad7:pE.fn 125=some Qr:=rfl
def yj:=@yT _ _ ad7 rfl rfl
theorem aqm:pE.fn 126=some agA:=rfl
def yk:=@yT _ _ aqm rfl rfl
theorem Ur:pE.fn 127=some JB:=rfl
def yl:=@yT _ _ Ur rfl rfl
def ym:=@yd _ _ Ur rfl rfl
theorem ad8:pE.fn 128=some TK:=rfl
def aqn:=@yT _ _ ad8 rfl rfl
theorem ad9:pE.fn 129=some TL:=rfl
def JI:=@yT _ _ ad9 rfl rfl
theorem aea:pE.fn 130=some TM:=rfl
def F6:=@yT _ _ aea rfl rfl
theorem aeb:pE.fn 131=some L3:=rfl
def N9:=@yT _ _ aeb rfl rfl
theorem aec:pE.fn 132=some TN:=rfl
def aqo:=@yT _ _ aec rfl rfl
theorem aed:pE.fn 133=some Qu:=rfl
def JJ:=@yT _ _ aed rfl rfl
theorem aee:pE.fn 134=some TO:=rfl
def Oa:=@yT _ _ aee rfl rfl
theorem aef:pE.fn 135=some TP:=rfl
def Us:=@yT _ _ aef rfl rfl
theorem aeg:pE.fn 136=some Qw:=rfl
def aqp:=@yT _ _ aeg rfl rfl
theorem aeh:pE.fn 137=some TQ:=rfl
def JK:=@yT _ _ aeh rfl rfl
theorem aei:pE.fn 138=some TR:=rfl
def aqq:=@yT _ _ aei rfl rfl
theorem aej:pE.fn 139=some TS:=rfl
def aqr:=@yT _ _ aej rfl rfl
theorem aek:pE.fn 140=some TT:=rfl
def Ut:=@yT _ _ aek rfl rfl
theorem ael:pE.fn 141=some Qz:=rfl
def aqs:=@yT _ _ ael rfl rfl
theorem aem:pE.fn 142=some TU:=rfl
def aqt:=@yT _ _ aem rfl rfl
theorem aen:pE.fn 143=some TV:=rfl
def Oc:=@yT _ _ aen rfl rfl
theorem aeo:pE.fn 144=some L4:=rfl
def aqu:=@yT _ _ aeo rfl rfl
theorem aep:pE.fn 145=some TW:=rfl
def aqv:=@yT _ _ aep rfl rfl
theorem aeq:pE.fn 146=some QB:=rfl
def JL:=@Ue _ _ aeq rfl
theorem aer:pE.fn 162=some vX:=rfl
def aes:=@yT _ _ aer rfl rfl
theorem aet:pE.fn 163=some L5:=rfl
def aqw:=@yT _ _ aet rfl rfl
theorem aeu:pE.fn 164=some TX:=rfl
def aqx:=@yT _ _ aeu rfl rfl
theorem aev:pE.fn 165=some QC:=rfl
def aqy:=@yT _ _ aev rfl rfl
theorem aew:pE.fn 166=some TY:=rfl
def aqz:=@yT _ _ aew rfl rfl
theorem aex:pE.fn 167=some TZ:=rfl
def aqA:=@yT _ _ aex rfl rfl
theorem aey:pE.fn 168=some QD:=rfl
def aez:=@yT _ _ aey rfl rfl
theorem aeA:pE.fn 169=some QE:=rfl
def aeB:=@yT _ _ aeA rfl rfl
theorem aeC:pE.fn 175=some L6:=rfl
def aeD:=@yT _ _ aeC rfl rfl
theorem aeE:pE.fn 176=some T0:=rfl
def aqB:=@yT _ _ aeE rfl rfl
theorem aeF:pE.fn 177=some T1:=rfl
def Uu:=@yT _ _ aeF rfl rfl
theorem aeG:pE.fn 178=some QH:=rfl
def aeH:=@yT _ _ aeG rfl rfl
theorem aeI:pE.fn 179=some T2:=rfl
def yn:=@yT _ _ aeI rfl rfl
theorem aeJ:pE.fn 180=some JC:=rfl
def Od:=@Ue _ _ aeJ rfl
theorem aeK:pE.fn 181=some QJ:=rfl
def aeL:=@yT _ _ aeK rfl rfl
theorem aeM:pE.fn 182=some T3:=rfl
def aqC:=@yT _ _ aeM rfl rfl
theorem aeN:pE.fn 183=some T4:=rfl
def Uv:=@yT _ _ aeN rfl rfl
theorem aeO:pE.fn 184=some C8:=rfl
def Uw:=@Ue _ _ aeO rfl
theorem aeP:pE.fn 199=some T5:=rfl
def tZ:=@yT _ _ aeP rfl rfl
theorem aeQ:pE.fn 200=some QK:=rfl
def ua:=@yT _ _ aeQ rfl rfl
theorem aeR:pE.fn 201=some T6:=rfl
def aqD:=@yT _ _ aeR rfl rfl
theorem aeS:pE.fn 202=some T7:=rfl
def aqE:=@yT _ _ aeS rfl rfl
theorem aeT:pE.fn 203=some T8:=rfl
def aqF:=@yT _ _ aeT rfl rfl
theorem aeU:pE.fn 205=some QL:=rfl
def aqG:=@yT _ _ aeU rfl rfl
theorem aeV:pE.fn 208=some QM:=rfl
def Ux:=@yT _ _ aeV rfl rfl
theorem aeW:pE.fn 209=some QN:=rfl
def Uy:=@yT _ _ aeW rfl rfl
theorem aeX:pE.fn 210=some T9:=rfl
def aqH:=@yT _ _ aeX rfl rfl
theorem aeY:pE.fn 211=some QO:=rfl
def aqI:=@yT _ _ aeY rfl rfl
theorem aeZ:pE.fn 212=some Ua:=rfl
def aqJ:=@yT _ _ aeZ rfl rfl
theorem ae0:pE.fn 213=some Ub:=rfl
def aqK:=@yT _ _ ae0 rfl rfl
theorem ae1:pE.fn 214=some QP:=rfl
def aqL:=@yT _ _ ae1 rfl rfl
theorem ae2:pE.fn 215=some QQ:=rfl
def aqM:=@yT _ _ ae2 rfl rfl
theorem ae3:pE.fn 216=some si:=rfl
def ae4:=@yP _ _ ae3 rfl rfl
theorem Uz:pE.fn 227=some L7:=rfl
def ae5:=@yT _ _ Uz rfl rfl
theorem ae6:pE.fn 228=some QR:=rfl
def ae7:=@yT _ _ ae6 rfl rfl
theorem UA:pE.fn 229=some QS:=rfl
def Oe:=@yT _ _ UA rfl rfl
def ae8:=@yd _ _ UA rfl rfl
theorem ae9:pE.fn 230=some Uc:=rfl
def afa:=@yT _ _ ae9 rfl rfl
theorem UB:pE.fn 231=some Aq:=rfl
def afb:=@yT _ _ UB rfl rfl
def afc:=@yd _ _ UB rfl rfl
theorem Og:pE.fn 232=some Fa:=rfl
def aqN:=@yT _ _ Og rfl rfl
theorem UC:pE.fn 241=some L8:=rfl
def afd:=@yT _ _ UC rfl rfl
end Go.Proofs.YtcpceiclnbmgiaaGreat
