/- The functions that the statement reaches, as one table. Conditions: none. -/
import Derived.Test.YtcpceiclnbmgiaaGreatCoA
import Derived.Test.YtcpceiclnbmgiaaGreatCoB
import Derived.Test.YtcpceiclnbmgiaaGreatCoC
import Derived.Test.YtcpceiclnbmgiaaGreatExt
import Derived.Test.YtcpceiclnbmgiaaGreatEvG
set_option linter.unusedVariables false
namespace Go.Proofs.YtcpceiclnbmgiaaGreat
open Go Go.Ev
def pET:Gf:=(.nd (.nd (.nd (.nd (.nd (.nd (.nd (.nd .nil 5 c5 .nil) 7 c7 .nil) 8 c8 (.nd (.nd .nil 10 F3 .nil) 12 Mf .nil)) 13 c13 (.nd (.nd (.nd .nil 14 c14 .nil) 18 c18 .nil) 19 c19 (.nd .nil 20 c20 .nil))) 21 c21 (.nd (.nd (.nd (.nd .nil 22 c22 .nil) 23 c23 .nil) 24 c24 (.nd (.nd .nil 25 c25 .nil) 27 c27 .nil)) 28 c28 (.nd (.nd (.nd .nil 29 c29 .nil) 37 Ow .nil) 38 c38 (.nd .nil 39 c39 .nil)))) 40 c40 (.nd (.nd (.nd (.nd (.nd .nil 41 c41 .nil) 42 c42 .nil) 44 c44 (.nd (.nd .nil 45 c45 .nil) 46 c46 .nil)) 47 c47 (.nd (.nd (.nd .nil 48 c48 .nil) 49 c49 .nil) 50 TQ (.nd .nil 51 c51 .nil))) 52 Jr (.nd (.nd (.nd (.nd .nil 53 c53 .nil) 54 c54 .nil) 55 c55 (.nd .nil 56 c56 .nil)) 57 c57 (.nd (.nd (.nd .nil 58 c58 .nil) 59 c59 .nil) 67 c67 (.nd .nil 68 c68 .nil))))) 69 c69 (.nd (.nd (.nd (.nd (.nd (.nd .nil 70 c70 .nil) 71 c71 .nil) 72 F4 (.nd (.nd .nil 73 c73 .nil) 74 c74 .nil)) 75 c75 (.nd (.nd (.nd .nil 76 c76 .nil) 77 c77 .nil) 78 c78 (.nd .nil 79 c79 .nil))) 80 c80 (.nd (.nd (.nd (.nd .nil 81 c81 .nil) 82 c82 .nil) 83 c83 (.nd (.nd .nil 84 c84 .nil) 85 c85 .nil)) 86 c86 (.nd (.nd (.nd .nil 87 c87 .nil) 88 c88 .nil) 89 c89 (.nd .nil 90 c90 .nil)))) 91 c91 (.nd (.nd (.nd (.nd (.nd .nil 92 c92 .nil) 93 c93 .nil) 94 c94 (.nd (.nd .nil 95 c95 .nil) 96 c96 .nil)) 97 c97 (.nd (.nd (.nd .nil 98 c98 .nil) 99 c99 .nil) 100 T0 (.nd .nil 107 T1 .nil))) 108 anz (.nd (.nd (.nd (.nd .nil 109 T2 .nil) 110 T3 .nil) 111 QJ (.nd .nil 112 JO .nil)) 113 ye (.nd (.nd (.nd .nil 114 QK .nil) 115 T4 .nil) 116 T5 (.nd .nil 117 T6 .nil)))))) 118 T7 (.nd (.nd (.nd (.nd (.nd (.nd (.nd .nil 119 anL .nil) 120 anN .nil) 121 anP (.nd (.nd .nil 122 T8 .nil) 123 anS .nil)) 124 T9 (.nd (.nd (.nd .nil 125 QL .nil) 126 ag2 .nil) 127 JP (.nd .nil 128 Ua .nil))) 129 Ub (.nd (.nd (.nd (.nd .nil 130 Uc .nil) 131 Mt .nil) 132 Ud (.nd (.nd .nil 133 QO .nil) 134 Ue .nil)) 135 Uf (.nd (.nd (.nd .nil 136 QQ .nil) 137 Ug .nil) 138 Uh (.nd .nil 139 Ui .nil)))) 140 Uj (.nd (.nd (.nd (.nd (.nd .nil 141 QT .nil) 142 Uk .nil) 143 Ul (.nd (.nd .nil 144 Mu .nil) 145 Um .nil)) 146 QV (.nd (.nd (.nd .nil 162 wk .nil) 163 Mv .nil) 164 Un (.nd .nil 165 QW .nil))) 166 Uo (.nd (.nd (.nd (.nd .nil 167 Uq .nil) 168 QX .nil) 169 QY (.nd .nil 170 aoq .nil)) 171 aos (.nd (.nd (.nd .nil 172 aou .nil) 173 aow .nil) 174 aoy (.nd .nil 175 Mw .nil))))) 176 Ur (.nd (.nd (.nd (.nd (.nd (.nd .nil 177 Us .nil) 178 Q1 .nil) 179 Ut (.nd (.nd .nil 180 JQ .nil) 181 Q3 .nil)) 182 Uu (.nd (.nd (.nd .nil 183 Uv .nil) 184 Dp .nil) 199 Uw (.nd .nil 200 Q4 .nil))) 201 Ux (.nd (.nd (.nd (.nd .nil 202 Uy .nil) 203 Uz .nil) 204 aoP (.nd (.nd .nil 205 Q5 .nil) 206 aoS .nil)) 207 aoU (.nd (.nd (.nd .nil 208 Q6 .nil) 209 Q7 .nil) 210 UA (.nd .nil 211 Q8 .nil)))) 212 UB (.nd (.nd (.nd (.nd (.nd .nil 213 UC .nil) 214 Q9 .nil) 215 Ra (.nd (.nd .nil 216 sy .nil) 225 ao5 .nil)) 226 ao7 (.nd (.nd (.nd .nil 227 Mx .nil) 228 Rb .nil) 229 Rc (.nd .nil 230 UD .nil))) 231 AB (.nd (.nd (.nd (.nd .nil 232 Ft .nil) 240 apf .nil) 241 My (.nd .nil 252 api .nil)) 260 apk (.nd (.nd (.nd .nil 261 apm .nil) 268 apo .nil) 272 apr (.nd .nil 273 apt .nil)))))))
theorem ag3:Gf.All (Hi Tryz.prog) pET:=⟨⟨⟨⟨⟨⟨⟨⟨trivial,kq5,trivial⟩,kq7,trivial⟩,kq8,⟨⟨trivial,awk,trivial⟩,awl,trivial⟩⟩,awm,⟨⟨⟨trivial,awn,trivial⟩,awo,trivial⟩,awp,⟨trivial,awq,trivial⟩⟩⟩,awr,⟨⟨⟨⟨trivial,aws,trivial⟩,awt,trivial⟩,awu,⟨⟨trivial,awv,trivial⟩,aww,trivial⟩⟩,awx,⟨⟨⟨trivial,awy,trivial⟩,awz,trivial⟩,awA,⟨trivial,awB,trivial⟩⟩⟩⟩,awC,⟨⟨⟨⟨⟨trivial,awD,trivial⟩,awE,trivial⟩,awF,⟨⟨trivial,awG,trivial⟩,awH,trivial⟩⟩,awI,⟨⟨⟨trivial,awJ,trivial⟩,awK,trivial⟩,awL,⟨trivial,awM,trivial⟩⟩⟩,awN,⟨⟨⟨⟨trivial,awO,trivial⟩,awP,trivial⟩,awQ,⟨trivial,awR,trivial⟩⟩,awS,⟨⟨⟨trivial,awT,trivial⟩,awU,trivial⟩,awV,⟨trivial,awW,trivial⟩⟩⟩⟩⟩,awX,⟨⟨⟨⟨⟨⟨trivial,awY,trivial⟩,awZ,trivial⟩,aw0,⟨⟨trivial,aw1,trivial⟩,aw2,trivial⟩⟩,aw3,⟨⟨⟨trivial,aw4,trivial⟩,aw5,trivial⟩,aw7,⟨trivial,aw8,trivial⟩⟩⟩,aw9,⟨⟨⟨⟨trivial,axa,trivial⟩,axb,trivial⟩,axc,⟨⟨trivial,axd,trivial⟩,axe,trivial⟩⟩,axf,⟨⟨⟨trivial,axg,trivial⟩,axh,trivial⟩,axi,⟨trivial,axj,trivial⟩⟩⟩⟩,axk,⟨⟨⟨⟨⟨trivial,axl,trivial⟩,axn,trivial⟩,axo,⟨⟨trivial,axp,trivial⟩,axq,trivial⟩⟩,axr,⟨⟨⟨trivial,axs,trivial⟩,axt,trivial⟩,anw,⟨trivial,anx,trivial⟩⟩⟩,anA,⟨⟨⟨⟨trivial,anB,trivial⟩,anC,trivial⟩,anD,⟨trivial,anE,trivial⟩⟩,anF,⟨⟨⟨trivial,anG,trivial⟩,anH,trivial⟩,anI,⟨trivial,anJ,trivial⟩⟩⟩⟩⟩⟩,anK,⟨⟨⟨⟨⟨⟨⟨trivial,anM,trivial⟩,anO,trivial⟩,anQ,⟨⟨trivial,anR,trivial⟩,anT,trivial⟩⟩,anU,⟨⟨⟨trivial,anV,trivial⟩,anW,trivial⟩,anX,⟨trivial,anY,trivial⟩⟩⟩,anZ,⟨⟨⟨⟨trivial,an0,trivial⟩,an1,trivial⟩,an2,⟨⟨trivial,an3,trivial⟩,an4,trivial⟩⟩,an5,⟨⟨⟨trivial,an6,trivial⟩,an7,trivial⟩,an8,⟨trivial,an9,trivial⟩⟩⟩⟩,aoa,⟨⟨⟨⟨⟨trivial,aob,trivial⟩,aoc,trivial⟩,aod,⟨⟨trivial,aoe,trivial⟩,aof,trivial⟩⟩,aog,⟨⟨⟨trivial,aoh,trivial⟩,aoi,trivial⟩,aoj,⟨trivial,aok,trivial⟩⟩⟩,aol,⟨⟨⟨⟨trivial,aom,trivial⟩,aon,trivial⟩,aoo,⟨trivial,aor,trivial⟩⟩,aot,⟨⟨⟨trivial,aov,trivial⟩,aox,trivial⟩,aoz,⟨trivial,aoA,trivial⟩⟩⟩⟩⟩,aoB,⟨⟨⟨⟨⟨⟨trivial,aoC,trivial⟩,aoD,trivial⟩,aoE,⟨⟨trivial,aoF,trivial⟩,aoG,trivial⟩⟩,aoH,⟨⟨⟨trivial,aoI,trivial⟩,aoJ,trivial⟩,aoK,⟨trivial,aoL,trivial⟩⟩⟩,aoM,⟨⟨⟨⟨trivial,aoN,trivial⟩,aoO,trivial⟩,aoQ,⟨⟨trivial,aoR,trivial⟩,aoT,trivial⟩⟩,aoV,⟨⟨⟨trivial,aoW,trivial⟩,aoX,trivial⟩,aoY,⟨trivial,aoZ,trivial⟩⟩⟩⟩,ao0,⟨⟨⟨⟨⟨trivial,ao1,trivial⟩,ao2,trivial⟩,ao3,⟨⟨trivial,ao4,trivial⟩,ao6,trivial⟩⟩,ao8,⟨⟨⟨trivial,ao9,trivial⟩,apa,trivial⟩,apb,⟨trivial,apc,trivial⟩⟩⟩,apd,⟨⟨⟨⟨trivial,ape,trivial⟩,apg,trivial⟩,aph,⟨trivial,apj,trivial⟩⟩,apl,⟨⟨⟨trivial,apn,trivial⟩,apq,trivial⟩,aps,⟨trivial,apu,trivial⟩⟩⟩⟩⟩⟩⟩
def pEx(f:Nat):Option (List T→Option T):=bif Nat.beq f 253 then some idxE else none
def pEy(_:Nat):Option (List T→Option (List T×Option Nat)):=none
def pE:Env:=⟨pET.find,pEx,pEy⟩
theorem apv:uo Tryz.prog pE:=apw ag3 (fun f g h=>by
 unfold pEx at h
 cases hc:Nat.beq f 253 with
 |true=>rw[hc,cond_true]at h;cases h;rw[Nat.eq_of_beq_eq_true hc];exact Tryz.idxOk
 |false=>rw[hc,cond_false]at h;cases h) (fun f g h=>by
 cases h)
section
variable{f j:Nat}{c:ib}(e:pE.fn f=some c)
include e
theorem UF(he:c.eff=true): ∀{z:Nat} {fr:Fr} {lh:iq b8} {sh:List b8} {args:List T},args.all kept=true→je pE (be pE) z ⟨fr,lh,sh⟩ f args=(be pE f args sh).bind fun r=>some (r.1,⟨fr,lh,r.2⟩):=fun h=>Rd e he h
theorem yEd(he:c.eff=true): ∀{n:Nat} {fr:Fr} {lh:iq b8} {sh:List b8} {u:List Nat} {d:Option Nat} {opl:List iF} {ds:List (List Nat×dy)} {jN:List FP},(opl.map (rd fr)).all kept=true→iP pE (be pE) n ((u,⟨d,.callf f opl,none⟩)::ds) jN ⟨fr,lh,sh⟩=if meets u jN Gg=true then ke pE (be pE) n ds (jN++ [Gg]) (eb pE (be pE) n [⟨d,.callf f opl,none⟩] ⟨fr,lh,sh⟩)else none:=fun h=>aai e he h
theorem yE(he:c.eff=true): ∀{z:Nat} {fr:Fr} {lh:iq b8} {sh:List b8} {args:List T},je pE (be pE) z ⟨fr,lh,sh⟩ f args=(Cl lh sh true args).bind fun q=>(be pE f q.1 ((St.mk fr lh sh).ups q.2).sh).bind fun r=>some (r.1,{(St.mk fr lh sh).ups q.2 with sh:=r.2}):=UG e he
theorem yT(he:c.eff=false)(ho:c.own=none): ∀{z:Nat} {fr:Fr} {lh:iq b8} {sh:List b8} {args:List T},args.all froz=true→je pE (be pE) z ⟨fr,lh,sh⟩ f args=(be pE f args []).bind fun r=>some (r.1,⟨fr,lh,sh⟩):=fun h=>JR e he ho h
theorem yP(he:c.eff=false)(ho:c.own=none): ∀{z:Nat} {fr:Fr} {lh:iq b8} {sh:List b8} {args:List T},je pE (be pE) z ⟨fr,lh,sh⟩ f args=(Cl lh sh false args).bind fun q=>(be pE f q.1 []).bind fun r=>some (r.1,if scalar r.1=true then⟨fr,lh,sh⟩else(St.mk fr lh sh).ups q.2):=JS e he ho
theorem yd(he:c.eff=false)(ho:c.own=none): ∀{n:Nat} {fr:Fr} {lh:iq b8} {sh:List b8} {u:List Nat} {d:Option Nat} {opl:List iF} {ds:List (List Nat×dy)} {jN:List FP},(opl.map (rd fr)).all froz=true→iP pE (be pE) n ((u,⟨d,.callf f opl,none⟩)::ds) jN ⟨fr,lh,sh⟩=ke pE (be pE) n ds (jN++ [qp]) (eb pE (be pE) n [⟨d,.callf f opl,none⟩] ⟨fr,lh,sh⟩):=fun h=>ag5 e he ho h
end
set_option linter.defProp false
theorem fn5:pE.fn 5=some c5:=rfl
theorem fn7:pE.fn 7=some c7:=rfl
def dc7:=@yT _ _ fn7 rfl rfl
theorem fn8:pE.fn 8=some c8:=rfl
def dc8:=@yT _ _ fn8 rfl rfl
theorem axu:pE.fn 10=some F3:=rfl
def axv:=@yT _ _ axu rfl rfl
theorem ag6:pE.fn 12=some Mf:=rfl
def axw:=@yT _ _ ag6 rfl rfl
def axx:=@yd _ _ ag6 rfl rfl
theorem ag7:pE.fn 13=some c13:=rfl
def axy:=@yP _ _ ag7 rfl rfl
theorem apx:pE.fn 14=some c14:=rfl
def axz:=@yP _ _ apx rfl rfl
theorem ag8:pE.fn 18=some c18:=rfl
def sA:=@yT _ _ ag8 rfl rfl
def axA:=@yd _ _ ag8 rfl rfl
theorem apy:pE.fn 19=some c19:=rfl
def axB:=@yP _ _ apy rfl rfl
theorem ag9:pE.fn 20=some c20:=rfl
def axC:=@yP _ _ ag9 rfl rfl
theorem aha:pE.fn 21=some c21:=rfl
def axD:=@yT _ _ aha rfl rfl
def axE:=@yd _ _ aha rfl rfl
theorem ahb:pE.fn 22=some c22:=rfl
def axF:=@yP _ _ ahb rfl rfl
theorem aaj:pE.fn 23=some c23:=rfl
def UH:=@yT _ _ aaj rfl rfl
theorem apz:pE.fn 24=some c24:=rfl
def ahc:=@yT _ _ apz rfl rfl
theorem apA:pE.fn 25=some c25:=rfl
def apB:=@yT _ _ apA rfl rfl
theorem apC:pE.fn 27=some c27:=rfl
def axG:=@yT _ _ apC rfl rfl
theorem apD:pE.fn 28=some c28:=rfl
def axH:=@yT _ _ apD rfl rfl
theorem apE:pE.fn 37=some Ow:=rfl
def apF:=@yT _ _ apE rfl rfl
theorem apG:pE.fn 38=some c38:=rfl
def axI:=@yT _ _ apG rfl rfl
theorem apH:pE.fn 39=some c39:=rfl
def axJ:=@yT _ _ apH rfl rfl
theorem apI:pE.fn 40=some c40:=rfl
def apJ:=@yT _ _ apI rfl rfl
theorem ahd:pE.fn 41=some c41:=rfl
def axK:=@yT _ _ ahd rfl rfl
def axL:=@yd _ _ ahd rfl rfl
theorem apK:pE.fn 42=some c42:=rfl
def ahe:=@yT _ _ apK rfl rfl
theorem ahf:pE.fn 44=some c44:=rfl
def axM:=@yT _ _ ahf rfl rfl
def axN:=@yd _ _ ahf rfl rfl
theorem apL:pE.fn 45=some c45:=rfl
def axO:=@yT _ _ apL rfl rfl
theorem ahg:pE.fn 46=some c46:=rfl
def JT:=@yT _ _ ahg rfl rfl
def JU:=@yd _ _ ahg rfl rfl
theorem apM:pE.fn 47=some c47:=rfl
def axP:=@yT _ _ apM rfl rfl
theorem apN:pE.fn 48=some c48:=rfl
def axQ:=@yT _ _ apN rfl rfl
theorem apO:pE.fn 49=some c49:=rfl
def ahh:=@yT _ _ apO rfl rfl
theorem ahi:pE.fn 50=some TQ:=rfl
def apP:=@yT _ _ ahi rfl rfl
theorem apQ:pE.fn 51=some c51:=rfl
def axR:=@UF _ _ apQ rfl
theorem ahj:pE.fn 52=some Jr:=rfl
def ri:=@UF _ _ ahj rfl
def rZ:=@yEd _ _ ahj rfl
theorem ahk:pE.fn 53=some c53:=rfl
def apR:=@yT _ _ ahk rfl rfl
def apU:=@yP _ _ ahk rfl rfl
theorem apV:pE.fn 54=some c54:=rfl
def ahl:=@yT _ _ apV rfl rfl
theorem apW:pE.fn 55=some c55:=rfl
def apX:=@yT _ _ apW rfl rfl
theorem aak:pE.fn 56=some c56:=rfl
def axS:=@yT _ _ aak rfl rfl
def axT:=@yP _ _ aak rfl rfl
def axU:=@yd _ _ aak rfl rfl
theorem aal:pE.fn 57=some c57:=rfl
def axV:=@yT _ _ aal rfl rfl
def axW:=@yP _ _ aal rfl rfl
def axX:=@yd _ _ aal rfl rfl
theorem apY:pE.fn 58=some c58:=rfl
def apZ:=@UF _ _ apY rfl
theorem ap0:pE.fn 59=some c59:=rfl
theorem ap1:pE.fn 67=some c67:=rfl
def axY:=@yT _ _ ap1 rfl rfl
theorem ap2:pE.fn 68=some c68:=rfl
def axZ:=@yT _ _ ap2 rfl rfl
theorem ap3:pE.fn 69=some c69:=rfl
def ax0:=@yT _ _ ap3 rfl rfl
theorem ap4:pE.fn 70=some c70:=rfl
def ahm:=@yT _ _ ap4 rfl rfl
theorem ap5:pE.fn 71=some c71:=rfl
def ahn:=@yT _ _ ap5 rfl rfl
theorem aam:pE.fn 72=some F4:=rfl
def AD:=@yT _ _ aam rfl rfl
def ax1:=@yP _ _ aam rfl rfl
def ap6:=@yd _ _ aam rfl rfl
theorem aho:pE.fn 73=some c73:=rfl
def Fu:=@yT _ _ aho rfl rfl
def ap7:=@yd _ _ aho rfl rfl
theorem ap8:pE.fn 74=some c74:=rfl
def ap9:=@yP _ _ ap8 rfl rfl
theorem ahp:pE.fn 75=some c75:=rfl
def ax2:=@UF _ _ ahp rfl
def ax3:=@yEd _ _ ahp rfl
theorem ahq:pE.fn 76=some c76:=rfl
def ahr:=@yT _ _ ahq rfl rfl
def ax4:=@yd _ _ ahq rfl rfl
theorem aqa:pE.fn 77=some c77:=rfl
def ax5:=@yT _ _ aqa rfl rfl
theorem ax6:pE.fn 78=some c78:=rfl
def ax7:=@yT _ _ ax6 rfl rfl
theorem aan:pE.fn 79=some c79:=rfl
def ax8:=@yE _ _ aan rfl
theorem aqb:pE.fn 80=some c80:=rfl
def ax9:=@yP _ _ aqb rfl rfl
theorem aqc:pE.fn 81=some c81:=rfl
def aya:=@yT _ _ aqc rfl rfl
theorem aqd:pE.fn 82=some c82:=rfl
def aqe:=@yT _ _ aqd rfl rfl
theorem aqf:pE.fn 83=some c83:=rfl
def aqg:=@yT _ _ aqf rfl rfl
theorem aqh:pE.fn 84=some c84:=rfl
def aao:=@yT _ _ aqh rfl rfl
theorem aqi:pE.fn 85=some c85:=rfl
def aqj:=@yT _ _ aqi rfl rfl
theorem aqk:pE.fn 86=some c86:=rfl
def aql:=@yP _ _ aqk rfl rfl
theorem ahs:pE.fn 87=some c87:=rfl
def ayb:=@yT _ _ ahs rfl rfl
def ayc:=@yd _ _ ahs rfl rfl
theorem aht:pE.fn 88=some c88:=rfl
def aqm:=@yT _ _ aht rfl rfl
theorem aqn:pE.fn 89=some c89:=rfl
def ayd:=@UF _ _ aqn rfl
theorem aqo:pE.fn 90=some c90:=rfl
def UI:=@yT _ _ aqo rfl rfl
theorem aqp:pE.fn 91=some c91:=rfl
def aqq:=@UF _ _ aqp rfl
theorem aqr:pE.fn 92=some c92:=rfl
def ahu:=@UF _ _ aqr rfl
theorem aye:pE.fn 93=some c93:=rfl
def aap:=@yT _ _ aye rfl rfl
theorem aqs:pE.fn 94=some c94:=rfl
def aaq:=@UF _ _ aqs rfl
theorem aqt:pE.fn 95=some c95:=rfl
def aqu:=@yE _ _ aqt rfl
theorem UJ:pE.fn 96=some c96:=rfl
def aqv:=@yE _ _ UJ rfl
theorem aar:pE.fn 97=some c97:=rfl
def ayf:=@yT _ _ aar rfl rfl
def ahv:=@yP _ _ aar rfl rfl
def ayg:=@yd _ _ aar rfl rfl
theorem aqw:pE.fn 98=some c98:=rfl
def aqx:=@yT _ _ aqw rfl rfl
theorem ahw:pE.fn 99=some c99:=rfl
def ayh:=@yT _ _ ahw rfl rfl
def ayi:=@yd _ _ ahw rfl rfl
theorem UK:pE.fn 100=some T0:=rfl
def aqy:=@yT _ _ UK rfl rfl
def aqz:=@yd _ _ UK rfl rfl
theorem aef:pE.fn 107=some T1:=rfl
def aeg:=@yT _ _ aef rfl rfl
theorem aeh:pE.fn 109=some T2:=rfl
def JV:=@yT _ _ aeh rfl rfl
theorem UL:pE.fn 110=some T3:=rfl
def Oy:=@yT _ _ UL rfl rfl
def aqA:=@yd _ _ UL rfl rfl
theorem UM:pE.fn 111=some QJ:=rfl
def aqB:=@yT _ _ UM rfl rfl
def aqC:=@yd _ _ UM rfl rfl
theorem aei:pE.fn 112=some JO:=rfl
def UN:=@yT _ _ aei rfl rfl
theorem UO:pE.fn 113=some ye:=rfl
def aqD:=@yT _ _ UO rfl rfl
def aqE:=@yd _ _ UO rfl rfl
theorem aej:pE.fn 114=some QK:=rfl
def aqF:=@yT _ _ aej rfl rfl
theorem aek:pE.fn 115=some T4:=rfl
def ael:=@yT _ _ aek rfl rfl
theorem UP:pE.fn 116=some T5:=rfl
def aem:=@yT _ _ UP rfl rfl
def aen:=@yd _ _ UP rfl rfl
theorem aeo:pE.fn 117=some T6:=rfl
def UQ:=@yT _ _ aeo rfl rfl
theorem aep:pE.fn 118=some T7:=rfl
def aeq:=@yT _ _ aep rfl rfl
theorem aer:pE.fn 122=some T8:=rfl
def sC:=@yT _ _ aer rfl rfl
theorem aes:pE.fn 124=some T9:=rfl
def yp:=@yT _ _ aes rfl rfl
theorem aet:pE.fn 125=some QL:=rfl
def yq:=@yT _ _ aet rfl rfl
theorem aqG:pE.fn 126=some ag2:=rfl
def yt:=@yT _ _ aqG rfl rfl
theorem UR:pE.fn 127=some JP:=rfl
def yu:=@yT _ _ UR rfl rfl
def yw:=@yd _ _ UR rfl rfl
theorem aeu:pE.fn 128=some Ua:=rfl
def aqH:=@yT _ _ aeu rfl rfl
theorem aev:pE.fn 129=some Ub:=rfl
def JW:=@yT _ _ aev rfl rfl
theorem aew:pE.fn 130=some Uc:=rfl
def Gh:=@yT _ _ aew rfl rfl
theorem aex:pE.fn 131=some Mt:=rfl
def Oz:=@yT _ _ aex rfl rfl
theorem aey:pE.fn 132=some Ud:=rfl
def aqI:=@yT _ _ aey rfl rfl
theorem aez:pE.fn 133=some QO:=rfl
def JX:=@yT _ _ aez rfl rfl
theorem aeA:pE.fn 134=some Ue:=rfl
def OA:=@yT _ _ aeA rfl rfl
theorem aeB:pE.fn 135=some Uf:=rfl
def US:=@yT _ _ aeB rfl rfl
theorem aeC:pE.fn 136=some QQ:=rfl
def aqJ:=@yT _ _ aeC rfl rfl
theorem aeD:pE.fn 137=some Ug:=rfl
def JY:=@yT _ _ aeD rfl rfl
theorem aeE:pE.fn 138=some Uh:=rfl
def aqK:=@yT _ _ aeE rfl rfl
theorem aeF:pE.fn 139=some Ui:=rfl
def aqL:=@yT _ _ aeF rfl rfl
theorem aeG:pE.fn 140=some Uj:=rfl
def UT:=@yT _ _ aeG rfl rfl
theorem aeH:pE.fn 141=some QT:=rfl
def aqM:=@yT _ _ aeH rfl rfl
theorem aeI:pE.fn 142=some Uk:=rfl
def aqN:=@yT _ _ aeI rfl rfl
theorem aeJ:pE.fn 143=some Ul:=rfl
def OB:=@yT _ _ aeJ rfl rfl
theorem aeK:pE.fn 144=some Mu:=rfl
def aqO:=@yT _ _ aeK rfl rfl
theorem aeL:pE.fn 145=some Um:=rfl
def aqP:=@yT _ _ aeL rfl rfl
theorem aeM:pE.fn 146=some QV:=rfl
def JZ:=@UF _ _ aeM rfl
theorem aeN:pE.fn 162=some wk:=rfl
def aeO:=@yT _ _ aeN rfl rfl
theorem aeP:pE.fn 163=some Mv:=rfl
def aqQ:=@yT _ _ aeP rfl rfl
theorem aeQ:pE.fn 164=some Un:=rfl
def aqR:=@yT _ _ aeQ rfl rfl
theorem aeR:pE.fn 165=some QW:=rfl
def aqS:=@yT _ _ aeR rfl rfl
theorem aeS:pE.fn 166=some Uo:=rfl
def aqT:=@yT _ _ aeS rfl rfl
theorem aeT:pE.fn 167=some Uq:=rfl
def aqU:=@yT _ _ aeT rfl rfl
theorem aeU:pE.fn 168=some QX:=rfl
def aeV:=@yT _ _ aeU rfl rfl
theorem aeW:pE.fn 169=some QY:=rfl
def aeX:=@yT _ _ aeW rfl rfl
theorem aeY:pE.fn 175=some Mw:=rfl
def aeZ:=@yT _ _ aeY rfl rfl
theorem ae0:pE.fn 176=some Ur:=rfl
def aqV:=@yT _ _ ae0 rfl rfl
theorem ae1:pE.fn 177=some Us:=rfl
def UU:=@yT _ _ ae1 rfl rfl
theorem ae2:pE.fn 178=some Q1:=rfl
def ae3:=@yT _ _ ae2 rfl rfl
theorem ae4:pE.fn 179=some Ut:=rfl
def yx:=@yT _ _ ae4 rfl rfl
theorem ae5:pE.fn 180=some JQ:=rfl
def OC:=@UF _ _ ae5 rfl
theorem ae6:pE.fn 181=some Q3:=rfl
def ae7:=@yT _ _ ae6 rfl rfl
theorem ae8:pE.fn 182=some Uu:=rfl
def aqW:=@yT _ _ ae8 rfl rfl
theorem ae9:pE.fn 183=some Uv:=rfl
def UW:=@yT _ _ ae9 rfl rfl
theorem afa:pE.fn 184=some Dp:=rfl
def UX:=@UF _ _ afa rfl
theorem afb:pE.fn 199=some Uw:=rfl
def uq:=@yT _ _ afb rfl rfl
theorem afc:pE.fn 200=some Q4:=rfl
def ur:=@yT _ _ afc rfl rfl
theorem afd:pE.fn 201=some Ux:=rfl
def aqX:=@yT _ _ afd rfl rfl
theorem afe:pE.fn 202=some Uy:=rfl
def aqY:=@yT _ _ afe rfl rfl
theorem aff:pE.fn 203=some Uz:=rfl
def aqZ:=@yT _ _ aff rfl rfl
theorem afg:pE.fn 205=some Q5:=rfl
def aq0:=@yT _ _ afg rfl rfl
theorem afh:pE.fn 208=some Q6:=rfl
def UY:=@yT _ _ afh rfl rfl
theorem afi:pE.fn 209=some Q7:=rfl
def UZ:=@yT _ _ afi rfl rfl
theorem afj:pE.fn 210=some UA:=rfl
def aq1:=@yT _ _ afj rfl rfl
theorem afk:pE.fn 211=some Q8:=rfl
def aq2:=@yT _ _ afk rfl rfl
theorem afl:pE.fn 212=some UB:=rfl
def aq3:=@yT _ _ afl rfl rfl
theorem afm:pE.fn 213=some UC:=rfl
def aq4:=@yT _ _ afm rfl rfl
theorem afn:pE.fn 214=some Q9:=rfl
def aq5:=@yT _ _ afn rfl rfl
theorem afo:pE.fn 215=some Ra:=rfl
def aq6:=@yT _ _ afo rfl rfl
theorem afp:pE.fn 216=some sy:=rfl
def afq:=@yP _ _ afp rfl rfl
theorem U0:pE.fn 227=some Mx:=rfl
def afr:=@yT _ _ U0 rfl rfl
theorem afs:pE.fn 228=some Rb:=rfl
def afu:=@yT _ _ afs rfl rfl
theorem U1:pE.fn 229=some Rc:=rfl
def OD:=@yT _ _ U1 rfl rfl
def afv:=@yd _ _ U1 rfl rfl
theorem afw:pE.fn 230=some UD:=rfl
def afx:=@yT _ _ afw rfl rfl
theorem U2:pE.fn 231=some AB:=rfl
def afy:=@yT _ _ U2 rfl rfl
def afz:=@yd _ _ U2 rfl rfl
theorem OE:pE.fn 232=some Ft:=rfl
def aq7:=@yT _ _ OE rfl rfl
theorem U3:pE.fn 241=some My:=rfl
def afA:=@yT _ _ U3 rfl rfl
end Go.Proofs.YtcpceiclnbmgiaaGreat
