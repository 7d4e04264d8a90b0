/- The functions that the statement reaches, as one table. Conditions: none. -/
import Derived.Test.YtcpceiclnbmgiaaGreatCoA
import Derived.Test.YtcpceiclnbmgiaaGreatCoB
import Derived.Test.YtcpceiclnbmgiaaGreatCoC
import Derived.Test.YtcpceiclnbmgiaaGreatExt
import Derived.Test.YtcpceiclnbmgiaaGreatEvG
set_option linter.unusedVariables false
namespace Go.Proofs.YtcpceiclnbmgiaaGreat
open Go Go.Ev
def pET:Ft:=(.nd (.nd (.nd (.nd (.nd (.nd (.nd (.nd .nil 3 c3 .nil) 7 c7 .nil) 8 c8 (.nd (.nd .nil 9 c9 .nil) 10 Fg .nil)) 18 c18 (.nd (.nd (.nd .nil 19 c19 .nil) 20 c20 .nil) 21 c21 (.nd .nil 22 c22 .nil))) 23 Zp (.nd (.nd (.nd (.nd .nil 24 c24 .nil) 25 c25 .nil) 26 c26 (.nd .nil 27 c27 .nil)) 28 c28 (.nd (.nd (.nd .nil 29 c29 .nil) 41 c41 .nil) 42 c42 (.nd .nil 44 c44 .nil)))) 45 c45 (.nd (.nd (.nd (.nd (.nd .nil 46 c46 .nil) 47 c47 .nil) 48 c48 (.nd (.nd .nil 49 c49 .nil) 50 SR .nil)) 51 c51 (.nd (.nd (.nd .nil 52 IF .nil) 53 c53 .nil) 54 c54 (.nd .nil 55 c55 .nil))) 56 c56 (.nd (.nd (.nd (.nd .nil 57 c57 .nil) 58 c58 .nil) 59 c59 (.nd .nil 60 c60 .nil)) 71 c71 (.nd (.nd (.nd .nil 72 Fh .nil) 73 c73 .nil) 74 c74 (.nd .nil 75 c75 .nil))))) 76 c76 (.nd (.nd (.nd (.nd (.nd (.nd .nil 77 c77 .nil) 78 c78 .nil) 79 Zq (.nd (.nd .nil 80 c80 .nil) 81 c81 .nil)) 82 c82 (.nd (.nd (.nd .nil 83 c83 .nil) 84 c84 .nil) 85 c85 (.nd .nil 86 c86 .nil))) 87 c87 (.nd (.nd (.nd (.nd .nil 88 c88 .nil) 89 c89 .nil) 90 c90 (.nd .nil 91 c91 .nil)) 92 c92 (.nd (.nd (.nd .nil 93 c93 .nil) 94 c94 .nil) 95 c95 (.nd .nil 96 c96 .nil)))) 97 c97 (.nd (.nd (.nd (.nd (.nd .nil 98 c98 .nil) 99 c99 .nil) 100 S1 (.nd (.nd .nil 101 Lx .nil) 108 amD .nil)) 109 S2 (.nd (.nd (.nd .nil 110 S3 .nil) 111 PU .nil) 112 I4 (.nd .nil 113 xk .nil))) 114 PV (.nd (.nd (.nd (.nd .nil 115 S4 .nil) 116 S5 .nil) 117 S6 (.nd .nil 118 S7 .nil)) 119 amP (.nd (.nd (.nd .nil 120 amR .nil) 121 amT .nil) 122 S8 (.nd .nil 123 amW .nil)))))) 124 S9 (.nd (.nd (.nd (.nd (.nd (.nd (.nd .nil 125 PW .nil) 126 af5 .nil) 127 I5 (.nd (.nd .nil 128 Ta .nil) 129 Td .nil)) 130 Te (.nd (.nd (.nd .nil 131 Ly .nil) 132 Tf .nil) 133 PZ (.nd .nil 134 Tg .nil))) 135 Th (.nd (.nd (.nd (.nd .nil 136 P3 .nil) 137 Ti .nil) 138 Tj (.nd .nil 139 Tl .nil)) 140 Tm (.nd (.nd (.nd .nil 141 P6 .nil) 142 Tn .nil) 143 To (.nd .nil 144 Lz .nil)))) 145 Tp (.nd (.nd (.nd (.nd (.nd .nil 146 P8 .nil) 147 I6 .nil) 148 LA (.nd (.nd .nil 162 vz .nil) 163 LB .nil)) 164 Tq (.nd (.nd (.nd .nil 165 P9 .nil) 166 Ts .nil) 167 Tu (.nd .nil 168 Qa .nil))) 169 Qb (.nd (.nd (.nd (.nd .nil 170 anw .nil) 171 anz .nil) 172 anB (.nd .nil 173 anD .nil)) 174 anF (.nd (.nd (.nd .nil 175 LC .nil) 176 Tv .nil) 177 Tw (.nd .nil 178 Qe .nil))))) 179 Tx (.nd (.nd (.nd (.nd (.nd (.nd .nil 180 I7 .nil) 181 Qg .nil) 182 Ty (.nd (.nd .nil 183 Tz .nil) 184 CJ .nil)) 185 TA (.nd (.nd (.nd .nil 199 TB .nil) 200 Qh .nil) 201 TC (.nd .nil 202 TD .nil))) 203 TE (.nd (.nd (.nd (.nd .nil 204 anX .nil) 205 Qi .nil) 206 an0 (.nd .nil 207 an2 .nil)) 208 Qj (.nd (.nd (.nd .nil 209 Qk .nil) 210 TF .nil) 211 Ql (.nd .nil 212 TG .nil)))) 213 TH (.nd (.nd (.nd (.nd (.nd .nil 214 Qm .nil) 215 Qn .nil) 216 rP (.nd .nil 225 aod .nil)) 226 aof (.nd (.nd (.nd .nil 227 LD .nil) 228 Qo .nil) 229 Qp (.nd .nil 230 TI .nil))) 231 zP (.nd (.nd (.nd (.nd .nil 232 ED .nil) 240 aon .nil) 241 LF (.nd .nil 252 aor .nil)) 260 aot (.nd (.nd (.nd .nil 261 aov .nil) 268 aox .nil) 272 aoz (.nd .nil 273 aoB .nil)))))))
theorem af6:Ft.All (GB Tryz.prog) pET:=⟨⟨⟨⟨⟨⟨⟨⟨trivial,kq3,trivial⟩,kq7,trivial⟩,kq8,⟨⟨trivial,kq9,trivial⟩,avg,trivial⟩⟩,avh,⟨⟨⟨trivial,avi,trivial⟩,avj,trivial⟩,avk,⟨trivial,avl,trivial⟩⟩⟩,avm,⟨⟨⟨⟨trivial,avn,trivial⟩,avo,trivial⟩,avp,⟨trivial,avq,trivial⟩⟩,avr,⟨⟨⟨trivial,avs,trivial⟩,avt,trivial⟩,avu,⟨trivial,avv,trivial⟩⟩⟩⟩,avw,⟨⟨⟨⟨⟨trivial,avx,trivial⟩,avy,trivial⟩,avz,⟨⟨trivial,avA,trivial⟩,avB,trivial⟩⟩,avC,⟨⟨⟨trivial,avD,trivial⟩,avE,trivial⟩,avF,⟨trivial,avG,trivial⟩⟩⟩,avH,⟨⟨⟨⟨trivial,avI,trivial⟩,avJ,trivial⟩,avK,⟨trivial,avL,trivial⟩⟩,avM,⟨⟨⟨trivial,avN,trivial⟩,avO,trivial⟩,avP,⟨trivial,avQ,trivial⟩⟩⟩⟩⟩,avR,⟨⟨⟨⟨⟨⟨trivial,avS,trivial⟩,avV,trivial⟩,avW,⟨⟨trivial,avX,trivial⟩,avY,trivial⟩⟩,avZ,⟨⟨⟨trivial,av0,trivial⟩,av1,trivial⟩,av2,⟨trivial,av3,trivial⟩⟩⟩,av4,⟨⟨⟨⟨trivial,av5,trivial⟩,av6,trivial⟩,av7,⟨trivial,av8,trivial⟩⟩,av9,⟨⟨⟨trivial,awb,trivial⟩,awc,trivial⟩,awd,⟨trivial,awe,trivial⟩⟩⟩⟩,awf,⟨⟨⟨⟨⟨trivial,awg,trivial⟩,awh,trivial⟩,amB,⟨⟨trivial,amC,trivial⟩,amE,trivial⟩⟩,amF,⟨⟨⟨trivial,amG,trivial⟩,amH,trivial⟩,amI,⟨trivial,amJ,trivial⟩⟩⟩,amK,⟨⟨⟨⟨trivial,amL,trivial⟩,amM,trivial⟩,amN,⟨trivial,amO,trivial⟩⟩,amQ,⟨⟨⟨trivial,amS,trivial⟩,amU,trivial⟩,amV,⟨trivial,amX,trivial⟩⟩⟩⟩⟩⟩,amY,⟨⟨⟨⟨⟨⟨⟨trivial,amZ,trivial⟩,am0,trivial⟩,am1,⟨⟨trivial,am2,trivial⟩,am3,trivial⟩⟩,am4,⟨⟨⟨trivial,am5,trivial⟩,am6,trivial⟩,am7,⟨trivial,am8,trivial⟩⟩⟩,am9,⟨⟨⟨⟨trivial,ana,trivial⟩,anb,trivial⟩,anc,⟨trivial,ane,trivial⟩⟩,anf,⟨⟨⟨trivial,ang,trivial⟩,anh,trivial⟩,ani,⟨trivial,anj,trivial⟩⟩⟩⟩,ank,⟨⟨⟨⟨⟨trivial,anl,trivial⟩,anm,trivial⟩,ann,⟨⟨trivial,ano,trivial⟩,anp,trivial⟩⟩,anq,⟨⟨⟨trivial,anr,trivial⟩,ans,trivial⟩,ant,⟨trivial,anu,trivial⟩⟩⟩,anv,⟨⟨⟨⟨trivial,anx,trivial⟩,anA,trivial⟩,anC,⟨trivial,anE,trivial⟩⟩,anG,⟨⟨⟨trivial,anH,trivial⟩,anI,trivial⟩,anJ,⟨trivial,anK,trivial⟩⟩⟩⟩⟩,anL,⟨⟨⟨⟨⟨⟨trivial,anM,trivial⟩,anN,trivial⟩,anO,⟨⟨trivial,anP,trivial⟩,anQ,trivial⟩⟩,anR,⟨⟨⟨trivial,anS,trivial⟩,anT,trivial⟩,anU,⟨trivial,anV,trivial⟩⟩⟩,anW,⟨⟨⟨⟨trivial,anY,trivial⟩,anZ,trivial⟩,an1,⟨trivial,an3,trivial⟩⟩,an4,⟨⟨⟨trivial,an5,trivial⟩,an6,trivial⟩,an7,⟨trivial,an8,trivial⟩⟩⟩⟩,an9,⟨⟨⟨⟨⟨trivial,aoa,trivial⟩,aob,trivial⟩,aoc,⟨trivial,aoe,trivial⟩⟩,aog,⟨⟨⟨trivial,aoh,trivial⟩,aoi,trivial⟩,aoj,⟨trivial,aok,trivial⟩⟩⟩,aol,⟨⟨⟨⟨trivial,aom,trivial⟩,aoo,trivial⟩,aoq,⟨trivial,aos,trivial⟩⟩,aou,⟨⟨⟨trivial,aow,trivial⟩,aoy,trivial⟩,aoA,⟨trivial,aoC,trivial⟩⟩⟩⟩⟩⟩⟩
def pEx(f:Nat):Option (List T→Option T):=bif Nat.beq f 253 then some idxE else none
def pEy(_:Nat):Option (List T→Option (List T×Option Nat)):=none
def pE:Env:=⟨pET.find,pEx,pEy⟩
theorem aoD:tJ Tryz.prog pE:=aoE af6 (fun f g h=>by
 unfold pEx at h
 cases hc:Nat.beq f 253 with
 |true=>rw[hc,cond_true]at h;cases h;rw[Nat.eq_of_beq_eq_true hc];exact Tryz.idxOk
 |false=>rw[hc,cond_false]at h;cases h) (fun f g h=>by
 cases h)
section
variable{f j:Nat}{c:gP}(e:pE.fn f=some c)
include e
theorem TK(he:c.eff=true): ∀{z:Nat} {fr:Fr} {lh:gW b8} {sh:List b8} {args:List T},args.all kept=true→iR pE (be pE) z ⟨fr,lh,sh⟩ f args=(be pE f args sh).bind fun r=>some (r.1,⟨fr,lh,r.2⟩):=fun h=>Qq e he h
theorem yEd(he:c.eff=true): ∀{n:Nat} {fr:Fr} {lh:gW b8} {sh:List b8} {u:List Nat} {d:Option Nat} {opl:List im} {ds:List (List Nat×dy)} {jl:List FP},(opl.map (rd fr)).all kept=true→iw pE (be pE) n ((u,⟨d,.callf f opl,none⟩)::ds) jl ⟨fr,lh,sh⟩=if meets u jl Fu=true then ke pE (be pE) n ds (jl++ [Fu]) (dE pE (be pE) n [⟨d,.callf f opl,none⟩] ⟨fr,lh,sh⟩)else none:=fun h=>Zx e he h
theorem yE(he:c.eff=true): ∀{z:Nat} {fr:Fr} {lh:gW b8} {sh:List b8} {args:List T},iR pE (be pE) z ⟨fr,lh,sh⟩ f args=(BJ lh sh true args).bind fun q=>(be pE f q.1 ((St.mk fr lh sh).ups q.2).sh).bind fun r=>some (r.1,{(St.mk fr lh sh).ups q.2 with sh:=r.2}):=TL e he
theorem yT(he:c.eff=false)(ho:c.own=none): ∀{z:Nat} {fr:Fr} {lh:gW b8} {sh:List b8} {args:List T},args.all froz=true→iR pE (be pE) z ⟨fr,lh,sh⟩ f args=(be pE f args []).bind fun r=>some (r.1,⟨fr,lh,sh⟩):=fun h=>I8 e he ho h
theorem yP(he:c.eff=false)(ho:c.own=none): ∀{z:Nat} {fr:Fr} {lh:gW b8} {sh:List b8} {args:List T},iR pE (be pE) z ⟨fr,lh,sh⟩ f args=(BJ lh sh false args).bind fun q=>(be pE f q.1 []).bind fun r=>some (r.1,if scalar r.1=true then⟨fr,lh,sh⟩else(St.mk fr lh sh).ups q.2):=I9 e he ho
theorem yd(he:c.eff=false)(ho:c.own=none): ∀{n:Nat} {fr:Fr} {lh:gW b8} {sh:List b8} {u:List Nat} {d:Option Nat} {opl:List im} {ds:List (List Nat×dy)} {jl:List FP},(opl.map (rd fr)).all froz=true→iw pE (be pE) n ((u,⟨d,.callf f opl,none⟩)::ds) jl ⟨fr,lh,sh⟩=ke pE (be pE) n ds (jl++ [nz]) (dE pE (be pE) n [⟨d,.callf f opl,none⟩] ⟨fr,lh,sh⟩):=fun h=>af8 e he ho h
end
set_option linter.defProp false
theorem fn3:pE.fn 3=some c3:=rfl
theorem fn7:pE.fn 7=some c7:=rfl
def dc7:=@yT _ _ fn7 rfl rfl
theorem fn8:pE.fn 8=some c8:=rfl
def dc8:=@yT _ _ fn8 rfl rfl
def dp8:=@yP _ _ fn8 rfl rfl
theorem fn9:pE.fn 9=some c9:=rfl
def dc9:=@yT _ _ fn9 rfl rfl
theorem awi:pE.fn 10=some Fg:=rfl
def aoG:=@yT _ _ awi rfl rfl
theorem af9:pE.fn 18=some c18:=rfl
def rQ:=@yT _ _ af9 rfl rfl
def awj:=@yd _ _ af9 rfl rfl
theorem aoH:pE.fn 19=some c19:=rfl
def awk:=@yP _ _ aoH rfl rfl
theorem aga:pE.fn 20=some c20:=rfl
def awl:=@yP _ _ aga rfl rfl
theorem agb:pE.fn 21=some c21:=rfl
def awm:=@yT _ _ agb rfl rfl
def awn:=@yd _ _ agb rfl rfl
theorem agc:pE.fn 22=some c22:=rfl
def awo:=@yP _ _ agc rfl rfl
theorem Zy:pE.fn 23=some Zp:=rfl
def Zz:=@yT _ _ Zy rfl rfl
theorem aoI:pE.fn 24=some c24:=rfl
def agd:=@yT _ _ aoI rfl rfl
theorem aoJ:pE.fn 25=some c25:=rfl
def aoK:=@yT _ _ aoJ rfl rfl
theorem ZA:pE.fn 26=some c26:=rfl
def awp:=@yT _ _ ZA rfl rfl
def awq:=@yd _ _ ZA rfl rfl
theorem aoL:pE.fn 27=some c27:=rfl
def awr:=@yT _ _ aoL rfl rfl
theorem aoM:pE.fn 28=some c28:=rfl
def aws:=@yT _ _ aoM rfl rfl
theorem age:pE.fn 41=some c41:=rfl
def awt:=@yT _ _ age rfl rfl
def awu:=@yd _ _ age rfl rfl
theorem aoN:pE.fn 42=some c42:=rfl
def aoO:=@yT _ _ aoN rfl rfl
theorem agf:pE.fn 44=some c44:=rfl
def awv:=@yT _ _ agf rfl rfl
def aww:=@yd _ _ agf rfl rfl
theorem aoP:pE.fn 45=some c45:=rfl
def awx:=@yT _ _ aoP rfl rfl
theorem agh:pE.fn 46=some c46:=rfl
def Ja:=@yT _ _ agh rfl rfl
def Jb:=@yd _ _ agh rfl rfl
theorem aoQ:pE.fn 47=some c47:=rfl
def awy:=@yT _ _ aoQ rfl rfl
theorem aoR:pE.fn 48=some c48:=rfl
def awz:=@yT _ _ aoR rfl rfl
theorem aoS:pE.fn 49=some c49:=rfl
def agi:=@yT _ _ aoS rfl rfl
theorem agj:pE.fn 50=some SR:=rfl
def aoT:=@yT _ _ agj rfl rfl
theorem aoU:pE.fn 51=some c51:=rfl
def awA:=@TK _ _ aoU rfl
theorem agk:pE.fn 52=some IF:=rfl
def qI:=@TK _ _ agk rfl
def rq:=@yEd _ _ agk rfl
theorem agl:pE.fn 53=some c53:=rfl
def aoV:=@yT _ _ agl rfl rfl
def aoW:=@yP _ _ agl rfl rfl
theorem aoX:pE.fn 54=some c54:=rfl
def aoY:=@yT _ _ aoX rfl rfl
theorem aoZ:pE.fn 55=some c55:=rfl
def ao0:=@yT _ _ aoZ rfl rfl
theorem ZB:pE.fn 56=some c56:=rfl
def awB:=@yT _ _ ZB rfl rfl
def awC:=@yP _ _ ZB rfl rfl
def awD:=@yd _ _ ZB rfl rfl
theorem ZC:pE.fn 57=some c57:=rfl
def awE:=@yT _ _ ZC rfl rfl
def awF:=@yP _ _ ZC rfl rfl
def awG:=@yd _ _ ZC rfl rfl
theorem ao1:pE.fn 58=some c58:=rfl
def ao2:=@TK _ _ ao1 rfl
theorem ao3:pE.fn 59=some c59:=rfl
theorem agm:pE.fn 60=some c60:=rfl
def ao4:=@yT _ _ agm rfl rfl
theorem ao5:pE.fn 71=some c71:=rfl
def ao6:=@yT _ _ ao5 rfl rfl
theorem ZD:pE.fn 72=some Fh:=rfl
def CM:=@yT _ _ ZD rfl rfl
def awH:=@yP _ _ ZD rfl rfl
def ao7:=@yd _ _ ZD rfl rfl
theorem agn:pE.fn 73=some c73:=rfl
def EF:=@yT _ _ agn rfl rfl
def ao8:=@yd _ _ agn rfl rfl
theorem ao9:pE.fn 74=some c74:=rfl
def apa:=@yP _ _ ao9 rfl rfl
theorem ago:pE.fn 75=some c75:=rfl
def awI:=@TK _ _ ago rfl
def awJ:=@yEd _ _ ago rfl
theorem agp:pE.fn 76=some c76:=rfl
def agq:=@yT _ _ agp rfl rfl
def awK:=@yd _ _ agp rfl rfl
theorem apb:pE.fn 77=some c77:=rfl
def awL:=@yT _ _ apb rfl rfl
theorem awM:pE.fn 78=some c78:=rfl
def awN:=@yT _ _ awM rfl rfl
theorem ZE:pE.fn 79=some Zq:=rfl
def awO:=@yE _ _ ZE rfl
theorem apc:pE.fn 80=some c80:=rfl
def awP:=@yP _ _ apc rfl rfl
theorem apd:pE.fn 81=some c81:=rfl
def awQ:=@yT _ _ apd rfl rfl
theorem ape:pE.fn 82=some c82:=rfl
def apf:=@yT _ _ ape rfl rfl
theorem apg:pE.fn 83=some c83:=rfl
def aph:=@yT _ _ apg rfl rfl
theorem api:pE.fn 84=some c84:=rfl
def ZF:=@yT _ _ api rfl rfl
theorem apj:pE.fn 85=some c85:=rfl
def apk:=@yT _ _ apj rfl rfl
theorem apl:pE.fn 86=some c86:=rfl
def apm:=@yP _ _ apl rfl rfl
theorem agr:pE.fn 87=some c87:=rfl
def awR:=@yT _ _ agr rfl rfl
def awS:=@yd _ _ agr rfl rfl
theorem ags:pE.fn 88=some c88:=rfl
def apn:=@yT _ _ ags rfl rfl
theorem apo:pE.fn 89=some c89:=rfl
def awT:=@TK _ _ apo rfl
theorem apq:pE.fn 90=some c90:=rfl
def TM:=@yT _ _ apq rfl rfl
theorem apr:pE.fn 91=some c91:=rfl
def aps:=@TK _ _ apr rfl
theorem apt:pE.fn 92=some c92:=rfl
def agt:=@TK _ _ apt rfl
theorem awU:pE.fn 93=some c93:=rfl
def ZG:=@yT _ _ awU rfl rfl
theorem apu:pE.fn 94=some c94:=rfl
def ZH:=@TK _ _ apu rfl
theorem apv:pE.fn 95=some c95:=rfl
def apw:=@yE _ _ apv rfl
theorem TN:pE.fn 96=some c96:=rfl
def apx:=@yE _ _ TN rfl
theorem apy:pE.fn 97=some c97:=rfl
def agu:=@yP _ _ apy rfl rfl
theorem apz:pE.fn 98=some c98:=rfl
def apA:=@yT _ _ apz rfl rfl
theorem agv:pE.fn 99=some c99:=rfl
def awV:=@yT _ _ agv rfl rfl
def awW:=@yd _ _ agv rfl rfl
theorem TO:pE.fn 100=some S1:=rfl
def apB:=@yT _ _ TO rfl rfl
def apC:=@yd _ _ TO rfl rfl
theorem TP:pE.fn 101=some Lx:=rfl
def adi:=@yT _ _ TP rfl rfl
theorem adj:pE.fn 109=some S2:=rfl
def Jc:=@yT _ _ adj rfl rfl
theorem TQ:pE.fn 110=some S3:=rfl
def Nv:=@yT _ _ TQ rfl rfl
def apD:=@yd _ _ TQ rfl rfl
theorem TR:pE.fn 111=some PU:=rfl
def apE:=@yT _ _ TR rfl rfl
def apF:=@yd _ _ TR rfl rfl
theorem adk:pE.fn 112=some I4:=rfl
def TS:=@yT _ _ adk rfl rfl
theorem TT:pE.fn 113=some xk:=rfl
def apG:=@yT _ _ TT rfl rfl
def apH:=@yd _ _ TT rfl rfl
theorem adl:pE.fn 114=some PV:=rfl
def apI:=@yT _ _ adl rfl rfl
theorem adm:pE.fn 115=some S4:=rfl
def adn:=@yT _ _ adm rfl rfl
theorem TU:pE.fn 116=some S5:=rfl
def ado:=@yT _ _ TU rfl rfl
def adp:=@yd _ _ TU rfl rfl
theorem adq:pE.fn 117=some S6:=rfl
def TV:=@yT _ _ adq rfl rfl
theorem adr:pE.fn 118=some S7:=rfl
def ads:=@yT _ _ adr rfl rfl
theorem adt:pE.fn 122=some S8:=rfl
def rR:=@yT _ _ adt rfl rfl
theorem adu:pE.fn 124=some S9:=rfl
def xz:=@yT _ _ adu rfl rfl
theorem adv:pE.fn 125=some PW:=rfl
def xD:=@yT _ _ adv rfl rfl
theorem apJ:pE.fn 126=some af5:=rfl
def xE:=@yT _ _ apJ rfl rfl
theorem TW:pE.fn 127=some I5:=rfl
def xF:=@yT _ _ TW rfl rfl
def xG:=@yd _ _ TW rfl rfl
theorem adw:pE.fn 128=some Ta:=rfl
def apK:=@yT _ _ adw rfl rfl
theorem adx:pE.fn 129=some Td:=rfl
def Jd:=@yT _ _ adx rfl rfl
theorem ady:pE.fn 130=some Te:=rfl
def Fv:=@yT _ _ ady rfl rfl
theorem adz:pE.fn 131=some Ly:=rfl
def Nw:=@yT _ _ adz rfl rfl
theorem adA:pE.fn 132=some Tf:=rfl
def apL:=@yT _ _ adA rfl rfl
theorem adB:pE.fn 133=some PZ:=rfl
def Je:=@yT _ _ adB rfl rfl
theorem adC:pE.fn 134=some Tg:=rfl
def Nx:=@yT _ _ adC rfl rfl
theorem adD:pE.fn 135=some Th:=rfl
def TX:=@yT _ _ adD rfl rfl
theorem adE:pE.fn 136=some P3:=rfl
def apM:=@yT _ _ adE rfl rfl
theorem adF:pE.fn 137=some Ti:=rfl
def Jf:=@yT _ _ adF rfl rfl
theorem adG:pE.fn 138=some Tj:=rfl
def apN:=@yT _ _ adG rfl rfl
theorem adH:pE.fn 139=some Tl:=rfl
def apO:=@yT _ _ adH rfl rfl
theorem adI:pE.fn 140=some Tm:=rfl
def TY:=@yT _ _ adI rfl rfl
theorem adJ:pE.fn 141=some P6:=rfl
def apP:=@yT _ _ adJ rfl rfl
theorem adL:pE.fn 142=some Tn:=rfl
def apQ:=@yT _ _ adL rfl rfl
theorem adM:pE.fn 143=some To:=rfl
def Ny:=@yT _ _ adM rfl rfl
theorem adN:pE.fn 144=some Lz:=rfl
def apR:=@yT _ _ adN rfl rfl
theorem adO:pE.fn 145=some Tp:=rfl
def apU:=@yT _ _ adO rfl rfl
theorem adP:pE.fn 146=some P8:=rfl
def Jg:=@TK _ _ adP rfl
theorem Nz:pE.fn 147=some I6:=rfl
def TZ:=@yT _ _ Nz rfl rfl
def T0:=@yd _ _ Nz rfl rfl
theorem T1:pE.fn 148=some LA:=rfl
def adQ:=@yT _ _ T1 rfl rfl
theorem adR:pE.fn 162=some vz:=rfl
def adS:=@yT _ _ adR rfl rfl
theorem adT:pE.fn 163=some LB:=rfl
def apV:=@yT _ _ adT rfl rfl
theorem adU:pE.fn 164=some Tq:=rfl
def apW:=@yT _ _ adU rfl rfl
theorem adV:pE.fn 165=some P9:=rfl
def apX:=@yT _ _ adV rfl rfl
theorem adW:pE.fn 166=some Ts:=rfl
def apY:=@yT _ _ adW rfl rfl
theorem adX:pE.fn 167=some Tu:=rfl
def apZ:=@yT _ _ adX rfl rfl
theorem adY:pE.fn 168=some Qa:=rfl
def adZ:=@yT _ _ adY rfl rfl
theorem ad0:pE.fn 169=some Qb:=rfl
def ad1:=@yT _ _ ad0 rfl rfl
theorem ad2:pE.fn 175=some LC:=rfl
def ad3:=@yT _ _ ad2 rfl rfl
theorem ad4:pE.fn 176=some Tv:=rfl
def ap0:=@yT _ _ ad4 rfl rfl
theorem ad5:pE.fn 177=some Tw:=rfl
def T2:=@yT _ _ ad5 rfl rfl
theorem ad6:pE.fn 178=some Qe:=rfl
def ad7:=@yT _ _ ad6 rfl rfl
theorem ad8:pE.fn 179=some Tx:=rfl
def xH:=@yT _ _ ad8 rfl rfl
theorem ad9:pE.fn 180=some I7:=rfl
def NA:=@TK _ _ ad9 rfl
theorem aea:pE.fn 181=some Qg:=rfl
def aeb:=@yT _ _ aea rfl rfl
theorem aec:pE.fn 182=some Ty:=rfl
def ap1:=@yT _ _ aec rfl rfl
theorem aed:pE.fn 183=some Tz:=rfl
def T3:=@yT _ _ aed rfl rfl
theorem aee:pE.fn 184=some CJ:=rfl
def T4:=@TK _ _ aee rfl
theorem T5:pE.fn 185=some TA:=rfl
def NB:=@yT _ _ T5 rfl rfl
def aef:=@yd _ _ T5 rfl rfl
theorem aeg:pE.fn 199=some TB:=rfl
def tK:=@yT _ _ aeg rfl rfl
theorem aeh:pE.fn 200=some Qh:=rfl
def tL:=@yT _ _ aeh rfl rfl
theorem aei:pE.fn 201=some TC:=rfl
def ap2:=@yT _ _ aei rfl rfl
theorem aej:pE.fn 202=some TD:=rfl
def ap3:=@yT _ _ aej rfl rfl
theorem aek:pE.fn 203=some TE:=rfl
def ap4:=@yT _ _ aek rfl rfl
theorem ael:pE.fn 205=some Qi:=rfl
def ap5:=@yT _ _ ael rfl rfl
theorem aem:pE.fn 208=some Qj:=rfl
def T6:=@yT _ _ aem rfl rfl
theorem aen:pE.fn 209=some Qk:=rfl
def T7:=@yT _ _ aen rfl rfl
theorem aeo:pE.fn 210=some TF:=rfl
def ap6:=@yT _ _ aeo rfl rfl
theorem aep:pE.fn 211=some Ql:=rfl
def ap7:=@yT _ _ aep rfl rfl
theorem aeq:pE.fn 212=some TG:=rfl
def ap8:=@yT _ _ aeq rfl rfl
theorem aer:pE.fn 213=some TH:=rfl
def ap9:=@yT _ _ aer rfl rfl
theorem aes:pE.fn 214=some Qm:=rfl
def aqa:=@yT _ _ aes rfl rfl
theorem aet:pE.fn 215=some Qn:=rfl
def aqb:=@yT _ _ aet rfl rfl
theorem aeu:pE.fn 216=some rP:=rfl
def aev:=@yP _ _ aeu rfl rfl
theorem T8:pE.fn 227=some LD:=rfl
def aew:=@yT _ _ T8 rfl rfl
theorem aex:pE.fn 228=some Qo:=rfl
def aey:=@yT _ _ aex rfl rfl
theorem T9:pE.fn 229=some Qp:=rfl
def NC:=@yT _ _ T9 rfl rfl
def aez:=@yd _ _ T9 rfl rfl
theorem aeA:pE.fn 230=some TI:=rfl
def aeB:=@yT _ _ aeA rfl rfl
theorem Ua:pE.fn 231=some zP:=rfl
def aeC:=@yT _ _ Ua rfl rfl
def aeD:=@yd _ _ Ua rfl rfl
theorem ND:pE.fn 232=some ED:=rfl
def aqc:=@yT _ _ ND rfl rfl
theorem Ub:pE.fn 241=some LF:=rfl
def aeE:=@yT _ _ Ub rfl rfl
end Go.Proofs.YtcpceiclnbmgiaaGreat
