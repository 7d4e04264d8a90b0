/- The functions that the statement reaches, as one table. Conditions: none. -/
import Derived.Test.YtblcbheipjeoeaaGreatCoA
import Derived.Test.YtblcbheipjeoeaaGreatCoB
import Derived.Test.YtblcbheipjeoeaaGreatCoC
import Derived.Test.YtblcbheipjeoeaaGreatIC
import Derived.Test.YtblcbheipjeoeaaGreatEvG
set_option linter.unusedVariables false
namespace Go.Proofs.YtblcbheipjeoeaaGreat
open Go Go.Ev
def pET:Gb:=(.nd (.nd (.nd (.nd (.nd (.nd (.nd (.nd .nil 5 c5 .nil) 7 c7 (.nd .nil 17 c17 .nil)) 20 c20 (.nd (.nd .nil 21 c21 .nil) 23 c23 .nil)) 26 c26 (.nd (.nd (.nd .nil 27 c27 .nil) 28 c28 (.nd .nil 29 c29 .nil)) 30 c30 (.nd (.nd .nil 38 c38 .nil) 39 c39 .nil))) 40 c40 (.nd (.nd (.nd (.nd .nil 41 c41 .nil) 42 c42 (.nd .nil 43 c43 .nil)) 45 c45 (.nd (.nd .nil 46 c46 .nil) 48 c48 .nil)) 49 c49 (.nd (.nd (.nd .nil 51 c51 .nil) 52 c52 .nil) 53 c53 (.nd (.nd .nil 54 c54 .nil) 55 c55 .nil)))) 57 c57 (.nd (.nd (.nd (.nd (.nd .nil 58 c58 .nil) 61 c61 (.nd .nil 63 c63 .nil)) 64 c64 (.nd (.nd .nil 65 c65 .nil) 66 c66 .nil)) 67 c67 (.nd (.nd (.nd .nil 68 c68 .nil) 71 c71 .nil) 74 c74 (.nd (.nd .nil 75 c75 .nil) 76 c76 .nil))) 77 c77 (.nd (.nd (.nd (.nd .nil 78 Tj .nil) 85 c85 (.nd .nil 86 TJ .nil)) 87 Tk (.nd (.nd .nil 88 c88 .nil) 89 Ju .nil)) 90 c90 (.nd (.nd (.nd .nil 92 TN .nil) 93 Tl .nil) 94 c94 (.nd (.nd .nil 95 c95 .nil) 96 c96 .nil))))) 97 c97 (.nd (.nd (.nd (.nd (.nd (.nd .nil 98 c98 .nil) 99 c99 (.nd .nil 100 alv .nil)) 101 alx (.nd (.nd .nil 102 alz .nil) 103 Qr .nil)) 104 Mi (.nd (.nd (.nd .nil 105 TP .nil) 106 TQ (.nd .nil 107 TR .nil)) 108 TS (.nd (.nd .nil 109 Qs .nil) 110 TT .nil))) 113 ahq (.nd (.nd (.nd (.nd .nil 114 Qu .nil) 115 TU (.nd .nil 116 TV .nil)) 117 TW (.nd (.nd .nil 118 TX .nil) 119 alQ .nil)) 120 TY (.nd (.nd (.nd .nil 121 tw .nil) 122 Qv .nil) 123 vP (.nd (.nd .nil 124 Mj .nil) 125 Qw .nil)))) 126 Qx (.nd (.nd (.nd (.nd (.nd .nil 127 pS .nil) 129 Jx (.nd .nil 133 TZ .nil)) 138 Fo (.nd (.nd .nil 139 Mk .nil) 140 yA .nil)) 141 Qy (.nd (.nd (.nd .nil 142 qp .nil) 143 T0 .nil) 144 Ml (.nd (.nd .nil 145 Mm .nil) 146 QB .nil))) 150 Fp (.nd (.nd (.nd (.nd .nil 151 HA .nil) 152 QC (.nd .nil 153 HB .nil)) 154 vQ (.nd (.nd .nil 155 Mn .nil) 156 QD .nil)) 157 Mo (.nd (.nd (.nd .nil 158 QE .nil) 159 QF .nil) 160 T1 (.nd (.nd .nil 161 T2 .nil) 162 T3 .nil)))))) 163 T4 (.nd (.nd (.nd (.nd (.nd (.nd (.nd .nil 164 T5 .nil) 165 QI (.nd .nil 166 T6 .nil)) 167 T7 (.nd (.nd .nil 168 T8 .nil) 180 T9 .nil)) 181 Ua (.nd (.nd (.nd .nil 182 Ub .nil) 183 Uc (.nd .nil 184 Ud .nil)) 185 Ue (.nd (.nd .nil 186 Uf .nil) 187 Ug .nil))) 188 HC (.nd (.nd (.nd (.nd .nil 189 Uh .nil) 190 amE (.nd .nil 191 Ui .nil)) 192 Uj (.nd (.nd .nil 193 QK .nil) 194 Jy .nil)) 195 zx (.nd (.nd (.nd .nil 196 Mp .nil) 197 Fq .nil) 198 Uk (.nd (.nd .nil 199 Ul .nil) 200 Mq .nil)))) 201 HD (.nd (.nd (.nd (.nd (.nd .nil 202 zy .nil) 203 Ba (.nd .nil 204 Um .nil)) 208 Un (.nd (.nd .nil 209 Mr .nil) 210 Uo .nil)) 216 QM (.nd (.nd (.nd .nil 222 QN .nil) 223 QO .nil) 224 Jz (.nd (.nd .nil 225 Uq .nil) 226 Ur .nil))) 227 Us (.nd (.nd (.nd (.nd .nil 228 Ut .nil) 229 QR (.nd .nil 230 Ms .nil)) 231 QS (.nd (.nd .nil 236 QT .nil) 237 QU .nil)) 238 QV (.nd (.nd (.nd .nil 239 JA .nil) 240 Uu .nil) 241 Uv (.nd (.nd .nil 242 Uw .nil) 243 Ux .nil))))) 250 Uy (.nd (.nd (.nd (.nd (.nd (.nd .nil 251 QX .nil) 252 Uz (.nd .nil 253 UA .nil)) 254 QY (.nd (.nd .nil 255 UB .nil) 256 QZ .nil)) 257 UC (.nd (.nd (.nd .nil 258 xU .nil) 259 Dl (.nd .nil 260 UD .nil)) 261 pT (.nd (.nd .nil 262 qq .nil) 263 Q0 .nil))) 264 anv (.nd (.nd (.nd (.nd .nil 266 UE .nil) 271 UF (.nd .nil 272 JB .nil)) 273 qT (.nd (.nd .nil 274 UG .nil) 275 Dm .nil)) 278 UH (.nd (.nd (.nd .nil 279 UI .nil) 281 UJ .nil) 282 UK (.nd (.nd .nil 283 UL .nil) 284 UM .nil)))) 285 UN (.nd (.nd (.nd (.nd (.nd .nil 286 Q1 .nil) 287 Q2 (.nd .nil 288 UO .nil)) 289 Q3 (.nd (.nd .nil 290 UP .nil) 294 Q4 .nil)) 295 anR (.nd (.nd (.nd .nil 296 anT .nil) 299 UQ .nil) 300 UR (.nd (.nd .nil 301 Q5 .nil) 302 tA .nil))) 304 Q6 (.nd (.nd (.nd (.nd .nil 309 an0 .nil) 310 an2 (.nd .nil 311 an4 .nil)) 315 an6 (.nd (.nd .nil 316 an8 .nil) 317 Q7 .nil)) 319 Mt (.nd (.nd (.nd .nil 320 Q8 .nil) 321 US .nil) 322 Bc (.nd (.nd .nil 323 Fs .nil) 325 Mu .nil)))))))
theorem ahr:Gb.All (HE Tryz.prog) pET:=⟨⟨⟨⟨⟨⟨⟨⟨trivial,kq5,trivial⟩,kq7,⟨trivial,auL,trivial⟩⟩,auM,⟨⟨trivial,auN,trivial⟩,auO,trivial⟩⟩,auP,⟨⟨⟨trivial,auQ,trivial⟩,auR,⟨trivial,auS,trivial⟩⟩,auT,⟨⟨trivial,auU,trivial⟩,auV,trivial⟩⟩⟩,auW,⟨⟨⟨⟨trivial,auX,trivial⟩,auY,⟨trivial,auZ,trivial⟩⟩,au0,⟨⟨trivial,au1,trivial⟩,au2,trivial⟩⟩,au3,⟨⟨⟨trivial,au4,trivial⟩,au5,trivial⟩,au6,⟨⟨trivial,au7,trivial⟩,au8,trivial⟩⟩⟩⟩,au9,⟨⟨⟨⟨⟨trivial,ava,trivial⟩,avb,⟨trivial,avc,trivial⟩⟩,avd,⟨⟨trivial,ave,trivial⟩,avf,trivial⟩⟩,avg,⟨⟨⟨trivial,avh,trivial⟩,avi,trivial⟩,avj,⟨⟨trivial,avk,trivial⟩,avl,trivial⟩⟩⟩,avm,⟨⟨⟨⟨trivial,avn,trivial⟩,avo,⟨trivial,avp,trivial⟩⟩,avq,⟨⟨trivial,avr,trivial⟩,avs,trivial⟩⟩,avt,⟨⟨⟨trivial,avu,trivial⟩,avv,trivial⟩,avw,⟨⟨trivial,avx,trivial⟩,avy,trivial⟩⟩⟩⟩⟩,avz,⟨⟨⟨⟨⟨⟨trivial,avA,trivial⟩,avB,⟨trivial,alw,trivial⟩⟩,aly,⟨⟨trivial,alA,trivial⟩,alB,trivial⟩⟩,alC,⟨⟨⟨trivial,alD,trivial⟩,alE,⟨trivial,alF,trivial⟩⟩,alG,⟨⟨trivial,alH,trivial⟩,alI,trivial⟩⟩⟩,alJ,⟨⟨⟨⟨trivial,alK,trivial⟩,alM,⟨trivial,alN,trivial⟩⟩,alO,⟨⟨trivial,alP,trivial⟩,alR,trivial⟩⟩,alS,⟨⟨⟨trivial,alT,trivial⟩,alU,trivial⟩,alV,⟨⟨trivial,alW,trivial⟩,alX,trivial⟩⟩⟩⟩,alY,⟨⟨⟨⟨⟨trivial,alZ,trivial⟩,al0,⟨trivial,al1,trivial⟩⟩,al2,⟨⟨trivial,al3,trivial⟩,al4,trivial⟩⟩,al5,⟨⟨⟨trivial,al6,trivial⟩,al7,trivial⟩,al8,⟨⟨trivial,al9,trivial⟩,ama,trivial⟩⟩⟩,amb,⟨⟨⟨⟨trivial,amc,trivial⟩,amd,⟨trivial,ame,trivial⟩⟩,amf,⟨⟨trivial,amg,trivial⟩,amh,trivial⟩⟩,ami,⟨⟨⟨trivial,amj,trivial⟩,amk,trivial⟩,aml,⟨⟨trivial,amm,trivial⟩,amn,trivial⟩⟩⟩⟩⟩⟩,amo,⟨⟨⟨⟨⟨⟨⟨trivial,amp,trivial⟩,amq,⟨trivial,amr,trivial⟩⟩,ams,⟨⟨trivial,amt,trivial⟩,amu,trivial⟩⟩,amv,⟨⟨⟨trivial,amw,trivial⟩,amx,⟨trivial,amy,trivial⟩⟩,amz,⟨⟨trivial,amA,trivial⟩,amB,trivial⟩⟩⟩,amC,⟨⟨⟨⟨trivial,amD,trivial⟩,amF,⟨trivial,amG,trivial⟩⟩,amH,⟨⟨trivial,amI,trivial⟩,amJ,trivial⟩⟩,amK,⟨⟨⟨trivial,amL,trivial⟩,amM,trivial⟩,amN,⟨⟨trivial,amO,trivial⟩,amP,trivial⟩⟩⟩⟩,amQ,⟨⟨⟨⟨⟨trivial,amR,trivial⟩,amS,⟨trivial,amT,trivial⟩⟩,amU,⟨⟨trivial,amV,trivial⟩,amW,trivial⟩⟩,amX,⟨⟨⟨trivial,amY,trivial⟩,amZ,trivial⟩,am0,⟨⟨trivial,am1,trivial⟩,am2,trivial⟩⟩⟩,am3,⟨⟨⟨⟨trivial,am4,trivial⟩,am5,⟨trivial,am6,trivial⟩⟩,am7,⟨⟨trivial,am8,trivial⟩,am9,trivial⟩⟩,ana,⟨⟨⟨trivial,anb,trivial⟩,anc,trivial⟩,ane,⟨⟨trivial,anf,trivial⟩,ang,trivial⟩⟩⟩⟩⟩,anh,⟨⟨⟨⟨⟨⟨trivial,ani,trivial⟩,anj,⟨trivial,ank,trivial⟩⟩,anl,⟨⟨trivial,anm,trivial⟩,ann,trivial⟩⟩,ano,⟨⟨⟨trivial,anp,trivial⟩,anq,⟨trivial,anr,trivial⟩⟩,ans,⟨⟨trivial,ant,trivial⟩,anu,trivial⟩⟩⟩,anw,⟨⟨⟨⟨trivial,anx,trivial⟩,anz,⟨trivial,anA,trivial⟩⟩,anB,⟨⟨trivial,anC,trivial⟩,anD,trivial⟩⟩,anE,⟨⟨⟨trivial,anF,trivial⟩,anG,trivial⟩,anH,⟨⟨trivial,anI,trivial⟩,anJ,trivial⟩⟩⟩⟩,anK,⟨⟨⟨⟨⟨trivial,anL,trivial⟩,anM,⟨trivial,anN,trivial⟩⟩,anO,⟨⟨trivial,anP,trivial⟩,anQ,trivial⟩⟩,anS,⟨⟨⟨trivial,anU,trivial⟩,anV,trivial⟩,anW,⟨⟨trivial,anX,trivial⟩,anY,trivial⟩⟩⟩,anZ,⟨⟨⟨⟨trivial,an1,trivial⟩,an3,⟨trivial,an5,trivial⟩⟩,an7,⟨⟨trivial,an9,trivial⟩,aoa,trivial⟩⟩,aob,⟨⟨⟨trivial,aoc,trivial⟩,aod,trivial⟩,aoe,⟨⟨trivial,aof,trivial⟩,aog,trivial⟩⟩⟩⟩⟩⟩⟩
def pEx(f:Nat):Option (List T→Option T):=bif Nat.beq f 326 then some aak else none
def pEy(f:Nat):Option (List T→Option (List T×Option Nat)):=bif Nat.beq f 69 then some td else bif Nat.beq f 70 then some te else none
def pE:Env:=⟨pET.find,pEx,pEy⟩
theorem aoh:vI Tryz.prog pE:=aoi ahr (fun f g h=>by
 unfold pEx at h
 cases hc:Nat.beq f 326 with
 |true=>rw[hc,cond_true]at h;cases h;rw[Nat.eq_of_beq_eq_true hc];exact Tryz.idxOk
 |false=>rw[hc,cond_false]at h;cases h) (fun f g h=>by
 unfold pEy at h
 cases hb:Nat.beq f 69 with
 |true=>rw[hb,cond_true]at h;cases h;rw[Nat.eq_of_beq_eq_true hb];exact⟨⟨Tryz.f69,Tryz.func69,by kernel_rfl,by kernel_rfl⟩,Tryz.sortIOk⟩
 |false=>
  rw[hb,cond_false]at h
  cases hc:Nat.beq f 70 with
  |true=>rw[hc,cond_true]at h;cases h;rw[Nat.eq_of_beq_eq_true hc];exact⟨⟨Tryz.f70,Tryz.func70,by kernel_rfl,by kernel_rfl⟩,Tryz.compIOk⟩
  |false=>rw[hc,cond_false]at h;cases h)
section
variable{f j:Nat}{c:gU}(e:pE.fn f=some c)
include e
theorem ZM(he:c.eff=true): ∀{z:Nat} {fr:Fr} {lh:hJ gR} {sh:List gR} {args:List T},args.all kept=true→iU pE (gS pE) z ⟨fr,lh,sh⟩ f args=(gS pE f args sh).bind fun r=>some (r.1,⟨fr,lh,r.2⟩):=fun h=>Q9 e he h
theorem yEd(he:c.eff=true): ∀{n:Nat} {fr:Fr} {lh:hJ gR} {sh:List gR} {u:List Nat} {d:Option Nat} {ZN:List iz} {ds:List (List Nat×be)} {jM:List FP},(ZN.map (rd fr)).all kept=true→iK pE (gS pE) n ((u,⟨d,.callf f ZN,none⟩)::ds) jM ⟨fr,lh,sh⟩=if meets u jM Gc=true then ke pE (gS pE) n ds (jM++ [Gc]) (gV pE (gS pE) n [⟨d,.callf f ZN,none⟩] ⟨fr,lh,sh⟩)else none:=fun h=>aal e he h
theorem yT(he:c.eff=false)(ho:c.own=none): ∀{z:Nat} {fr:Fr} {lh:hJ gR} {sh:List gR} {args:List T},args.all froz=true→iU pE (gS pE) z ⟨fr,lh,sh⟩ f args=(gS pE f args []).bind fun r=>some (r.1,⟨fr,lh,sh⟩):=fun h=>JC e he ho h
theorem yP(he:c.eff=false)(ho:c.own=none): ∀{z:Nat} {fr:Fr} {lh:hJ gR} {sh:List gR} {args:List T},iU pE (gS pE) z ⟨fr,lh,sh⟩ f args=(HG lh sh false args).bind fun q=>(gS pE f q.1 []).bind fun r=>some (r.1,if scalar r.1=true then⟨fr,lh,sh⟩else(St.mk fr lh sh).ups q.2):=JD e he ho
theorem yd(he:c.eff=false)(ho:c.own=none): ∀{n:Nat} {fr:Fr} {lh:hJ gR} {sh:List gR} {u:List Nat} {d:Option Nat} {ZN:List iz} {ds:List (List Nat×be)} {jM:List FP},(ZN.map (rd fr)).all froz=true→iK pE (gS pE) n ((u,⟨d,.callf f ZN,none⟩)::ds) jM ⟨fr,lh,sh⟩=ke pE (gS pE) n ds (jM++ [nW]) (gV pE (gS pE) n [⟨d,.callf f ZN,none⟩] ⟨fr,lh,sh⟩):=fun h=>ahs e he ho h
theorem ye(he:c.eff=false)(ho:c.own=none): ∀{n:Nat} {fr:Fr} {lh:hJ gR} {sh:List gR} {d:Option Nat} {ZN:List iz} {ds:List (List Nat×be)} {jM:List FP},noU ds=true→iK pE (gS pE) n (([],⟨d,.callf f ZN,none⟩)::ds) jM ⟨fr,lh,sh⟩=ke pE (gS pE) n ds (jM++ [nW]) (gV pE (gS pE) n [⟨d,.callf f ZN,none⟩] ⟨fr,lh,sh⟩):=fun h=>aan e he ho h
theorem yOT(he:c.eff=false)(ho:c.own=some j): ∀{z:Nat} {fr:Fr} {lh:hJ gR} {sh:List gR} {args:List T},args.all froz=true→iU pE (gS pE) z ⟨fr,lh,sh⟩ f args=(gS pE f args []).bind fun r=>rz z j r.1 ⟨fr,lh,sh⟩ []:=fun h=>Ra e he ho h
end
set_option linter.defProp false
theorem fn5:pE.fn 5=some c5:=rfl
theorem fn7:pE.fn 7=some c7:=rfl
def dc7:=@yT _ _ fn7 rfl rfl
theorem avC:pE.fn 17=some c17:=rfl
def aao:=@yT _ _ avC rfl rfl
theorem aoj:pE.fn 20=some c20:=rfl
def avD:=@yT _ _ aoj rfl rfl
theorem aht:pE.fn 26=some c26:=rfl
def avE:=@yT _ _ aht rfl rfl
theorem aap:pE.fn 27=some c27:=rfl
def avF:=@yT _ _ aap rfl rfl
theorem aok:pE.fn 28=some c28:=rfl
def avG:=@yT _ _ aok rfl rfl
theorem aol:pE.fn 29=some c29:=rfl
def avH:=@yT _ _ aol rfl rfl
theorem aom:pE.fn 30=some c30:=rfl
def avI:=@yT _ _ aom rfl rfl
theorem aon:pE.fn 38=some c38:=rfl
def avJ:=@yT _ _ aon rfl rfl
theorem aoo:pE.fn 39=some c39:=rfl
def avK:=@yT _ _ aoo rfl rfl
theorem aaq:pE.fn 42=some c42:=rfl
def aoq:=@yT _ _ aaq rfl rfl
theorem aor:pE.fn 43=some c43:=rfl
def avL:=@yT _ _ aor rfl rfl
theorem aos:pE.fn 45=some c45:=rfl
def avM:=@yT _ _ aos rfl rfl
theorem ahu:pE.fn 49=some c49:=rfl
def avN:=@yT _ _ ahu rfl rfl
def avO:=@yd _ _ ahu rfl rfl
theorem ahv:pE.fn 52=some c52:=rfl
def avP:=@yT _ _ ahv rfl rfl
def avQ:=@yd _ _ ahv rfl rfl
theorem aot:pE.fn 53=some c53:=rfl
def ahw:=@yT _ _ aot rfl rfl
theorem aou:pE.fn 54=some c54:=rfl
def aov:=@yT _ _ aou rfl rfl
theorem aow:pE.fn 63=some c63:=rfl
def avR:=@yT _ _ aow rfl rfl
theorem ahx:pE.fn 64=some c64:=rfl
def ahy:=@yT _ _ ahx rfl rfl
theorem ahz:pE.fn 65=some c65:=rfl
def aox:=@yT _ _ ahz rfl rfl
def avS:=@yd _ _ ahz rfl rfl
theorem aoy:pE.fn 66=some c66:=rfl
def avU:=@yT _ _ aoy rfl rfl
theorem aoz:pE.fn 67=some c67:=rfl
def avV:=@yT _ _ aoz rfl rfl
theorem aoA:pE.fn 68=some c68:=rfl
def avW:=@yT _ _ aoA rfl rfl
theorem aoB:pE.fn 71=some c71:=rfl
def avX:=@yT _ _ aoB rfl rfl
theorem ahA:pE.fn 74=some c74:=rfl
def avY:=@yT _ _ ahA rfl rfl
def avZ:=@yd _ _ ahA rfl rfl
theorem aoC:pE.fn 75=some c75:=rfl
def Mv:=@yT _ _ aoC rfl rfl
theorem aoD:pE.fn 76=some c76:=rfl
def aoE:=@yT _ _ aoD rfl rfl
theorem ahB:pE.fn 77=some c77:=rfl
def ahC:=@yT _ _ ahB rfl rfl
def av0:=@yd _ _ ahB rfl rfl
theorem Rb:pE.fn 78=some Tj:=rfl
def Rc:=@yT _ _ Rb rfl rfl
def av1:=@yP _ _ Rb rfl rfl
def aoF:=@yd _ _ Rb rfl rfl
def av2:=@ye _ _ Rb rfl rfl
theorem aoG:pE.fn 85=some c85:=rfl
def UU:=@yT _ _ aoG rfl rfl
theorem aoH:pE.fn 86=some TJ:=rfl
def ahD:=@yT _ _ aoH rfl rfl
theorem ahE:pE.fn 87=some Tk:=rfl
def aoI:=@yT _ _ ahE rfl rfl
theorem aoJ:pE.fn 88=some c88:=rfl
def av3:=@ZM _ _ aoJ rfl
theorem ahF:pE.fn 89=some Ju:=rfl
def sa:=@ZM _ _ ahF rfl
def tf:=@yEd _ _ ahF rfl
theorem ahG:pE.fn 90=some c90:=rfl
def aoK:=@yT _ _ ahG rfl rfl
def aoL:=@yP _ _ ahG rfl rfl
theorem aoM:pE.fn 92=some TN:=rfl
def av4:=@yT _ _ aoM rfl rfl
theorem ahH:pE.fn 93=some Tl:=rfl
def av5:=@yT _ _ ahH rfl rfl
theorem aoN:pE.fn 94=some c94:=rfl
def vR:=@yT _ _ aoN rfl rfl
theorem ahI:pE.fn 95=some c95:=rfl
def zF:=@yT _ _ ahI rfl rfl
def aar:=@yd _ _ ahI rfl rfl
theorem aoO:pE.fn 97=some c97:=rfl
def tg:=@yT _ _ aoO rfl rfl
theorem aoP:pE.fn 98=some c98:=rfl
def av6:=@yT _ _ aoP rfl rfl
theorem adM:pE.fn 103=some Qr:=rfl
def adN:=@yOT _ _ _ adM rfl rfl
theorem UW:pE.fn 104=some Mi:=rfl
def Om:=@yT _ _ UW rfl rfl
theorem adO:pE.fn 105=some TP:=rfl
def aoQ:=@yT _ _ adO rfl rfl
theorem UX:pE.fn 106=some TQ:=rfl
def adP:=@yT _ _ UX rfl rfl
def adQ:=@yd _ _ UX rfl rfl
theorem UY:pE.fn 107=some TR:=rfl
def adR:=@yT _ _ UY rfl rfl
def adS:=@yd _ _ UY rfl rfl
theorem adT:pE.fn 108=some TS:=rfl
def aoR:=@yT _ _ adT rfl rfl
theorem adU:pE.fn 109=some Qs:=rfl
def aoS:=@yT _ _ adU rfl rfl
theorem adV:pE.fn 110=some TT:=rfl
def aoT:=@yT _ _ adV rfl rfl
theorem aoU:pE.fn 113=some ahq:=rfl
def On:=@yT _ _ aoU rfl rfl
theorem UZ:pE.fn 114=some Qu:=rfl
def aoV:=@ZM _ _ UZ rfl
def aoW:=@yEd _ _ UZ rfl
theorem U0:pE.fn 115=some TU:=rfl
def adW:=@yT _ _ U0 rfl rfl
def adX:=@yd _ _ U0 rfl rfl
theorem adY:pE.fn 116=some TV:=rfl
def adZ:=@yT _ _ adY rfl rfl
theorem U1:pE.fn 117=some TW:=rfl
def JE:=@yT _ _ U1 rfl rfl
def ad0:=@yd _ _ U1 rfl rfl
theorem U2:pE.fn 118=some TX:=rfl
def ad1:=@yT _ _ U2 rfl rfl
def ad2:=@yd _ _ U2 rfl rfl
theorem ad3:pE.fn 120=some TY:=rfl
def ad4:=@yT _ _ ad3 rfl rfl
theorem Oo:pE.fn 121=some tw:=rfl
def wo:=@yT _ _ Oo rfl rfl
def aoX:=@yP _ _ Oo rfl rfl
def ad5:=@yd _ _ Oo rfl rfl
theorem U3:pE.fn 122=some Qv:=rfl
def Dn:=@yT _ _ U3 rfl rfl
def Oq:=@yd _ _ U3 rfl rfl
theorem Dp:pE.fn 123=some vP:=rfl
def wq:=@yT _ _ Dp rfl rfl
theorem ad6:pE.fn 124=some Mj:=rfl
def aoY:=@yT _ _ ad6 rfl rfl
theorem ad7:pE.fn 125=some Qw:=rfl
def ad8:=@yT _ _ ad7 rfl rfl
theorem ad9:pE.fn 126=some Qx:=rfl
def Ot:=@yT _ _ ad9 rfl rfl
theorem U4:pE.fn 127=some pS:=rfl
def Ou:=@yP _ _ U4 rfl rfl
theorem aea:pE.fn 129=some Jx:=rfl
def Ge:=@yT _ _ aea rfl rfl
theorem aeb:pE.fn 133=some TZ:=rfl
def Gf:=@yP _ _ aeb rfl rfl
theorem aec:pE.fn 138=some Fo:=rfl
def JF:=@yT _ _ aec rfl rfl
theorem aed:pE.fn 139=some Mk:=rfl
def Ov:=@yT _ _ aed rfl rfl
theorem aee:pE.fn 140=some yA:=rfl
def Ow:=@yP _ _ aee rfl rfl
theorem U5:pE.fn 141=some Qy:=rfl
def aef:=@yT _ _ U5 rfl rfl
def aeg:=@yd _ _ U5 rfl rfl
theorem U6:pE.fn 142=some qp:=rfl
def Dq:=@yT _ _ U6 rfl rfl
theorem aeh:pE.fn 143=some T0:=rfl
def JG:=@ZM _ _ aeh rfl
theorem aei:pE.fn 144=some Ml:=rfl
def U7:=@ZM _ _ aei rfl
theorem aej:pE.fn 145=some Mm:=rfl
def Gg:=@ZM _ _ aej rfl
theorem aek:pE.fn 146=some QB:=rfl
def Ox:=@ZM _ _ aek rfl
theorem ael:pE.fn 150=some Fp:=rfl
def JH:=@yT _ _ ael rfl rfl
theorem Oy:pE.fn 151=some HA:=rfl
def JI:=@yT _ _ Oy rfl rfl
def U8:=@yd _ _ Oy rfl rfl
theorem aem:pE.fn 152=some QC:=rfl
def Oz:=@yT _ _ aem rfl rfl
theorem OA:pE.fn 153=some HB:=rfl
def qC:=@yT _ _ OA rfl rfl
def U9:=@yd _ _ OA rfl rfl
theorem aen:pE.fn 154=some vQ:=rfl
def aeo:=@yT _ _ aen rfl rfl
theorem Va:pE.fn 155=some Mn:=rfl
def Dr:=@yT _ _ Va rfl rfl
theorem aep:pE.fn 156=some QD:=rfl
def Vb:=@yT _ _ aep rfl rfl
theorem Vc:pE.fn 157=some Mo:=rfl
def Gh:=@yT _ _ Vc rfl rfl
def Gi:=@yd _ _ Vc rfl rfl
theorem aeq:pE.fn 158=some QE:=rfl
def Ds:=@yT _ _ aeq rfl rfl
theorem aer:pE.fn 159=some QF:=rfl
def JJ:=@yT _ _ aer rfl rfl
theorem aes:pE.fn 160=some T1:=rfl
def aet:=@yT _ _ aes rfl rfl
theorem aeu:pE.fn 161=some T2:=rfl
def aoZ:=@yT _ _ aeu rfl rfl
theorem Vd:pE.fn 162=some T3:=rfl
def ao0:=@yT _ _ Vd rfl rfl
def ao1:=@yd _ _ Vd rfl rfl
theorem Ve:pE.fn 163=some T4:=rfl
def ao2:=@yT _ _ Ve rfl rfl
def ao3:=@yd _ _ Ve rfl rfl
theorem Vf:pE.fn 164=some T5:=rfl
def ao4:=@yT _ _ Vf rfl rfl
def ao5:=@yd _ _ Vf rfl rfl
theorem Vg:pE.fn 165=some QI:=rfl
def ao6:=@yT _ _ Vg rfl rfl
def ao7:=@yd _ _ Vg rfl rfl
theorem aev:pE.fn 166=some T6:=rfl
def ao8:=@yT _ _ aev rfl rfl
theorem Vh:pE.fn 167=some T7:=rfl
def ao9:=@yT _ _ Vh rfl rfl
def apa:=@yd _ _ Vh rfl rfl
theorem aew:pE.fn 168=some T8:=rfl
def apb:=@yT _ _ aew rfl rfl
theorem Vi:pE.fn 180=some T9:=rfl
def Vj:=@yT _ _ Vi rfl rfl
def apc:=@yd _ _ Vi rfl rfl
theorem aex:pE.fn 181=some Ua:=rfl
def aey:=@yT _ _ aex rfl rfl
theorem Vk:pE.fn 182=some Ub:=rfl
def aez:=@yT _ _ Vk rfl rfl
def aeA:=@yd _ _ Vk rfl rfl
theorem aeB:pE.fn 183=some Uc:=rfl
def Vl:=@yT _ _ aeB rfl rfl
theorem aeC:pE.fn 184=some Ud:=rfl
def aeD:=@yT _ _ aeC rfl rfl
theorem aeE:pE.fn 185=some Ue:=rfl
def apd:=@yT _ _ aeE rfl rfl
theorem aeF:pE.fn 186=some Uf:=rfl
def ape:=@yT _ _ aeF rfl rfl
theorem aeG:pE.fn 187=some Ug:=rfl
def OB:=@yT _ _ aeG rfl rfl
theorem Vm:pE.fn 188=some HC:=rfl
def Vn:=@yT _ _ Vm rfl rfl
theorem aeH:pE.fn 189=some Uh:=rfl
def apf:=@yT _ _ aeH rfl rfl
theorem aeI:pE.fn 191=some Ui:=rfl
def zG:=@yT _ _ aeI rfl rfl
theorem Vo:pE.fn 192=some Uj:=rfl
def OC:=@yT _ _ Vo rfl rfl
def apg:=@yd _ _ Vo rfl rfl
theorem Vp:pE.fn 193=some QK:=rfl
def aph:=@yT _ _ Vp rfl rfl
def api:=@yd _ _ Vp rfl rfl
theorem aeJ:pE.fn 194=some Jy:=rfl
def Vq:=@yT _ _ aeJ rfl rfl
theorem Vr:pE.fn 195=some zx:=rfl
def apj:=@yT _ _ Vr rfl rfl
def apk:=@yd _ _ Vr rfl rfl
theorem aeK:pE.fn 196=some Mp:=rfl
def BY:=@yT _ _ aeK rfl rfl
theorem JK:pE.fn 197=some Fq:=rfl
def Vs:=@yT _ _ JK rfl rfl
def apl:=@yP _ _ JK rfl rfl
def Vt:=@yd _ _ JK rfl rfl
def apm:=@ye _ _ JK rfl rfl
theorem Vu:pE.fn 198=some Uk:=rfl
def apn:=@yT _ _ Vu rfl rfl
def apo:=@yd _ _ Vu rfl rfl
theorem Vv:pE.fn 199=some Ul:=rfl
def Gj:=@yT _ _ Vv rfl rfl
def JL:=@yd _ _ Vv rfl rfl
theorem Vw:pE.fn 200=some Mq:=rfl
def Dt:=@yT _ _ Vw rfl rfl
theorem Vx:pE.fn 201=some HD:=rfl
def Vy:=@yT _ _ Vx rfl rfl
def aeL:=@yd _ _ Vx rfl rfl
theorem Vz:pE.fn 202=some zy:=rfl
def apq:=@yT _ _ Vz rfl rfl
def apr:=@yd _ _ Vz rfl rfl
theorem VA:pE.fn 203=some Ba:=rfl
def apt:=@yT _ _ VA rfl rfl
def apu:=@yd _ _ VA rfl rfl
theorem VB:pE.fn 204=some Um:=rfl
def apv:=@yT _ _ VB rfl rfl
def apw:=@yd _ _ VB rfl rfl
theorem aeM:pE.fn 208=some Un:=rfl
def OD:=@yT _ _ aeM rfl rfl
theorem aeN:pE.fn 209=some Mr:=rfl
def apx:=@yT _ _ aeN rfl rfl
theorem aeO:pE.fn 210=some Uo:=rfl
def apy:=@yT _ _ aeO rfl rfl
theorem aeP:pE.fn 216=some QM:=rfl
def apz:=@yT _ _ aeP rfl rfl
theorem aeQ:pE.fn 222=some QN:=rfl
def zH:=@yT _ _ aeQ rfl rfl
theorem aeR:pE.fn 223=some QO:=rfl
def Gk:=@yT _ _ aeR rfl rfl
theorem aeS:pE.fn 224=some Jz:=rfl
def wu:=@yT _ _ aeS rfl rfl
theorem aeT:pE.fn 225=some Uq:=rfl
def lX:=@yT _ _ aeT rfl rfl
theorem aeU:pE.fn 226=some Ur:=rfl
def JM:=@yT _ _ aeU rfl rfl
theorem aeV:pE.fn 227=some Us:=rfl
def OE:=@yT _ _ aeV rfl rfl
theorem aeW:pE.fn 228=some Ut:=rfl
def JN:=@yT _ _ aeW rfl rfl
theorem aeX:pE.fn 229=some QR:=rfl
def apA:=@yT _ _ aeX rfl rfl
theorem aeY:pE.fn 230=some Ms:=rfl
def apB:=@yT _ _ aeY rfl rfl
theorem aeZ:pE.fn 231=some QS:=rfl
def JO:=@ZM _ _ aeZ rfl
theorem ae0:pE.fn 236=some QT:=rfl
def zI:=@yT _ _ ae0 rfl rfl
theorem ae1:pE.fn 237=some QU:=rfl
def Gl:=@yT _ _ ae1 rfl rfl
theorem ae2:pE.fn 238=some QV:=rfl
def OF:=@yT _ _ ae2 rfl rfl
theorem ae3:pE.fn 239=some JA:=rfl
def sx:=@yT _ _ ae3 rfl rfl
theorem ae4:pE.fn 240=some Uu:=rfl
def Gm:=@yT _ _ ae4 rfl rfl
theorem ae5:pE.fn 241=some Uv:=rfl
def JP:=@yT _ _ ae5 rfl rfl
theorem ae6:pE.fn 242=some Uw:=rfl
def apC:=@yT _ _ ae6 rfl rfl
theorem ae7:pE.fn 243=some Ux:=rfl
def apD:=@yT _ _ ae7 rfl rfl
theorem ae8:pE.fn 250=some Uy:=rfl
def apE:=@yT _ _ ae8 rfl rfl
theorem ae9:pE.fn 251=some QX:=rfl
def apF:=@yT _ _ ae9 rfl rfl
theorem afa:pE.fn 252=some Uz:=rfl
def apG:=@yT _ _ afa rfl rfl
theorem afb:pE.fn 253=some UA:=rfl
def apH:=@yT _ _ afb rfl rfl
theorem afc:pE.fn 254=some QY:=rfl
def afd:=@yT _ _ afc rfl rfl
theorem afe:pE.fn 255=some UB:=rfl
def apI:=@yT _ _ afe rfl rfl
theorem aff:pE.fn 256=some QZ:=rfl
def apJ:=@yT _ _ aff rfl rfl
theorem afg:pE.fn 257=some UC:=rfl
def apK:=@yT _ _ afg rfl rfl
theorem afh:pE.fn 258=some xU:=rfl
def afi:=@yT _ _ afh rfl rfl
theorem afj:pE.fn 259=some Dl:=rfl
def apL:=@yT _ _ afj rfl rfl
theorem afk:pE.fn 260=some UD:=rfl
def VC:=@yT _ _ afk rfl rfl
theorem afl:pE.fn 261=some pT:=rfl
def VD:=@yT _ _ afl rfl rfl
theorem afm:pE.fn 262=some qq:=rfl
def afn:=@yP _ _ afm rfl rfl
theorem afo:pE.fn 263=some Q0:=rfl
def qD:=@yT _ _ afo rfl rfl
theorem afp:pE.fn 266=some UE:=rfl
def VE:=@yT _ _ afp rfl rfl
theorem afq:pE.fn 271=some UF:=rfl
def qE:=@yT _ _ afq rfl rfl
theorem afr:pE.fn 272=some JB:=rfl
def OG:=@ZM _ _ afr rfl
theorem afs:pE.fn 273=some qT:=rfl
def VF:=@yT _ _ afs rfl rfl
theorem afu:pE.fn 274=some UG:=rfl
def OH:=@yT _ _ afu rfl rfl
theorem afv:pE.fn 275=some Dm:=rfl
def VG:=@ZM _ _ afv rfl
theorem afw:pE.fn 278=some UH:=rfl
def apM:=@yT _ _ afw rfl rfl
theorem afx:pE.fn 279=some UI:=rfl
def apN:=@yT _ _ afx rfl rfl
theorem afy:pE.fn 281=some UJ:=rfl
def apO:=@yT _ _ afy rfl rfl
theorem afz:pE.fn 282=some UK:=rfl
def apP:=@yT _ _ afz rfl rfl
theorem afA:pE.fn 283=some UL:=rfl
def apQ:=@yT _ _ afA rfl rfl
theorem afB:pE.fn 284=some UM:=rfl
def apR:=@yT _ _ afB rfl rfl
theorem afC:pE.fn 285=some UN:=rfl
def vJ:=@yT _ _ afC rfl rfl
theorem afD:pE.fn 286=some Q1:=rfl
def vK:=@yT _ _ afD rfl rfl
theorem afE:pE.fn 287=some Q2:=rfl
def VH:=@yT _ _ afE rfl rfl
theorem afF:pE.fn 288=some UO:=rfl
def od:=@yT _ _ afF rfl rfl
theorem afG:pE.fn 289=some Q3:=rfl
def afH:=@yT _ _ afG rfl rfl
theorem afI:pE.fn 290=some UP:=rfl
def tB:=@yT _ _ afI rfl rfl
theorem afJ:pE.fn 294=some Q4:=rfl
def apT:=@yT _ _ afJ rfl rfl
theorem afK:pE.fn 299=some UQ:=rfl
def apU:=@yT _ _ afK rfl rfl
theorem afL:pE.fn 300=some UR:=rfl
def oS:=@yT _ _ afL rfl rfl
theorem afM:pE.fn 301=some Q5:=rfl
def afN:=@yT _ _ afM rfl rfl
theorem afO:pE.fn 302=some tA:=rfl
def afP:=@yP _ _ afO rfl rfl
theorem afQ:pE.fn 304=some Q6:=rfl
def afR:=@yT _ _ afQ rfl rfl
theorem afS:pE.fn 317=some Q7:=rfl
def afT:=@yT _ _ afS rfl rfl
theorem VI:pE.fn 319=some Mt:=rfl
def afU:=@yT _ _ VI rfl rfl
theorem VJ:pE.fn 320=some Q8:=rfl
def OI:=@yT _ _ VJ rfl rfl
def afV:=@yd _ _ VJ rfl rfl
theorem afW:pE.fn 321=some US:=rfl
def afX:=@yT _ _ afW rfl rfl
theorem VK:pE.fn 322=some Bc:=rfl
def afY:=@yT _ _ VK rfl rfl
def afZ:=@yd _ _ VK rfl rfl
theorem OJ:pE.fn 323=some Fs:=rfl
def apV:=@yT _ _ OJ rfl rfl
theorem VL:pE.fn 325=some Mu:=rfl
def af0:=@yT _ _ VL rfl rfl
end Go.Proofs.YtblcbheipjeoeaaGreat
