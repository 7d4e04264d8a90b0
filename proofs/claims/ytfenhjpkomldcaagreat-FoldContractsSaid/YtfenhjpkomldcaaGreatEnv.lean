/- The functions that the statement reaches, as one table. Conditions: none. -/
import Derived.Test.YtfenhjpkomldcaaGreatCoA
import Derived.Test.YtfenhjpkomldcaaGreatCoB
import Derived.Test.YtfenhjpkomldcaaGreatCoC
import Derived.Test.YtfenhjpkomldcaaGreatExt
import Derived.Test.YtfenhjpkomldcaaGreatEvG
namespace Go.Proofs.YtfenhjpkomldcaaGreat
open Go Go.Ev
def pET:wM:=(.nd (.nd (.nd (.nd (.nd (.nd (.nd (.nd .nil 5 c5 .nil) 16 RW .nil) 18 RX (.nd .nil 19 c19 .nil)) 20 c20 (.nd (.nd .nil 21 c21 .nil) 22 c22 (.nd .nil 23 Vp .nil))) 24 HD (.nd (.nd (.nd .nil 25 HE .nil) 26 Vq (.nd .nil 40 Hw .nil)) 52 Vr (.nd (.nd .nil 53 c53 .nil) 54 PG (.nd .nil 55 US .nil)))) 56 UT (.nd (.nd (.nd (.nd .nil 57 L4 .nil) 58 Vs (.nd .nil 59 R1 .nil)) 60 Vt (.nd (.nd .nil 61 Vu .nil) 62 Hx (.nd .nil 63 R2 .nil))) 64 R3 (.nd (.nd (.nd .nil 65 R4 .nil) 73 nn (.nd .nil 74 UU .nil)) 75 R5 (.nd (.nd .nil 84 Vv .nil) 85 zy (.nd .nil 88 c88 .nil))))) 89 PH (.nd (.nd (.nd (.nd (.nd (.nd .nil 91 LO .nil) 92 wG .nil) 96 Vw (.nd .nil 97 UW .nil)) 98 Sa (.nd (.nd .nil 99 UX .nil) 100 iF (.nd .nil 101 zW .nil))) 102 jW (.nd (.nd (.nd .nil 103 wc .nil) 104 HN (.nd .nil 105 Fo .nil)) 106 uf (.nd (.nd .nil 107 tg .nil) 108 jh (.nd .nil 109 eK .nil)))) 110 Ca (.nd (.nd (.nd (.nd .nil 111 HO .nil) 112 ji (.nd .nil 113 eL .nil)) 114 Cb (.nd (.nd .nil 115 Cc .nil) 125 HP (.nd .nil 126 HQ .nil))) 127 Cd (.nd (.nd (.nd .nil 132 Vx .nil) 133 HR (.nd .nil 134 Ce .nil)) 135 HS (.nd (.nd .nil 136 HT .nil) 137 HU (.nd .nil 138 Vy .nil)))))) 139 Fq (.nd (.nd (.nd (.nd (.nd (.nd (.nd .nil 140 zX .nil) 141 qb .nil) 142 ug (.nd .nil 143 HV .nil)) 144 Fs (.nd (.nd .nil 145 HW .nil) 146 HX (.nd .nil 147 th .nil))) 148 uh (.nd (.nd (.nd .nil 149 ti .nil) 150 qc (.nd .nil 151 xW .nil)) 152 zY (.nd (.nd .nil 153 Cf .nil) 154 HY (.nd .nil 155 HZ .nil)))) 156 Ft (.nd (.nd (.nd (.nd .nil 157 jN .nil) 158 xX (.nd .nil 159 qd .nil)) 160 rD (.nd (.nd .nil 161 H0 .nil) 162 H4 (.nd .nil 163 H5 .nil))) 164 Vz (.nd (.nd (.nd .nil 165 VA .nil) 166 Fu (.nd .nil 167 H6 .nil)) 168 Fv (.nd (.nd .nil 169 H7 .nil) 170 Fw (.nd .nil 171 Fx .nil))))) 172 H8 (.nd (.nd (.nd (.nd (.nd (.nd .nil 173 Cg .nil) 174 zZ .nil) 182 xY (.nd .nil 186 VB .nil)) 196 H9 (.nd (.nd .nil 197 Ia .nil) 212 Ib (.nd .nil 213 oY .nil))) 214 ui (.nd (.nd (.nd .nil 215 l4 .nil) 216 Fy (.nd .nil 217 Ch .nil)) 218 Ic (.nd (.nd .nil 219 Ie .nil) 220 If (.nd .nil 221 FA .nil)))) 222 FB (.nd (.nd (.nd (.nd .nil 223 FC .nil) 224 Ig (.nd .nil 228 FD .nil)) 229 FE (.nd (.nd .nil 231 VC .nil) 243 FF (.nd .nil 244 Ih .nil))) 245 FG (.nd (.nd (.nd .nil 246 FH .nil) 247 Ii (.nd .nil 248 rE .nil)) 249 we (.nd (.nd .nil 250 Ci .nil) 251 Ij (.nd .nil 266 FI .nil)))))))
theorem Sb:wM.All (aC Tryz.prog) pET:=⟨⟨⟨⟨⟨⟨⟨⟨trivial,k5,trivial⟩,k16,trivial⟩,k18,⟨trivial,k19,trivial⟩⟩,k20,⟨⟨trivial,k21,trivial⟩,k22,⟨trivial,k23,trivial⟩⟩⟩,k24,⟨⟨⟨trivial,k25,trivial⟩,k26,⟨trivial,k40,trivial⟩⟩,k52,⟨⟨trivial,k53,trivial⟩,k54,⟨trivial,k55,trivial⟩⟩⟩⟩,k56,⟨⟨⟨⟨trivial,k57,trivial⟩,k58,⟨trivial,k59,trivial⟩⟩,k60,⟨⟨trivial,k61,trivial⟩,k62,⟨trivial,k63,trivial⟩⟩⟩,k64,⟨⟨⟨trivial,k65,trivial⟩,k73,⟨trivial,k74,trivial⟩⟩,k75,⟨⟨trivial,k84,trivial⟩,k85,⟨trivial,k88,trivial⟩⟩⟩⟩⟩,k89,⟨⟨⟨⟨⟨⟨trivial,k91,trivial⟩,k92,trivial⟩,k96,⟨trivial,k97,trivial⟩⟩,k98,⟨⟨trivial,k99,trivial⟩,aao,⟨trivial,aap,trivial⟩⟩⟩,aaq,⟨⟨⟨trivial,aar,trivial⟩,aas,⟨trivial,aat,trivial⟩⟩,aau,⟨⟨trivial,aav,trivial⟩,aaw,⟨trivial,aax,trivial⟩⟩⟩⟩,aay,⟨⟨⟨⟨trivial,aaz,trivial⟩,aaA,⟨trivial,aaB,trivial⟩⟩,aaC,⟨⟨trivial,aaD,trivial⟩,aaE,⟨trivial,aaF,trivial⟩⟩⟩,aaG,⟨⟨⟨trivial,aaH,trivial⟩,aaI,⟨trivial,aaJ,trivial⟩⟩,aaK,⟨⟨trivial,aaL,trivial⟩,aaM,⟨trivial,aaN,trivial⟩⟩⟩⟩⟩⟩,aaO,⟨⟨⟨⟨⟨⟨⟨trivial,aaP,trivial⟩,aaQ,trivial⟩,aaR,⟨trivial,aaS,trivial⟩⟩,aaT,⟨⟨trivial,aaU,trivial⟩,aaV,⟨trivial,aaW,trivial⟩⟩⟩,aaX,⟨⟨⟨trivial,aaY,trivial⟩,aaZ,⟨trivial,aa0,trivial⟩⟩,aa1,⟨⟨trivial,aa2,trivial⟩,aa3,⟨trivial,aa4,trivial⟩⟩⟩⟩,aa5,⟨⟨⟨⟨trivial,aa6,trivial⟩,aa7,⟨trivial,aa8,trivial⟩⟩,aa9,⟨⟨trivial,aba,trivial⟩,abb,⟨trivial,abc,trivial⟩⟩⟩,abd,⟨⟨⟨trivial,abe,trivial⟩,abf,⟨trivial,abg,trivial⟩⟩,abh,⟨⟨trivial,abi,trivial⟩,abj,⟨trivial,abk,trivial⟩⟩⟩⟩⟩,abl,⟨⟨⟨⟨⟨⟨trivial,abm,trivial⟩,abn,trivial⟩,abo,⟨trivial,abp,trivial⟩⟩,abq,⟨⟨trivial,abr,trivial⟩,abt,⟨trivial,abu,trivial⟩⟩⟩,abv,⟨⟨⟨trivial,abw,trivial⟩,abx,⟨trivial,aby,trivial⟩⟩,abz,⟨⟨trivial,abA,trivial⟩,abB,⟨trivial,abC,trivial⟩⟩⟩⟩,abD,⟨⟨⟨⟨trivial,abE,trivial⟩,abF,⟨trivial,abG,trivial⟩⟩,abH,⟨⟨trivial,abI,trivial⟩,abJ,⟨trivial,abK,trivial⟩⟩⟩,abL,⟨⟨⟨trivial,abM,trivial⟩,abN,⟨trivial,abO,trivial⟩⟩,abP,⟨⟨trivial,abQ,trivial⟩,abR,⟨trivial,abS,trivial⟩⟩⟩⟩⟩⟩⟩
def pEx(f:Nat):Option (List T→Option T):=bif Nat.beq f 267 then some L6 else none
def pE:Env:=⟨pET.find,pEx⟩
theorem Vm:nR Tryz.prog pE:=VD Sb (fun f g h=>by
 unfold pEx at h
 cases hc:Nat.beq f 267 with
 |true=>rw[hc,cond_true]at h;cases h;rw[Nat.eq_of_beq_eq_true hc];exact Tryz.idxOk
 |false=>rw[hc,cond_false]at h;cases h)
variable{n z:Nat}{fr:Fr}{lh:aQ aB}{sh:List aB}{args:List T}{u:List Nat}{d:Option Nat}{eC:List bq}{ds:List (List Nat×aT)}{bL:List FP}
theorem fn5:pE.fn 5=some c5:=rfl
theorem VE:pE.fn 16=some RW:=rfl
theorem xZ(h:args.all froz=true):ar pE (ai pE) z ⟨fr,lh,sh⟩ 16 args=(ai pE 16 args []).bind fun r=>some (r.1,⟨fr,lh,sh⟩):=av VE rfl rfl h
theorem Sc:pE.fn 18=some RX:=rfl
theorem z7(h:args.all froz=true):ar pE (ai pE) z ⟨fr,lh,sh⟩ 18 args=(ai pE 18 args []).bind fun r=>some (r.1,⟨fr,lh,sh⟩):=av Sc rfl rfl h
theorem Ik(h:(eC.map (rd fr)).all froz=true):aL pE (ai pE) n ((u,⟨d,.callf 18 eC,none⟩)::ds) bL ⟨fr,lh,sh⟩=ke pE (ai pE) n ds (bL++ [dB]) (au pE (ai pE) n [⟨d,.callf 18 eC,none⟩] ⟨fr,lh,sh⟩):=dQ Sc rfl rfl h
theorem abT:pE.fn 20=some c20:=rfl
theorem VF(h:args.all froz=true):ar pE (ai pE) z ⟨fr,lh,sh⟩ 20 args=(ai pE 20 args []).bind fun r=>some (r.1,⟨fr,lh,sh⟩):=av abT rfl rfl h
theorem VG:pE.fn 23=some Vp:=rfl
theorem VH(h:args.all froz=true):ar pE (ai pE) z ⟨fr,lh,sh⟩ 23 args=(ai pE 23 args []).bind fun r=>some (r.1,⟨fr,lh,sh⟩):=av VG rfl rfl h
theorem Sd:pE.fn 24=some HD:=rfl
theorem abU(h:args.all froz=true):ar pE (ai pE) z ⟨fr,lh,sh⟩ 24 args=(ai pE 24 args []).bind fun r=>some (r.1,⟨fr,lh,sh⟩):=av Sd rfl rfl h
theorem Se:pE.fn 25=some HE:=rfl
theorem abV(h:args.all froz=true):ar pE (ai pE) z ⟨fr,lh,sh⟩ 25 args=(ai pE 25 args []).bind fun r=>some (r.1,⟨fr,lh,sh⟩):=av Se rfl rfl h
theorem VI:pE.fn 26=some Vq:=rfl
theorem abW(h:args.all froz=true):ar pE (ai pE) z ⟨fr,lh,sh⟩ 26 args=(ai pE 26 args []).bind fun r=>some (r.1,⟨fr,lh,sh⟩):=av VI rfl rfl h
theorem Sf:pE.fn 40=some Hw:=rfl
theorem FJ(h:args.all froz=true):ar pE (ai pE) z ⟨fr,lh,sh⟩ 40 args=(ai pE 40 args []).bind fun r=>some (r.1,⟨fr,lh,sh⟩):=av Sf rfl rfl h
theorem VJ:pE.fn 52=some Vr:=rfl
theorem Sg(h:args.all froz=true):ar pE (ai pE) z ⟨fr,lh,sh⟩ 52 args=(ai pE 52 args []).bind fun r=>some (r.1,⟨fr,lh,sh⟩):=av VJ rfl rfl h
theorem abX:pE.fn 53=some c53:=rfl
theorem VK(h:args.all froz=true):ar pE (ai pE) z ⟨fr,lh,sh⟩ 53 args=(ai pE 53 args []).bind fun r=>some (r.1,⟨fr,lh,sh⟩):=av abX rfl rfl h
theorem Sh:pE.fn 54=some PG:=rfl
theorem L7(h:args.all kept=true):ar pE (ai pE) z ⟨fr,lh,sh⟩ 54 args=(ai pE 54 args sh).bind fun r=>some (r.1,⟨fr,lh,r.2⟩):=eR Sh rfl h
theorem abY(h:(eC.map (rd fr)).all kept=true):aL pE (ai pE) n ((u,⟨d,.callf 54 eC,none⟩)::ds) bL ⟨fr,lh,sh⟩=if meets u bL np=true then ke pE (ai pE) n ds (bL++ [np]) (au pE (ai pE) n [⟨d,.callf 54 eC,none⟩] ⟨fr,lh,sh⟩)else none:=x7 Sh rfl h
theorem VL:pE.fn 55=some US:=rfl
theorem abZ(h:args.all froz=true):ar pE (ai pE) z ⟨fr,lh,sh⟩ 55 args=(ai pE 55 args []).bind fun r=>some (r.1,⟨fr,lh,sh⟩):=av VL rfl rfl h
theorem Si:pE.fn 56=some UT:=rfl
theorem rF(h:args.all froz=true):ar pE (ai pE) z ⟨fr,lh,sh⟩ 56 args=(ai pE 56 args []).bind fun r=>some (r.1,⟨fr,lh,sh⟩):=av Si rfl rfl h
theorem Il(h:(eC.map (rd fr)).all froz=true):aL pE (ai pE) n ((u,⟨d,.callf 56 eC,none⟩)::ds) bL ⟨fr,lh,sh⟩=ke pE (ai pE) n ds (bL++ [dB]) (au pE (ai pE) n [⟨d,.callf 56 eC,none⟩] ⟨fr,lh,sh⟩):=dQ Si rfl rfl h
theorem Sj:pE.fn 57=some L4:=rfl
theorem L8(h:args.all froz=true):ar pE (ai pE) z ⟨fr,lh,sh⟩ 57 args=(ai pE 57 args []).bind fun r=>some (r.1,⟨fr,lh,sh⟩):=av Sj rfl rfl h
theorem VM(h:(eC.map (rd fr)).all froz=true):aL pE (ai pE) n ((u,⟨d,.callf 57 eC,none⟩)::ds) bL ⟨fr,lh,sh⟩=ke pE (ai pE) n ds (bL++ [dB]) (au pE (ai pE) n [⟨d,.callf 57 eC,none⟩] ⟨fr,lh,sh⟩):=dQ Sj rfl rfl h
theorem Sk:pE.fn 58=some Vs:=rfl
theorem VN(h:args.all froz=true):ar pE (ai pE) z ⟨fr,lh,sh⟩ 58 args=(ai pE 58 args []).bind fun r=>some (r.1,⟨fr,lh,sh⟩):=av Sk rfl rfl h
theorem VO(h:(eC.map (rd fr)).all froz=true):aL pE (ai pE) n ((u,⟨d,.callf 58 eC,none⟩)::ds) bL ⟨fr,lh,sh⟩=ke pE (ai pE) n ds (bL++ [dB]) (au pE (ai pE) n [⟨d,.callf 58 eC,none⟩] ⟨fr,lh,sh⟩):=dQ Sk rfl rfl h
theorem VP:pE.fn 59=some R1:=rfl
theorem qe(h:args.all froz=true):ar pE (ai pE) z ⟨fr,lh,sh⟩ 59 args=(ai pE 59 args []).bind fun r=>some (r.1,⟨fr,lh,sh⟩):=av VP rfl rfl h
theorem Sl:pE.fn 60=some Vt:=rfl
theorem L9(h:args.all froz=true):ar pE (ai pE) z ⟨fr,lh,sh⟩ 60 args=(ai pE 60 args []).bind fun r=>some (r.1,⟨fr,lh,sh⟩):=av Sl rfl rfl h
theorem Ma(h:(eC.map (rd fr)).all froz=true):aL pE (ai pE) n ((u,⟨d,.callf 60 eC,none⟩)::ds) bL ⟨fr,lh,sh⟩=ke pE (ai pE) n ds (bL++ [dB]) (au pE (ai pE) n [⟨d,.callf 60 eC,none⟩] ⟨fr,lh,sh⟩):=dQ Sl rfl rfl h
theorem VQ:pE.fn 61=some Vu:=rfl
theorem Im(h:args.all froz=true):ar pE (ai pE) z ⟨fr,lh,sh⟩ 61 args=(ai pE 61 args []).bind fun r=>some (r.1,⟨fr,lh,sh⟩):=av VQ rfl rfl h
theorem Sm:pE.fn 62=some Hx:=rfl
theorem FL(h:args.all froz=true):ar pE (ai pE) z ⟨fr,lh,sh⟩ 62 args=(ai pE 62 args []).bind fun r=>some (r.1,⟨fr,lh,sh⟩):=av Sm rfl rfl h
theorem VR:pE.fn 63=some R2:=rfl
theorem Mb(h:args.all froz=true):ar pE (ai pE) z ⟨fr,lh,sh⟩ 63 args=(ai pE 63 args []).bind fun r=>some (r.1,⟨fr,lh,sh⟩):=av VR rfl rfl h
theorem VS:pE.fn 64=some R3:=rfl
theorem Mc(h:args.all froz=true):ar pE (ai pE) z ⟨fr,lh,sh⟩ 64 args=(ai pE 64 args []).bind fun r=>some (r.1,⟨fr,lh,sh⟩):=av VS rfl rfl h
theorem VT:pE.fn 65=some R4:=rfl
theorem ab0(h:args.all froz=true):ar pE (ai pE) z ⟨fr,lh,sh⟩ 65 args=(ai pE 65 args []).bind fun r=>some (r.1,⟨fr,lh,sh⟩):=av VT rfl rfl h
theorem Sn:pE.fn 73=some nn:=rfl
theorem Cj(h:args.all froz=true):ar pE (ai pE) z ⟨fr,lh,sh⟩ 73 args=(ai pE 73 args []).bind fun r=>some (r.1,⟨fr,lh,sh⟩):=av Sn rfl rfl h
theorem VU:pE.fn 74=some UU:=rfl
theorem So(h:args.all froz=true):ar pE (ai pE) z ⟨fr,lh,sh⟩ 74 args=(ai pE 74 args []).bind fun r=>some (r.1,⟨fr,lh,sh⟩):=av VU rfl rfl h
theorem Sq:pE.fn 75=some R5:=rfl
theorem FM(h:args.all froz=true):ar pE (ai pE) z ⟨fr,lh,sh⟩ 75 args=(ai pE 75 args []).bind fun r=>some (r.1,⟨fr,lh,sh⟩):=av Sq rfl rfl h
theorem FN(h:(eC.map (rd fr)).all froz=true):aL pE (ai pE) n ((u,⟨d,.callf 75 eC,none⟩)::ds) bL ⟨fr,lh,sh⟩=ke pE (ai pE) n ds (bL++ [dB]) (au pE (ai pE) n [⟨d,.callf 75 eC,none⟩] ⟨fr,lh,sh⟩):=dQ Sq rfl rfl h
theorem VV:pE.fn 84=some Vv:=rfl
theorem FO(h:args.all froz=true):ar pE (ai pE) z ⟨fr,lh,sh⟩ 84 args=(ai pE 84 args []).bind fun r=>some (r.1,⟨fr,lh,sh⟩):=av VV rfl rfl h
theorem Ck:pE.fn 85=some zy:=rfl
theorem uj(h:args.all froz=true):ar pE (ai pE) z ⟨fr,lh,sh⟩ 85 args=(ai pE 85 args []).bind fun r=>some (r.1,⟨fr,lh,sh⟩):=av Ck rfl rfl h
theorem VW:pE.fn 89=some PH:=rfl
theorem Aa(h:args.all froz=true):ar pE (ai pE) z ⟨fr,lh,sh⟩ 89 args=(ai pE 89 args []).bind fun r=>some (r.1,⟨fr,lh,sh⟩):=av VW rfl rfl h
theorem Sr:pE.fn 91=some LO:=rfl
theorem VY(h:args.all froz=true):ar pE (ai pE) z ⟨fr,lh,sh⟩ 91 args=(ai pE 91 args []).bind fun r=>some (r.1,⟨fr,lh,sh⟩):=av Sr rfl rfl h
theorem VZ(h:(eC.map (rd fr)).all froz=true):aL pE (ai pE) n ((u,⟨d,.callf 91 eC,none⟩)::ds) bL ⟨fr,lh,sh⟩=ke pE (ai pE) n ds (bL++ [dB]) (au pE (ai pE) n [⟨d,.callf 91 eC,none⟩] ⟨fr,lh,sh⟩):=dQ Sr rfl rfl h
theorem Md:pE.fn 92=some wG:=rfl
theorem Ab(h:args.all froz=true):ar pE (ai pE) z ⟨fr,lh,sh⟩ 92 args=(ai pE 92 args []).bind fun r=>some (r.1,⟨fr,lh,sh⟩):=av Md rfl rfl h
theorem ab1:ar pE (ai pE) z ⟨fr,lh,sh⟩ 92 args=(rG lh sh false args).bind fun q=>(ai pE 92 q.1 []).bind fun r=>some (r.1,if scalar r.1=true then⟨fr,lh,sh⟩else(St.mk fr lh sh).ups q.2):=hZ Md rfl rfl
theorem V0(h:(eC.map (rd fr)).all froz=true):aL pE (ai pE) n ((u,⟨d,.callf 92 eC,none⟩)::ds) bL ⟨fr,lh,sh⟩=ke pE (ai pE) n ds (bL++ [dB]) (au pE (ai pE) n [⟨d,.callf 92 eC,none⟩] ⟨fr,lh,sh⟩):=dQ Md rfl rfl h
theorem Ss:pE.fn 96=some Vw:=rfl
theorem FQ(h:args.all kept=true):ar pE (ai pE) z ⟨fr,lh,sh⟩ 96 args=(ai pE 96 args sh).bind fun r=>some (r.1,⟨fr,lh,r.2⟩):=eR Ss rfl h
theorem ab2(h:(eC.map (rd fr)).all kept=true):aL pE (ai pE) n ((u,⟨d,.callf 96 eC,none⟩)::ds) bL ⟨fr,lh,sh⟩=if meets u bL np=true then ke pE (ai pE) n ds (bL++ [np]) (au pE (ai pE) n [⟨d,.callf 96 eC,none⟩] ⟨fr,lh,sh⟩)else none:=x7 Ss rfl h
theorem Su:pE.fn 97=some UW:=rfl
theorem FR(h:args.all kept=true):ar pE (ai pE) z ⟨fr,lh,sh⟩ 97 args=(ai pE 97 args sh).bind fun r=>some (r.1,⟨fr,lh,r.2⟩):=eR Su rfl h
theorem ab3(h:(eC.map (rd fr)).all kept=true):aL pE (ai pE) n ((u,⟨d,.callf 97 eC,none⟩)::ds) bL ⟨fr,lh,sh⟩=if meets u bL np=true then ke pE (ai pE) n ds (bL++ [np]) (au pE (ai pE) n [⟨d,.callf 97 eC,none⟩] ⟨fr,lh,sh⟩)else none:=x7 Su rfl h
theorem Me:pE.fn 98=some Sa:=rfl
theorem V1(h:args.all froz=true):ar pE (ai pE) z ⟨fr,lh,sh⟩ 98 args=(ai pE 98 args []).bind fun r=>some (r.1,⟨fr,lh,sh⟩):=av Me rfl rfl h
theorem ab4(h:(eC.map (rd fr)).all froz=true):aL pE (ai pE) n ((u,⟨d,.callf 98 eC,none⟩)::ds) bL ⟨fr,lh,sh⟩=ke pE (ai pE) n ds (bL++ [dB]) (au pE (ai pE) n [⟨d,.callf 98 eC,none⟩] ⟨fr,lh,sh⟩):=dQ Me rfl rfl h
theorem V2:pE.fn 99=some UX:=rfl
theorem ab5(h:args.all kept=true):ar pE (ai pE) z ⟨fr,lh,sh⟩ 99 args=(ai pE 99 args sh).bind fun r=>some (r.1,⟨fr,lh,r.2⟩):=eR V2 rfl h
theorem l6:pE.fn 100=some iF:=rfl
theorem V3(h:args.all kept=true):ar pE (ai pE) z ⟨fr,lh,sh⟩ 100 args=(ai pE 100 args sh).bind fun r=>some (r.1,⟨fr,lh,r.2⟩):=eR l6 rfl h
theorem V4:ar pE (ai pE) z ⟨fr,lh,sh⟩ 100 args=(rG lh sh true args).bind fun q=>(ai pE 100 q.1 ((St.mk fr lh sh).ups q.2).sh).bind fun r=>some (r.1,{(St.mk fr lh sh).ups q.2 with sh:=r.2}):=Io l6 rfl
theorem PI:pE.fn 101=some zW:=rfl
theorem DR(h:args.all kept=true):ar pE (ai pE) z ⟨fr,lh,sh⟩ 101 args=(ai pE 101 args sh).bind fun r=>some (r.1,⟨fr,lh,r.2⟩):=eR PI rfl h
theorem PJ:pE.fn 102=some jW:=rfl
theorem Ip(h:args.all froz=true):ar pE (ai pE) z ⟨fr,lh,sh⟩ 102 args=(ai pE 102 args []).bind fun r=>some (r.1,⟨fr,lh,sh⟩):=av PJ rfl rfl h
theorem Ac:pE.fn 103=some wc:=rfl
theorem Iq(h:args.all froz=true):ar pE (ai pE) z ⟨fr,lh,sh⟩ 103 args=(ai pE 103 args []).bind fun r=>some (r.1,⟨fr,lh,sh⟩):=av Ac rfl rfl h
theorem V5:ar pE (ai pE) z ⟨fr,lh,sh⟩ 103 args=(rG lh sh false args).bind fun q=>(ai pE 103 q.1 []).bind fun r=>some (r.1,if scalar r.1=true then⟨fr,lh,sh⟩else(St.mk fr lh sh).ups q.2):=hZ Ac rfl rfl
theorem Ir(h:(eC.map (rd fr)).all froz=true):aL pE (ai pE) n ((u,⟨d,.callf 103 eC,none⟩)::ds) bL ⟨fr,lh,sh⟩=ke pE (ai pE) n ds (bL++ [dB]) (au pE (ai pE) n [⟨d,.callf 103 eC,none⟩] ⟨fr,lh,sh⟩):=dQ Ac rfl rfl h
theorem V6(h:Mf ds=true):aL pE (ai pE) n (([],⟨d,.callf 103 eC,none⟩)::ds) bL ⟨fr,lh,sh⟩=ke pE (ai pE) n ds (bL++ [dB]) (au pE (ai pE) n [⟨d,.callf 103 eC,none⟩] ⟨fr,lh,sh⟩):=DS Ac rfl rfl h
theorem Is:pE.fn 104=some HN:=rfl
theorem V7(h:args.all froz=true):ar pE (ai pE) z ⟨fr,lh,sh⟩ 104 args=(ai pE 104 args []).bind fun r=>some (r.1,⟨fr,lh,sh⟩):=av Is rfl rfl h
theorem V8(h:(eC.map (rd fr)).all froz=true):aL pE (ai pE) n ((u,⟨d,.callf 104 eC,none⟩)::ds) bL ⟨fr,lh,sh⟩=ke pE (ai pE) n ds (bL++ [dB]) (au pE (ai pE) n [⟨d,.callf 104 eC,none⟩] ⟨fr,lh,sh⟩):=dQ Is rfl rfl h
theorem PK:pE.fn 105=some Fo:=rfl
theorem DT(h:args.all froz=true):ar pE (ai pE) z ⟨fr,lh,sh⟩ 105 args=(ai pE 105 args []).bind fun r=>some (r.1,⟨fr,lh,sh⟩):=av PK rfl rfl h
theorem PL:pE.fn 106=some uf:=rfl
theorem PM(h:args.all froz=true):ar pE (ai pE) z ⟨fr,lh,sh⟩ 106 args=(ai pE 106 args []).bind fun r=>some (r.1,⟨fr,lh,sh⟩):=av PL rfl rfl h
theorem PN:pE.fn 107=some tg:=rfl
theorem PO(h:args.all froz=true):ar pE (ai pE) z ⟨fr,lh,sh⟩ 107 args=(ai pE 107 args []).bind fun r=>some (r.1,⟨fr,lh,sh⟩):=av PN rfl rfl h
theorem It:pE.fn 108=some jh:=rfl
theorem Iu:ar pE (ai pE) z ⟨fr,lh,sh⟩ 108 args=(rG lh sh false args).bind fun q=>(ai pE 108 q.1 []).bind fun r=>some (r.1,if scalar r.1=true then⟨fr,lh,sh⟩else(St.mk fr lh sh).ups q.2):=hZ It rfl rfl
theorem wN:pE.fn 109=some eK:=rfl
theorem V9(h:args.all froz=true):ar pE (ai pE) z ⟨fr,lh,sh⟩ 109 args=(ai pE 109 args []).bind fun r=>some (r.1,⟨fr,lh,sh⟩):=av wN rfl rfl h
theorem Wa:ar pE (ai pE) z ⟨fr,lh,sh⟩ 109 args=(rG lh sh false args).bind fun q=>(ai pE 109 q.1 []).bind fun r=>some (r.1,if scalar r.1=true then⟨fr,lh,sh⟩else(St.mk fr lh sh).ups q.2):=hZ wN rfl rfl
theorem DU:pE.fn 110=some Ca:=rfl
theorem Wb(h:args.all froz=true):ar pE (ai pE) z ⟨fr,lh,sh⟩ 110 args=(ai pE 110 args []).bind fun r=>some (r.1,⟨fr,lh,sh⟩):=av DU rfl rfl h
theorem Wc:ar pE (ai pE) z ⟨fr,lh,sh⟩ 110 args=(rG lh sh false args).bind fun q=>(ai pE 110 q.1 []).bind fun r=>some (r.1,if scalar r.1=true then⟨fr,lh,sh⟩else(St.mk fr lh sh).ups q.2):=hZ DU rfl rfl
theorem Wd(h:Mf ds=true):aL pE (ai pE) n (([],⟨d,.callf 110 eC,none⟩)::ds) bL ⟨fr,lh,sh⟩=ke pE (ai pE) n ds (bL++ [dB]) (au pE (ai pE) n [⟨d,.callf 110 eC,none⟩] ⟨fr,lh,sh⟩):=DS DU rfl rfl h
theorem PQ:pE.fn 111=some HO:=rfl
theorem Iv(h:args.all froz=true):ar pE (ai pE) z ⟨fr,lh,sh⟩ 111 args=(ai pE 111 args []).bind fun r=>some (r.1,⟨fr,lh,sh⟩):=av PQ rfl rfl h
theorem PR:pE.fn 112=some ji:=rfl
theorem Iw(h:args.all froz=true):ar pE (ai pE) z ⟨fr,lh,sh⟩ 112 args=(ai pE 112 args []).bind fun r=>some (r.1,⟨fr,lh,sh⟩):=av PR rfl rfl h
theorem Ix:pE.fn 113=some eL:=rfl
theorem uk(h:args.all froz=true):ar pE (ai pE) z ⟨fr,lh,sh⟩ 113 args=(ai pE 113 args []).bind fun r=>some (r.1,⟨fr,lh,sh⟩):=av Ix rfl rfl h
theorem PS:pE.fn 114=some Cb:=rfl
theorem Iy(h:args.all kept=true):ar pE (ai pE) z ⟨fr,lh,sh⟩ 114 args=(ai pE 114 args sh).bind fun r=>some (r.1,⟨fr,lh,r.2⟩):=eR PS rfl h
theorem PT:pE.fn 115=some Cc:=rfl
theorem wO(h:args.all kept=true):ar pE (ai pE) z ⟨fr,lh,sh⟩ 115 args=(ai pE 115 args sh).bind fun r=>some (r.1,⟨fr,lh,r.2⟩):=eR PT rfl h
theorem PU:pE.fn 125=some HP:=rfl
theorem cA(h:args.all froz=true):ar pE (ai pE) z ⟨fr,lh,sh⟩ 125 args=(ai pE 125 args []).bind fun r=>some (r.1,⟨fr,lh,sh⟩):=av PU rfl rfl h
theorem PV:pE.fn 126=some HQ:=rfl
theorem gf(h:args.all froz=true):ar pE (ai pE) z ⟨fr,lh,sh⟩ 126 args=(ai pE 126 args []).bind fun r=>some (r.1,⟨fr,lh,sh⟩):=av PV rfl rfl h
theorem PW:pE.fn 127=some Cd:=rfl
theorem We(h:args.all froz=true):ar pE (ai pE) z ⟨fr,lh,sh⟩ 127 args=(ai pE 127 args []).bind fun r=>some (r.1,⟨fr,lh,sh⟩):=av PW rfl rfl h
theorem PX:pE.fn 133=some HR:=rfl
theorem DV(h:args.all froz=true):ar pE (ai pE) z ⟨fr,lh,sh⟩ 133 args=(ai pE 133 args []).bind fun r=>some (r.1,⟨fr,lh,sh⟩):=av PX rfl rfl h
theorem PY:pE.fn 134=some Ce:=rfl
theorem Wf(h:args.all froz=true):ar pE (ai pE) z ⟨fr,lh,sh⟩ 134 args=(ai pE 134 args []).bind fun r=>some (r.1,⟨fr,lh,sh⟩):=av PY rfl rfl h
theorem PZ:pE.fn 135=some HS:=rfl
theorem Wg(h:args.all froz=true):ar pE (ai pE) z ⟨fr,lh,sh⟩ 135 args=(ai pE 135 args []).bind fun r=>some (r.1,⟨fr,lh,sh⟩):=av PZ rfl rfl h
theorem Iz:pE.fn 136=some HT:=rfl
theorem DW(h:args.all froz=true):ar pE (ai pE) z ⟨fr,lh,sh⟩ 136 args=(ai pE 136 args []).bind fun r=>some (r.1,⟨fr,lh,sh⟩):=av Iz rfl rfl h
theorem Wh(h:(eC.map (rd fr)).all froz=true):aL pE (ai pE) n ((u,⟨d,.callf 136 eC,none⟩)::ds) bL ⟨fr,lh,sh⟩=ke pE (ai pE) n ds (bL++ [dB]) (au pE (ai pE) n [⟨d,.callf 136 eC,none⟩] ⟨fr,lh,sh⟩):=dQ Iz rfl rfl h
theorem P0:pE.fn 137=some HU:=rfl
theorem qf(h:args.all froz=true):ar pE (ai pE) z ⟨fr,lh,sh⟩ 137 args=(ai pE 137 args []).bind fun r=>some (r.1,⟨fr,lh,sh⟩):=av P0 rfl rfl h
theorem IA:pE.fn 139=some Fq:=rfl
theorem Wi(h:args.all froz=true):ar pE (ai pE) z ⟨fr,lh,sh⟩ 139 args=(ai pE 139 args []).bind fun r=>some (r.1,⟨fr,lh,sh⟩):=av IA rfl rfl h
theorem Wj(h:(eC.map (rd fr)).all froz=true):aL pE (ai pE) n ((u,⟨d,.callf 139 eC,none⟩)::ds) bL ⟨fr,lh,sh⟩=ke pE (ai pE) n ds (bL++ [dB]) (au pE (ai pE) n [⟨d,.callf 139 eC,none⟩] ⟨fr,lh,sh⟩):=dQ IA rfl rfl h
theorem P1:pE.fn 140=some zX:=rfl
theorem IB(h:args.all froz=true):ar pE (ai pE) z ⟨fr,lh,sh⟩ 140 args=(ai pE 140 args []).bind fun r=>some (r.1,⟨fr,lh,sh⟩):=av P1 rfl rfl h
theorem IC:pE.fn 141=some qb:=rfl
theorem Wk(h:args.all froz=true):ar pE (ai pE) z ⟨fr,lh,sh⟩ 141 args=(ai pE 141 args []).bind fun r=>some (r.1,⟨fr,lh,sh⟩):=av IC rfl rfl h
theorem Wl(h:(eC.map (rd fr)).all froz=true):aL pE (ai pE) n ((u,⟨d,.callf 141 eC,none⟩)::ds) bL ⟨fr,lh,sh⟩=ke pE (ai pE) n ds (bL++ [dB]) (au pE (ai pE) n [⟨d,.callf 141 eC,none⟩] ⟨fr,lh,sh⟩):=dQ IC rfl rfl h
theorem P2:pE.fn 142=some ug:=rfl
theorem ID(h:args.all kept=true):ar pE (ai pE) z ⟨fr,lh,sh⟩ 142 args=(ai pE 142 args sh).bind fun r=>some (r.1,⟨fr,lh,r.2⟩):=eR P2 rfl h
theorem P3:pE.fn 143=some HV:=rfl
theorem P4(h:args.all froz=true):ar pE (ai pE) z ⟨fr,lh,sh⟩ 143 args=(ai pE 143 args []).bind fun r=>jO z 0 r.1 ⟨fr,lh,sh⟩ []:=FT P3 rfl rfl h
theorem P5:pE.fn 144=some Fs:=rfl
theorem Wm:ar pE (ai pE) z ⟨fr,lh,sh⟩ 144 args=(rG lh sh false args).bind fun q=>(ai pE 144 q.1 []).bind fun r=>some (r.1,if scalar r.1=true then⟨fr,lh,sh⟩else(St.mk fr lh sh).ups q.2):=hZ P5 rfl rfl
theorem P6:pE.fn 145=some HW:=rfl
theorem P7(h:args.all froz=true):ar pE (ai pE) z ⟨fr,lh,sh⟩ 145 args=(ai pE 145 args []).bind fun r=>some (r.1,⟨fr,lh,sh⟩):=av P6 rfl rfl h
theorem P8:pE.fn 146=some HX:=rfl
theorem lg(h:args.all froz=true):ar pE (ai pE) z ⟨fr,lh,sh⟩ 146 args=(ai pE 146 args []).bind fun r=>some (r.1,⟨fr,lh,sh⟩):=av P8 rfl rfl h
theorem P9:pE.fn 147=some th:=rfl
theorem Qa(h:args.all froz=true):ar pE (ai pE) z ⟨fr,lh,sh⟩ 147 args=(ai pE 147 args []).bind fun r=>some (r.1,⟨fr,lh,sh⟩):=av P9 rfl rfl h
theorem Qb:pE.fn 148=some uh:=rfl
theorem Wn(h:args.all froz=true):ar pE (ai pE) z ⟨fr,lh,sh⟩ 148 args=(ai pE 148 args []).bind fun r=>some (r.1,⟨fr,lh,sh⟩):=av Qb rfl rfl h
theorem IE:pE.fn 149=some ti:=rfl
theorem um(h:args.all froz=true):ar pE (ai pE) z ⟨fr,lh,sh⟩ 149 args=(ai pE 149 args []).bind fun r=>some (r.1,⟨fr,lh,sh⟩):=av IE rfl rfl h
theorem Wo(h:(eC.map (rd fr)).all froz=true):aL pE (ai pE) n ((u,⟨d,.callf 149 eC,none⟩)::ds) bL ⟨fr,lh,sh⟩=ke pE (ai pE) n ds (bL++ [dB]) (au pE (ai pE) n [⟨d,.callf 149 eC,none⟩] ⟨fr,lh,sh⟩):=dQ IE rfl rfl h
theorem Qc:pE.fn 150=some qc:=rfl
theorem Qd(h:args.all froz=true):ar pE (ai pE) z ⟨fr,lh,sh⟩ 150 args=(ai pE 150 args []).bind fun r=>some (r.1,⟨fr,lh,sh⟩):=av Qc rfl rfl h
theorem Qe:pE.fn 151=some xW:=rfl
theorem Wp(h:args.all kept=true):ar pE (ai pE) z ⟨fr,lh,sh⟩ 151 args=(ai pE 151 args sh).bind fun r=>some (r.1,⟨fr,lh,r.2⟩):=eR Qe rfl h
theorem Qf:pE.fn 152=some zY:=rfl
theorem DX(h:args.all froz=true):ar pE (ai pE) z ⟨fr,lh,sh⟩ 152 args=(ai pE 152 args []).bind fun r=>some (r.1,⟨fr,lh,sh⟩):=av Qf rfl rfl h
theorem Qg:pE.fn 153=some Cf:=rfl
theorem Wq(h:args.all froz=true):ar pE (ai pE) z ⟨fr,lh,sh⟩ 153 args=(ai pE 153 args []).bind fun r=>some (r.1,⟨fr,lh,sh⟩):=av Qg rfl rfl h
theorem Qh:pE.fn 154=some HY:=rfl
theorem Wr(h:args.all froz=true):ar pE (ai pE) z ⟨fr,lh,sh⟩ 154 args=(ai pE 154 args []).bind fun r=>some (r.1,⟨fr,lh,sh⟩):=av Qh rfl rfl h
theorem Qi:pE.fn 155=some HZ:=rfl
theorem iG(h:args.all froz=true):ar pE (ai pE) z ⟨fr,lh,sh⟩ 155 args=(ai pE 155 args []).bind fun r=>some (r.1,⟨fr,lh,sh⟩):=av Qi rfl rfl h
theorem Qj:pE.fn 156=some Ft:=rfl
theorem Qk(h:args.all froz=true):ar pE (ai pE) z ⟨fr,lh,sh⟩ 156 args=(ai pE 156 args []).bind fun r=>some (r.1,⟨fr,lh,sh⟩):=av Qj rfl rfl h
theorem Ql:pE.fn 157=some jN:=rfl
theorem Qm:ar pE (ai pE) z ⟨fr,lh,sh⟩ 157 args=(rG lh sh false args).bind fun q=>(ai pE 157 q.1 []).bind fun r=>some (r.1,if scalar r.1=true then⟨fr,lh,sh⟩else(St.mk fr lh sh).ups q.2):=hZ Ql rfl rfl
theorem IF:pE.fn 158=some xX:=rfl
theorem IG(h:args.all froz=true):ar pE (ai pE) z ⟨fr,lh,sh⟩ 158 args=(ai pE 158 args []).bind fun r=>some (r.1,⟨fr,lh,sh⟩):=av IF rfl rfl h
theorem Qn(h:(eC.map (rd fr)).all froz=true):aL pE (ai pE) n ((u,⟨d,.callf 158 eC,none⟩)::ds) bL ⟨fr,lh,sh⟩=ke pE (ai pE) n ds (bL++ [dB]) (au pE (ai pE) n [⟨d,.callf 158 eC,none⟩] ⟨fr,lh,sh⟩):=dQ IF rfl rfl h
theorem IH:pE.fn 159=some qd:=rfl
theorem Ws(h:args.all froz=true):ar pE (ai pE) z ⟨fr,lh,sh⟩ 159 args=(ai pE 159 args []).bind fun r=>some (r.1,⟨fr,lh,sh⟩):=av IH rfl rfl h
theorem Wt(h:(eC.map (rd fr)).all froz=true):aL pE (ai pE) n ((u,⟨d,.callf 159 eC,none⟩)::ds) bL ⟨fr,lh,sh⟩=ke pE (ai pE) n ds (bL++ [dB]) (au pE (ai pE) n [⟨d,.callf 159 eC,none⟩] ⟨fr,lh,sh⟩):=dQ IH rfl rfl h
theorem II:pE.fn 160=some rD:=rfl
theorem Wu(h:args.all froz=true):ar pE (ai pE) z ⟨fr,lh,sh⟩ 160 args=(ai pE 160 args []).bind fun r=>some (r.1,⟨fr,lh,sh⟩):=av II rfl rfl h
theorem Wv(h:(eC.map (rd fr)).all froz=true):aL pE (ai pE) n ((u,⟨d,.callf 160 eC,none⟩)::ds) bL ⟨fr,lh,sh⟩=ke pE (ai pE) n ds (bL++ [dB]) (au pE (ai pE) n [⟨d,.callf 160 eC,none⟩] ⟨fr,lh,sh⟩):=dQ II rfl rfl h
theorem IJ:pE.fn 161=some H0:=rfl
theorem DY(h:args.all froz=true):ar pE (ai pE) z ⟨fr,lh,sh⟩ 161 args=(ai pE 161 args []).bind fun r=>some (r.1,⟨fr,lh,sh⟩):=av IJ rfl rfl h
theorem DZ(h:(eC.map (rd fr)).all froz=true):aL pE (ai pE) n ((u,⟨d,.callf 161 eC,none⟩)::ds) bL ⟨fr,lh,sh⟩=ke pE (ai pE) n ds (bL++ [dB]) (au pE (ai pE) n [⟨d,.callf 161 eC,none⟩] ⟨fr,lh,sh⟩):=dQ IJ rfl rfl h
theorem IK:pE.fn 162=some H4:=rfl
theorem Ww(h:args.all froz=true):ar pE (ai pE) z ⟨fr,lh,sh⟩ 162 args=(ai pE 162 args []).bind fun r=>some (r.1,⟨fr,lh,sh⟩):=av IK rfl rfl h
theorem Wx(h:(eC.map (rd fr)).all froz=true):aL pE (ai pE) n ((u,⟨d,.callf 162 eC,none⟩)::ds) bL ⟨fr,lh,sh⟩=ke pE (ai pE) n ds (bL++ [dB]) (au pE (ai pE) n [⟨d,.callf 162 eC,none⟩] ⟨fr,lh,sh⟩):=dQ IK rfl rfl h
theorem Qo:pE.fn 163=some H5:=rfl
theorem Wy(h:args.all froz=true):ar pE (ai pE) z ⟨fr,lh,sh⟩ 163 args=(ai pE 163 args []).bind fun r=>some (r.1,⟨fr,lh,sh⟩):=av Qo rfl rfl h
theorem Qp:pE.fn 166=some Fu:=rfl
theorem IL(h:args.all froz=true):ar pE (ai pE) z ⟨fr,lh,sh⟩ 166 args=(ai pE 166 args []).bind fun r=>some (r.1,⟨fr,lh,sh⟩):=av Qp rfl rfl h
theorem Qq:pE.fn 167=some H6:=rfl
theorem gM(h:args.all froz=true):ar pE (ai pE) z ⟨fr,lh,sh⟩ 167 args=(ai pE 167 args []).bind fun r=>some (r.1,⟨fr,lh,sh⟩):=av Qq rfl rfl h
theorem Qr:pE.fn 168=some Fv:=rfl
theorem Qs(h:args.all froz=true):ar pE (ai pE) z ⟨fr,lh,sh⟩ 168 args=(ai pE 168 args []).bind fun r=>some (r.1,⟨fr,lh,sh⟩):=av Qr rfl rfl h
theorem Qt:pE.fn 169=some H7:=rfl
theorem cP(h:args.all froz=true):ar pE (ai pE) z ⟨fr,lh,sh⟩ 169 args=(ai pE 169 args []).bind fun r=>some (r.1,⟨fr,lh,sh⟩):=av Qt rfl rfl h
theorem Qu:pE.fn 170=some Fw:=rfl
theorem Ad(h:args.all froz=true):ar pE (ai pE) z ⟨fr,lh,sh⟩ 170 args=(ai pE 170 args []).bind fun r=>some (r.1,⟨fr,lh,sh⟩):=av Qu rfl rfl h
theorem Qv:pE.fn 171=some Fx:=rfl
theorem D0(h:args.all froz=true):ar pE (ai pE) z ⟨fr,lh,sh⟩ 171 args=(ai pE 171 args []).bind fun r=>some (r.1,⟨fr,lh,sh⟩):=av Qv rfl rfl h
theorem Qw:pE.fn 172=some H8:=rfl
theorem su(h:args.all froz=true):ar pE (ai pE) z ⟨fr,lh,sh⟩ 172 args=(ai pE 172 args []).bind fun r=>some (r.1,⟨fr,lh,sh⟩):=av Qw rfl rfl h
theorem Qx:pE.fn 173=some Cg:=rfl
theorem Wz(h:args.all froz=true):ar pE (ai pE) z ⟨fr,lh,sh⟩ 173 args=(ai pE 173 args []).bind fun r=>some (r.1,⟨fr,lh,sh⟩):=av Qx rfl rfl h
theorem Qy:pE.fn 174=some zZ:=rfl
theorem Qz(h:args.all froz=true):ar pE (ai pE) z ⟨fr,lh,sh⟩ 174 args=(ai pE 174 args []).bind fun r=>some (r.1,⟨fr,lh,sh⟩):=av Qy rfl rfl h
theorem QA:pE.fn 182=some xY:=rfl
theorem QB(h:args.all froz=true):ar pE (ai pE) z ⟨fr,lh,sh⟩ 182 args=(ai pE 182 args []).bind fun r=>some (r.1,⟨fr,lh,sh⟩):=av QA rfl rfl h
theorem QC:pE.fn 196=some H9:=rfl
theorem D1(h:args.all froz=true):ar pE (ai pE) z ⟨fr,lh,sh⟩ 196 args=(ai pE 196 args []).bind fun r=>some (r.1,⟨fr,lh,sh⟩):=av QC rfl rfl h
theorem QD:pE.fn 197=some Ia:=rfl
theorem WA(h:args.all froz=true):ar pE (ai pE) z ⟨fr,lh,sh⟩ 197 args=(ai pE 197 args []).bind fun r=>some (r.1,⟨fr,lh,sh⟩):=av QD rfl rfl h
theorem QE:pE.fn 212=some Ib:=rfl
theorem IM(h:args.all froz=true):ar pE (ai pE) z ⟨fr,lh,sh⟩ 212 args=(ai pE 212 args []).bind fun r=>some (r.1,⟨fr,lh,sh⟩):=av QE rfl rfl h
theorem QF:pE.fn 213=some oY:=rfl
theorem QG(h:args.all froz=true):ar pE (ai pE) z ⟨fr,lh,sh⟩ 213 args=(ai pE 213 args []).bind fun r=>some (r.1,⟨fr,lh,sh⟩):=av QF rfl rfl h
theorem QH:pE.fn 214=some ui:=rfl
theorem WB(h:args.all froz=true):ar pE (ai pE) z ⟨fr,lh,sh⟩ 214 args=(ai pE 214 args []).bind fun r=>some (r.1,⟨fr,lh,sh⟩):=av QH rfl rfl h
theorem QI:pE.fn 215=some l4:=rfl
theorem QJ:ar pE (ai pE) z ⟨fr,lh,sh⟩ 215 args=(rG lh sh false args).bind fun q=>(ai pE 215 q.1 []).bind fun r=>some (r.1,if scalar r.1=true then⟨fr,lh,sh⟩else(St.mk fr lh sh).ups q.2):=hZ QI rfl rfl
theorem QK:pE.fn 216=some Fy:=rfl
theorem WC(h:args.all froz=true):ar pE (ai pE) z ⟨fr,lh,sh⟩ 216 args=(ai pE 216 args []).bind fun r=>some (r.1,⟨fr,lh,sh⟩):=av QK rfl rfl h
theorem IN:pE.fn 217=some Ch:=rfl
theorem QL(h:args.all froz=true):ar pE (ai pE) z ⟨fr,lh,sh⟩ 217 args=(ai pE 217 args []).bind fun r=>some (r.1,⟨fr,lh,sh⟩):=av IN rfl rfl h
theorem QM:pE.fn 218=some Ic:=rfl
theorem gN(h:args.all froz=true):ar pE (ai pE) z ⟨fr,lh,sh⟩ 218 args=(ai pE 218 args []).bind fun r=>some (r.1,⟨fr,lh,sh⟩):=av QM rfl rfl h
theorem QN:pE.fn 219=some Ie:=rfl
theorem ma(h:args.all froz=true):ar pE (ai pE) z ⟨fr,lh,sh⟩ 219 args=(ai pE 219 args []).bind fun r=>some (r.1,⟨fr,lh,sh⟩):=av QN rfl rfl h
theorem QO:pE.fn 220=some If:=rfl
theorem Ae(h:args.all froz=true):ar pE (ai pE) z ⟨fr,lh,sh⟩ 220 args=(ai pE 220 args []).bind fun r=>some (r.1,⟨fr,lh,sh⟩):=av QO rfl rfl h
theorem QP:pE.fn 221=some FA:=rfl
theorem jR(h:args.all froz=true):ar pE (ai pE) z ⟨fr,lh,sh⟩ 221 args=(ai pE 221 args []).bind fun r=>some (r.1,⟨fr,lh,sh⟩):=av QP rfl rfl h
theorem QQ:pE.fn 222=some FB:=rfl
theorem WD(h:args.all froz=true):ar pE (ai pE) z ⟨fr,lh,sh⟩ 222 args=(ai pE 222 args []).bind fun r=>some (r.1,⟨fr,lh,sh⟩):=av QQ rfl rfl h
theorem QR:pE.fn 223=some FC:=rfl
theorem QS(h:args.all froz=true):ar pE (ai pE) z ⟨fr,lh,sh⟩ 223 args=(ai pE 223 args []).bind fun r=>some (r.1,⟨fr,lh,sh⟩):=av QR rfl rfl h
theorem QT:pE.fn 224=some Ig:=rfl
theorem D2(h:args.all froz=true):ar pE (ai pE) z ⟨fr,lh,sh⟩ 224 args=(ai pE 224 args []).bind fun r=>some (r.1,⟨fr,lh,sh⟩):=av QT rfl rfl h
theorem QU:pE.fn 228=some FD:=rfl
theorem uo(h:args.all froz=true):ar pE (ai pE) z ⟨fr,lh,sh⟩ 228 args=(ai pE 228 args []).bind fun r=>some (r.1,⟨fr,lh,sh⟩):=av QU rfl rfl h
theorem QV:pE.fn 229=some FE:=rfl
theorem IP(h:args.all froz=true):ar pE (ai pE) z ⟨fr,lh,sh⟩ 229 args=(ai pE 229 args []).bind fun r=>some (r.1,⟨fr,lh,sh⟩):=av QV rfl rfl h
theorem QW:pE.fn 243=some FF:=rfl
theorem WE(h:args.all froz=true):ar pE (ai pE) z ⟨fr,lh,sh⟩ 243 args=(ai pE 243 args []).bind fun r=>some (r.1,⟨fr,lh,sh⟩):=av QW rfl rfl h
theorem QX:pE.fn 244=some Ih:=rfl
theorem nq(h:args.all froz=true):ar pE (ai pE) z ⟨fr,lh,sh⟩ 244 args=(ai pE 244 args []).bind fun r=>some (r.1,⟨fr,lh,sh⟩):=av QX rfl rfl h
theorem QY:pE.fn 245=some FG:=rfl
theorem ns(h:args.all froz=true):ar pE (ai pE) z ⟨fr,lh,sh⟩ 245 args=(ai pE 245 args []).bind fun r=>some (r.1,⟨fr,lh,sh⟩):=av QY rfl rfl h
theorem IQ:pE.fn 246=some FH:=rfl
theorem D3(h:args.all froz=true):ar pE (ai pE) z ⟨fr,lh,sh⟩ 246 args=(ai pE 246 args []).bind fun r=>some (r.1,⟨fr,lh,sh⟩):=av IQ rfl rfl h
theorem QZ(h:(eC.map (rd fr)).all froz=true):aL pE (ai pE) n ((u,⟨d,.callf 246 eC,none⟩)::ds) bL ⟨fr,lh,sh⟩=ke pE (ai pE) n ds (bL++ [dB]) (au pE (ai pE) n [⟨d,.callf 246 eC,none⟩] ⟨fr,lh,sh⟩):=dQ IQ rfl rfl h
theorem Q0:pE.fn 247=some Ii:=rfl
theorem Q1(h:args.all froz=true):ar pE (ai pE) z ⟨fr,lh,sh⟩ 247 args=(ai pE 247 args []).bind fun r=>some (r.1,⟨fr,lh,sh⟩):=av Q0 rfl rfl h
theorem IS:pE.fn 248=some rE:=rfl
theorem Q2(h:args.all froz=true):ar pE (ai pE) z ⟨fr,lh,sh⟩ 248 args=(ai pE 248 args []).bind fun r=>some (r.1,⟨fr,lh,sh⟩):=av IS rfl rfl h
theorem Q3(h:(eC.map (rd fr)).all froz=true):aL pE (ai pE) n ((u,⟨d,.callf 248 eC,none⟩)::ds) bL ⟨fr,lh,sh⟩=ke pE (ai pE) n ds (bL++ [dB]) (au pE (ai pE) n [⟨d,.callf 248 eC,none⟩] ⟨fr,lh,sh⟩):=dQ IS rfl rfl h
theorem D4:pE.fn 249=some we:=rfl
theorem WG(h:args.all froz=true):ar pE (ai pE) z ⟨fr,lh,sh⟩ 249 args=(ai pE 249 args []).bind fun r=>some (r.1,⟨fr,lh,sh⟩):=av D4 rfl rfl h
theorem IT:pE.fn 250=some Ci:=rfl
theorem Q4(h:args.all froz=true):ar pE (ai pE) z ⟨fr,lh,sh⟩ 250 args=(ai pE 250 args []).bind fun r=>some (r.1,⟨fr,lh,sh⟩):=av IT rfl rfl h
theorem Q5:pE.fn 251=some Ij:=rfl
theorem WH(h:args.all froz=true):ar pE (ai pE) z ⟨fr,lh,sh⟩ 251 args=(ai pE 251 args []).bind fun r=>some (r.1,⟨fr,lh,sh⟩):=av Q5 rfl rfl h
theorem Q6:pE.fn 266=some FI:=rfl
theorem Q7(h:args.all froz=true):ar pE (ai pE) z ⟨fr,lh,sh⟩ 266 args=(ai pE 266 args []).bind fun r=>some (r.1,⟨fr,lh,sh⟩):=av Q6 rfl rfl h
end Go.Proofs.YtfenhjpkomldcaaGreat
