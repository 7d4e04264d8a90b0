/- The functions that the statement reaches, as one table. Conditions: none. -/
import Derived.Test.YtfenhjpkomldcaaGreatCoA
import Derived.Test.YtfenhjpkomldcaaGreatCoB
import Derived.Test.YtfenhjpkomldcaaGreatCoC
import Derived.Test.YtfenhjpkomldcaaGreatExW
import Derived.Test.YtfenhjpkomldcaaGreatEvG
namespace Go.Proofs.YtfenhjpkomldcaaGreat
open Go Go.Ev
def Z9:tp:=(.nd (.nd (.nd (.nd (.nd (.nd (.nd .nil 13 Q1 .nil) 16 Og (.nd .nil 18 Oh .nil)) 19 Rq (.nd (.nd .nil 20 Wy .nil) 21 Z6 (.nd .nil 22 Z7 .nil))) 44 Rr (.nd (.nd (.nd .nil 45 Rs .nil) 46 Rt (.nd .nil 47 Q2 .nil)) 48 Rv (.nd (.nd .nil 52 Rw .nil) 53 Wz .nil))) 54 L3 (.nd (.nd (.nd (.nd .nil 55 Q3 .nil) 56 Q4 (.nd .nil 57 IN .nil)) 58 Rx (.nd (.nd .nil 59 Om .nil) 60 Ry (.nd .nil 61 Rz .nil))) 65 On (.nd (.nd (.nd .nil 80 Oo .nil) 83 El (.nd .nil 84 RA .nil)) 85 wq (.nd (.nd .nil 88 Z8 .nil) 89 L4 .nil)))) 91 IA (.nd (.nd (.nd (.nd (.nd .nil 92 tl .nil) 96 RB (.nd .nil 97 Q5 .nil)) 98 Ow (.nd (.nd .nil 99 Q6 .nil) 100 gf (.nd .nil 101 wE .nil))) 102 iC (.nd (.nd (.nd .nil 103 sT .nil) 104 Eo (.nd .nil 105 Ch .nil)) 106 qT (.nd (.nd .nil 107 ql .nil) 108 gM .nil))) 109 dX (.nd (.nd (.nd (.nd .nil 110 y9 .nil) 111 Ep (.nd .nil 112 gN .nil)) 114 za (.nd (.nd .nil 126 Er .nil) 132 RC .nil)) 133 Es (.nd (.nd (.nd .nil 134 zb .nil) 135 Et (.nd .nil 136 Eu .nil)) 137 Ew (.nd (.nd .nil 138 RD .nil) 139 Ci .nil))))) 140 wF (.nd (.nd (.nd (.nd (.nd (.nd .nil 141 nb .nil) 142 qU (.nd .nil 143 Ey .nil)) 144 Cj (.nd (.nd .nil 145 Ez .nil) 146 EA (.nd .nil 147 qm .nil))) 148 qV (.nd (.nd (.nd .nil 149 qn .nil) 150 ng (.nd .nil 151 uJ .nil)) 152 wG (.nd (.nd .nil 153 zd .nil) 154 EB .nil))) 155 EC (.nd (.nd (.nd (.nd .nil 156 Ck .nil) 157 ic (.nd .nil 158 uK .nil)) 159 nh (.nd (.nd .nil 160 oM .nil) 161 ED .nil)) 162 EE (.nd (.nd (.nd .nil 163 EF .nil) 164 RE (.nd .nil 165 RF .nil)) 166 Cl (.nd (.nd .nil 167 EG .nil) 168 Cm .nil)))) 174 wH (.nd (.nd (.nd (.nd (.nd .nil 182 uL .nil) 186 RG (.nd .nil 197 EH .nil)) 212 EI (.nd (.nd .nil 213 mq .nil) 214 qW (.nd .nil 215 jQ .nil))) 216 Cn (.nd (.nd (.nd .nil 217 ze .nil) 218 EJ (.nd .nil 219 EL .nil)) 220 EM (.nd (.nd .nil 221 Cp .nil) 222 Cq .nil))) 223 Cr (.nd (.nd (.nd (.nd .nil 228 Cu .nil) 229 Cv (.nd .nil 231 RH .nil)) 243 Cw (.nd (.nd .nil 244 EN .nil) 245 Cx .nil)) 246 Cy (.nd (.nd (.nd .nil 247 EO .nil) 248 oN (.nd .nil 249 sU .nil)) 250 zf (.nd (.nd .nil 251 EP .nil) 266 Cz .nil))))))
theorem Ox:tp.All (az Tryz.prog) Z9:=⟨⟨⟨⟨⟨⟨⟨trivial,k13,trivial⟩,k16,⟨trivial,k18,trivial⟩⟩,k19,⟨⟨trivial,k20,trivial⟩,k21,⟨trivial,k22,trivial⟩⟩⟩,k44,⟨⟨⟨trivial,k45,trivial⟩,k46,⟨trivial,k47,trivial⟩⟩,k48,⟨⟨trivial,k52,trivial⟩,k53,trivial⟩⟩⟩,k54,⟨⟨⟨⟨trivial,k55,trivial⟩,k56,⟨trivial,k57,trivial⟩⟩,k58,⟨⟨trivial,k59,trivial⟩,k60,⟨trivial,k61,trivial⟩⟩⟩,k65,⟨⟨⟨trivial,k80,trivial⟩,k83,⟨trivial,k84,trivial⟩⟩,k85,⟨⟨trivial,k88,trivial⟩,k89,trivial⟩⟩⟩⟩,k91,⟨⟨⟨⟨⟨trivial,k92,trivial⟩,k96,⟨trivial,k97,trivial⟩⟩,k98,⟨⟨trivial,k99,trivial⟩,WA,⟨trivial,WB,trivial⟩⟩⟩,WC,⟨⟨⟨trivial,WD,trivial⟩,WE,⟨trivial,WG,trivial⟩⟩,WH,⟨⟨trivial,WI,trivial⟩,WJ,trivial⟩⟩⟩,WK,⟨⟨⟨⟨trivial,WL,trivial⟩,WM,⟨trivial,WN,trivial⟩⟩,WO,⟨⟨trivial,WQ,trivial⟩,WR,trivial⟩⟩,WS,⟨⟨⟨trivial,WT,trivial⟩,WU,⟨trivial,WV,trivial⟩⟩,WW,⟨⟨trivial,WX,trivial⟩,WY,trivial⟩⟩⟩⟩⟩,WZ,⟨⟨⟨⟨⟨⟨trivial,W0,trivial⟩,W1,⟨trivial,W2,trivial⟩⟩,W3,⟨⟨trivial,W4,trivial⟩,W5,⟨trivial,W6,trivial⟩⟩⟩,W7,⟨⟨⟨trivial,W8,trivial⟩,W9,⟨trivial,Xa,trivial⟩⟩,Xb,⟨⟨trivial,Xc,trivial⟩,Xd,trivial⟩⟩⟩,Xe,⟨⟨⟨⟨trivial,Xf,trivial⟩,Xg,⟨trivial,Xh,trivial⟩⟩,Xi,⟨⟨trivial,Xj,trivial⟩,Xk,trivial⟩⟩,Xl,⟨⟨⟨trivial,Xm,trivial⟩,Xn,⟨trivial,Xo,trivial⟩⟩,Xp,⟨⟨trivial,Xq,trivial⟩,Xr,trivial⟩⟩⟩⟩,Xs,⟨⟨⟨⟨⟨trivial,Xt,trivial⟩,Xu,⟨trivial,Xv,trivial⟩⟩,Xw,⟨⟨trivial,Xx,trivial⟩,Xy,⟨trivial,Xz,trivial⟩⟩⟩,XA,⟨⟨⟨trivial,XB,trivial⟩,XC,⟨trivial,XD,trivial⟩⟩,XE,⟨⟨trivial,XF,trivial⟩,XG,trivial⟩⟩⟩,XH,⟨⟨⟨⟨trivial,XI,trivial⟩,XJ,⟨trivial,XK,trivial⟩⟩,XL,⟨⟨trivial,XM,trivial⟩,XN,trivial⟩⟩,XO,⟨⟨⟨trivial,XP,trivial⟩,XQ,⟨trivial,XR,trivial⟩⟩,XS,⟨⟨trivial,XT,trivial⟩,XU,trivial⟩⟩⟩⟩⟩⟩
def pEx(f:Nat):Option (List T→Option T):=bif Nat.beq f 267 then some IQ else none
def pEy(f:Nat):Option (List T→Option (List T×Option Nat)):=bif Nat.beq f 81 then some mC else bif Nat.beq f 82 then some mD else none
def pE:Env:=⟨Z9.find,pEx,pEy⟩
theorem RI:lA Tryz.prog pE:=RJ Ox (fun f g h=>by
 unfold pEx at h
 cases hc:Nat.beq f 267 with
 |true=>rw[hc,cond_true]at h;cases h;rw[Nat.eq_of_beq_eq_true hc];exact Tryz.idxOk
 |false=>rw[hc,cond_false]at h;cases h) (fun f g h=>by
 unfold pEy at h
 cases hb:Nat.beq f 81 with
 |true=>rw[hb,cond_true]at h;cases h;rw[Nat.eq_of_beq_eq_true hb];exact⟨⟨Tryz.f81,Tryz.func81,by kernel_rfl,by kernel_rfl⟩,Tryz.sortOkS⟩
 |false=>
  rw[hb,cond_false]at h
  cases hc:Nat.beq f 82 with
  |true=>rw[hc,cond_true]at h;cases h;rw[Nat.eq_of_beq_eq_true hc];exact⟨⟨Tryz.f82,Tryz.func82,by kernel_rfl,by kernel_rfl⟩,Tryz.compOk⟩
  |false=>rw[hc,cond_false]at h;cases h)
variable{n z:Nat}{fr:Fr}{lh:aQ aA}{sh:List aA}{args:List T}{u:List Nat}{d:Option Nat}{dx:List aZ}{ds:List (List Nat×aJ)}{bo:List FP}
theorem XV:pE.fn 13=some Q1:=rfl
theorem RK:pE.fn 16=some Og:=rfl
theorem XW(h:args.all froz=true):ar pE (aa pE) z ⟨fr,lh,sh⟩ 16 args=(aa pE 16 args []).bind fun r=>some (r.1,⟨fr,lh,sh⟩):=aw RK rfl rfl h
theorem RL:pE.fn 18=some Oh:=rfl
theorem XX(h:args.all froz=true):ar pE (aa pE) z ⟨fr,lh,sh⟩ 18 args=(aa pE 18 args []).bind fun r=>some (r.1,⟨fr,lh,sh⟩):=aw RL rfl rfl h
theorem Oy:pE.fn 19=some Rq:=rfl
theorem XY(h:args.all froz=true):ar pE (aa pE) z ⟨fr,lh,sh⟩ 19 args=(aa pE 19 args []).bind fun r=>some (r.1,⟨fr,lh,sh⟩):=aw Oy rfl rfl h
theorem XZ(h:(dx.map (rd fr)).all froz=true):aH pE (aa pE) n ((u,⟨d,.callf 19 dx,none⟩)::ds) bo ⟨fr,lh,sh⟩=ke pE (aa pE) n ds (bo++ [cG]) (aq pE (aa pE) n [⟨d,.callf 19 dx,none⟩] ⟨fr,lh,sh⟩):=cU Oy rfl rfl h
theorem RM:pE.fn 20=some Wy:=rfl
theorem X0(h:args.all froz=true):ar pE (aa pE) z ⟨fr,lh,sh⟩ 20 args=(aa pE 20 args []).bind fun r=>some (r.1,⟨fr,lh,sh⟩):=aw RM rfl rfl h
theorem X1(h:(dx.map (rd fr)).all froz=true):aH pE (aa pE) n ((u,⟨d,.callf 20 dx,none⟩)::ds) bo ⟨fr,lh,sh⟩=ke pE (aa pE) n ds (bo++ [cG]) (aq pE (aa pE) n [⟨d,.callf 20 dx,none⟩] ⟨fr,lh,sh⟩):=cU RM rfl rfl h
theorem RN:pE.fn 44=some Rr:=rfl
theorem X2(h:args.all froz=true):ar pE (aa pE) z ⟨fr,lh,sh⟩ 44 args=(aa pE 44 args []).bind fun r=>some (r.1,⟨fr,lh,sh⟩):=aw RN rfl rfl h
theorem RO:pE.fn 45=some Rs:=rfl
theorem X3(h:args.all froz=true):ar pE (aa pE) z ⟨fr,lh,sh⟩ 45 args=(aa pE 45 args []).bind fun r=>some (r.1,⟨fr,lh,sh⟩):=aw RO rfl rfl h
theorem Oz:pE.fn 46=some Rt:=rfl
theorem X4(h:args.all froz=true):ar pE (aa pE) z ⟨fr,lh,sh⟩ 46 args=(aa pE 46 args []).bind fun r=>some (r.1,⟨fr,lh,sh⟩):=aw Oz rfl rfl h
theorem X5(h:(dx.map (rd fr)).all froz=true):aH pE (aa pE) n ((u,⟨d,.callf 46 dx,none⟩)::ds) bo ⟨fr,lh,sh⟩=ke pE (aa pE) n ds (bo++ [cG]) (aq pE (aa pE) n [⟨d,.callf 46 dx,none⟩] ⟨fr,lh,sh⟩):=cU Oz rfl rfl h
theorem OA:pE.fn 47=some Q2:=rfl
theorem X6(h:args.all froz=true):ar pE (aa pE) z ⟨fr,lh,sh⟩ 47 args=(aa pE 47 args []).bind fun r=>some (r.1,⟨fr,lh,sh⟩):=aw OA rfl rfl h
theorem X7(h:(dx.map (rd fr)).all froz=true):aH pE (aa pE) n ((u,⟨d,.callf 47 dx,none⟩)::ds) bo ⟨fr,lh,sh⟩=ke pE (aa pE) n ds (bo++ [cG]) (aq pE (aa pE) n [⟨d,.callf 47 dx,none⟩] ⟨fr,lh,sh⟩):=cU OA rfl rfl h
theorem OB:pE.fn 48=some Rv:=rfl
theorem X8(h:args.all froz=true):ar pE (aa pE) z ⟨fr,lh,sh⟩ 48 args=(aa pE 48 args []).bind fun r=>some (r.1,⟨fr,lh,sh⟩):=aw OB rfl rfl h
theorem X9(h:(dx.map (rd fr)).all froz=true):aH pE (aa pE) n ((u,⟨d,.callf 48 dx,none⟩)::ds) bo ⟨fr,lh,sh⟩=ke pE (aa pE) n ds (bo++ [cG]) (aq pE (aa pE) n [⟨d,.callf 48 dx,none⟩] ⟨fr,lh,sh⟩):=cU OB rfl rfl h
theorem RP:pE.fn 52=some Rw:=rfl
theorem OC(h:args.all froz=true):ar pE (aa pE) z ⟨fr,lh,sh⟩ 52 args=(aa pE 52 args []).bind fun r=>some (r.1,⟨fr,lh,sh⟩):=aw RP rfl rfl h
theorem Ya:pE.fn 53=some Wz:=rfl
theorem RQ(h:args.all froz=true):ar pE (aa pE) z ⟨fr,lh,sh⟩ 53 args=(aa pE 53 args []).bind fun r=>some (r.1,⟨fr,lh,sh⟩):=aw Ya rfl rfl h
theorem OD:pE.fn 54=some L3:=rfl
theorem IS(h:args.all kept=true):ar pE (aa pE) z ⟨fr,lh,sh⟩ 54 args=(aa pE 54 args sh).bind fun r=>some (r.1,⟨fr,lh,r.2⟩):=ef OD rfl h
theorem Yb(h:(dx.map (rd fr)).all kept=true):aH pE (aa pE) n ((u,⟨d,.callf 54 dx,none⟩)::ds) bo ⟨fr,lh,sh⟩=if meets u bo kP=true then ke pE (aa pE) n ds (bo++ [kP]) (aq pE (aa pE) n [⟨d,.callf 54 dx,none⟩] ⟨fr,lh,sh⟩)else none:=uM OD rfl h
theorem RR:pE.fn 55=some Q3:=rfl
theorem Yc(h:args.all froz=true):ar pE (aa pE) z ⟨fr,lh,sh⟩ 55 args=(aa pE 55 args []).bind fun r=>some (r.1,⟨fr,lh,sh⟩):=aw RR rfl rfl h
theorem OE:pE.fn 56=some Q4:=rfl
theorem wI(h:args.all froz=true):ar pE (aa pE) z ⟨fr,lh,sh⟩ 56 args=(aa pE 56 args []).bind fun r=>some (r.1,⟨fr,lh,sh⟩):=aw OE rfl rfl h
theorem OF(h:(dx.map (rd fr)).all froz=true):aH pE (aa pE) n ((u,⟨d,.callf 56 dx,none⟩)::ds) bo ⟨fr,lh,sh⟩=ke pE (aa pE) n ds (bo++ [cG]) (aq pE (aa pE) n [⟨d,.callf 56 dx,none⟩] ⟨fr,lh,sh⟩):=cU OE rfl rfl h
theorem OG:pE.fn 57=some IN:=rfl
theorem IT(h:args.all froz=true):ar pE (aa pE) z ⟨fr,lh,sh⟩ 57 args=(aa pE 57 args []).bind fun r=>some (r.1,⟨fr,lh,sh⟩):=aw OG rfl rfl h
theorem RS(h:(dx.map (rd fr)).all froz=true):aH pE (aa pE) n ((u,⟨d,.callf 57 dx,none⟩)::ds) bo ⟨fr,lh,sh⟩=ke pE (aa pE) n ds (bo++ [cG]) (aq pE (aa pE) n [⟨d,.callf 57 dx,none⟩] ⟨fr,lh,sh⟩):=cU OG rfl rfl h
theorem OH:pE.fn 58=some Rx:=rfl
theorem RT(h:args.all froz=true):ar pE (aa pE) z ⟨fr,lh,sh⟩ 58 args=(aa pE 58 args []).bind fun r=>some (r.1,⟨fr,lh,sh⟩):=aw OH rfl rfl h
theorem RU(h:(dx.map (rd fr)).all froz=true):aH pE (aa pE) n ((u,⟨d,.callf 58 dx,none⟩)::ds) bo ⟨fr,lh,sh⟩=ke pE (aa pE) n ds (bo++ [cG]) (aq pE (aa pE) n [⟨d,.callf 58 dx,none⟩] ⟨fr,lh,sh⟩):=cU OH rfl rfl h
theorem RV:pE.fn 59=some Om:=rfl
theorem CA(h:args.all froz=true):ar pE (aa pE) z ⟨fr,lh,sh⟩ 59 args=(aa pE 59 args []).bind fun r=>some (r.1,⟨fr,lh,sh⟩):=aw RV rfl rfl h
theorem OI:pE.fn 60=some Ry:=rfl
theorem RW(h:args.all froz=true):ar pE (aa pE) z ⟨fr,lh,sh⟩ 60 args=(aa pE 60 args []).bind fun r=>some (r.1,⟨fr,lh,sh⟩):=aw OI rfl rfl h
theorem Yd(h:(dx.map (rd fr)).all froz=true):aH pE (aa pE) n ((u,⟨d,.callf 60 dx,none⟩)::ds) bo ⟨fr,lh,sh⟩=ke pE (aa pE) n ds (bo++ [cG]) (aq pE (aa pE) n [⟨d,.callf 60 dx,none⟩] ⟨fr,lh,sh⟩):=cU OI rfl rfl h
theorem RX:pE.fn 61=some Rz:=rfl
theorem OJ(h:args.all froz=true):ar pE (aa pE) z ⟨fr,lh,sh⟩ 61 args=(aa pE 61 args []).bind fun r=>some (r.1,⟨fr,lh,sh⟩):=aw RX rfl rfl h
theorem RY:pE.fn 65=some On:=rfl
theorem Ye(h:args.all froz=true):ar pE (aa pE) z ⟨fr,lh,sh⟩ 65 args=(aa pE 65 args []).bind fun r=>some (r.1,⟨fr,lh,sh⟩):=aw RY rfl rfl h
theorem RZ:pE.fn 80=some Oo:=rfl
theorem OK(h:args.all kept=true):ar pE (aa pE) z ⟨fr,lh,sh⟩ 80 args=(aa pE 80 args sh).bind fun r=>some (r.1,⟨fr,lh,r.2⟩):=ef RZ rfl h
theorem OL:pE.fn 83=some El:=rfl
theorem R0(h:args.all froz=true):ar pE (aa pE) z ⟨fr,lh,sh⟩ 83 args=(aa pE 83 args []).bind fun r=>some (r.1,⟨fr,lh,sh⟩):=aw OL rfl rfl h
theorem Yf:ar pE (aa pE) z ⟨fr,lh,sh⟩ 83 args=(ni lh sh false args).bind fun q=>(aa pE 83 q.1 []).bind fun r=>some (r.1,if scalar r.1=true then⟨fr,lh,sh⟩else(St.mk fr lh sh).ups q.2):=ff OL rfl rfl
theorem R1:pE.fn 84=some RA:=rfl
theorem CB(h:args.all froz=true):ar pE (aa pE) z ⟨fr,lh,sh⟩ 84 args=(aa pE 84 args []).bind fun r=>some (r.1,⟨fr,lh,sh⟩):=aw R1 rfl rfl h
theorem zg:pE.fn 85=some wq:=rfl
theorem uN(h:args.all froz=true):ar pE (aa pE) z ⟨fr,lh,sh⟩ 85 args=(aa pE 85 args []).bind fun r=>some (r.1,⟨fr,lh,sh⟩):=aw zg rfl rfl h
theorem R2:pE.fn 89=some L4:=rfl
theorem CC(h:args.all froz=true):ar pE (aa pE) z ⟨fr,lh,sh⟩ 89 args=(aa pE 89 args []).bind fun r=>some (r.1,⟨fr,lh,sh⟩):=aw R2 rfl rfl h
theorem OM:pE.fn 91=some IA:=rfl
theorem R3(h:args.all froz=true):ar pE (aa pE) z ⟨fr,lh,sh⟩ 91 args=(aa pE 91 args []).bind fun r=>some (r.1,⟨fr,lh,sh⟩):=aw OM rfl rfl h
theorem R4(h:(dx.map (rd fr)).all froz=true):aH pE (aa pE) n ((u,⟨d,.callf 91 dx,none⟩)::ds) bo ⟨fr,lh,sh⟩=ke pE (aa pE) n ds (bo++ [cG]) (aq pE (aa pE) n [⟨d,.callf 91 dx,none⟩] ⟨fr,lh,sh⟩):=cU OM rfl rfl h
theorem IU:pE.fn 92=some tl:=rfl
theorem wJ(h:args.all froz=true):ar pE (aa pE) z ⟨fr,lh,sh⟩ 92 args=(aa pE 92 args []).bind fun r=>some (r.1,⟨fr,lh,sh⟩):=aw IU rfl rfl h
theorem Yg:ar pE (aa pE) z ⟨fr,lh,sh⟩ 92 args=(ni lh sh false args).bind fun q=>(aa pE 92 q.1 []).bind fun r=>some (r.1,if scalar r.1=true then⟨fr,lh,sh⟩else(St.mk fr lh sh).ups q.2):=ff IU rfl rfl
theorem R5(h:(dx.map (rd fr)).all froz=true):aH pE (aa pE) n ((u,⟨d,.callf 92 dx,none⟩)::ds) bo ⟨fr,lh,sh⟩=ke pE (aa pE) n ds (bo++ [cG]) (aq pE (aa pE) n [⟨d,.callf 92 dx,none⟩] ⟨fr,lh,sh⟩):=cU IU rfl rfl h
theorem ON:pE.fn 96=some RB:=rfl
theorem Yh(h:args.all kept=true):ar pE (aa pE) z ⟨fr,lh,sh⟩ 96 args=(aa pE 96 args sh).bind fun r=>some (r.1,⟨fr,lh,r.2⟩):=ef ON rfl h
theorem Yi(h:(dx.map (rd fr)).all kept=true):aH pE (aa pE) n ((u,⟨d,.callf 96 dx,none⟩)::ds) bo ⟨fr,lh,sh⟩=if meets u bo kP=true then ke pE (aa pE) n ds (bo++ [kP]) (aq pE (aa pE) n [⟨d,.callf 96 dx,none⟩] ⟨fr,lh,sh⟩)else none:=uM ON rfl h
theorem OO:pE.fn 97=some Q5:=rfl
theorem OP(h:args.all kept=true):ar pE (aa pE) z ⟨fr,lh,sh⟩ 97 args=(aa pE 97 args sh).bind fun r=>some (r.1,⟨fr,lh,r.2⟩):=ef OO rfl h
theorem Yj(h:(dx.map (rd fr)).all kept=true):aH pE (aa pE) n ((u,⟨d,.callf 97 dx,none⟩)::ds) bo ⟨fr,lh,sh⟩=if meets u bo kP=true then ke pE (aa pE) n ds (bo++ [kP]) (aq pE (aa pE) n [⟨d,.callf 97 dx,none⟩] ⟨fr,lh,sh⟩)else none:=uM OO rfl h
theorem IV:pE.fn 98=some Ow:=rfl
theorem R6(h:args.all froz=true):ar pE (aa pE) z ⟨fr,lh,sh⟩ 98 args=(aa pE 98 args []).bind fun r=>some (r.1,⟨fr,lh,sh⟩):=aw IV rfl rfl h
theorem Yk(h:(dx.map (rd fr)).all froz=true):aH pE (aa pE) n ((u,⟨d,.callf 98 dx,none⟩)::ds) bo ⟨fr,lh,sh⟩=ke pE (aa pE) n ds (bo++ [cG]) (aq pE (aa pE) n [⟨d,.callf 98 dx,none⟩] ⟨fr,lh,sh⟩):=cU IV rfl rfl h
theorem R7:pE.fn 99=some Q6:=rfl
theorem Yl(h:args.all kept=true):ar pE (aa pE) z ⟨fr,lh,sh⟩ 99 args=(aa pE 99 args sh).bind fun r=>some (r.1,⟨fr,lh,r.2⟩):=ef R7 rfl h
theorem jR:pE.fn 100=some gf:=rfl
theorem R8(h:args.all kept=true):ar pE (aa pE) z ⟨fr,lh,sh⟩ 100 args=(aa pE 100 args sh).bind fun r=>some (r.1,⟨fr,lh,r.2⟩):=ef jR rfl h
theorem R9:ar pE (aa pE) z ⟨fr,lh,sh⟩ 100 args=(ni lh sh true args).bind fun q=>(aa pE 100 q.1 ((St.mk fr lh sh).ups q.2).sh).bind fun r=>some (r.1,{(St.mk fr lh sh).ups q.2 with sh:=r.2}):=ER jR rfl
theorem L5:pE.fn 101=some wE:=rfl
theorem AS(h:args.all kept=true):ar pE (aa pE) z ⟨fr,lh,sh⟩ 101 args=(aa pE 101 args sh).bind fun r=>some (r.1,⟨fr,lh,r.2⟩):=ef L5 rfl h
theorem L6:pE.fn 102=some iC:=rfl
theorem ES(h:args.all froz=true):ar pE (aa pE) z ⟨fr,lh,sh⟩ 102 args=(aa pE 102 args []).bind fun r=>some (r.1,⟨fr,lh,sh⟩):=aw L6 rfl rfl h
theorem wK:pE.fn 103=some sT:=rfl
theorem ET(h:args.all froz=true):ar pE (aa pE) z ⟨fr,lh,sh⟩ 103 args=(aa pE 103 args []).bind fun r=>some (r.1,⟨fr,lh,sh⟩):=aw wK rfl rfl h
theorem Sa:ar pE (aa pE) z ⟨fr,lh,sh⟩ 103 args=(ni lh sh false args).bind fun q=>(aa pE 103 q.1 []).bind fun r=>some (r.1,if scalar r.1=true then⟨fr,lh,sh⟩else(St.mk fr lh sh).ups q.2):=ff wK rfl rfl
theorem EU(h:(dx.map (rd fr)).all froz=true):aH pE (aa pE) n ((u,⟨d,.callf 103 dx,none⟩)::ds) bo ⟨fr,lh,sh⟩=ke pE (aa pE) n ds (bo++ [cG]) (aq pE (aa pE) n [⟨d,.callf 103 dx,none⟩] ⟨fr,lh,sh⟩):=cU wK rfl rfl h
theorem Sb(h:EV ds=true):aH pE (aa pE) n (([],⟨d,.callf 103 dx,none⟩)::ds) bo ⟨fr,lh,sh⟩=ke pE (aa pE) n ds (bo++ [cG]) (aq pE (aa pE) n [⟨d,.callf 103 dx,none⟩] ⟨fr,lh,sh⟩):=AT wK rfl rfl h
theorem EW:pE.fn 104=some Eo:=rfl
theorem Sc(h:args.all froz=true):ar pE (aa pE) z ⟨fr,lh,sh⟩ 104 args=(aa pE 104 args []).bind fun r=>some (r.1,⟨fr,lh,sh⟩):=aw EW rfl rfl h
theorem Sd(h:(dx.map (rd fr)).all froz=true):aH pE (aa pE) n ((u,⟨d,.callf 104 dx,none⟩)::ds) bo ⟨fr,lh,sh⟩=ke pE (aa pE) n ds (bo++ [cG]) (aq pE (aa pE) n [⟨d,.callf 104 dx,none⟩] ⟨fr,lh,sh⟩):=cU EW rfl rfl h
theorem L7:pE.fn 105=some Ch:=rfl
theorem AU(h:args.all froz=true):ar pE (aa pE) z ⟨fr,lh,sh⟩ 105 args=(aa pE 105 args []).bind fun r=>some (r.1,⟨fr,lh,sh⟩):=aw L7 rfl rfl h
theorem L8:pE.fn 106=some qT:=rfl
theorem L9(h:args.all froz=true):ar pE (aa pE) z ⟨fr,lh,sh⟩ 106 args=(aa pE 106 args []).bind fun r=>some (r.1,⟨fr,lh,sh⟩):=aw L8 rfl rfl h
theorem Ma:pE.fn 107=some ql:=rfl
theorem Mb(h:args.all froz=true):ar pE (aa pE) z ⟨fr,lh,sh⟩ 107 args=(aa pE 107 args []).bind fun r=>some (r.1,⟨fr,lh,sh⟩):=aw Ma rfl rfl h
theorem EX:pE.fn 108=some gM:=rfl
theorem EY:ar pE (aa pE) z ⟨fr,lh,sh⟩ 108 args=(ni lh sh false args).bind fun q=>(aa pE 108 q.1 []).bind fun r=>some (r.1,if scalar r.1=true then⟨fr,lh,sh⟩else(St.mk fr lh sh).ups q.2):=ff EX rfl rfl
theorem tq:pE.fn 109=some dX:=rfl
theorem Se(h:args.all froz=true):ar pE (aa pE) z ⟨fr,lh,sh⟩ 109 args=(aa pE 109 args []).bind fun r=>some (r.1,⟨fr,lh,sh⟩):=aw tq rfl rfl h
theorem Sf:ar pE (aa pE) z ⟨fr,lh,sh⟩ 109 args=(ni lh sh false args).bind fun q=>(aa pE 109 q.1 []).bind fun r=>some (r.1,if scalar r.1=true then⟨fr,lh,sh⟩else(St.mk fr lh sh).ups q.2):=ff tq rfl rfl
theorem AV:pE.fn 110=some y9:=rfl
theorem Sg(h:args.all froz=true):ar pE (aa pE) z ⟨fr,lh,sh⟩ 110 args=(aa pE 110 args []).bind fun r=>some (r.1,⟨fr,lh,sh⟩):=aw AV rfl rfl h
theorem Sh:ar pE (aa pE) z ⟨fr,lh,sh⟩ 110 args=(ni lh sh false args).bind fun q=>(aa pE 110 q.1 []).bind fun r=>some (r.1,if scalar r.1=true then⟨fr,lh,sh⟩else(St.mk fr lh sh).ups q.2):=ff AV rfl rfl
theorem Si(h:EV ds=true):aH pE (aa pE) n (([],⟨d,.callf 110 dx,none⟩)::ds) bo ⟨fr,lh,sh⟩=ke pE (aa pE) n ds (bo++ [cG]) (aq pE (aa pE) n [⟨d,.callf 110 dx,none⟩] ⟨fr,lh,sh⟩):=AT AV rfl rfl h
theorem Mc:pE.fn 111=some Ep:=rfl
theorem EZ(h:args.all froz=true):ar pE (aa pE) z ⟨fr,lh,sh⟩ 111 args=(aa pE 111 args []).bind fun r=>some (r.1,⟨fr,lh,sh⟩):=aw Mc rfl rfl h
theorem Md:pE.fn 112=some gN:=rfl
theorem E0(h:args.all froz=true):ar pE (aa pE) z ⟨fr,lh,sh⟩ 112 args=(aa pE 112 args []).bind fun r=>some (r.1,⟨fr,lh,sh⟩):=aw Md rfl rfl h
theorem Me:pE.fn 114=some za:=rfl
theorem Sj(h:args.all kept=true):ar pE (aa pE) z ⟨fr,lh,sh⟩ 114 args=(aa pE 114 args sh).bind fun r=>some (r.1,⟨fr,lh,r.2⟩):=ef Me rfl h
theorem Mf:pE.fn 126=some Er:=rfl
theorem Sk(h:args.all froz=true):ar pE (aa pE) z ⟨fr,lh,sh⟩ 126 args=(aa pE 126 args []).bind fun r=>some (r.1,⟨fr,lh,sh⟩):=aw Mf rfl rfl h
theorem Mg:pE.fn 133=some Es:=rfl
theorem AW(h:args.all froz=true):ar pE (aa pE) z ⟨fr,lh,sh⟩ 133 args=(aa pE 133 args []).bind fun r=>some (r.1,⟨fr,lh,sh⟩):=aw Mg rfl rfl h
theorem Mh:pE.fn 134=some zb:=rfl
theorem Sl(h:args.all froz=true):ar pE (aa pE) z ⟨fr,lh,sh⟩ 134 args=(aa pE 134 args []).bind fun r=>some (r.1,⟨fr,lh,sh⟩):=aw Mh rfl rfl h
theorem Mi:pE.fn 135=some Et:=rfl
theorem Sm(h:args.all froz=true):ar pE (aa pE) z ⟨fr,lh,sh⟩ 135 args=(aa pE 135 args []).bind fun r=>some (r.1,⟨fr,lh,sh⟩):=aw Mi rfl rfl h
theorem E1:pE.fn 136=some Eu:=rfl
theorem AX(h:args.all froz=true):ar pE (aa pE) z ⟨fr,lh,sh⟩ 136 args=(aa pE 136 args []).bind fun r=>some (r.1,⟨fr,lh,sh⟩):=aw E1 rfl rfl h
theorem Sn(h:(dx.map (rd fr)).all froz=true):aH pE (aa pE) n ((u,⟨d,.callf 136 dx,none⟩)::ds) bo ⟨fr,lh,sh⟩=ke pE (aa pE) n ds (bo++ [cG]) (aq pE (aa pE) n [⟨d,.callf 136 dx,none⟩] ⟨fr,lh,sh⟩):=cU E1 rfl rfl h
theorem Mj:pE.fn 137=some Ew:=rfl
theorem nj(h:args.all froz=true):ar pE (aa pE) z ⟨fr,lh,sh⟩ 137 args=(aa pE 137 args []).bind fun r=>some (r.1,⟨fr,lh,sh⟩):=aw Mj rfl rfl h
theorem E2:pE.fn 139=some Ci:=rfl
theorem Sq(h:args.all froz=true):ar pE (aa pE) z ⟨fr,lh,sh⟩ 139 args=(aa pE 139 args []).bind fun r=>some (r.1,⟨fr,lh,sh⟩):=aw E2 rfl rfl h
theorem Sr(h:(dx.map (rd fr)).all froz=true):aH pE (aa pE) n ((u,⟨d,.callf 139 dx,none⟩)::ds) bo ⟨fr,lh,sh⟩=ke pE (aa pE) n ds (bo++ [cG]) (aq pE (aa pE) n [⟨d,.callf 139 dx,none⟩] ⟨fr,lh,sh⟩):=cU E2 rfl rfl h
theorem Mk:pE.fn 140=some wF:=rfl
theorem E3(h:args.all froz=true):ar pE (aa pE) z ⟨fr,lh,sh⟩ 140 args=(aa pE 140 args []).bind fun r=>some (r.1,⟨fr,lh,sh⟩):=aw Mk rfl rfl h
theorem E4:pE.fn 141=some nb:=rfl
theorem Ss(h:args.all froz=true):ar pE (aa pE) z ⟨fr,lh,sh⟩ 141 args=(aa pE 141 args []).bind fun r=>some (r.1,⟨fr,lh,sh⟩):=aw E4 rfl rfl h
theorem Su(h:(dx.map (rd fr)).all froz=true):aH pE (aa pE) n ((u,⟨d,.callf 141 dx,none⟩)::ds) bo ⟨fr,lh,sh⟩=ke pE (aa pE) n ds (bo++ [cG]) (aq pE (aa pE) n [⟨d,.callf 141 dx,none⟩] ⟨fr,lh,sh⟩):=cU E4 rfl rfl h
theorem Ml:pE.fn 142=some qU:=rfl
theorem E5(h:args.all kept=true):ar pE (aa pE) z ⟨fr,lh,sh⟩ 142 args=(aa pE 142 args sh).bind fun r=>some (r.1,⟨fr,lh,r.2⟩):=ef Ml rfl h
theorem Mm:pE.fn 143=some Ey:=rfl
theorem Mn(h:args.all froz=true):ar pE (aa pE) z ⟨fr,lh,sh⟩ 143 args=(aa pE 143 args []).bind fun r=>ig z 0 r.1 ⟨fr,lh,sh⟩ []:=CD Mm rfl rfl h
theorem Mo:pE.fn 144=some Cj:=rfl
theorem Sv:ar pE (aa pE) z ⟨fr,lh,sh⟩ 144 args=(ni lh sh false args).bind fun q=>(aa pE 144 q.1 []).bind fun r=>some (r.1,if scalar r.1=true then⟨fr,lh,sh⟩else(St.mk fr lh sh).ups q.2):=ff Mo rfl rfl
theorem Mp:pE.fn 145=some Ez:=rfl
theorem Mq(h:args.all froz=true):ar pE (aa pE) z ⟨fr,lh,sh⟩ 145 args=(aa pE 145 args []).bind fun r=>some (r.1,⟨fr,lh,sh⟩):=aw Mp rfl rfl h
theorem Mr:pE.fn 146=some EA:=rfl
theorem js(h:args.all froz=true):ar pE (aa pE) z ⟨fr,lh,sh⟩ 146 args=(aa pE 146 args []).bind fun r=>some (r.1,⟨fr,lh,sh⟩):=aw Mr rfl rfl h
theorem Ms:pE.fn 147=some qm:=rfl
theorem Mt(h:args.all froz=true):ar pE (aa pE) z ⟨fr,lh,sh⟩ 147 args=(aa pE 147 args []).bind fun r=>some (r.1,⟨fr,lh,sh⟩):=aw Ms rfl rfl h
theorem Mu:pE.fn 148=some qV:=rfl
theorem Sw(h:args.all froz=true):ar pE (aa pE) z ⟨fr,lh,sh⟩ 148 args=(aa pE 148 args []).bind fun r=>some (r.1,⟨fr,lh,sh⟩):=aw Mu rfl rfl h
theorem E6:pE.fn 149=some qn:=rfl
theorem qX(h:args.all froz=true):ar pE (aa pE) z ⟨fr,lh,sh⟩ 149 args=(aa pE 149 args []).bind fun r=>some (r.1,⟨fr,lh,sh⟩):=aw E6 rfl rfl h
theorem Sx(h:(dx.map (rd fr)).all froz=true):aH pE (aa pE) n ((u,⟨d,.callf 149 dx,none⟩)::ds) bo ⟨fr,lh,sh⟩=ke pE (aa pE) n ds (bo++ [cG]) (aq pE (aa pE) n [⟨d,.callf 149 dx,none⟩] ⟨fr,lh,sh⟩):=cU E6 rfl rfl h
theorem Mv:pE.fn 150=some ng:=rfl
theorem Mw(h:args.all froz=true):ar pE (aa pE) z ⟨fr,lh,sh⟩ 150 args=(aa pE 150 args []).bind fun r=>some (r.1,⟨fr,lh,sh⟩):=aw Mv rfl rfl h
theorem Mx:pE.fn 151=some uJ:=rfl
theorem Sy(h:args.all kept=true):ar pE (aa pE) z ⟨fr,lh,sh⟩ 151 args=(aa pE 151 args sh).bind fun r=>some (r.1,⟨fr,lh,r.2⟩):=ef Mx rfl h
theorem My:pE.fn 152=some wG:=rfl
theorem AY(h:args.all froz=true):ar pE (aa pE) z ⟨fr,lh,sh⟩ 152 args=(aa pE 152 args []).bind fun r=>some (r.1,⟨fr,lh,sh⟩):=aw My rfl rfl h
theorem Mz:pE.fn 153=some zd:=rfl
theorem Sz(h:args.all froz=true):ar pE (aa pE) z ⟨fr,lh,sh⟩ 153 args=(aa pE 153 args []).bind fun r=>some (r.1,⟨fr,lh,sh⟩):=aw Mz rfl rfl h
theorem MA:pE.fn 154=some EB:=rfl
theorem SA(h:args.all froz=true):ar pE (aa pE) z ⟨fr,lh,sh⟩ 154 args=(aa pE 154 args []).bind fun r=>some (r.1,⟨fr,lh,sh⟩):=aw MA rfl rfl h
theorem MB:pE.fn 155=some EC:=rfl
theorem gj(h:args.all froz=true):ar pE (aa pE) z ⟨fr,lh,sh⟩ 155 args=(aa pE 155 args []).bind fun r=>some (r.1,⟨fr,lh,sh⟩):=aw MB rfl rfl h
theorem MC:pE.fn 156=some Ck:=rfl
theorem MD(h:args.all froz=true):ar pE (aa pE) z ⟨fr,lh,sh⟩ 156 args=(aa pE 156 args []).bind fun r=>some (r.1,⟨fr,lh,sh⟩):=aw MC rfl rfl h
theorem ME:pE.fn 157=some ic:=rfl
theorem MF:ar pE (aa pE) z ⟨fr,lh,sh⟩ 157 args=(ni lh sh false args).bind fun q=>(aa pE 157 q.1 []).bind fun r=>some (r.1,if scalar r.1=true then⟨fr,lh,sh⟩else(St.mk fr lh sh).ups q.2):=ff ME rfl rfl
theorem E7:pE.fn 158=some uK:=rfl
theorem E8(h:args.all froz=true):ar pE (aa pE) z ⟨fr,lh,sh⟩ 158 args=(aa pE 158 args []).bind fun r=>some (r.1,⟨fr,lh,sh⟩):=aw E7 rfl rfl h
theorem MG(h:(dx.map (rd fr)).all froz=true):aH pE (aa pE) n ((u,⟨d,.callf 158 dx,none⟩)::ds) bo ⟨fr,lh,sh⟩=ke pE (aa pE) n ds (bo++ [cG]) (aq pE (aa pE) n [⟨d,.callf 158 dx,none⟩] ⟨fr,lh,sh⟩):=cU E7 rfl rfl h
theorem E9:pE.fn 159=some nh:=rfl
theorem SC(h:args.all froz=true):ar pE (aa pE) z ⟨fr,lh,sh⟩ 159 args=(aa pE 159 args []).bind fun r=>some (r.1,⟨fr,lh,sh⟩):=aw E9 rfl rfl h
theorem SD(h:(dx.map (rd fr)).all froz=true):aH pE (aa pE) n ((u,⟨d,.callf 159 dx,none⟩)::ds) bo ⟨fr,lh,sh⟩=ke pE (aa pE) n ds (bo++ [cG]) (aq pE (aa pE) n [⟨d,.callf 159 dx,none⟩] ⟨fr,lh,sh⟩):=cU E9 rfl rfl h
theorem Fa:pE.fn 160=some oM:=rfl
theorem SE(h:args.all froz=true):ar pE (aa pE) z ⟨fr,lh,sh⟩ 160 args=(aa pE 160 args []).bind fun r=>some (r.1,⟨fr,lh,sh⟩):=aw Fa rfl rfl h
theorem SF(h:(dx.map (rd fr)).all froz=true):aH pE (aa pE) n ((u,⟨d,.callf 160 dx,none⟩)::ds) bo ⟨fr,lh,sh⟩=ke pE (aa pE) n ds (bo++ [cG]) (aq pE (aa pE) n [⟨d,.callf 160 dx,none⟩] ⟨fr,lh,sh⟩):=cU Fa rfl rfl h
theorem Fb:pE.fn 161=some ED:=rfl
theorem AZ(h:args.all froz=true):ar pE (aa pE) z ⟨fr,lh,sh⟩ 161 args=(aa pE 161 args []).bind fun r=>some (r.1,⟨fr,lh,sh⟩):=aw Fb rfl rfl h
theorem A0(h:(dx.map (rd fr)).all froz=true):aH pE (aa pE) n ((u,⟨d,.callf 161 dx,none⟩)::ds) bo ⟨fr,lh,sh⟩=ke pE (aa pE) n ds (bo++ [cG]) (aq pE (aa pE) n [⟨d,.callf 161 dx,none⟩] ⟨fr,lh,sh⟩):=cU Fb rfl rfl h
theorem Fc:pE.fn 162=some EE:=rfl
theorem SG(h:args.all froz=true):ar pE (aa pE) z ⟨fr,lh,sh⟩ 162 args=(aa pE 162 args []).bind fun r=>some (r.1,⟨fr,lh,sh⟩):=aw Fc rfl rfl h
theorem SH(h:(dx.map (rd fr)).all froz=true):aH pE (aa pE) n ((u,⟨d,.callf 162 dx,none⟩)::ds) bo ⟨fr,lh,sh⟩=ke pE (aa pE) n ds (bo++ [cG]) (aq pE (aa pE) n [⟨d,.callf 162 dx,none⟩] ⟨fr,lh,sh⟩):=cU Fc rfl rfl h
theorem MH:pE.fn 163=some EF:=rfl
theorem SI(h:args.all froz=true):ar pE (aa pE) z ⟨fr,lh,sh⟩ 163 args=(aa pE 163 args []).bind fun r=>some (r.1,⟨fr,lh,sh⟩):=aw MH rfl rfl h
theorem MI:pE.fn 166=some Cl:=rfl
theorem Fe(h:args.all froz=true):ar pE (aa pE) z ⟨fr,lh,sh⟩ 166 args=(aa pE 166 args []).bind fun r=>some (r.1,⟨fr,lh,sh⟩):=aw MI rfl rfl h
theorem MJ:pE.fn 167=some EG:=rfl
theorem fA(h:args.all froz=true):ar pE (aa pE) z ⟨fr,lh,sh⟩ 167 args=(aa pE 167 args []).bind fun r=>some (r.1,⟨fr,lh,sh⟩):=aw MJ rfl rfl h
theorem MK:pE.fn 168=some Cm:=rfl
theorem ML(h:args.all froz=true):ar pE (aa pE) z ⟨fr,lh,sh⟩ 168 args=(aa pE 168 args []).bind fun r=>some (r.1,⟨fr,lh,sh⟩):=aw MK rfl rfl h
theorem MM:pE.fn 174=some wH:=rfl
theorem MN(h:args.all froz=true):ar pE (aa pE) z ⟨fr,lh,sh⟩ 174 args=(aa pE 174 args []).bind fun r=>some (r.1,⟨fr,lh,sh⟩):=aw MM rfl rfl h
theorem MO:pE.fn 182=some uL:=rfl
theorem MP(h:args.all froz=true):ar pE (aa pE) z ⟨fr,lh,sh⟩ 182 args=(aa pE 182 args []).bind fun r=>some (r.1,⟨fr,lh,sh⟩):=aw MO rfl rfl h
theorem MQ:pE.fn 197=some EH:=rfl
theorem SJ(h:args.all froz=true):ar pE (aa pE) z ⟨fr,lh,sh⟩ 197 args=(aa pE 197 args []).bind fun r=>some (r.1,⟨fr,lh,sh⟩):=aw MQ rfl rfl h
theorem MR:pE.fn 212=some EI:=rfl
theorem Ff(h:args.all froz=true):ar pE (aa pE) z ⟨fr,lh,sh⟩ 212 args=(aa pE 212 args []).bind fun r=>some (r.1,⟨fr,lh,sh⟩):=aw MR rfl rfl h
theorem MS:pE.fn 213=some mq:=rfl
theorem MT(h:args.all froz=true):ar pE (aa pE) z ⟨fr,lh,sh⟩ 213 args=(aa pE 213 args []).bind fun r=>some (r.1,⟨fr,lh,sh⟩):=aw MS rfl rfl h
theorem MU:pE.fn 214=some qW:=rfl
theorem SK(h:args.all froz=true):ar pE (aa pE) z ⟨fr,lh,sh⟩ 214 args=(aa pE 214 args []).bind fun r=>some (r.1,⟨fr,lh,sh⟩):=aw MU rfl rfl h
theorem MV:pE.fn 215=some jQ:=rfl
theorem MW:ar pE (aa pE) z ⟨fr,lh,sh⟩ 215 args=(ni lh sh false args).bind fun q=>(aa pE 215 q.1 []).bind fun r=>some (r.1,if scalar r.1=true then⟨fr,lh,sh⟩else(St.mk fr lh sh).ups q.2):=ff MV rfl rfl
theorem MX:pE.fn 216=some Cn:=rfl
theorem SL(h:args.all froz=true):ar pE (aa pE) z ⟨fr,lh,sh⟩ 216 args=(aa pE 216 args []).bind fun r=>some (r.1,⟨fr,lh,sh⟩):=aw MX rfl rfl h
theorem Fg:pE.fn 217=some ze:=rfl
theorem MY(h:args.all froz=true):ar pE (aa pE) z ⟨fr,lh,sh⟩ 217 args=(aa pE 217 args []).bind fun r=>some (r.1,⟨fr,lh,sh⟩):=aw Fg rfl rfl h
theorem MZ:pE.fn 218=some EJ:=rfl
theorem SM(h:args.all froz=true):ar pE (aa pE) z ⟨fr,lh,sh⟩ 218 args=(aa pE 218 args []).bind fun r=>some (r.1,⟨fr,lh,sh⟩):=aw MZ rfl rfl h
theorem M4:pE.fn 219=some EL:=rfl
theorem jS(h:args.all froz=true):ar pE (aa pE) z ⟨fr,lh,sh⟩ 219 args=(aa pE 219 args []).bind fun r=>some (r.1,⟨fr,lh,sh⟩):=aw M4 rfl rfl h
theorem M5:pE.fn 220=some EM:=rfl
theorem wL(h:args.all froz=true):ar pE (aa pE) z ⟨fr,lh,sh⟩ 220 args=(aa pE 220 args []).bind fun r=>some (r.1,⟨fr,lh,sh⟩):=aw M5 rfl rfl h
theorem M6:pE.fn 221=some Cp:=rfl
theorem iu(h:args.all froz=true):ar pE (aa pE) z ⟨fr,lh,sh⟩ 221 args=(aa pE 221 args []).bind fun r=>some (r.1,⟨fr,lh,sh⟩):=aw M6 rfl rfl h
theorem M7:pE.fn 222=some Cq:=rfl
theorem SN(h:args.all froz=true):ar pE (aa pE) z ⟨fr,lh,sh⟩ 222 args=(aa pE 222 args []).bind fun r=>some (r.1,⟨fr,lh,sh⟩):=aw M7 rfl rfl h
theorem M8:pE.fn 223=some Cr:=rfl
theorem M9(h:args.all froz=true):ar pE (aa pE) z ⟨fr,lh,sh⟩ 223 args=(aa pE 223 args []).bind fun r=>some (r.1,⟨fr,lh,sh⟩):=aw M8 rfl rfl h
theorem Na:pE.fn 228=some Cu:=rfl
theorem qY(h:args.all froz=true):ar pE (aa pE) z ⟨fr,lh,sh⟩ 228 args=(aa pE 228 args []).bind fun r=>some (r.1,⟨fr,lh,sh⟩):=aw Na rfl rfl h
theorem Nb:pE.fn 229=some Cv:=rfl
theorem Fh(h:args.all froz=true):ar pE (aa pE) z ⟨fr,lh,sh⟩ 229 args=(aa pE 229 args []).bind fun r=>some (r.1,⟨fr,lh,sh⟩):=aw Nb rfl rfl h
theorem Nc:pE.fn 243=some Cw:=rfl
theorem SO(h:args.all froz=true):ar pE (aa pE) z ⟨fr,lh,sh⟩ 243 args=(aa pE 243 args []).bind fun r=>some (r.1,⟨fr,lh,sh⟩):=aw Nc rfl rfl h
theorem Nd:pE.fn 244=some EN:=rfl
theorem kQ(h:args.all froz=true):ar pE (aa pE) z ⟨fr,lh,sh⟩ 244 args=(aa pE 244 args []).bind fun r=>some (r.1,⟨fr,lh,sh⟩):=aw Nd rfl rfl h
theorem Nf:pE.fn 245=some Cx:=rfl
theorem kR(h:args.all froz=true):ar pE (aa pE) z ⟨fr,lh,sh⟩ 245 args=(aa pE 245 args []).bind fun r=>some (r.1,⟨fr,lh,sh⟩):=aw Nf rfl rfl h
theorem Fi:pE.fn 246=some Cy:=rfl
theorem A1(h:args.all froz=true):ar pE (aa pE) z ⟨fr,lh,sh⟩ 246 args=(aa pE 246 args []).bind fun r=>some (r.1,⟨fr,lh,sh⟩):=aw Fi rfl rfl h
theorem Ng(h:(dx.map (rd fr)).all froz=true):aH pE (aa pE) n ((u,⟨d,.callf 246 dx,none⟩)::ds) bo ⟨fr,lh,sh⟩=ke pE (aa pE) n ds (bo++ [cG]) (aq pE (aa pE) n [⟨d,.callf 246 dx,none⟩] ⟨fr,lh,sh⟩):=cU Fi rfl rfl h
theorem Nh:pE.fn 247=some EO:=rfl
theorem Ni(h:args.all froz=true):ar pE (aa pE) z ⟨fr,lh,sh⟩ 247 args=(aa pE 247 args []).bind fun r=>some (r.1,⟨fr,lh,sh⟩):=aw Nh rfl rfl h
theorem Fj:pE.fn 248=some oN:=rfl
theorem Nj(h:args.all froz=true):ar pE (aa pE) z ⟨fr,lh,sh⟩ 248 args=(aa pE 248 args []).bind fun r=>some (r.1,⟨fr,lh,sh⟩):=aw Fj rfl rfl h
theorem Nk(h:(dx.map (rd fr)).all froz=true):aH pE (aa pE) n ((u,⟨d,.callf 248 dx,none⟩)::ds) bo ⟨fr,lh,sh⟩=ke pE (aa pE) n ds (bo++ [cG]) (aq pE (aa pE) n [⟨d,.callf 248 dx,none⟩] ⟨fr,lh,sh⟩):=cU Fj rfl rfl h
theorem A2:pE.fn 249=some sU:=rfl
theorem SP(h:args.all froz=true):ar pE (aa pE) z ⟨fr,lh,sh⟩ 249 args=(aa pE 249 args []).bind fun r=>some (r.1,⟨fr,lh,sh⟩):=aw A2 rfl rfl h
theorem Fk:pE.fn 250=some zf:=rfl
theorem Nl(h:args.all froz=true):ar pE (aa pE) z ⟨fr,lh,sh⟩ 250 args=(aa pE 250 args []).bind fun r=>some (r.1,⟨fr,lh,sh⟩):=aw Fk rfl rfl h
theorem Nm:pE.fn 251=some EP:=rfl
theorem SQ(h:args.all froz=true):ar pE (aa pE) z ⟨fr,lh,sh⟩ 251 args=(aa pE 251 args []).bind fun r=>some (r.1,⟨fr,lh,sh⟩):=aw Nm rfl rfl h
theorem Nn:pE.fn 266=some Cz:=rfl
theorem No(h:args.all froz=true):ar pE (aa pE) z ⟨fr,lh,sh⟩ 266 args=(aa pE 266 args []).bind fun r=>some (r.1,⟨fr,lh,sh⟩):=aw Nn rfl rfl h
end Go.Proofs.YtfenhjpkomldcaaGreat
