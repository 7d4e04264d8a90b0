/- The functions that the statement reaches, as one table. Conditions: none. -/
import Derived.Test.YtfenhjpkomldcaaGreatCoA
import Derived.Test.YtfenhjpkomldcaaGreatCoB
import Derived.Test.YtfenhjpkomldcaaGreatCoC
import Derived.Test.YtfenhjpkomldcaaGreatExW
import Derived.Test.YtfenhjpkomldcaaGreatEvG
namespace Go.Proofs.YtfenhjpkomldcaaGreat
open Go Go.Ev
def pET:Tab:=(.nd (.nd (.nd (.nd (.nd (.nd (.nd .nil 14 c14 .nil) 15 c15 .nil) 16 c16 (.nd (.nd .nil 17 c17 .nil) 19 c19 .nil)) 20 c20 (.nd (.nd (.nd .nil 21 c21 .nil) 22 c22 .nil) 47 c47 (.nd .nil 49 c49 .nil))) 50 c50 (.nd (.nd (.nd (.nd .nil 51 c51 .nil) 52 c52 .nil) 53 c53 (.nd .nil 54 c54 .nil)) 55 c55 (.nd (.nd (.nd .nil 60 c60 .nil) 80 c80 .nil) 84 c84 (.nd .nil 85 c85 .nil)))) 86 c86 (.nd (.nd (.nd (.nd (.nd .nil 87 c87 .nil) 88 c88 .nil) 89 c89 (.nd .nil 90 c90 .nil)) 91 c91 (.nd (.nd (.nd .nil 92 c92 .nil) 93 c93 .nil) 94 c94 (.nd .nil 95 c95 .nil))) 96 c96 (.nd (.nd (.nd (.nd .nil 97 c97 .nil) 98 c98 .nil) 99 c99 (.nd .nil 100 c100 .nil)) 101 c101 (.nd (.nd (.nd .nil 102 c102 .nil) 114 c114 .nil) 132 c132 (.nd .nil 133 c133 .nil))))) 134 c134 (.nd (.nd (.nd (.nd (.nd (.nd .nil 135 c135 .nil) 136 c136 .nil) 137 c137 (.nd (.nd .nil 138 c138 .nil) 139 c139 .nil)) 140 c140 (.nd (.nd (.nd .nil 141 c141 .nil) 142 c142 .nil) 143 c143 (.nd .nil 144 c144 .nil))) 145 c145 (.nd (.nd (.nd (.nd .nil 146 c146 .nil) 147 c147 .nil) 148 c148 (.nd .nil 149 c149 .nil)) 150 c150 (.nd (.nd (.nd .nil 151 c151 .nil) 152 c152 .nil) 153 c153 (.nd .nil 154 c154 .nil)))) 155 c155 (.nd (.nd (.nd (.nd (.nd .nil 156 c156 .nil) 174 c174 .nil) 212 c212 (.nd .nil 213 c213 .nil)) 214 c214 (.nd (.nd (.nd .nil 215 c215 .nil) 216 c216 .nil) 217 c217 (.nd .nil 218 c218 .nil))) 243 c243 (.nd (.nd (.nd (.nd .nil 244 c244 .nil) 245 c245 .nil) 246 c246 (.nd .nil 247 c247 .nil)) 248 c248 (.nd (.nd (.nd .nil 249 c249 .nil) 250 c250 .nil) 251 c251 (.nd .nil 266 c266 .nil))))))
theorem pET_ok:Tab.All (CodeOk Tryz.prog) pET:=⟨⟨⟨⟨⟨⟨⟨trivial,k14,trivial⟩,k15,trivial⟩,k16,⟨⟨trivial,k17,trivial⟩,k19,trivial⟩⟩,k20,⟨⟨⟨trivial,k21,trivial⟩,k22,trivial⟩,k47,⟨trivial,k49,trivial⟩⟩⟩,k50,⟨⟨⟨⟨trivial,k51,trivial⟩,k52,trivial⟩,k53,⟨trivial,k54,trivial⟩⟩,k55,⟨⟨⟨trivial,k60,trivial⟩,k80,trivial⟩,k84,⟨trivial,k85,trivial⟩⟩⟩⟩,k86,⟨⟨⟨⟨⟨trivial,k87,trivial⟩,k88,trivial⟩,k89,⟨trivial,k90,trivial⟩⟩,k91,⟨⟨⟨trivial,k92,trivial⟩,k93,trivial⟩,k94,⟨trivial,k95,trivial⟩⟩⟩,k96,⟨⟨⟨⟨trivial,k97,trivial⟩,k98,trivial⟩,k99,⟨trivial,k100,trivial⟩⟩,k101,⟨⟨⟨trivial,k102,trivial⟩,k114,trivial⟩,k132,⟨trivial,k133,trivial⟩⟩⟩⟩⟩,k134,⟨⟨⟨⟨⟨⟨trivial,k135,trivial⟩,k136,trivial⟩,k137,⟨⟨trivial,k138,trivial⟩,k139,trivial⟩⟩,k140,⟨⟨⟨trivial,k141,trivial⟩,k142,trivial⟩,k143,⟨trivial,k144,trivial⟩⟩⟩,k145,⟨⟨⟨⟨trivial,k146,trivial⟩,k147,trivial⟩,k148,⟨trivial,k149,trivial⟩⟩,k150,⟨⟨⟨trivial,k151,trivial⟩,k152,trivial⟩,k153,⟨trivial,k154,trivial⟩⟩⟩⟩,k155,⟨⟨⟨⟨⟨trivial,k156,trivial⟩,k174,trivial⟩,k212,⟨trivial,k213,trivial⟩⟩,k214,⟨⟨⟨trivial,k215,trivial⟩,k216,trivial⟩,k217,⟨trivial,k218,trivial⟩⟩⟩,k243,⟨⟨⟨⟨trivial,k244,trivial⟩,k245,trivial⟩,k246,⟨trivial,k247,trivial⟩⟩,k248,⟨⟨⟨trivial,k249,trivial⟩,k250,trivial⟩,k251,⟨trivial,k266,trivial⟩⟩⟩⟩⟩⟩
def pEx(f:Nat):Option (List T→Option T):=bif Nat.beq f 267 then some idxE else none
def pEy(f:Nat):Option (List T→Option (List T×Option Nat)):=bif Nat.beq f 81 then some sortE else bif Nat.beq f 82 then some compE else none
def pE:Env:=⟨pET.find,pEx,pEy⟩
theorem pE_ok:EnvOk Tryz.prog pE:=envOk pET_ok (fun f g h=>by
 unfold pEx at h
 cases hc:Nat.beq f 267 with
 |true=>rw[hc,cond_true]at h;cases h;rw[Nat.eq_of_beq_eq_true hc];exact Tryz.idxOk
 |false=>rw[hc,cond_false]at h;cases h) (fun f g h=>by
 unfold pEy at h
 cases hb:Nat.beq f 81 with
 |true=>rw[hb,cond_true]at h;cases h;rw[Nat.eq_of_beq_eq_true hb];exact⟨⟨Tryz.f81,Tryz.func81,by kernel_rfl,by kernel_rfl⟩,Tryz.sortOkS⟩
 |false=>
  rw[hb,cond_false]at h
  cases hc:Nat.beq f 82 with
  |true=>rw[hc,cond_true]at h;cases h;rw[Nat.eq_of_beq_eq_true hc];exact⟨⟨Tryz.f82,Tryz.func82,by kernel_rfl,by kernel_rfl⟩,Tryz.compOk⟩
  |false=>rw[hc,cond_false]at h;cases h)
variable{n z:Nat}{fr:Fr}{lh:Tri Ent}{sh:List Ent}{args:List T}{u:List Nat}{d:Option Nat}{opl:List Opd}{ds:List (List Nat×AOper)}{fps:List FP}
theorem fn14:pE.fn 14=some c14:=rfl
theorem fn15:pE.fn 15=some c15:=rfl
theorem dc15(h:args.all froz=true):doCall pE (DCall pE) z ⟨fr,lh,sh⟩ 15 args=(DCall pE 15 args []).bind fun r=>some (r.1,⟨fr,lh,sh⟩):=doCall_T fn15 rfl rfl h
theorem fn16:pE.fn 16=some c16:=rfl
theorem dc16(h:args.all froz=true):doCall pE (DCall pE) z ⟨fr,lh,sh⟩ 16 args=(DCall pE 16 args []).bind fun r=>some (r.1,⟨fr,lh,sh⟩):=doCall_T fn16 rfl rfl h
theorem fn17:pE.fn 17=some c17:=rfl
theorem dc17(h:args.all froz=true):doCall pE (DCall pE) z ⟨fr,lh,sh⟩ 17 args=(DCall pE 17 args []).bind fun r=>some (r.1,⟨fr,lh,sh⟩):=doCall_T fn17 rfl rfl h
theorem fn19:pE.fn 19=some c19:=rfl
theorem dc19(h:args.all froz=true):doCall pE (DCall pE) z ⟨fr,lh,sh⟩ 19 args=(DCall pE 19 args []).bind fun r=>some (r.1,⟨fr,lh,sh⟩):=doCall_T fn19 rfl rfl h
theorem fn20:pE.fn 20=some c20:=rfl
theorem dc20(h:args.all froz=true):doCall pE (DCall pE) z ⟨fr,lh,sh⟩ 20 args=(DCall pE 20 args []).bind fun r=>some (r.1,⟨fr,lh,sh⟩):=doCall_T fn20 rfl rfl h
theorem fn47:pE.fn 47=some c47:=rfl
theorem dc47(h:args.all froz=true):doCall pE (DCall pE) z ⟨fr,lh,sh⟩ 47 args=(DCall pE 47 args []).bind fun r=>some (r.1,⟨fr,lh,sh⟩):=doCall_T fn47 rfl rfl h
theorem dd47(h:(opl.map (rd fr)).all froz=true):evDraw pE (DCall pE) n ((u,⟨d,.callf 47 opl,none⟩)::ds) fps ⟨fr,lh,sh⟩=ke pE (DCall pE) n ds (fps++ [noFP]) (evOps pE (DCall pE) n [⟨d,.callf 47 opl,none⟩] ⟨fr,lh,sh⟩):=d_call fn47 rfl rfl h
theorem fn49:pE.fn 49=some c49:=rfl
theorem dc49(h:args.all froz=true):doCall pE (DCall pE) z ⟨fr,lh,sh⟩ 49 args=(DCall pE 49 args []).bind fun r=>some (r.1,⟨fr,lh,sh⟩):=doCall_T fn49 rfl rfl h
theorem fn50:pE.fn 50=some c50:=rfl
theorem dc50(h:args.all froz=true):doCall pE (DCall pE) z ⟨fr,lh,sh⟩ 50 args=(DCall pE 50 args []).bind fun r=>some (r.1,⟨fr,lh,sh⟩):=doCall_T fn50 rfl rfl h
theorem fn51:pE.fn 51=some c51:=rfl
theorem dc51(h:args.all kept=true):doCall pE (DCall pE) z ⟨fr,lh,sh⟩ 51 args=(DCall pE 51 args sh).bind fun r=>some (r.1,⟨fr,lh,r.2⟩):=doCall_EK fn51 rfl h
theorem fn52:pE.fn 52=some c52:=rfl
theorem dc52(h:args.all froz=true):doCall pE (DCall pE) z ⟨fr,lh,sh⟩ 52 args=(DCall pE 52 args []).bind fun r=>some (r.1,⟨fr,lh,sh⟩):=doCall_T fn52 rfl rfl h
theorem fn53:pE.fn 53=some c53:=rfl
theorem dc53(h:args.all kept=true):doCall pE (DCall pE) z ⟨fr,lh,sh⟩ 53 args=(DCall pE 53 args sh).bind fun r=>some (r.1,⟨fr,lh,r.2⟩):=doCall_EK fn53 rfl h
theorem dd53(h:(opl.map (rd fr)).all kept=true):evDraw pE (DCall pE) n ((u,⟨d,.callf 53 opl,none⟩)::ds) fps ⟨fr,lh,sh⟩=if meets u fps effFP=true then ke pE (DCall pE) n ds (fps++ [effFP]) (evOps pE (DCall pE) n [⟨d,.callf 53 opl,none⟩] ⟨fr,lh,sh⟩)else none:=d_callE fn53 rfl h
theorem fn54:pE.fn 54=some c54:=rfl
theorem dc54(h:args.all kept=true):doCall pE (DCall pE) z ⟨fr,lh,sh⟩ 54 args=(DCall pE 54 args sh).bind fun r=>some (r.1,⟨fr,lh,r.2⟩):=doCall_EK fn54 rfl h
theorem dd54(h:(opl.map (rd fr)).all kept=true):evDraw pE (DCall pE) n ((u,⟨d,.callf 54 opl,none⟩)::ds) fps ⟨fr,lh,sh⟩=if meets u fps effFP=true then ke pE (DCall pE) n ds (fps++ [effFP]) (evOps pE (DCall pE) n [⟨d,.callf 54 opl,none⟩] ⟨fr,lh,sh⟩)else none:=d_callE fn54 rfl h
theorem fn55:pE.fn 55=some c55:=rfl
theorem dc55(h:args.all froz=true):doCall pE (DCall pE) z ⟨fr,lh,sh⟩ 55 args=(DCall pE 55 args []).bind fun r=>some (r.1,⟨fr,lh,sh⟩):=doCall_T fn55 rfl rfl h
theorem fn60:pE.fn 60=some c60:=rfl
theorem dc60(h:args.all froz=true):doCall pE (DCall pE) z ⟨fr,lh,sh⟩ 60 args=(DCall pE 60 args []).bind fun r=>some (r.1,⟨fr,lh,sh⟩):=doCall_T fn60 rfl rfl h
theorem dd60(h:(opl.map (rd fr)).all froz=true):evDraw pE (DCall pE) n ((u,⟨d,.callf 60 opl,none⟩)::ds) fps ⟨fr,lh,sh⟩=ke pE (DCall pE) n ds (fps++ [noFP]) (evOps pE (DCall pE) n [⟨d,.callf 60 opl,none⟩] ⟨fr,lh,sh⟩):=d_call fn60 rfl rfl h
theorem fn80:pE.fn 80=some c80:=rfl
theorem dc80(h:args.all kept=true):doCall pE (DCall pE) z ⟨fr,lh,sh⟩ 80 args=(DCall pE 80 args sh).bind fun r=>some (r.1,⟨fr,lh,r.2⟩):=doCall_EK fn80 rfl h
theorem fn84:pE.fn 84=some c84:=rfl
theorem dc84(h:args.all froz=true):doCall pE (DCall pE) z ⟨fr,lh,sh⟩ 84 args=(DCall pE 84 args []).bind fun r=>some (r.1,⟨fr,lh,sh⟩):=doCall_T fn84 rfl rfl h
theorem fn85:pE.fn 85=some c85:=rfl
theorem dc85(h:args.all froz=true):doCall pE (DCall pE) z ⟨fr,lh,sh⟩ 85 args=(DCall pE 85 args []).bind fun r=>some (r.1,⟨fr,lh,sh⟩):=doCall_T fn85 rfl rfl h
theorem fn86:pE.fn 86=some c86:=rfl
theorem dc86(h:args.all froz=true):doCall pE (DCall pE) z ⟨fr,lh,sh⟩ 86 args=(DCall pE 86 args []).bind fun r=>some (r.1,⟨fr,lh,sh⟩):=doCall_T fn86 rfl rfl h
theorem dd86(h:(opl.map (rd fr)).all froz=true):evDraw pE (DCall pE) n ((u,⟨d,.callf 86 opl,none⟩)::ds) fps ⟨fr,lh,sh⟩=ke pE (DCall pE) n ds (fps++ [noFP]) (evOps pE (DCall pE) n [⟨d,.callf 86 opl,none⟩] ⟨fr,lh,sh⟩):=d_call fn86 rfl rfl h
theorem fn87:pE.fn 87=some c87:=rfl
theorem dc87(h:args.all froz=true):doCall pE (DCall pE) z ⟨fr,lh,sh⟩ 87 args=(DCall pE 87 args []).bind fun r=>some (r.1,⟨fr,lh,sh⟩):=doCall_T fn87 rfl rfl h
theorem dp87:doCall pE (DCall pE) z ⟨fr,lh,sh⟩ 87 args=(fzL lh sh false args).bind fun q=>(DCall pE 87 q.1 []).bind fun r=>some (r.1,if scalar r.1=true then⟨fr,lh,sh⟩else(St.mk fr lh sh).ups q.2):=doCall_P fn87 rfl rfl
theorem fn88:pE.fn 88=some c88:=rfl
theorem dc88(h:args.all froz=true):doCall pE (DCall pE) z ⟨fr,lh,sh⟩ 88 args=(DCall pE 88 args []).bind fun r=>some (r.1,⟨fr,lh,sh⟩):=doCall_T fn88 rfl rfl h
theorem fn89:pE.fn 89=some c89:=rfl
theorem dc89(h:args.all froz=true):doCall pE (DCall pE) z ⟨fr,lh,sh⟩ 89 args=(DCall pE 89 args []).bind fun r=>some (r.1,⟨fr,lh,sh⟩):=doCall_T fn89 rfl rfl h
theorem fn90:pE.fn 90=some c90:=rfl
theorem dc90(h:args.all froz=true):doCall pE (DCall pE) z ⟨fr,lh,sh⟩ 90 args=(DCall pE 90 args []).bind fun r=>some (r.1,⟨fr,lh,sh⟩):=doCall_T fn90 rfl rfl h
theorem fn91:pE.fn 91=some c91:=rfl
theorem dc91(h:args.all kept=true):doCall pE (DCall pE) z ⟨fr,lh,sh⟩ 91 args=(DCall pE 91 args sh).bind fun r=>some (r.1,⟨fr,lh,r.2⟩):=doCall_EK fn91 rfl h
theorem dd91(h:(opl.map (rd fr)).all kept=true):evDraw pE (DCall pE) n ((u,⟨d,.callf 91 opl,none⟩)::ds) fps ⟨fr,lh,sh⟩=if meets u fps effFP=true then ke pE (DCall pE) n ds (fps++ [effFP]) (evOps pE (DCall pE) n [⟨d,.callf 91 opl,none⟩] ⟨fr,lh,sh⟩)else none:=d_callE fn91 rfl h
theorem fn92:pE.fn 92=some c92:=rfl
theorem dc92(h:args.all froz=true):doCall pE (DCall pE) z ⟨fr,lh,sh⟩ 92 args=(DCall pE 92 args []).bind fun r=>some (r.1,⟨fr,lh,sh⟩):=doCall_T fn92 rfl rfl h
theorem dp92:doCall pE (DCall pE) z ⟨fr,lh,sh⟩ 92 args=(fzL lh sh false args).bind fun q=>(DCall pE 92 q.1 []).bind fun r=>some (r.1,if scalar r.1=true then⟨fr,lh,sh⟩else(St.mk fr lh sh).ups q.2):=doCall_P fn92 rfl rfl
theorem dd92(h:(opl.map (rd fr)).all froz=true):evDraw pE (DCall pE) n ((u,⟨d,.callf 92 opl,none⟩)::ds) fps ⟨fr,lh,sh⟩=ke pE (DCall pE) n ds (fps++ [noFP]) (evOps pE (DCall pE) n [⟨d,.callf 92 opl,none⟩] ⟨fr,lh,sh⟩):=d_call fn92 rfl rfl h
theorem fn93:pE.fn 93=some c93:=rfl
theorem dc93(h:args.all kept=true):doCall pE (DCall pE) z ⟨fr,lh,sh⟩ 93 args=(DCall pE 93 args sh).bind fun r=>some (r.1,⟨fr,lh,r.2⟩):=doCall_EK fn93 rfl h
theorem fn94:pE.fn 94=some c94:=rfl
theorem dc94(h:args.all kept=true):doCall pE (DCall pE) z ⟨fr,lh,sh⟩ 94 args=(DCall pE 94 args sh).bind fun r=>some (r.1,⟨fr,lh,r.2⟩):=doCall_EK fn94 rfl h
theorem fn95:pE.fn 95=some c95:=rfl
theorem dc95(h:args.all froz=true):doCall pE (DCall pE) z ⟨fr,lh,sh⟩ 95 args=(DCall pE 95 args []).bind fun r=>some (r.1,⟨fr,lh,sh⟩):=doCall_T fn95 rfl rfl h
theorem fn96:pE.fn 96=some c96:=rfl
theorem dc96(h:args.all kept=true):doCall pE (DCall pE) z ⟨fr,lh,sh⟩ 96 args=(DCall pE 96 args sh).bind fun r=>some (r.1,⟨fr,lh,r.2⟩):=doCall_EK fn96 rfl h
theorem dd96(h:(opl.map (rd fr)).all kept=true):evDraw pE (DCall pE) n ((u,⟨d,.callf 96 opl,none⟩)::ds) fps ⟨fr,lh,sh⟩=if meets u fps effFP=true then ke pE (DCall pE) n ds (fps++ [effFP]) (evOps pE (DCall pE) n [⟨d,.callf 96 opl,none⟩] ⟨fr,lh,sh⟩)else none:=d_callE fn96 rfl h
theorem fn97:pE.fn 97=some c97:=rfl
theorem dc97(h:args.all kept=true):doCall pE (DCall pE) z ⟨fr,lh,sh⟩ 97 args=(DCall pE 97 args sh).bind fun r=>some (r.1,⟨fr,lh,r.2⟩):=doCall_EK fn97 rfl h
theorem dd97(h:(opl.map (rd fr)).all kept=true):evDraw pE (DCall pE) n ((u,⟨d,.callf 97 opl,none⟩)::ds) fps ⟨fr,lh,sh⟩=if meets u fps effFP=true then ke pE (DCall pE) n ds (fps++ [effFP]) (evOps pE (DCall pE) n [⟨d,.callf 97 opl,none⟩] ⟨fr,lh,sh⟩)else none:=d_callE fn97 rfl h
theorem fn98:pE.fn 98=some c98:=rfl
theorem dc98(h:args.all froz=true):doCall pE (DCall pE) z ⟨fr,lh,sh⟩ 98 args=(DCall pE 98 args []).bind fun r=>some (r.1,⟨fr,lh,sh⟩):=doCall_T fn98 rfl rfl h
theorem dd98(h:(opl.map (rd fr)).all froz=true):evDraw pE (DCall pE) n ((u,⟨d,.callf 98 opl,none⟩)::ds) fps ⟨fr,lh,sh⟩=ke pE (DCall pE) n ds (fps++ [noFP]) (evOps pE (DCall pE) n [⟨d,.callf 98 opl,none⟩] ⟨fr,lh,sh⟩):=d_call fn98 rfl rfl h
theorem fn99:pE.fn 99=some c99:=rfl
theorem dc99(h:args.all kept=true):doCall pE (DCall pE) z ⟨fr,lh,sh⟩ 99 args=(DCall pE 99 args sh).bind fun r=>some (r.1,⟨fr,lh,r.2⟩):=doCall_EK fn99 rfl h
theorem fn100:pE.fn 100=some c100:=rfl
theorem dc100(h:args.all kept=true):doCall pE (DCall pE) z ⟨fr,lh,sh⟩ 100 args=(DCall pE 100 args sh).bind fun r=>some (r.1,⟨fr,lh,r.2⟩):=doCall_EK fn100 rfl h
theorem dp100:doCall pE (DCall pE) z ⟨fr,lh,sh⟩ 100 args=(fzL lh sh true args).bind fun q=>(DCall pE 100 q.1 ((St.mk fr lh sh).ups q.2).sh).bind fun r=>some (r.1,{(St.mk fr lh sh).ups q.2 with sh:=r.2}):=doCall_E fn100 rfl
theorem fn101:pE.fn 101=some c101:=rfl
theorem dc101(h:args.all kept=true):doCall pE (DCall pE) z ⟨fr,lh,sh⟩ 101 args=(DCall pE 101 args sh).bind fun r=>some (r.1,⟨fr,lh,r.2⟩):=doCall_EK fn101 rfl h
theorem fn102:pE.fn 102=some c102:=rfl
theorem dc102(h:args.all froz=true):doCall pE (DCall pE) z ⟨fr,lh,sh⟩ 102 args=(DCall pE 102 args []).bind fun r=>some (r.1,⟨fr,lh,sh⟩):=doCall_T fn102 rfl rfl h
theorem fn114:pE.fn 114=some c114:=rfl
theorem dc114(h:args.all kept=true):doCall pE (DCall pE) z ⟨fr,lh,sh⟩ 114 args=(DCall pE 114 args sh).bind fun r=>some (r.1,⟨fr,lh,r.2⟩):=doCall_EK fn114 rfl h
theorem fn133:pE.fn 133=some c133:=rfl
theorem dc133(h:args.all froz=true):doCall pE (DCall pE) z ⟨fr,lh,sh⟩ 133 args=(DCall pE 133 args []).bind fun r=>some (r.1,⟨fr,lh,sh⟩):=doCall_T fn133 rfl rfl h
theorem fn134:pE.fn 134=some c134:=rfl
theorem dc134(h:args.all froz=true):doCall pE (DCall pE) z ⟨fr,lh,sh⟩ 134 args=(DCall pE 134 args []).bind fun r=>some (r.1,⟨fr,lh,sh⟩):=doCall_T fn134 rfl rfl h
theorem fn135:pE.fn 135=some c135:=rfl
theorem dc135(h:args.all froz=true):doCall pE (DCall pE) z ⟨fr,lh,sh⟩ 135 args=(DCall pE 135 args []).bind fun r=>some (r.1,⟨fr,lh,sh⟩):=doCall_T fn135 rfl rfl h
theorem fn136:pE.fn 136=some c136:=rfl
theorem dc136(h:args.all froz=true):doCall pE (DCall pE) z ⟨fr,lh,sh⟩ 136 args=(DCall pE 136 args []).bind fun r=>some (r.1,⟨fr,lh,sh⟩):=doCall_T fn136 rfl rfl h
theorem dd136(h:(opl.map (rd fr)).all froz=true):evDraw pE (DCall pE) n ((u,⟨d,.callf 136 opl,none⟩)::ds) fps ⟨fr,lh,sh⟩=ke pE (DCall pE) n ds (fps++ [noFP]) (evOps pE (DCall pE) n [⟨d,.callf 136 opl,none⟩] ⟨fr,lh,sh⟩):=d_call fn136 rfl rfl h
theorem fn137:pE.fn 137=some c137:=rfl
theorem dc137(h:args.all froz=true):doCall pE (DCall pE) z ⟨fr,lh,sh⟩ 137 args=(DCall pE 137 args []).bind fun r=>some (r.1,⟨fr,lh,sh⟩):=doCall_T fn137 rfl rfl h
theorem fn138:pE.fn 138=some c138:=rfl
theorem dc138(h:args.all kept=true):doCall pE (DCall pE) z ⟨fr,lh,sh⟩ 138 args=(DCall pE 138 args sh).bind fun r=>some (r.1,⟨fr,lh,r.2⟩):=doCall_EK fn138 rfl h
theorem fn139:pE.fn 139=some c139:=rfl
theorem dc139(h:args.all froz=true):doCall pE (DCall pE) z ⟨fr,lh,sh⟩ 139 args=(DCall pE 139 args []).bind fun r=>some (r.1,⟨fr,lh,sh⟩):=doCall_T fn139 rfl rfl h
theorem dd139(h:(opl.map (rd fr)).all froz=true):evDraw pE (DCall pE) n ((u,⟨d,.callf 139 opl,none⟩)::ds) fps ⟨fr,lh,sh⟩=ke pE (DCall pE) n ds (fps++ [noFP]) (evOps pE (DCall pE) n [⟨d,.callf 139 opl,none⟩] ⟨fr,lh,sh⟩):=d_call fn139 rfl rfl h
theorem fn140:pE.fn 140=some c140:=rfl
theorem dc140(h:args.all froz=true):doCall pE (DCall pE) z ⟨fr,lh,sh⟩ 140 args=(DCall pE 140 args []).bind fun r=>some (r.1,⟨fr,lh,sh⟩):=doCall_T fn140 rfl rfl h
theorem fn141:pE.fn 141=some c141:=rfl
theorem dc141(h:args.all froz=true):doCall pE (DCall pE) z ⟨fr,lh,sh⟩ 141 args=(DCall pE 141 args []).bind fun r=>some (r.1,⟨fr,lh,sh⟩):=doCall_T fn141 rfl rfl h
theorem dd141(h:(opl.map (rd fr)).all froz=true):evDraw pE (DCall pE) n ((u,⟨d,.callf 141 opl,none⟩)::ds) fps ⟨fr,lh,sh⟩=ke pE (DCall pE) n ds (fps++ [noFP]) (evOps pE (DCall pE) n [⟨d,.callf 141 opl,none⟩] ⟨fr,lh,sh⟩):=d_call fn141 rfl rfl h
theorem fn142:pE.fn 142=some c142:=rfl
theorem dc142(h:args.all kept=true):doCall pE (DCall pE) z ⟨fr,lh,sh⟩ 142 args=(DCall pE 142 args sh).bind fun r=>some (r.1,⟨fr,lh,r.2⟩):=doCall_EK fn142 rfl h
theorem fn143:pE.fn 143=some c143:=rfl
theorem dc143(h:args.all froz=true):doCall pE (DCall pE) z ⟨fr,lh,sh⟩ 143 args=(DCall pE 143 args []).bind fun r=>ownRes z 0 r.1 ⟨fr,lh,sh⟩ []:=doCall_OT fn143 rfl rfl h
theorem fn144:pE.fn 144=some c144:=rfl
theorem dp144:doCall pE (DCall pE) z ⟨fr,lh,sh⟩ 144 args=(fzL lh sh false args).bind fun q=>(DCall pE 144 q.1 []).bind fun r=>some (r.1,if scalar r.1=true then⟨fr,lh,sh⟩else(St.mk fr lh sh).ups q.2):=doCall_P fn144 rfl rfl
theorem fn145:pE.fn 145=some c145:=rfl
theorem dc145(h:args.all froz=true):doCall pE (DCall pE) z ⟨fr,lh,sh⟩ 145 args=(DCall pE 145 args []).bind fun r=>some (r.1,⟨fr,lh,sh⟩):=doCall_T fn145 rfl rfl h
theorem fn146:pE.fn 146=some c146:=rfl
theorem dc146(h:args.all froz=true):doCall pE (DCall pE) z ⟨fr,lh,sh⟩ 146 args=(DCall pE 146 args []).bind fun r=>some (r.1,⟨fr,lh,sh⟩):=doCall_T fn146 rfl rfl h
theorem fn147:pE.fn 147=some c147:=rfl
theorem dc147(h:args.all froz=true):doCall pE (DCall pE) z ⟨fr,lh,sh⟩ 147 args=(DCall pE 147 args []).bind fun r=>some (r.1,⟨fr,lh,sh⟩):=doCall_T fn147 rfl rfl h
theorem fn148:pE.fn 148=some c148:=rfl
theorem dc148(h:args.all froz=true):doCall pE (DCall pE) z ⟨fr,lh,sh⟩ 148 args=(DCall pE 148 args []).bind fun r=>some (r.1,⟨fr,lh,sh⟩):=doCall_T fn148 rfl rfl h
theorem fn149:pE.fn 149=some c149:=rfl
theorem dc149(h:args.all froz=true):doCall pE (DCall pE) z ⟨fr,lh,sh⟩ 149 args=(DCall pE 149 args []).bind fun r=>some (r.1,⟨fr,lh,sh⟩):=doCall_T fn149 rfl rfl h
theorem dd149(h:(opl.map (rd fr)).all froz=true):evDraw pE (DCall pE) n ((u,⟨d,.callf 149 opl,none⟩)::ds) fps ⟨fr,lh,sh⟩=ke pE (DCall pE) n ds (fps++ [noFP]) (evOps pE (DCall pE) n [⟨d,.callf 149 opl,none⟩] ⟨fr,lh,sh⟩):=d_call fn149 rfl rfl h
theorem fn150:pE.fn 150=some c150:=rfl
theorem dc150(h:args.all froz=true):doCall pE (DCall pE) z ⟨fr,lh,sh⟩ 150 args=(DCall pE 150 args []).bind fun r=>some (r.1,⟨fr,lh,sh⟩):=doCall_T fn150 rfl rfl h
theorem fn151:pE.fn 151=some c151:=rfl
theorem dc151(h:args.all kept=true):doCall pE (DCall pE) z ⟨fr,lh,sh⟩ 151 args=(DCall pE 151 args sh).bind fun r=>some (r.1,⟨fr,lh,r.2⟩):=doCall_EK fn151 rfl h
theorem fn152:pE.fn 152=some c152:=rfl
theorem dc152(h:args.all froz=true):doCall pE (DCall pE) z ⟨fr,lh,sh⟩ 152 args=(DCall pE 152 args []).bind fun r=>some (r.1,⟨fr,lh,sh⟩):=doCall_T fn152 rfl rfl h
theorem fn153:pE.fn 153=some c153:=rfl
theorem dc153(h:args.all froz=true):doCall pE (DCall pE) z ⟨fr,lh,sh⟩ 153 args=(DCall pE 153 args []).bind fun r=>some (r.1,⟨fr,lh,sh⟩):=doCall_T fn153 rfl rfl h
theorem fn154:pE.fn 154=some c154:=rfl
theorem dc154(h:args.all froz=true):doCall pE (DCall pE) z ⟨fr,lh,sh⟩ 154 args=(DCall pE 154 args []).bind fun r=>some (r.1,⟨fr,lh,sh⟩):=doCall_T fn154 rfl rfl h
theorem fn155:pE.fn 155=some c155:=rfl
theorem dc155(h:args.all froz=true):doCall pE (DCall pE) z ⟨fr,lh,sh⟩ 155 args=(DCall pE 155 args []).bind fun r=>some (r.1,⟨fr,lh,sh⟩):=doCall_T fn155 rfl rfl h
theorem fn156:pE.fn 156=some c156:=rfl
theorem dc156(h:args.all froz=true):doCall pE (DCall pE) z ⟨fr,lh,sh⟩ 156 args=(DCall pE 156 args []).bind fun r=>some (r.1,⟨fr,lh,sh⟩):=doCall_T fn156 rfl rfl h
theorem fn174:pE.fn 174=some c174:=rfl
theorem dc174(h:args.all froz=true):doCall pE (DCall pE) z ⟨fr,lh,sh⟩ 174 args=(DCall pE 174 args []).bind fun r=>some (r.1,⟨fr,lh,sh⟩):=doCall_T fn174 rfl rfl h
theorem fn212:pE.fn 212=some c212:=rfl
theorem dc212(h:args.all froz=true):doCall pE (DCall pE) z ⟨fr,lh,sh⟩ 212 args=(DCall pE 212 args []).bind fun r=>some (r.1,⟨fr,lh,sh⟩):=doCall_T fn212 rfl rfl h
theorem fn213:pE.fn 213=some c213:=rfl
theorem dc213(h:args.all froz=true):doCall pE (DCall pE) z ⟨fr,lh,sh⟩ 213 args=(DCall pE 213 args []).bind fun r=>some (r.1,⟨fr,lh,sh⟩):=doCall_T fn213 rfl rfl h
theorem fn214:pE.fn 214=some c214:=rfl
theorem dc214(h:args.all froz=true):doCall pE (DCall pE) z ⟨fr,lh,sh⟩ 214 args=(DCall pE 214 args []).bind fun r=>some (r.1,⟨fr,lh,sh⟩):=doCall_T fn214 rfl rfl h
theorem fn215:pE.fn 215=some c215:=rfl
theorem dp215:doCall pE (DCall pE) z ⟨fr,lh,sh⟩ 215 args=(fzL lh sh false args).bind fun q=>(DCall pE 215 q.1 []).bind fun r=>some (r.1,if scalar r.1=true then⟨fr,lh,sh⟩else(St.mk fr lh sh).ups q.2):=doCall_P fn215 rfl rfl
theorem fn216:pE.fn 216=some c216:=rfl
theorem dc216(h:args.all froz=true):doCall pE (DCall pE) z ⟨fr,lh,sh⟩ 216 args=(DCall pE 216 args []).bind fun r=>some (r.1,⟨fr,lh,sh⟩):=doCall_T fn216 rfl rfl h
theorem fn217:pE.fn 217=some c217:=rfl
theorem dc217(h:args.all froz=true):doCall pE (DCall pE) z ⟨fr,lh,sh⟩ 217 args=(DCall pE 217 args []).bind fun r=>some (r.1,⟨fr,lh,sh⟩):=doCall_T fn217 rfl rfl h
theorem fn218:pE.fn 218=some c218:=rfl
theorem dc218(h:args.all froz=true):doCall pE (DCall pE) z ⟨fr,lh,sh⟩ 218 args=(DCall pE 218 args []).bind fun r=>some (r.1,⟨fr,lh,sh⟩):=doCall_T fn218 rfl rfl h
theorem fn243:pE.fn 243=some c243:=rfl
theorem dc243(h:args.all froz=true):doCall pE (DCall pE) z ⟨fr,lh,sh⟩ 243 args=(DCall pE 243 args []).bind fun r=>some (r.1,⟨fr,lh,sh⟩):=doCall_T fn243 rfl rfl h
theorem fn244:pE.fn 244=some c244:=rfl
theorem dc244(h:args.all froz=true):doCall pE (DCall pE) z ⟨fr,lh,sh⟩ 244 args=(DCall pE 244 args []).bind fun r=>some (r.1,⟨fr,lh,sh⟩):=doCall_T fn244 rfl rfl h
theorem fn245:pE.fn 245=some c245:=rfl
theorem dc245(h:args.all froz=true):doCall pE (DCall pE) z ⟨fr,lh,sh⟩ 245 args=(DCall pE 245 args []).bind fun r=>some (r.1,⟨fr,lh,sh⟩):=doCall_T fn245 rfl rfl h
theorem fn246:pE.fn 246=some c246:=rfl
theorem dc246(h:args.all froz=true):doCall pE (DCall pE) z ⟨fr,lh,sh⟩ 246 args=(DCall pE 246 args []).bind fun r=>some (r.1,⟨fr,lh,sh⟩):=doCall_T fn246 rfl rfl h
theorem dd246(h:(opl.map (rd fr)).all froz=true):evDraw pE (DCall pE) n ((u,⟨d,.callf 246 opl,none⟩)::ds) fps ⟨fr,lh,sh⟩=ke pE (DCall pE) n ds (fps++ [noFP]) (evOps pE (DCall pE) n [⟨d,.callf 246 opl,none⟩] ⟨fr,lh,sh⟩):=d_call fn246 rfl rfl h
theorem fn247:pE.fn 247=some c247:=rfl
theorem dc247(h:args.all froz=true):doCall pE (DCall pE) z ⟨fr,lh,sh⟩ 247 args=(DCall pE 247 args []).bind fun r=>some (r.1,⟨fr,lh,sh⟩):=doCall_T fn247 rfl rfl h
theorem fn248:pE.fn 248=some c248:=rfl
theorem dc248(h:args.all froz=true):doCall pE (DCall pE) z ⟨fr,lh,sh⟩ 248 args=(DCall pE 248 args []).bind fun r=>some (r.1,⟨fr,lh,sh⟩):=doCall_T fn248 rfl rfl h
theorem dd248(h:(opl.map (rd fr)).all froz=true):evDraw pE (DCall pE) n ((u,⟨d,.callf 248 opl,none⟩)::ds) fps ⟨fr,lh,sh⟩=ke pE (DCall pE) n ds (fps++ [noFP]) (evOps pE (DCall pE) n [⟨d,.callf 248 opl,none⟩] ⟨fr,lh,sh⟩):=d_call fn248 rfl rfl h
theorem fn249:pE.fn 249=some c249:=rfl
theorem dc249(h:args.all froz=true):doCall pE (DCall pE) z ⟨fr,lh,sh⟩ 249 args=(DCall pE 249 args []).bind fun r=>some (r.1,⟨fr,lh,sh⟩):=doCall_T fn249 rfl rfl h
theorem fn250:pE.fn 250=some c250:=rfl
theorem dc250(h:args.all froz=true):doCall pE (DCall pE) z ⟨fr,lh,sh⟩ 250 args=(DCall pE 250 args []).bind fun r=>some (r.1,⟨fr,lh,sh⟩):=doCall_T fn250 rfl rfl h
theorem fn251:pE.fn 251=some c251:=rfl
theorem dc251(h:args.all froz=true):doCall pE (DCall pE) z ⟨fr,lh,sh⟩ 251 args=(DCall pE 251 args []).bind fun r=>some (r.1,⟨fr,lh,sh⟩):=doCall_T fn251 rfl rfl h
theorem fn266:pE.fn 266=some c266:=rfl
theorem dc266(h:args.all froz=true):doCall pE (DCall pE) z ⟨fr,lh,sh⟩ 266 args=(DCall pE 266 args []).bind fun r=>some (r.1,⟨fr,lh,sh⟩):=doCall_T fn266 rfl rfl h
end Go.Proofs.YtfenhjpkomldcaaGreat
