/- The functions that the statements about totals reach, as one table. Conditions: none. -/
import Derived.Test.YtfenhjpkomldcaaGreatCoA
import Derived.Test.YtfenhjpkomldcaaGreatCoB
import Derived.Test.YtfenhjpkomldcaaGreatCoC
import Derived.Test.YtfenhjpkomldcaaGreatExt
namespace Go.Proofs.YtfenhjpkomldcaaGreat
open Go Go.Ev
def pET : Tab := (.nd (.nd (.nd (.nd (.nd (.nd (.nd (.nd .nil 7 c7 .nil) 27 c27 .nil) 28 c28 (.nd .nil 29 c29 .nil)) 30 c30 (.nd (.nd .nil 31 c31 .nil) 32 c32 (.nd .nil 33 c33 .nil))) 34 c34 (.nd (.nd (.nd .nil 35 c35 .nil) 36 c36 (.nd .nil 38 c38 .nil)) 39 c39 (.nd (.nd .nil 40 c40 .nil) 55 c55 (.nd .nil 56 c56 .nil)))) 59 c59 (.nd (.nd (.nd (.nd .nil 62 c62 .nil) 66 c66 (.nd .nil 67 c67 .nil)) 68 c68 (.nd (.nd .nil 69 c69 .nil) 70 c70 (.nd .nil 71 c71 .nil))) 72 c72 (.nd (.nd (.nd .nil 73 c73 .nil) 74 c74 (.nd .nil 75 c75 .nil)) 84 c84 (.nd (.nd .nil 85 c85 .nil) 89 c89 (.nd .nil 96 c96 .nil))))) 97 c97 (.nd (.nd (.nd (.nd (.nd (.nd .nil 101 c101 .nil) 102 c102 .nil) 103 c103 (.nd .nil 104 c104 .nil)) 105 c105 (.nd (.nd .nil 111 c111 .nil) 112 c112 (.nd .nil 113 c113 .nil))) 114 c114 (.nd (.nd (.nd .nil 115 c115 .nil) 116 c116 (.nd .nil 117 c117 .nil)) 119 c119 (.nd (.nd .nil 120 c120 .nil) 121 c121 (.nd .nil 122 c122 .nil)))) 123 c123 (.nd (.nd (.nd (.nd .nil 124 c124 .nil) 125 c125 (.nd .nil 126 c126 .nil)) 127 c127 (.nd (.nd .nil 132 c132 .nil) 133 c133 (.nd .nil 134 c134 .nil))) 135 c135 (.nd (.nd (.nd .nil 142 c142 .nil) 155 c155 (.nd .nil 156 c156 .nil)) 157 c157 (.nd (.nd .nil 166 c166 .nil) 167 c167 (.nd .nil 168 c168 .nil)))))) 169 c169 (.nd (.nd (.nd (.nd (.nd (.nd (.nd .nil 170 c170 .nil) 171 c171 .nil) 172 c172 (.nd .nil 173 c173 .nil)) 174 c174 (.nd (.nd .nil 175 c175 .nil) 176 c176 (.nd .nil 177 c177 .nil))) 178 c178 (.nd (.nd (.nd .nil 182 c182 .nil) 183 c183 (.nd .nil 184 c184 .nil)) 185 c185 (.nd (.nd .nil 186 c186 .nil) 187 c187 (.nd .nil 188 c188 .nil)))) 189 c189 (.nd (.nd (.nd (.nd .nil 190 c190 .nil) 191 c191 (.nd .nil 192 c192 .nil)) 193 c193 (.nd (.nd .nil 194 c194 .nil) 195 c195 (.nd .nil 196 c196 .nil))) 197 c197 (.nd (.nd (.nd .nil 199 c199 .nil) 212 c212 (.nd .nil 215 c215 .nil)) 217 c217 (.nd (.nd .nil 218 c218 .nil) 219 c219 (.nd .nil 223 c223 .nil))))) 224 c224 (.nd (.nd (.nd (.nd (.nd .nil 225 c225 .nil) 228 c228 (.nd .nil 229 c229 .nil)) 230 c230 (.nd (.nd .nil 231 c231 .nil) 232 c232 (.nd .nil 233 c233 .nil))) 234 c234 (.nd (.nd (.nd .nil 235 c235 .nil) 236 c236 (.nd .nil 243 c243 .nil)) 246 c246 (.nd (.nd .nil 247 c247 .nil) 248 c248 (.nd .nil 249 c249 .nil)))) 250 c250 (.nd (.nd (.nd (.nd .nil 251 c251 .nil) 261 c261 (.nd .nil 262 c262 .nil)) 263 c263 (.nd (.nd .nil 264 c264 .nil) 266 c266 (.nd .nil 272 c272 .nil))) 273 c273 (.nd (.nd (.nd .nil 279 c279 .nil) 282 c282 (.nd .nil 283 c283 .nil)) 284 c284 (.nd (.nd .nil 285 c285 .nil) 286 c286 (.nd .nil 287 c287 .nil)))))))
theorem pET_ok : Tab.All (CodeOk Tryz.prog) pET := ⟨⟨⟨⟨⟨⟨⟨⟨trivial, k7, trivial⟩, k27, trivial⟩, k28, ⟨trivial, k29, trivial⟩⟩, k30, ⟨⟨trivial, k31, trivial⟩, k32, ⟨trivial, k33, trivial⟩⟩⟩, k34, ⟨⟨⟨trivial, k35, trivial⟩, k36, ⟨trivial, k38, trivial⟩⟩, k39, ⟨⟨trivial, k40, trivial⟩, k55, ⟨trivial, k56, trivial⟩⟩⟩⟩, k59, ⟨⟨⟨⟨trivial, k62, trivial⟩, k66, ⟨trivial, k67, trivial⟩⟩, k68, ⟨⟨trivial, k69, trivial⟩, k70, ⟨trivial, k71, trivial⟩⟩⟩, k72, ⟨⟨⟨trivial, k73, trivial⟩, k74, ⟨trivial, k75, trivial⟩⟩, k84, ⟨⟨trivial, k85, trivial⟩, k89, ⟨trivial, k96, trivial⟩⟩⟩⟩⟩, k97, ⟨⟨⟨⟨⟨⟨trivial, k101, trivial⟩, k102, trivial⟩, k103, ⟨trivial, k104, trivial⟩⟩, k105, ⟨⟨trivial, k111, trivial⟩, k112, ⟨trivial, k113, trivial⟩⟩⟩, k114, ⟨⟨⟨trivial, k115, trivial⟩, k116, ⟨trivial, k117, trivial⟩⟩, k119, ⟨⟨trivial, k120, trivial⟩, k121, ⟨trivial, k122, trivial⟩⟩⟩⟩, k123, ⟨⟨⟨⟨trivial, k124, trivial⟩, k125, ⟨trivial, k126, trivial⟩⟩, k127, ⟨⟨trivial, k132, trivial⟩, k133, ⟨trivial, k134, trivial⟩⟩⟩, k135, ⟨⟨⟨trivial, k142, trivial⟩, k155, ⟨trivial, k156, trivial⟩⟩, k157, ⟨⟨trivial, k166, trivial⟩, k167, ⟨trivial, k168, trivial⟩⟩⟩⟩⟩⟩, k169, ⟨⟨⟨⟨⟨⟨⟨trivial, k170, trivial⟩, k171, trivial⟩, k172, ⟨trivial, k173, trivial⟩⟩, k174, ⟨⟨trivial, k175, trivial⟩, k176, ⟨trivial, k177, trivial⟩⟩⟩, k178, ⟨⟨⟨trivial, k182, trivial⟩, k183, ⟨trivial, k184, trivial⟩⟩, k185, ⟨⟨trivial, k186, trivial⟩, k187, ⟨trivial, k188, trivial⟩⟩⟩⟩, k189, ⟨⟨⟨⟨trivial, k190, trivial⟩, k191, ⟨trivial, k192, trivial⟩⟩, k193, ⟨⟨trivial, k194, trivial⟩, k195, ⟨trivial, k196, trivial⟩⟩⟩, k197, ⟨⟨⟨trivial, k199, trivial⟩, k212, ⟨trivial, k215, trivial⟩⟩, k217, ⟨⟨trivial, k218, trivial⟩, k219, ⟨trivial, k223, trivial⟩⟩⟩⟩⟩, k224, ⟨⟨⟨⟨⟨trivial, k225, trivial⟩, k228, ⟨trivial, k229, trivial⟩⟩, k230, ⟨⟨trivial, k231, trivial⟩, k232, ⟨trivial, k233, trivial⟩⟩⟩, k234, ⟨⟨⟨trivial, k235, trivial⟩, k236, ⟨trivial, k243, trivial⟩⟩, k246, ⟨⟨trivial, k247, trivial⟩, k248, ⟨trivial, k249, trivial⟩⟩⟩⟩, k250, ⟨⟨⟨⟨trivial, k251, trivial⟩, k261, ⟨trivial, k262, trivial⟩⟩, k263, ⟨⟨trivial, k264, trivial⟩, k266, ⟨trivial, k272, trivial⟩⟩⟩, k273, ⟨⟨⟨trivial, k279, trivial⟩, k282, ⟨trivial, k283, trivial⟩⟩, k284, ⟨⟨trivial, k285, trivial⟩, k286, ⟨trivial, k287, trivial⟩⟩⟩⟩⟩⟩⟩
def pEx (f : Nat) : Option (List T → Option T) := bif Nat.beq f 118 then some (sortedKeys 181) else bif Nat.beq f 267 then some idxE else none
def pE : Env := ⟨pET.find, pEx⟩
theorem pE_ok : EnvOk Tryz.prog pE := envOk pET_ok (fun f g h => by
  unfold pEx at h
  cases hb : Nat.beq f 118 with
  | true => rw [hb, cond_true] at h; cases h; rw [Nat.eq_of_beq_eq_true hb]; exact Tryz.sortedOk
  | false =>
    rw [hb, cond_false] at h
    cases hc : Nat.beq f 267 with
    | true => rw [hc, cond_true] at h; cases h; rw [Nat.eq_of_beq_eq_true hc]; exact Tryz.idxOk
    | false => rw [hc, cond_false] at h; cases h)

theorem fn7 : pE.fn 7 = some c7 := rfl
theorem fn27 : pE.fn 27 = some c27 := rfl
theorem dp27 {z : Nat} {fr : Fr} {lh : Tri Ent} {sh : List Ent} {args : List T} : doCall pE (DCall pE) z ⟨fr, lh, sh⟩ 27 args = (fzL lh sh true args).bind fun q => (DCall pE 27 q.1 ((St.mk fr lh sh).ups q.2).sh).bind fun r => some (r.1, { (St.mk fr lh sh).ups q.2 with sh := r.2 }) := doCall_E fn27 rfl
theorem fn28 : pE.fn 28 = some c28 := rfl
theorem dp28 {z : Nat} {fr : Fr} {lh : Tri Ent} {sh : List Ent} {args : List T} : doCall pE (DCall pE) z ⟨fr, lh, sh⟩ 28 args = (fzL lh sh true args).bind fun q => (DCall pE 28 q.1 ((St.mk fr lh sh).ups q.2).sh).bind fun r => some (r.1, { (St.mk fr lh sh).ups q.2 with sh := r.2 }) := doCall_E fn28 rfl
theorem fn29 : pE.fn 29 = some c29 := rfl
theorem dc29 {z : Nat} {fr : Fr} {lh : Tri Ent} {sh : List Ent} {args : List T} (h : args.all froz = true) : doCall pE (DCall pE) z ⟨fr, lh, sh⟩ 29 args = (DCall pE 29 args []).bind fun r => some (r.1, ⟨fr, lh, sh⟩) := doCall_T fn29 rfl rfl h
theorem fn30 : pE.fn 30 = some c30 := rfl
theorem dc30 {z : Nat} {fr : Fr} {lh : Tri Ent} {sh : List Ent} {args : List T} (h : args.all froz = true) : doCall pE (DCall pE) z ⟨fr, lh, sh⟩ 30 args = (DCall pE 30 args []).bind fun r => some (r.1, ⟨fr, lh, sh⟩) := doCall_T fn30 rfl rfl h
theorem fn31 : pE.fn 31 = some c31 := rfl
theorem dc31 {z : Nat} {fr : Fr} {lh : Tri Ent} {sh : List Ent} {args : List T} (h : args.all froz = true) : doCall pE (DCall pE) z ⟨fr, lh, sh⟩ 31 args = (DCall pE 31 args []).bind fun r => some (r.1, ⟨fr, lh, sh⟩) := doCall_T fn31 rfl rfl h
theorem fn32 : pE.fn 32 = some c32 := rfl
theorem dc32 {z : Nat} {fr : Fr} {lh : Tri Ent} {sh : List Ent} {args : List T} (h : args.all froz = true) : doCall pE (DCall pE) z ⟨fr, lh, sh⟩ 32 args = (DCall pE 32 args []).bind fun r => some (r.1, ⟨fr, lh, sh⟩) := doCall_T fn32 rfl rfl h
theorem fn33 : pE.fn 33 = some c33 := rfl
theorem dc33 {z : Nat} {fr : Fr} {lh : Tri Ent} {sh : List Ent} {args : List T} (h : args.all froz = true) : doCall pE (DCall pE) z ⟨fr, lh, sh⟩ 33 args = (DCall pE 33 args []).bind fun r => some (r.1, ⟨fr, lh, sh⟩) := doCall_T fn33 rfl rfl h
theorem fn34 : pE.fn 34 = some c34 := rfl
theorem dp34 {z : Nat} {fr : Fr} {lh : Tri Ent} {sh : List Ent} {args : List T} : doCall pE (DCall pE) z ⟨fr, lh, sh⟩ 34 args = (fzL lh sh false args).bind fun q => (DCall pE 34 q.1 []).bind fun r => ownRes z 0 r.1 ⟨fr, lh, sh⟩ q.2 := doCall_O fn34 rfl rfl
theorem fn35 : pE.fn 35 = some c35 := rfl
theorem dp35 {z : Nat} {fr : Fr} {lh : Tri Ent} {sh : List Ent} {args : List T} : doCall pE (DCall pE) z ⟨fr, lh, sh⟩ 35 args = (fzL lh sh false args).bind fun q => (DCall pE 35 q.1 []).bind fun r => some (r.1, if scalar r.1 = true then ⟨fr, lh, sh⟩ else (St.mk fr lh sh).ups q.2) := doCall_P fn35 rfl rfl
theorem fn36 : pE.fn 36 = some c36 := rfl
theorem dp36 {z : Nat} {fr : Fr} {lh : Tri Ent} {sh : List Ent} {args : List T} : doCall pE (DCall pE) z ⟨fr, lh, sh⟩ 36 args = (fzL lh sh false args).bind fun q => (DCall pE 36 q.1 []).bind fun r => some (r.1, if scalar r.1 = true then ⟨fr, lh, sh⟩ else (St.mk fr lh sh).ups q.2) := doCall_P fn36 rfl rfl
theorem fn38 : pE.fn 38 = some c38 := rfl
theorem dc38 {z : Nat} {fr : Fr} {lh : Tri Ent} {sh : List Ent} {args : List T} (h : args.all froz = true) : doCall pE (DCall pE) z ⟨fr, lh, sh⟩ 38 args = (DCall pE 38 args []).bind fun r => some (r.1, ⟨fr, lh, sh⟩) := doCall_T fn38 rfl rfl h
theorem fn40 : pE.fn 40 = some c40 := rfl
theorem dc40 {z : Nat} {fr : Fr} {lh : Tri Ent} {sh : List Ent} {args : List T} (h : args.all froz = true) : doCall pE (DCall pE) z ⟨fr, lh, sh⟩ 40 args = (DCall pE 40 args []).bind fun r => some (r.1, ⟨fr, lh, sh⟩) := doCall_T fn40 rfl rfl h
theorem fn55 : pE.fn 55 = some c55 := rfl
theorem dc55 {z : Nat} {fr : Fr} {lh : Tri Ent} {sh : List Ent} {args : List T} (h : args.all froz = true) : doCall pE (DCall pE) z ⟨fr, lh, sh⟩ 55 args = (DCall pE 55 args []).bind fun r => some (r.1, ⟨fr, lh, sh⟩) := doCall_T fn55 rfl rfl h
theorem fn56 : pE.fn 56 = some c56 := rfl
theorem dc56 {z : Nat} {fr : Fr} {lh : Tri Ent} {sh : List Ent} {args : List T} (h : args.all froz = true) : doCall pE (DCall pE) z ⟨fr, lh, sh⟩ 56 args = (DCall pE 56 args []).bind fun r => some (r.1, ⟨fr, lh, sh⟩) := doCall_T fn56 rfl rfl h
theorem fn59 : pE.fn 59 = some c59 := rfl
theorem dc59 {z : Nat} {fr : Fr} {lh : Tri Ent} {sh : List Ent} {args : List T} (h : args.all froz = true) : doCall pE (DCall pE) z ⟨fr, lh, sh⟩ 59 args = (DCall pE 59 args []).bind fun r => some (r.1, ⟨fr, lh, sh⟩) := doCall_T fn59 rfl rfl h
theorem fn62 : pE.fn 62 = some c62 := rfl
theorem dc62 {z : Nat} {fr : Fr} {lh : Tri Ent} {sh : List Ent} {args : List T} (h : args.all froz = true) : doCall pE (DCall pE) z ⟨fr, lh, sh⟩ 62 args = (DCall pE 62 args []).bind fun r => some (r.1, ⟨fr, lh, sh⟩) := doCall_T fn62 rfl rfl h
theorem fn66 : pE.fn 66 = some c66 := rfl
theorem dc66 {z : Nat} {fr : Fr} {lh : Tri Ent} {sh : List Ent} {args : List T} (h : args.all froz = true) : doCall pE (DCall pE) z ⟨fr, lh, sh⟩ 66 args = (DCall pE 66 args []).bind fun r => some (r.1, ⟨fr, lh, sh⟩) := doCall_T fn66 rfl rfl h
theorem fn67 : pE.fn 67 = some c67 := rfl
theorem dc67 {z : Nat} {fr : Fr} {lh : Tri Ent} {sh : List Ent} {args : List T} (h : args.all froz = true) : doCall pE (DCall pE) z ⟨fr, lh, sh⟩ 67 args = (DCall pE 67 args []).bind fun r => some (r.1, ⟨fr, lh, sh⟩) := doCall_T fn67 rfl rfl h
theorem fn68 : pE.fn 68 = some c68 := rfl
theorem dc68 {z : Nat} {fr : Fr} {lh : Tri Ent} {sh : List Ent} {args : List T} (h : args.all froz = true) : doCall pE (DCall pE) z ⟨fr, lh, sh⟩ 68 args = (DCall pE 68 args []).bind fun r => some (r.1, ⟨fr, lh, sh⟩) := doCall_T fn68 rfl rfl h
theorem fn69 : pE.fn 69 = some c69 := rfl
theorem dc69 {z : Nat} {fr : Fr} {lh : Tri Ent} {sh : List Ent} {args : List T} (h : args.all froz = true) : doCall pE (DCall pE) z ⟨fr, lh, sh⟩ 69 args = (DCall pE 69 args []).bind fun r => ownRes z 0 r.1 ⟨fr, lh, sh⟩ [] := doCall_OT fn69 rfl rfl h
theorem fn70 : pE.fn 70 = some c70 := rfl
theorem dc70 {z : Nat} {fr : Fr} {lh : Tri Ent} {sh : List Ent} {args : List T} (h : args.all froz = true) : doCall pE (DCall pE) z ⟨fr, lh, sh⟩ 70 args = (DCall pE 70 args []).bind fun r => some (r.1, ⟨fr, lh, sh⟩) := doCall_T fn70 rfl rfl h
theorem fn71 : pE.fn 71 = some c71 := rfl
theorem dc71 {z : Nat} {fr : Fr} {lh : Tri Ent} {sh : List Ent} {args : List T} (h : args.all froz = true) : doCall pE (DCall pE) z ⟨fr, lh, sh⟩ 71 args = (DCall pE 71 args []).bind fun r => some (r.1, ⟨fr, lh, sh⟩) := doCall_T fn71 rfl rfl h
theorem dd71 {n : Nat} {fr : Fr} {lh : Tri Ent} {sh : List Ent} {u : List Nat} {d : Option Nat} {opl : List Opd} {ds : List (List Nat × AOper)} {fps : List FP} (h : (opl.map (rd fr)).all froz = true) : evDraw pE (DCall pE) n ((u, ⟨d, .callf 71 opl, none⟩) :: ds) fps ⟨fr, lh, sh⟩ = ke pE (DCall pE) n ds (fps ++ [noFP]) (evOps pE (DCall pE) n [⟨d, .callf 71 opl, none⟩] ⟨fr, lh, sh⟩) := d_call fn71 rfl rfl h
theorem fn72 : pE.fn 72 = some c72 := rfl
theorem dc72 {z : Nat} {fr : Fr} {lh : Tri Ent} {sh : List Ent} {args : List T} (h : args.all froz = true) : doCall pE (DCall pE) z ⟨fr, lh, sh⟩ 72 args = (DCall pE 72 args []).bind fun r => some (r.1, ⟨fr, lh, sh⟩) := doCall_T fn72 rfl rfl h
theorem fn73 : pE.fn 73 = some c73 := rfl
theorem dc73 {z : Nat} {fr : Fr} {lh : Tri Ent} {sh : List Ent} {args : List T} (h : args.all froz = true) : doCall pE (DCall pE) z ⟨fr, lh, sh⟩ 73 args = (DCall pE 73 args []).bind fun r => some (r.1, ⟨fr, lh, sh⟩) := doCall_T fn73 rfl rfl h
theorem dp73 {z : Nat} {fr : Fr} {lh : Tri Ent} {sh : List Ent} {args : List T} : doCall pE (DCall pE) z ⟨fr, lh, sh⟩ 73 args = (fzL lh sh false args).bind fun q => (DCall pE 73 q.1 []).bind fun r => some (r.1, if scalar r.1 = true then ⟨fr, lh, sh⟩ else (St.mk fr lh sh).ups q.2) := doCall_P fn73 rfl rfl
theorem fn75 : pE.fn 75 = some c75 := rfl
theorem dc75 {z : Nat} {fr : Fr} {lh : Tri Ent} {sh : List Ent} {args : List T} (h : args.all froz = true) : doCall pE (DCall pE) z ⟨fr, lh, sh⟩ 75 args = (DCall pE 75 args []).bind fun r => some (r.1, ⟨fr, lh, sh⟩) := doCall_T fn75 rfl rfl h
theorem dd75 {n : Nat} {fr : Fr} {lh : Tri Ent} {sh : List Ent} {u : List Nat} {d : Option Nat} {opl : List Opd} {ds : List (List Nat × AOper)} {fps : List FP} (h : (opl.map (rd fr)).all froz = true) : evDraw pE (DCall pE) n ((u, ⟨d, .callf 75 opl, none⟩) :: ds) fps ⟨fr, lh, sh⟩ = ke pE (DCall pE) n ds (fps ++ [noFP]) (evOps pE (DCall pE) n [⟨d, .callf 75 opl, none⟩] ⟨fr, lh, sh⟩) := d_call fn75 rfl rfl h
theorem fn96 : pE.fn 96 = some c96 := rfl
theorem dc96 {z : Nat} {fr : Fr} {lh : Tri Ent} {sh : List Ent} {args : List T} (h : args.all froz = true) : doCall pE (DCall pE) z ⟨fr, lh, sh⟩ 96 args = (DCall pE 96 args []).bind fun r => some (r.1, ⟨fr, lh, sh⟩) := doCall_T fn96 rfl rfl h
theorem fn113 : pE.fn 113 = some c113 := rfl
theorem dc113 {z : Nat} {fr : Fr} {lh : Tri Ent} {sh : List Ent} {args : List T} (h : args.all froz = true) : doCall pE (DCall pE) z ⟨fr, lh, sh⟩ 113 args = (DCall pE 113 args []).bind fun r => some (r.1, ⟨fr, lh, sh⟩) := doCall_T fn113 rfl rfl h
theorem fn115 : pE.fn 115 = some c115 := rfl
theorem dc115 {z : Nat} {fr : Fr} {lh : Tri Ent} {sh : List Ent} {args : List T} (h : args.all froz = true) : doCall pE (DCall pE) z ⟨fr, lh, sh⟩ 115 args = (DCall pE 115 args []).bind fun r => some (r.1, ⟨fr, lh, sh⟩) := doCall_T fn115 rfl rfl h
theorem fn116 : pE.fn 116 = some c116 := rfl
theorem dc116 {z : Nat} {fr : Fr} {lh : Tri Ent} {sh : List Ent} {args : List T} (h : args.all froz = true) : doCall pE (DCall pE) z ⟨fr, lh, sh⟩ 116 args = (DCall pE 116 args []).bind fun r => some (r.1, ⟨fr, lh, sh⟩) := doCall_T fn116 rfl rfl h
theorem fn117 : pE.fn 117 = some c117 := rfl
theorem dc117 {z : Nat} {fr : Fr} {lh : Tri Ent} {sh : List Ent} {args : List T} (h : args.all froz = true) : doCall pE (DCall pE) z ⟨fr, lh, sh⟩ 117 args = (DCall pE 117 args []).bind fun r => some (r.1, ⟨fr, lh, sh⟩) := doCall_T fn117 rfl rfl h
theorem fn119 : pE.fn 119 = some c119 := rfl
theorem dp119 {z : Nat} {fr : Fr} {lh : Tri Ent} {sh : List Ent} {args : List T} : doCall pE (DCall pE) z ⟨fr, lh, sh⟩ 119 args = (fzL lh sh false args).bind fun q => (DCall pE 119 q.1 []).bind fun r => some (r.1, if scalar r.1 = true then ⟨fr, lh, sh⟩ else (St.mk fr lh sh).ups q.2) := doCall_P fn119 rfl rfl
theorem fn120 : pE.fn 120 = some c120 := rfl
theorem dc120 {z : Nat} {fr : Fr} {lh : Tri Ent} {sh : List Ent} {args : List T} (h : args.all froz = true) : doCall pE (DCall pE) z ⟨fr, lh, sh⟩ 120 args = (DCall pE 120 args []).bind fun r => some (r.1, ⟨fr, lh, sh⟩) := doCall_T fn120 rfl rfl h
theorem fn121 : pE.fn 121 = some c121 := rfl
theorem dc121 {z : Nat} {fr : Fr} {lh : Tri Ent} {sh : List Ent} {args : List T} (h : args.all froz = true) : doCall pE (DCall pE) z ⟨fr, lh, sh⟩ 121 args = (DCall pE 121 args []).bind fun r => some (r.1, ⟨fr, lh, sh⟩) := doCall_T fn121 rfl rfl h
theorem fn122 : pE.fn 122 = some c122 := rfl
theorem dc122 {z : Nat} {fr : Fr} {lh : Tri Ent} {sh : List Ent} {args : List T} (h : args.all froz = true) : doCall pE (DCall pE) z ⟨fr, lh, sh⟩ 122 args = (DCall pE 122 args []).bind fun r => some (r.1, ⟨fr, lh, sh⟩) := doCall_T fn122 rfl rfl h
theorem fn123 : pE.fn 123 = some c123 := rfl
theorem dc123 {z : Nat} {fr : Fr} {lh : Tri Ent} {sh : List Ent} {args : List T} (h : args.all froz = true) : doCall pE (DCall pE) z ⟨fr, lh, sh⟩ 123 args = (DCall pE 123 args []).bind fun r => some (r.1, ⟨fr, lh, sh⟩) := doCall_T fn123 rfl rfl h
theorem fn124 : pE.fn 124 = some c124 := rfl
theorem dp124 {z : Nat} {fr : Fr} {lh : Tri Ent} {sh : List Ent} {args : List T} : doCall pE (DCall pE) z ⟨fr, lh, sh⟩ 124 args = (fzL lh sh true args).bind fun q => (DCall pE 124 q.1 ((St.mk fr lh sh).ups q.2).sh).bind fun r => some (r.1, { (St.mk fr lh sh).ups q.2 with sh := r.2 }) := doCall_E fn124 rfl
theorem fn125 : pE.fn 125 = some c125 := rfl
theorem dc125 {z : Nat} {fr : Fr} {lh : Tri Ent} {sh : List Ent} {args : List T} (h : args.all froz = true) : doCall pE (DCall pE) z ⟨fr, lh, sh⟩ 125 args = (DCall pE 125 args []).bind fun r => some (r.1, ⟨fr, lh, sh⟩) := doCall_T fn125 rfl rfl h
theorem fn126 : pE.fn 126 = some c126 := rfl
theorem dc126 {z : Nat} {fr : Fr} {lh : Tri Ent} {sh : List Ent} {args : List T} (h : args.all froz = true) : doCall pE (DCall pE) z ⟨fr, lh, sh⟩ 126 args = (DCall pE 126 args []).bind fun r => some (r.1, ⟨fr, lh, sh⟩) := doCall_T fn126 rfl rfl h
theorem fn127 : pE.fn 127 = some c127 := rfl
theorem dc127 {z : Nat} {fr : Fr} {lh : Tri Ent} {sh : List Ent} {args : List T} (h : args.all froz = true) : doCall pE (DCall pE) z ⟨fr, lh, sh⟩ 127 args = (DCall pE 127 args []).bind fun r => some (r.1, ⟨fr, lh, sh⟩) := doCall_T fn127 rfl rfl h
theorem fn169 : pE.fn 169 = some c169 := rfl
theorem dc169 {z : Nat} {fr : Fr} {lh : Tri Ent} {sh : List Ent} {args : List T} (h : args.all froz = true) : doCall pE (DCall pE) z ⟨fr, lh, sh⟩ 169 args = (DCall pE 169 args []).bind fun r => some (r.1, ⟨fr, lh, sh⟩) := doCall_T fn169 rfl rfl h
theorem fn170 : pE.fn 170 = some c170 := rfl
theorem dc170 {z : Nat} {fr : Fr} {lh : Tri Ent} {sh : List Ent} {args : List T} (h : args.all froz = true) : doCall pE (DCall pE) z ⟨fr, lh, sh⟩ 170 args = (DCall pE 170 args []).bind fun r => some (r.1, ⟨fr, lh, sh⟩) := doCall_T fn170 rfl rfl h
theorem fn171 : pE.fn 171 = some c171 := rfl
theorem dc171 {z : Nat} {fr : Fr} {lh : Tri Ent} {sh : List Ent} {args : List T} (h : args.all froz = true) : doCall pE (DCall pE) z ⟨fr, lh, sh⟩ 171 args = (DCall pE 171 args []).bind fun r => some (r.1, ⟨fr, lh, sh⟩) := doCall_T fn171 rfl rfl h
theorem fn172 : pE.fn 172 = some c172 := rfl
theorem dc172 {z : Nat} {fr : Fr} {lh : Tri Ent} {sh : List Ent} {args : List T} (h : args.all froz = true) : doCall pE (DCall pE) z ⟨fr, lh, sh⟩ 172 args = (DCall pE 172 args []).bind fun r => some (r.1, ⟨fr, lh, sh⟩) := doCall_T fn172 rfl rfl h
theorem fn173 : pE.fn 173 = some c173 := rfl
theorem dc173 {z : Nat} {fr : Fr} {lh : Tri Ent} {sh : List Ent} {args : List T} (h : args.all froz = true) : doCall pE (DCall pE) z ⟨fr, lh, sh⟩ 173 args = (DCall pE 173 args []).bind fun r => some (r.1, ⟨fr, lh, sh⟩) := doCall_T fn173 rfl rfl h
theorem fn174 : pE.fn 174 = some c174 := rfl
theorem dc174 {z : Nat} {fr : Fr} {lh : Tri Ent} {sh : List Ent} {args : List T} (h : args.all froz = true) : doCall pE (DCall pE) z ⟨fr, lh, sh⟩ 174 args = (DCall pE 174 args []).bind fun r => some (r.1, ⟨fr, lh, sh⟩) := doCall_T fn174 rfl rfl h
theorem fn175 : pE.fn 175 = some c175 := rfl
theorem dc175 {z : Nat} {fr : Fr} {lh : Tri Ent} {sh : List Ent} {args : List T} (h : args.all froz = true) : doCall pE (DCall pE) z ⟨fr, lh, sh⟩ 175 args = (DCall pE 175 args []).bind fun r => some (r.1, ⟨fr, lh, sh⟩) := doCall_T fn175 rfl rfl h
theorem fn176 : pE.fn 176 = some c176 := rfl
theorem dc176 {z : Nat} {fr : Fr} {lh : Tri Ent} {sh : List Ent} {args : List T} (h : args.all froz = true) : doCall pE (DCall pE) z ⟨fr, lh, sh⟩ 176 args = (DCall pE 176 args []).bind fun r => some (r.1, ⟨fr, lh, sh⟩) := doCall_T fn176 rfl rfl h
theorem fn177 : pE.fn 177 = some c177 := rfl
theorem dc177 {z : Nat} {fr : Fr} {lh : Tri Ent} {sh : List Ent} {args : List T} (h : args.all froz = true) : doCall pE (DCall pE) z ⟨fr, lh, sh⟩ 177 args = (DCall pE 177 args []).bind fun r => some (r.1, ⟨fr, lh, sh⟩) := doCall_T fn177 rfl rfl h
theorem fn178 : pE.fn 178 = some c178 := rfl
theorem dc178 {z : Nat} {fr : Fr} {lh : Tri Ent} {sh : List Ent} {args : List T} (h : args.all froz = true) : doCall pE (DCall pE) z ⟨fr, lh, sh⟩ 178 args = (DCall pE 178 args []).bind fun r => some (r.1, ⟨fr, lh, sh⟩) := doCall_T fn178 rfl rfl h
theorem fn182 : pE.fn 182 = some c182 := rfl
theorem dc182 {z : Nat} {fr : Fr} {lh : Tri Ent} {sh : List Ent} {args : List T} (h : args.all froz = true) : doCall pE (DCall pE) z ⟨fr, lh, sh⟩ 182 args = (DCall pE 182 args []).bind fun r => some (r.1, ⟨fr, lh, sh⟩) := doCall_T fn182 rfl rfl h
theorem fn183 : pE.fn 183 = some c183 := rfl
theorem dc183 {z : Nat} {fr : Fr} {lh : Tri Ent} {sh : List Ent} {args : List T} (h : args.all froz = true) : doCall pE (DCall pE) z ⟨fr, lh, sh⟩ 183 args = (DCall pE 183 args []).bind fun r => some (r.1, ⟨fr, lh, sh⟩) := doCall_T fn183 rfl rfl h
theorem fn184 : pE.fn 184 = some c184 := rfl
theorem dc184 {z : Nat} {fr : Fr} {lh : Tri Ent} {sh : List Ent} {args : List T} (h : args.all froz = true) : doCall pE (DCall pE) z ⟨fr, lh, sh⟩ 184 args = (DCall pE 184 args []).bind fun r => some (r.1, ⟨fr, lh, sh⟩) := doCall_T fn184 rfl rfl h
theorem fn185 : pE.fn 185 = some c185 := rfl
theorem dc185 {z : Nat} {fr : Fr} {lh : Tri Ent} {sh : List Ent} {args : List T} (h : args.all froz = true) : doCall pE (DCall pE) z ⟨fr, lh, sh⟩ 185 args = (DCall pE 185 args []).bind fun r => some (r.1, ⟨fr, lh, sh⟩) := doCall_T fn185 rfl rfl h
theorem fn186 : pE.fn 186 = some c186 := rfl
theorem dc186 {z : Nat} {fr : Fr} {lh : Tri Ent} {sh : List Ent} {args : List T} (h : args.all froz = true) : doCall pE (DCall pE) z ⟨fr, lh, sh⟩ 186 args = (DCall pE 186 args []).bind fun r => some (r.1, ⟨fr, lh, sh⟩) := doCall_T fn186 rfl rfl h
theorem fn196 : pE.fn 196 = some c196 := rfl
theorem dc196 {z : Nat} {fr : Fr} {lh : Tri Ent} {sh : List Ent} {args : List T} (h : args.all froz = true) : doCall pE (DCall pE) z ⟨fr, lh, sh⟩ 196 args = (DCall pE 196 args []).bind fun r => some (r.1, ⟨fr, lh, sh⟩) := doCall_T fn196 rfl rfl h
theorem fn199 : pE.fn 199 = some c199 := rfl
theorem dc199 {z : Nat} {fr : Fr} {lh : Tri Ent} {sh : List Ent} {args : List T} (h : args.all froz = true) : doCall pE (DCall pE) z ⟨fr, lh, sh⟩ 199 args = (DCall pE 199 args []).bind fun r => some (r.1, ⟨fr, lh, sh⟩) := doCall_T fn199 rfl rfl h
theorem fn218 : pE.fn 218 = some c218 := rfl
theorem dc218 {z : Nat} {fr : Fr} {lh : Tri Ent} {sh : List Ent} {args : List T} (h : args.all froz = true) : doCall pE (DCall pE) z ⟨fr, lh, sh⟩ 218 args = (DCall pE 218 args []).bind fun r => some (r.1, ⟨fr, lh, sh⟩) := doCall_T fn218 rfl rfl h
theorem fn224 : pE.fn 224 = some c224 := rfl
theorem dc224 {z : Nat} {fr : Fr} {lh : Tri Ent} {sh : List Ent} {args : List T} (h : args.all froz = true) : doCall pE (DCall pE) z ⟨fr, lh, sh⟩ 224 args = (DCall pE 224 args []).bind fun r => some (r.1, ⟨fr, lh, sh⟩) := doCall_T fn224 rfl rfl h
theorem fn225 : pE.fn 225 = some c225 := rfl
theorem dc225 {z : Nat} {fr : Fr} {lh : Tri Ent} {sh : List Ent} {args : List T} (h : args.all froz = true) : doCall pE (DCall pE) z ⟨fr, lh, sh⟩ 225 args = (DCall pE 225 args []).bind fun r => some (r.1, ⟨fr, lh, sh⟩) := doCall_T fn225 rfl rfl h
theorem fn230 : pE.fn 230 = some c230 := rfl
theorem dc230 {z : Nat} {fr : Fr} {lh : Tri Ent} {sh : List Ent} {args : List T} (h : args.all froz = true) : doCall pE (DCall pE) z ⟨fr, lh, sh⟩ 230 args = (DCall pE 230 args []).bind fun r => some (r.1, ⟨fr, lh, sh⟩) := doCall_T fn230 rfl rfl h
theorem fn231 : pE.fn 231 = some c231 := rfl
theorem dc231 {z : Nat} {fr : Fr} {lh : Tri Ent} {sh : List Ent} {args : List T} (h : args.all froz = true) : doCall pE (DCall pE) z ⟨fr, lh, sh⟩ 231 args = (DCall pE 231 args []).bind fun r => some (r.1, ⟨fr, lh, sh⟩) := doCall_T fn231 rfl rfl h
theorem fn261 : pE.fn 261 = some c261 := rfl
theorem dc261 {z : Nat} {fr : Fr} {lh : Tri Ent} {sh : List Ent} {args : List T} (h : args.all froz = true) : doCall pE (DCall pE) z ⟨fr, lh, sh⟩ 261 args = (DCall pE 261 args []).bind fun r => some (r.1, ⟨fr, lh, sh⟩) := doCall_T fn261 rfl rfl h
end Go.Proofs.YtfenhjpkomldcaaGreat
