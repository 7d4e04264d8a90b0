/- The program's Simplify. Equal expressions are found equal. The names in an expression: the program's list of them. The names in an expression: what the program collects. The names in an expression, each once and sorted: the program's answer. Conditions: the theorems' own. -/
import Derived.Test.YtfenhjpkomldcaaGreatM12
import Derived.KernelRfl
set_option maxRecDepth 100000
set_option linter.unusedSimpArgs false
set_option linter.unusedVariables false
set_option maxHeartbeats 16000000
namespace Go.Proofs.YtfenhjpkomldcaaGreat
open Go Go.Ev
theorem nil_cl:IsCl [] []:=by first|exact trivial|exact IsCl.nil|simp[IsCl]
def ncB:Option (T×List Ent)→Bool
 |some (.ptr .S 3 1 0,[⟨1,.map [] [] false⟩,_,_,_,_,_,_,_])=>true
 |_=>false
theorem nc_ok:ncB ncR=true:=by kernel_rfl
theorem nc_nil:DCall pE 53 [.nilsl] [⟨1,.map [] [] false⟩]=some (.ptr .S 3 1 0,[⟨1,.map [] [] false⟩,cpE 1,cpE 2,cpE 3,cpE 4,cpE 5,cpE 6,cpE 7]):=by
 refine DCall_iff.2 ⟨60,by_callK ?_⟩
 show ncR=_
 have h:=nc_ok
 unfold cpE
 generalize ncR=r at h ⊢
 unfold ncB at h
 split at h
 ·rfl
 ·cases h
def simS(l:Cs)(scope:Int)(x:Ex):Ex×Int:=if(typeS l scope x).2≠0 then(leafX 0 0,(typeS l scope x).2)else if validE (foldS l scope x)≠0 then(leafX 0 0,10)else(foldS l scope x,0)
theorem smNew(lT:T):smS lT []= [⟨1,.map [] [] false⟩,cpE 1,cpE 2,cpE 3,cpE 4,cpE 5,cpE 6,cpE 7,⟨1,.cells [lT,.mp .S 0 1,.ptr .S 3 1 0] 0 true⟩]:=rfl
theorem type_ok{l:Cs}{scope:Int}{x:Ex}(h:(typeS l scope x).2=0):validE x=0∧x.ty (CLa l) scope=((typeS l scope x).1,0):=by
 unfold typeS at h ⊢
 by_cases hv:validE x≠0
 ·rw[if_pos hv]at h;exact absurd h hv
 ·rw[if_neg hv]at h ⊢
  exact⟨by simpa using hv,Prod.ext rfl h⟩
theorem simS_fold{l:Cs}{scope:Int}{x:Ex}(h:(typeS l scope x).2=0)(hs:x.sm):FK scope (typeS l scope x).1 (foldS l scope x)∧(foldS l scope x).nodes≤400∧(foldS l scope x).sm∧(validE (foldS l scope x)=0∨validE (foldS l scope x)=10):=by
 obtain⟨hv,ht⟩:=type_ok h
 have hk:=foldS_ok l scope x (valid_wf hv) ht
 have hn:=foldS_nodes l scope x
 have hz:=(valid_size hv).1
 refine⟨hk,by omega,foldS_sm l scope x hs, ?_⟩
 unfold validE
 by_cases hb:big (foldS l scope x)
 ·rw[if_pos hb];exact .inr rfl
 ·rw[if_neg hb,if_pos hk.1];exact .inl rfl
section
variable(l:Cs)(lT:T)(cl:List T)(hl:IsSl lT l.length cl)(hcl:IsCl l cl)(hlen:l.length≤Lim)(hsm:smC l)
include hl hcl hlen hsm
theorem psim_ev(scope:Int)(x:Ex)(cs:List T)(hx:IsEx x cs)(hn:0≤x.nodes)(hs:x.sm): ∃c1 s,DCall pE 16 [lT,.i .i64 scope,.agg cs] []=some (.tup [.agg c1,.i .i64 (simS l scope x).2],s)∧IsEx (simS l scope x).1 c1:=by
 obtain⟨s0,hty⟩:=ptype_ev l lT cl hl hcl hlen hsm scope x cs hx hn hs
 rw[p_fun fn16 (by simp[c16])]
 unfold simS
 obtain⟨a,cc,rfl,ha,hxs⟩:=hx.cells
 by_cases h0:(typeS l scope x).2=0
 ·rw[if_neg (by simp[h0])]
  obtain⟨hv,ht⟩:=type_ok h0
  obtain⟨hfk,hfn,hfs,hval⟩:=simS_fold h0 hs
  have hnc:=nc_nil
  rw[←CL_all]at ht
  obtain⟨c1,m',hcall,hc1,_,_,_⟩:=simp_ev l lT l.length (Nat.le_refl _) (pcst_ev l lT cl hl hcl hlen hsm) scope x _ [] _ (fun s cs h=>by cases h) hx (valid_size hv).1 (valid_wf hv) ht
  rw[smNew]at hcall
  have hpv:=fun z fr lh sh=>pvalid_do (z:=z) (fr:=fr) (lh:=lh) (sh:=sh) (foldS l scope x) c1 hc1 (by omega) hfs
  rw[h0]at hty
  generalize (typeS l scope x).1=k at hty
  generalize hy:foldS l scope x=y at*
  obtain⟨ca,cb,rfl,hq1,hq2⟩:=hc1.cells
  generalize cpE 1=e1 at*
  generalize cpE 2=e2 at*
  generalize cpE 3=e3 at*
  generalize cpE 4=e4 at*
  generalize cpE 5=e5 at*
  generalize cpE 6=e6 at*
  generalize cpE 7=e7 at*
  have hst:=fun lh=>stV_SK (lh:=lh) (sh:= [⟨1,.map [] [] false⟩,e1,e2,e3,e4,e5,e6,e7,⟨1,.cells [.nilsl,.nilmp,.nilptr] 0 true⟩]) (k:=8) (g:=1) (g':=1) (off:=0) (m:=3) (wm:=0) (v:= .agg [lT,.mp .S 0 1,.ptr .S 3 1 0]) (by simp[kept_agg,hl.kept1,kept1_mp,kept1_ptr]) rfl
  rcases hval with hval|hval
  ·rw[if_neg (by simp[hval])]
   rw[hval]at hpv
   simp(maxDischargeDepth:=6) only[qF,qGO0,qGO1,qGO2,qGO3,qGO4,qGO5,buildV,splice,fills,Nat.reduceAdd,reduceCtorEq,Nat.reduceLT,Nat.reduceLeDiff,Nat.reduceEqDiff,Int.reduceEq,qSH0,qKP0,c16,hty,dc52,hl.froz,hl.cells,hl.noTup,ha.froz1,ha.kept1,hnc,dc53,hcall,dc54,hq1.froz1,hpv,hst]
   exact⟨_,_,rfl,hc1⟩
  ·rw[if_pos (by simp[hval])]
   rw[hval]at hpv
   simp(maxDischargeDepth:=6) only[qF,qGO0,qGO1,qGO2,qGO3,qGO4,qGO5,buildV,splice,fills,Nat.reduceAdd,reduceCtorEq,Nat.reduceLT,Nat.reduceLeDiff,Nat.reduceEqDiff,qSH0,qKP0,c16,hty,dc52,hl.froz,hl.cells,hl.noTup,ha.froz1,ha.kept1,hnc,dc53,hcall,dc54,hpv,hst]
   exact⟨_,_,rfl,leaf_is _ _ _ nil_is⟩
 ·rw[if_pos h0]
  generalize (typeS l scope x).1=k at hty
  generalize (typeS l scope x).2=e at*
  simp(maxDischargeDepth:=6) only[qF,qGO0,qGO1,qGO2,qGO3,qGO4,qGO5,buildV,splice,fills,Nat.reduceAdd,reduceCtorEq,Nat.reduceLT,Nat.reduceEqDiff,c16,hty,dc52,hl.froz,ha.froz1,h0]
  exact⟨_,_,rfl,leaf_is _ _ _ nil_is⟩
end
theorem awake_ev: ∃s,DCall pE 20 [] []=some (.b true,s):=dval_of (m:=100) (v:= .b true) (by rw[←callK_eq];kernel_rfl)
end Go.Proofs.YtfenhjpkomldcaaGreat
namespace Go.Proofs.YtfenhjpkomldcaaGreat
open Go Go.Ev
def sameP(y:Ex):Prop:= ∀cs cs':List T,IsEx y cs→IsEx y cs'→y.nodes≤100000→DCall pE 60 [.agg cs,.agg cs'] []=some (.b true,[])
theorem same1(xs:List Ex)(ih: ∀y∈xs,sameP y)(a a':T)(cc cc':List T)(ha:IsSl a xs.length cc)(hx:IsExs xs cc)(ha':IsSl a' xs.length cc')(hx':IsExs xs cc')(hn:nodesL xs≤100000)(op num:Int)(s:List Nat)(g2 g3:Nat)(fr:Fr)(lh:Tri Ent)(sh:List Ent)
  (h2:getF fr 2= .ptr .L 2 g2 0) (h3:getF fr 3= .ptr .L 3 g3 0) (h5:getF fr 5= .i .i64 0) (o2:getO lh 2=⟨g2,.cells [.i .i64 op,.i .i64 num,.s s,a] 0 true⟩) (o3:getO lh 3=⟨g3,.cells [.i .i64 op,.i .i64 num,.s s,a'] 0 true⟩):
  DC pE 53 (.loop c60_L1) ⟨fr,lh,sh⟩=some (.ext 0,⟨frL pE 53 c60_L1 fr lh sh,lhL pE 53 c60_L1 fr lh sh,shL pE 53 c60_L1 fr lh sh⟩)∧shL pE 53 c60_L1 fr lh sh=sh:=by
 refine loop_rule (P:=fun fr' lh' sh'=>sh'=sh)
  (loop_inv (fun k st=> ∃(fr:Fr),st=⟨fr,lh,sh⟩∧getF fr 2= .ptr .L 2 g2 0∧getF fr 3= .ptr .L 3 g3 0∧getF fr 5= .i .i64 (k:Int)) _ xs.length ?_ ?_ 0 _ (Nat.zero_le _) ⟨fr,rfl,h2,h3,h5⟩)
 ·rintro k _ hkx ⟨fr,rfl,h2,h3,h5⟩
  left
  have hk':(k:Int)<xs.length:=by omega
  have hlen':=nodesL_len xs
  have hyk:=nodesL_mem (List.getElem_mem hkx)
  have hw:=wr_succL (k:=k) (lim_of (by omega))
  obtain⟨b,cb,rr,hia,hb1,hb2,hb⟩:=arg_at ha hx k hkx
  obtain⟨b',cb',rr',hia',hb1',hb2',hb'⟩:=arg_at ha' hx' k hkx
  have hcall:=ih xs[k] (List.getElem_mem hkx) _ _ hb hb' (by omega)
  simp(maxDischargeDepth:=6) only[qF,qGO0,qGO1,qGO2,qGO3,qGO4,Nat.reduceLT,Nat.reduceLeDiff,Nat.reduceEqDiff,qDR0,getL,c60_L1,h2,h3,h5,o2,o3,ha.lenI,hk',hia,hia',hw,hcall,dc60,dd60,hb1.froz1,hb1'.froz1]
  refine⟨_,rfl,_,rfl, ?_, ?_, ?_⟩
  all_goals (simp(maxDischargeDepth:=6) only[qGO2,qGO4,Nat.reduceEqDiff,h2,h3])
 ·rintro _ ⟨fr,rfl,h2,h3,h5⟩
  simp(maxDischargeDepth:=6) only[qGO0,qGO1,qGO2,qGO3,qGO4,qGO5,Nat.reduceLT,Nat.reduceEqDiff,c60_L1,h2,h5,o2,ha.lenI,Int.lt_irrefl]
  exact⟨_,_,(by simp:Out.ext 0≠ .nrm),rfl,rfl,rfl⟩
theorem same_ev(x:Ex):sameP x:=by
 induction x using Ex.ind with
 |h x ih=>
  intro cs cs' hx hx' hn
  obtain⟨a,cc,rfl,ha,hxs⟩:=hx.cells
  obtain⟨a',cc',rfl,ha',hxs'⟩:=hx'.cells
  have hnd:=x.nodes_eq
  have hL:=fun fr lh sh h2 h3 h5 o2 o3=>same1 x.args (fun y hy=>ih y hy) a a' cc cc' ha hxs ha' hxs' (by omega) x.op x.num x.name 1 1 fr lh sh h2 h3 h5 o2 o3
  rw[p_fun fn60 (by simp[c60])]
  simp(maxDischargeDepth:=6) only[qF,qGO0,qGO1,qGO2,qGO3,qGO4,qGO5,reduceCtorEq,Nat.reduceLT,Nat.reduceEqDiff,c60,ha.lenI,ha'.lenI,hL]
end Go.Proofs.YtfenhjpkomldcaaGreat
namespace Go.Proofs.YtfenhjpkomldcaaGreat
open Go Go.Ev
mutual
def Ex.al:Ex→Prop
 | .mk _ _ _ args=>args.length≤LimS∧alL args
def alL:List Ex→Prop
 | []=>True
 |x::xs=>x.al∧alL xs
end
theorem Ex.al_eq(x:Ex):x.al↔(x.args.length≤LimS∧alL x.args):=by obtain⟨_,_,_,_⟩:=x;rw[Ex.al];rfl
theorem alL_mem: ∀{xs:List Ex},alL xs↔ ∀x∈xs,x.al
 | []=>by simp[alL]
 |x::xs=>by rw[alL,alL_mem (xs:=xs)];simp
def isOne:T→Bool
 | .sl [_] 1 _=>true
 |_=>false
def isApS:T→Bool
 | .nilsl=>true
 | .isl .S _ _ 0 _ 1=>true
 |_=>false
def appSE(sh:List Ent)(k bytes g len:Nat)(c:T)(e:Ent):Option (T×List Ent):=match e.ob with
 | .cells cs wm false=>if e.g=g∧len=cs.length∧(len+1)*bytes≤roomy then some (.isl .S k (g+1) 0 (len+1) 1,setE sh k ⟨g+1,.cells (cs++ [c]) wm false⟩)else none
 |_=>none
def appSV(sh:List Ent)(bytes:Nat):T→T→Option (T×List Ent)
 | .nilsl,.sl [c] 1 _=>if bytes≤roomy then some (.isl .S sh.length 1 0 1 1,setE sh sh.length ⟨1,.cells [c] 0 false⟩)else none
 | .isl .S k g 0 len 1,.sl [c] 1 _=>appSE sh k bytes g len c (getE sh k)
 |_,_=>none
theorem kept_islS{k g off len sz:Nat}:kept (.isl .S k g off len sz)=true:=nr rfl
theorem ansV_no{lh:Tri Ent}{sh:List Ent}{e:Bool}:ansV lh sh e []=some (.tup [],sh):=nr (by cases e <;> rfl)
theorem isOne_sl{c:T}{ex:Bool}:isOne (.sl [c] 1 ex)=true:=nr rfl
theorem isApS_nil:isApS .nilsl=true:=nr rfl
theorem isApS_isl{k g len:Nat}:isApS (.isl .S k g 0 len 1)=true:=nr rfl
theorem appSV_nil{sh:List Ent}{bytes:Nat}{c:T}{ex:Bool}:appSV sh bytes .nilsl (.sl [c] 1 ex)=if bytes≤roomy then some (.isl .S sh.length 1 0 1 1,setE sh sh.length ⟨1,.cells [c] 0 false⟩)else none:=nr rfl
theorem appSV_isl{sh:List Ent}{k g len bytes:Nat}{c:T}{ex:Bool}:appSV sh bytes (.isl .S k g 0 len 1) (.sl [c] 1 ex)=appSE sh k bytes g len c (getE sh k):=nr rfl
theorem appSE_cells{sh:List Ent}{k g g' len bytes wm:Nat}{c:T}{cs:List T}:appSE sh k bytes g len c ⟨g',.cells cs wm false⟩=if g'=g∧len=cs.length∧(len+1)*bytes≤roomy then some (.isl .S k (g+1) 0 (len+1) 1,setE sh k ⟨g+1,.cells (cs++ [c]) wm false⟩)else none:=nr rfl
theorem isOne_ex{t:T}(h:isOne t=true): ∃c ex,t= .sl [c] 1 ex:=by
 unfold isOne at h
 split at h
 ·exact⟨_,_,rfl⟩
 ·cases h
theorem isApS_ex{t:T}(h:isApS t=true):t= .nilsl∨ ∃k g len,t= .isl .S k g 0 len 1:=by
 unfold isApS at h
 split at h
 ·exact .inl rfl
 ·exact .inr ⟨_,_,_,rfl⟩
 ·cases h
section
variable{E:Env}{call:Orc}{n:Nat}{fr:Fr}{lh:Tri Ent}{sh:List Ent}{ds:List (List Nat×AOper)}{fps:List FP}{d:Option Nat}{os:List AOper}
theorem d_appS{bytes:Nat}{s x:Opd}(hx:isOne (rd fr x)=true)(hs:isApS (rd fr s)=true)(hu:noU ds=true):evDraw E call n (([],⟨d,.app 1 bytes s x true false,none⟩)::ds) fps ⟨fr,lh,sh⟩=
  ke E call n ds (fps++ [noFP]) (evOps E call n [⟨d,.app 1 bytes s x true false,none⟩] ⟨fr,lh,sh⟩):=by
 rw[d_of (fp:=(operFP E call ⟨d,.app 1 bytes s x true false,none⟩ ⟨fr,lh,sh⟩).getD noFP)]
 ·show ke _ _ _ _ _ _=_
  unfold ke
  cases evOps E call n [⟨d,.app 1 bytes s x true false,none⟩] ⟨fr,lh,sh⟩with
  |none=>rfl
  |some s=>exact draw_noU ds _ _ s hu
 ·intro hne
  obtain⟨v,ups,hr,hfp⟩:=fp_q (q:=appAt (d.getD 0) 1 bytes (rd fr s) (rd fr x) true false) (by rfl) (by rw[rho_eq];rfl) hne
  have:=hfp (by
   obtain⟨c,ex,hx⟩:=isOne_ex hx
   have hs:=isApS_ex hs
   rw[hx]at hr ⊢
   rcases hs with hs|⟨k,g,len,hs⟩
   ·rw[hs]at hr ⊢
    simp only[appAt,sliceCells,List.length_cons,List.length_nil,Nat.mul_one,Nat.zero_add,if_true,Q.bind]at hr ⊢
    simp only[Nat.succ_ne_zero,if_false]at hr ⊢
    split at hr
    ·rename_i hb
     have hb':bytes≤roomy:=by simpa using hb
     simp only[Nat.one_mul,if_pos hb',newOb,if_true,Q.asks,Bool.true_or]
    ·simp[Q.run]at hr
   ·rw[hs]at hr ⊢
    simp only[appAt,sliceCells,List.length_cons,List.length_nil,Nat.mul_one,Nat.zero_add,if_true,Q.bind]at hr ⊢
    simp only[Nat.succ_ne_zero,if_false]at hr ⊢
    split at hr
    ·simp only[Q.run]at hr
     split at hr
     ·rename_i hg
      split at hr
      ·rename_i cs wm hob
       split at hr
       ·simp only[Q.run,Option.some.injEq,Res.val.injEq]at hr
        obtain⟨_,rfl⟩:=hr
        simp[inB,liveB,hob]
       ·simp[Q.run]at hr
      ·simp[Q.run]at hr
     ·simp[Q.run]at hr
    ·simp[Q.run]at hr)
  rw[this];rfl
theorem p_appS{dd bytes:Nat}{s x:Opd}(hd:dd<n)(hx:isOne (rd fr x)=true)(hs:isApS (rd fr s)=true):evOps E call n (⟨some dd,.app 1 bytes s x true false,none⟩::os) ⟨fr,lh,sh⟩=
  (appSV sh bytes (rd fr s) (rd fr x)).bind fun q=>evOps E call n os ⟨setF fr dd q.1,lh,q.2⟩:=by
 obtain⟨c,ex,hx⟩:=isOne_ex hx
 rw[e_one (by rfl) (show okD n (some dd)from hd)]
 unfold Ev.one
 rcases isApS_ex hs with hs|⟨k,g,len,hs⟩
 ·simp only[opQ,appAt,bind_run,hs,hx,sliceCells,List.length_cons,List.length_nil,Nat.mul_one,Nat.zero_add,if_true,Q.run,Option.bind_some,appSV_nil]
  simp only[Nat.succ_ne_zero,if_false,Nat.one_mul]
  by_cases hb:bytes≤roomy
  ·simp only[if_pos hb,newOb,Q.run,if_true];rfl
  ·simp only[if_neg hb,Q.run];rfl
 ·have hge:(St.mk fr lh sh).get .S k=getE sh k:=rfl
  rw[hs,hx,appSV_isl]
  generalize hE:getE sh k=e at*
  obtain⟨g',ob⟩:=e
  unfold appSE
  simp only[opQ,appAt,bind_run,hs,hx,sliceCells,List.length_cons,List.length_nil,Nat.mul_one,Nat.zero_add,if_true,Q.run,Option.bind_some]
  simp only[Nat.succ_ne_zero,if_false,decide_true,Bool.true_and,decide_eq_true_eq]
  by_cases hb:(len+1)*bytes≤roomy
  ·simp only[Q.run,hge,if_true,hb,and_true]
   by_cases hg:g'=g
   ·subst hg
    simp only[if_true,true_and]
    cases ob with
    |none=>simp only[Q.run];rfl
    |map _ _ _=>simp only[Q.run];rfl
    |cells cs wm bx=>
     cases bx with
     |true=>simp only[Q.run];rfl
     |false=>
      simp only[]
      by_cases hl:len=cs.length
      ·simp only[if_pos hl,Q.run];rfl
      ·simp only[if_neg hl,Q.run];rfl
   ·simp only[Q.run,hg,false_and,if_false]
    cases ob with
    |none=>rfl
    |map _ _ _=>rfl
    |cells cs wm bx=>cases bx <;> rfl
  ·simp only[hb,if_false,Q.run,and_false]
   cases ob with
   |none=>rfl
   |map _ _ _=>rfl
   |cells cs wm bx=>cases bx <;> rfl
def isBx(e:Ent):Bool:=match e.ob with
 | .cells _ _ true=>true
 |_=>false
def isBoxS(sh:List Ent):T→Bool
 | .ptr .S k _ _=>isBx (getE sh k)
 |_=>false
theorem isBoxS_ptr{sh:List Ent}{k g off:Nat}:isBoxS sh (.ptr .S k g off)=isBx (getE sh k):=nr rfl
theorem isBx_cells{g wm:Nat}{cs:List T}:isBx ⟨g,.cells cs wm true⟩=true:=nr rfl
def stEK(lh:Tri Ent)(sh:List Ent)(k g off:Nat)(v:T)(m:Nat)(e:Ent):Option (Tri Ent×List Ent):=match e.ob with
 | .cells cs wm true=>if e.g=g∧(cellsOf v).length=m∧noTup v=true∧wm≤off∧off+m≤cs.length then some (lh,setE sh k ⟨e.g,.cells (splice cs off (cellsOf v)) wm true⟩)else none
 |_=>stV lh sh (.ptr .S k g off) v m
theorem stEK_cells{k g g' off m wm:Nat}{cs:List T}{v:T}:stEK lh sh k g off v m ⟨g',.cells cs wm true⟩=if g'=g∧(cellsOf v).length=m∧noTup v=true∧wm≤off∧off+m≤cs.length then some (lh,setE sh k ⟨g',.cells (splice cs off (cellsOf v)) wm true⟩)else none:=nr rfl
theorem stV_SK{k g off m:Nat}{v:T}(hz:kept v=true):stV lh sh (.ptr .S k g off) v m=stEK lh sh k g off v m (getE sh k):=by
 have hge:(St.mk .nil lh sh).get .S k=getE sh k:=rfl
 generalize hE:getE sh k=e
 obtain⟨g',ob⟩:=e
 unfold stEK
 cases ob with
 |none=>rfl
 |map _ _ _=>rfl
 |cells cs wm bx=>
  cases bx with
  |false=>rfl
  |true=>
   by_cases h1:(cellsOf v).length=m
   ·cases h2:noTup v with
    |false=>
     unfold stV stAt
     have:(decide ((cellsOf v).length≠m)|| !noTup v)=true:=by simp[h2]
     simp only[this,if_true,Q.run]
     simp
    |true=>
     unfold stV stAt
     have:(decide ((cellsOf v).length≠m)|| !noTup v)=false:=by simp[h1,h2]
     simp only[this,Bool.false_eq_true,if_false]
     simp only[Q.run,hge,hE]
     by_cases hg:g'=g
     ·subst hg
      by_cases hw:wm≤off∧off+m≤cs.length
      ·have hw':(decide (wm≤off)&&decide (off+m≤cs.length))=true:=by simp[hw.1,hw.2]
       unfold fzFuel
       simp only[if_true,Bool.true_and,show(Sp.S==Sp.L)=false from rfl,Bool.and_false,Bool.false_eq_true,if_false,show(Sp.S==Sp.S)=true from rfl,fz_kept hz,Q.bind,hits,List.any_nil,h1,h2,Bool.not_true,Bool.or_false,ne_eq,not_true_eq_false,decide_false,hw.1,hw.2,and_self,List.nil_append]
       rfl
      ·have hw':(decide (wm≤off)&&decide (off+m≤cs.length))=false:=by simpa using hw
       simp only[if_true,hw',Bool.false_eq_true,if_false,Q.run,h1,true_and]
       rw[if_neg hw]
     ·simp only[hg,if_false,Q.run,false_and]
   ·unfold stV stAt
    have:(decide ((cellsOf v).length≠m)|| !noTup v)=true:=by simp[h1]
    simp only[this,if_true,Q.run,h1,false_and,and_false,if_false]
theorem d_stK{x v:Opd}{m:Nat}(hz:kept (rd fr v)=true)(hb:isBoxS sh (rd fr x)=true)(hu:noU ds=true):evDraw E call n (([],⟨none,.st x v m,none⟩)::ds) fps ⟨fr,lh,sh⟩=
  ke E call n ds (fps++ [noFP]) (evOps E call n [⟨none,.st x v m,none⟩] ⟨fr,lh,sh⟩):=by
 rw[d_of (fp:=(operFP E call ⟨none,.st x v m,none⟩ ⟨fr,lh,sh⟩).getD noFP)]
 ·show ke _ _ _ _ _ _=_
  unfold ke
  cases evOps E call n [⟨none,.st x v m,none⟩] ⟨fr,lh,sh⟩with
  |none=>rfl
  |some s=>exact draw_noU ds _ _ s hu
 ·intro hne
  obtain⟨w,ups,hr,hfp⟩:=fp_q (q:=stAt (rd fr x) (rd fr v) m) (by rfl) (by rw[rho_eq];rfl) hne
  have:=hfp (by
   cases hx:rd fr x with
   |ptr sp k g off=>
    cases sp with
    |L=>rw[hx]at hb;simp[isBoxS]at hb
    |S=>
     rw[hx]at hb hr
     rw[isBoxS_ptr]at hb
     have hge:(St.mk fr lh sh).get .S k=getE sh k:=rfl
     generalize hE:getE sh k=e at*
     obtain⟨g',ob⟩:=e
     cases ob with
     |none=>simp[isBx]at hb
     |map _ _ _=>simp[isBx]at hb
     |cells cs wm bx=>
      cases bx with
      |false=>simp[isBx]at hb
      |true=>
       unfold stAt at hr
       split at hr
       ·simp[Q.run]at hr
       ·simp only[Q.run,hge]at hr
        split at hr
        ·split at hr
         ·unfold fzFuel at hr
          simp only[Bool.true_and,show(Sp.S==Sp.L)=false from rfl,Bool.false_eq_true,if_false,show(Sp.S==Sp.S)=true from rfl,fz_kept hz,Q.bind,hits,List.any_nil,Bool.false_or]at hr
          split at hr
          ·simp[Q.run]at hr
          ·simp only[Q.run,Option.some.injEq,Res.val.injEq]at hr
           obtain⟨_,rfl⟩:=hr
           simp[inB,liveB,hge]
         ·simp[Q.run]at hr
        ·simp[Q.run]at hr
   |_=>rw[hx]at hb;simp[isBoxS]at hb)
  rw[this];rfl
end
end Go.Proofs.YtfenhjpkomldcaaGreat
namespace Go.Proofs.YtfenhjpkomldcaaGreat
open Go Go.Ev
mutual
def Ex.uses:Ex→List (List Nat)
 | .mk op _ s xs=>(if op=6 then [s]else [])++usesL xs
def usesL:List Ex→List (List Nat)
 | []=> []
 |x::xs=>x.uses++usesL xs
end
theorem Ex.uses_eq(x:Ex):x.uses=(if x.op=6 then [x.name]else [])++usesL x.args:=by obtain⟨_,_,_,_⟩:=x;rw[Ex.uses];rfl
theorem usesL_app: ∀(xs ys:List Ex),usesL (xs++ys)=usesL xs++usesL ys
 | [],ys=>by simp[usesL]
 |x::xs,ys=>by simp only[List.cons_append,usesL,usesL_app xs ys,List.append_assoc]
theorem usesL_succ{xs:List Ex}{k:Nat}(hk:k<xs.length):usesL (xs.take (k+1))=usesL (xs.take k)++xs[k].uses:=by
 rw[List.take_succ_eq_append_getElem hk,usesL_app]
 simp[usesL]
theorem usesL_le{xs:List Ex}{k:Nat}:(usesL (xs.take k)).length≤(usesL xs).length:=by
 have:=usesL_app (xs.take k) (xs.drop k)
 rw[List.take_append_drop]at this
 rw[this,List.length_append];omega
def shN:List (List Nat)→List Ent
 | []=> [⟨1,.cells [.nilsl] 0 true⟩]
 |L=> [⟨1,.cells [.isl .S 1 L.length 0 L.length 1] 0 true⟩,⟨L.length,.cells (L.map T.s) 0 false⟩]
theorem shN_nil:shN []= [⟨1,.cells [.nilsl] 0 true⟩]:=nr rfl
theorem shN_ne{L:List (List Nat)}(h:L≠ []):shN L= [⟨1,.cells [.isl .S 1 L.length 0 L.length 1] 0 true⟩,⟨L.length,.cells (L.map T.s) 0 false⟩]:=by
 cases L with
 |nil=>exact absurd rfl h
 |cons x xs=>rfl
def colP(y:Ex):Prop:= ∀cs L,IsEx y cs→y.al→L.length+y.uses.length≤4294967296→DCall pE 80 [.agg cs,.ptr .S 0 1 0] (shN L)=some (.tup [],shN (L++y.uses))
theorem col1(xs:List Ex)(ih: ∀y∈xs,colP y)(a:T)(cc:List T)(ha:IsSl a xs.length cc)(hx:IsExs xs cc)(hlen:xs.length≤LimS)(hal:alL xs)(L:List (List Nat))(hL:L.length+(usesL xs).length≤4294967296)(fr:Fr)(lh:Tri Ent)(sh:List Ent)(hsh:sh=shN L)
  (h1:getF fr 1= .ptr .S 0 1 0) (h19:getF fr 19=a) (h20:getF fr 20= .i .i64 (xs.length:Int)) (h21:getF fr 21= .i .i64 0):
  DC pE 29 (.loop c80_L1) ⟨fr,lh,sh⟩=some (.ext 0,⟨frL pE 29 c80_L1 fr lh sh,lhL pE 29 c80_L1 fr lh sh,shL pE 29 c80_L1 fr lh sh⟩)∧(shL pE 29 c80_L1 fr lh sh=shN (L++usesL xs)):=by
 refine loop_rule (P:=fun fr' lh' sh'=>sh'=shN (L++usesL xs))
  (loop_inv (fun k st=> ∃(fr:Fr) (lh1:Tri Ent),st=⟨fr,lh1,shN (L++usesL (xs.take k))⟩∧getF fr 1= .ptr .S 0 1 0∧getF fr 19=a∧getF fr 20= .i .i64 (xs.length:Int)∧getF fr 21= .i .i64 (k:Int)) _ xs.length ?_ ?_ 0 _ (Nat.zero_le _) ⟨fr,lh,by rw[hsh];simp[usesL],h1,h19,h20,h21⟩)
 ·rintro k _ hk ⟨fr,lh1,rfl,h1,h19,h20,h21⟩
  left
  have hk':(k:Int)<xs.length:=by omega
  have hw:=wr_succT (k:=k) (by omega)
  obtain⟨b,cb,rr,hia,hb1,hb2,hb⟩:=arg_at ha hx k hk
  have hus:=usesL_succ hk
  have hle:=usesL_le (xs:=xs) (k:=k+1)
  have hcall:=ih xs[k] (List.getElem_mem hk) _ (L++usesL (xs.take k)) hb (alL_mem.1 hal _ (List.getElem_mem hk)) (by rw[hus]at hle;simp only[List.length_append]at hle ⊢; omega)
  rw[List.append_assoc,←hus]at hcall
  simp(maxDischargeDepth:=6) only[qF,qGO0,qGO1,qGO2,qGO3,qGO4,qGO5,splice,Nat.reduceAdd,Nat.reduceLT,Nat.reduceLeDiff,Nat.reduceEqDiff,qKP0,c80_L1,h1,h19,h20,h21,hk',hia,hw,hb1.kept1,hcall,dc80]
  refine⟨_,rfl,_,_,rfl, ?_, ?_, ?_, ?_⟩
  all_goals (simp(maxDischargeDepth:=6) only[qGO2,qGO4,Nat.reduceEqDiff,h1,h19,h20])
 ·rintro _ ⟨fr,lh1,rfl,h1,h19,h20,h21⟩
  simp(maxDischargeDepth:=6) only[qGO0,qGO1,qGO2,qGO4,qGO5,Nat.reduceLT,c80_L1,h20,h21,Int.lt_irrefl]
  exact⟨_,_,(by simp:Out.ext 0≠ .nrm),rfl,rfl,by rw[List.take_length]⟩
theorem col_ev(x:Ex):colP x:=by
 induction x using Ex.ind with
 |h x ih=>
 intro cs L hx hal hL
 obtain⟨a,cc,rfl,ha,hxs⟩:=hx.cells
 rw[Ex.al_eq]at hal
 rw[p_fun fn80 (by simp[c80])]
 rw[Ex.uses_eq]at hL ⊢
 by_cases h6:x.op=6
 ·rw[if_pos h6]at hL ⊢
  simp only[List.length_append,List.length_cons,List.length_nil]at hL
  have hloop:=col1 x.args ih a cc ha hxs hal.1 hal.2 (L++ [x.name]) (by rw[List.length_append];simp;omega)
  rw[List.append_assoc]at hloop
  have h2:([x.name]++usesL x.args)=x.name::usesL x.args:=rfl
  rw[h2]at hloop ⊢
  cases L with
  |nil=>
   rw[shN_nil]
   have hr:(16:Nat)≤roomy:=by decide
   have hL:=fun fr lh h1 h19 h20 h21=>hloop fr lh [⟨1,.cells [.isl .S 1 1 0 1 1] 0 true⟩,⟨1,.cells [.s x.name] 0 false⟩] rfl h1 h19 h20 h21
   simp(maxDischargeDepth:=6) only[qF,qGO0,qGO1,qGO2,qGO3,qGO4,qGO5,bslV,bslW,splice,fills,repl,reduceCtorEq,Nat.reduceLT,Nat.reduceEqDiff,qDR0,getL,qSH0,c80,h6,ha.lenI,d_appS,p_appS,isOne_sl,isApS_nil,appSV_nil,hr,d_stK,kept_islS,isBoxS_ptr,isBx_cells,stV_SK,stEK_cells,hL,ansV_no]
  |cons s L'=>
   rw[shN_ne (by simp)]
   have hr:(L'.length+1+1)*16≤roomy:=by unfold roomy;simp only[List.length_cons]at hL;omega
   have hL:=fun fr lh h1 h19 h20 h21=>hloop fr lh [⟨1,.cells [.isl .S 1 (L'.length+1+1) 0 (L'.length+1+1) 1] 0 true⟩,⟨L'.length+1+1,.cells (.s s::(L'.map T.s++ [.s x.name])) 0 false⟩] (by rw[shN_ne (by simp)];simp) h1 h19 h20 h21
   simp(maxDischargeDepth:=6) only[qF,qGO0,qGO1,qGO2,qGO3,qGO4,qGO5,bslV,bslW,splice,fills,repl,reduceCtorEq,Nat.reduceLT,Nat.reduceEqDiff,qDR0,getL,qSH0,c80,h6,ha.lenI,d_appS,p_appS,isOne_sl,isApS_isl,appSV_isl,appSE_cells,hr,List.length_map,d_stK,kept_islS,isBoxS_ptr,isBx_cells,stV_SK,stEK_cells,hL,ansV_no]
 ·rw[if_neg h6]at hL ⊢
  have hloop:=col1 x.args ih a cc ha hxs hal.1 hal.2 L (by simpa using hL)
  have hL:=fun fr lh h1 h19 h20 h21=>hloop fr lh (shN L) rfl h1 h19 h20 h21
  simp(maxDischargeDepth:=6) only[qF,qGO0,qGO1,qGO2,qGO3,qGO4,qGO5,reduceCtorEq,Nat.reduceLT,Nat.reduceEqDiff,qDR0,c80,h6,ha.lenI,hL,ansV_no]
end Go.Proofs.YtfenhjpkomldcaaGreat
namespace Go.Proofs.YtfenhjpkomldcaaGreat
open Go Go.Ev
theorem dw81{z:Nat}{fr:Fr}{lh:Tri Ent}{sh:List Ent}{args:List T}:doCall pE (DCall pE) z ⟨fr,lh,sh⟩ 81 args=wrRes sortE ⟨fr,lh,sh⟩ args:=doCall_W rfl rfl rfl
theorem dw82{z:Nat}{fr:Fr}{lh:Tri Ent}{sh:List Ent}{args:List T}:doCall pE (DCall pE) z ⟨fr,lh,sh⟩ 82 args=wrRes compE ⟨fr,lh,sh⟩ args:=doCall_W rfl rfl rfl
theorem strsE_map: ∀l:List (List Nat),strsE (l.map T.s)=some l
 | []=>rfl
 |x::l=>by rw[List.map_cons,strsE,strsE_map l];rfl
theorem sortN_len(l:List (List Nat)):(sortN l).length=l.length:=by unfold sortN;exact List.length_mergeSort _
theorem single_s(l:List (List Nat)):(l.map T.s).all single=true:=by rw[List.all_map,List.all_eq_true];intro x _;rfl
theorem sortE_s{l:List (List Nat)}(h:l.length≤4294967296):sortE (l.map T.s)=some ((sortN l).map T.s,none):=by
 unfold sortE;rw[strsE_map];simp only[];rw[if_pos (by omega)]
def compR(l:List (List Nat)):List (List Nat):=compN l++List.replicate (l.length-(compN l).length) []
theorem compT_le: ∀(p:List Nat) (l:List (List Nat)),(compT p l).length≤l.length
 |_,[]=>Nat.le_refl _
 |p,y::r=>by
  simp only[compT]
  have:=compT_le y r
  split <;> simp <;> omega
theorem compN_le: ∀(l:List (List Nat)),(compN l).length≤l.length
 | []=>Nat.le_refl _
 |x::r=>by simp only[compN,List.length_cons];have:=compT_le x r;omega
theorem compR_len(l:List (List Nat)):(compR l).length=l.length:=by unfold compR;have:=compN_le l;simp;omega
theorem compE_s{l:List (List Nat)}(h:l.length≤4294967296):compE (l.map T.s)=some ((compR l).map T.s,some (compN l).length):=by
 unfold compE;rw[strsE_map];simp only[];rw[if_pos (by omega)];rfl
theorem wr_row{h:List T→Option (List T×Option Nat)}{fr:Fr}{lh:Tri Ent}{b:Ent}{l ys:List (List Nat)}{g n:Nat}{r:Option Nat}(hn:n=l.length)(hh:h (l.map T.s)=some (ys.map T.s,r))(hl:ys.length=l.length)(hr:r.getD 0≤l.length):
  wrRes h ⟨fr,lh,[b,⟨g,.cells (l.map T.s) 0 false⟩]⟩ [.isl .S 1 g 0 n 1]=some (wrSl .S 1 g 0 r,⟨fr,lh,[b,⟨g,.cells (ys.map T.s) 0 false⟩]⟩):=by
 subst hn
 have e1:(St.mk fr lh [b,⟨g,.cells (l.map T.s) 0 false⟩]).get .S 1=⟨g,.cells (l.map T.s) 0 false⟩:=rfl
 unfold wrRes
 simp only[e1]
 have e2:((l.map T.s).drop 0).take l.length=l.map T.s:=by rw[List.drop_zero,List.take_of_length_le (by simp)]
 rw[if_pos ⟨trivial,Nat.le_refl _,by simp⟩,e2,hh]
 simp only[]
 rw[if_pos ⟨by simp[hl],single_s ys,hr⟩]
 have e3: ∀(a b:List T),b.length=a.length→splice a 0 b=b:=by
  intro a
  induction a with
  |nil=>intro b hb;cases b with|nil=>rfl|cons _ _=>simp at hb
  |cons x a ih=>
   intro b hb
   cases b with
   |nil=>simp at hb
   |cons y b=>simp only[splice];rw[ih b (by simpa using hb)]
 rw[e3 _ _ (by simp[hl])]
 rfl
theorem wr_nil{h:List T→Option (List T×Option Nat)}{st:St}(hh:h []=some ([],none)):wrRes h st [.nilsl]=some (.tup [],st):=by
 unfold wrRes;simp only[hh]
theorem wr_nil0{h:List T→Option (List T×Option Nat)}{st:St}(hh:h []=some ([],some 0)):wrRes h st [.nilsl]=some (.nilsl,st):=by
 unfold wrRes;simp only[hh]
def Ex.usesN(x:Ex):List (List Nat):=compN (sortN x.uses)
theorem fz_res{lh:Tri Ent}{b:Ent}{g m:Nat}{ys:List (List Nat)}(hm:m≤ys.length):fzV lh [b,⟨g,.cells (ys.map T.s) 0 false⟩] false (.isl .S 1 g 0 m 1)=some (.sl ((ys.take m).map T.s) m false,[(.S,1,⟨g,.cells (ys.map T.s) (ys.map T.s).length false⟩)]):=by
 have e1:(St.mk .nil lh [b,⟨g,.cells (ys.map T.s) 0 false⟩]).get .S 1=⟨g,.cells (ys.map T.s) 0 false⟩:=rfl
 unfold fzV fzFuel
 have e2:((ys.map T.s).drop 0).take (m*1)=(ys.take m).map T.s:=by rw[List.drop_zero,Nat.mul_one,List.map_take]
 have e3:0+m*1≤(ys.map T.s).length:=by simp;omega
 simp only[fz,Q.run,e1,if_true,if_pos e3,e2,Bool.false_and,Bool.false_eq_true,if_false,beq_self_eq_true]
theorem puses_ev(x:Ex)(cs:List T)(hx:IsEx x cs)(hal:x.al)(hu:x.uses.length≤4294967296): ∃t s,DCall pE 47 [.agg cs] []=some (t,s)∧IsSl t x.usesN.length (x.usesN.map T.s):=by
 obtain⟨a,cc,rfl,ha,hxs⟩:=hx.cells
 have hcol:=col_ev x _ [] hx hal (by simpa using hu)
 rw[shN_nil,List.nil_append]at hcol
 rw[p_fun fn47 (by simp[c47])]
 unfold Ex.usesN
 generalize hL:x.uses=L at*
 by_cases h0:L= []
 ·subst h0
  rw[shN_nil]at hcol
  have hs1:=fun st=>wr_nil (h:=sortE) (st:=st) (by simp[sortE,strsE,sortN])
  have hs2:=fun st=>wr_nil0 (h:=compE) (st:=st) (by simp[compE,strsE,compN])
  simp(maxDischargeDepth:=6) only[qF,qGO0,qGO1,qGO2,qGO3,qGO4,qGO5,Nat.reduceAdd,Nat.reduceLT,Nat.reduceEqDiff,qSH0,qKP0,c47,ha.kept1,hcol,dc80,dw81,dw82,hs1,hs2]
  refine⟨_,_,rfl,.inl ⟨rfl, ?_, ?_⟩⟩ <;> simp[sortN,compN]
 ·rw[shN_ne h0]at hcol
  obtain⟨n,hn⟩: ∃n,n=L.length:=⟨_,rfl⟩
  rw[←hn]at hcol
  have hs1:=fun fr lh=>wr_row (h:=sortE) (fr:=fr) (lh:=lh) (b:=⟨1,.cells [.isl .S 1 n 0 n 1] 0 true⟩) (g:=n) hn (sortE_s hu) (sortN_len L) (Nat.zero_le _)
  obtain⟨m,hm⟩: ∃m,m=(compN (sortN L)).length:=⟨_,rfl⟩
  have hcl:=compN_le (sortN L)
  have hs2:=fun fr lh=>wr_row (h:=compE) (fr:=fr) (lh:=lh) (b:=⟨1,.cells [.isl .S 1 n 0 n 1] 0 true⟩) (g:=n) (hn.trans (sortN_len L).symm) (compE_s (l:=sortN L) (by rw[sortN_len];exact hu)) (compR_len _) (by simpa using hcl)
  rw[←hm]at hs2 ⊢
  simp only[wrSl]at hs1 hs2
  obtain⟨ys,hys⟩: ∃ys,ys=compR (sortN L):=⟨_,rfl⟩
  rw[←hys]at hs2
  simp(maxDischargeDepth:=6) only[qF,qGO0,qGO1,qGO2,qGO3,qGO4,qGO5,Nat.reduceAdd,Nat.reduceLT,Nat.reduceEqDiff,qSH0,qKP0,c47,ha.kept1,hcol,dc80,dw81,dw82,hs1,hs2]
  have htk:ys.take m=compN (sortN L):=by rw[hys,hm];unfold compR;exact List.take_left
  have hml:m≤ys.length:=by rw[hys,compR_len,hm];exact hcl
  rw[fz_res hml,htk]
  refine⟨_,_,rfl,.inr ⟨false,rfl⟩⟩
end Go.Proofs.YtfenhjpkomldcaaGreat
