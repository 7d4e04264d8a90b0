/- Types as the program finds them. Types as the program finds them. Bounded arithmetic: the program's and the reference's. Bounded products. Bounded products and quotients. Bounded quotients. The value of an operator: the reference's Apply. Conditions: the theorems' own. -/
import Derived.Test.YtblcbheipjeoeaaGreatM4
import Derived.KernelRfl
set_option maxRecDepth 100000
set_option linter.unusedSimpArgs false
set_option linter.unusedVariables false
set_option maxHeartbeats 16000000
namespace Go.Proofs.YtblcbheipjeoeaaGreat
open Go Go.Ev
theorem Hq(l:Cs)(n:Nat): ∀k,∃r,jw l (n+k)=jw l n++r
 |0=>⟨[],by simp⟩
 |k+1=>by
  obtain⟨r,h⟩:=Hq l n k
  rw[←Nat.add_assoc,jw,h]
  exact⟨_,List.append_assoc _ _ _⟩
theorem BH(l:Cs){n i:Nat}(hn:n≤l.length)(hi:i<n):(jw l n).getD i (0,6)=(jw l l.length).getD i (0,6):=by
 obtain⟨r,h⟩:=Hq l n (l.length-n)
 rw[show n+(l.length-n)=l.length by omega]at h
 rw[h,List.getD_eq_getElem?_getD,List.getD_eq_getElem?_getD,List.getElem?_append_left (by rw[lE];exact hi)]
def tq(l:Cs)(i:Nat):Int×Int:=(jw l l.length).getD i (0,6)
theorem Ej(l:Cs){i:Nat}(hi:i<l.length):tq l i=Ce (l.take i) (jw l i) l[i].2:=by
 unfold tq
 rw[←BH l (n:=i+1) (by omega) (by omega),uF l hi,List.getD_eq_getElem?_getD,List.getElem?_append_right (by rw[lE];omega),lE,Nat.sub_self]
 rfl
theorem abK{cl:List Nat→Int×Int}(kg: ∀s,(cl s).2≠0→(cl s).1=0)(scope:Int)(x:Ex)(h:(x.ty cl scope).2≠0):(x.ty cl scope).1=0:=by
 rw[Ex.ty_eq]at h ⊢
 by_cases h6:x.op=6
 ·rw[if_pos h6]at h ⊢
  by_cases hz:jc scope x.name≠0
  ·rw[if_pos hz]at h;exact absurd rfl h
  ·rw[if_neg hz]at h ⊢; exact kg _ h
 ·rw[if_neg h6]at h ⊢
  cases hr:pB cl scope x.args with
  |error e=>rfl
  |ok ts=>
   rw[hr]at h
   simp only at h ⊢
   split at h
   ·rename_i h0;rw[if_pos h0]
   ·exact absurd rfl h
theorem Wc(l:Cs)(tab:List (Int×Int))(h: ∀t∈tab,t.2≠0→t.1=0)(s:List Nat):(xh l tab s).2≠0→(xh l tab s).1=0:=by
 unfold xh
 cases jl l s with
 |none=>intro _;rfl
 |some i=>
  simp only
  rw[List.getD_eq_getElem?_getD]
  cases hi:tab[i]? with
  |none=>intro _;rfl
  |some t=>exact h t (List.mem_of_getElem? hi)
theorem BI(l:Cs): ∀n,∀t∈jw l n,t.2≠0→t.1=0
 |0=>by simp[jw]
 |n+1=>by
  intro t ht
  rw[jw]at ht
  rcases List.mem_append.1 ht with ht|ht
  ·exact BI l n t ht
  ·rw[List.mem_singleton]at ht
   subst ht
   unfold Ce
   split
   ·intro _;rfl
   ·exact abK (Wc _ _ (BI l n)) _ _
section
variable(l:Cs)(lT:T)(cl:List T)(hl:fD lT l.length cl)(kg:iR l cl)(hlen:l.length≤om)(oh:Q1 l)
def wY(kn:List (Nat×Int)):Prop:= ∀i t,fO kn i=some t→i<l.length∧tq l i=(t,0)
def abL(j:Nat):Prop:= ∀kn,wY l kn→ ∃hJ,fj pE 144 [.ptr .S 2 1 0,.i .i64 (j:Int)] (xx lT (gG l l.length) kn)=some (.tup [.i .i64 (tq l j).1,.i .i64 (tq l j).2],xx lT (gG l l.length) hJ)∧wY l hJ∧ ∀i,j<i→fO hJ i=fO kn i
def C4(n:Nat):List Nat→Int×Int:=xh (l.take n) (jw l n)
def ajC(n:Nat)(scope:Int)(y:Ex):Prop:= ∀kn,wY l kn→ ∀cs:List T,jY y cs→y.nodes≤100000→y.wf=true→ ∃hJ,fj pE 275 [.ptr .S 2 1 0,.i .i64 scope,.i .i64 (n:Int),.agg cs] (xx lT (gG l l.length) kn)=some (.tup [.i .i64 (y.ty (C4 l n) scope).1,.i .i64 (y.ty (C4 l n) scope).2],xx lT (gG l l.length) hJ)∧wY l hJ∧ ∀i,n≤i→fO hJ i=fO kn i
include hl
theorem aou(n:Nat)(scope:Int)(xs:List Ex)(ih: ∀y∈xs,ajC l lT n scope y)(a:T)(cc:List T)(ha:fD a xs.length cc)(hx:hH xs cc)(hn:gP xs≤100000)(uE:sk xs=true)(kn:List (Nat×Int))(nz:wY l kn)(r:Except Int (List Int))(hr:r=pB (C4 l n) scope xs)(o:Out)(ho:o=Jl r)(g:Nat)(c7:fg)(fr:Fr)(lh:fC fg)(sh:List fg)(jh:sh=xx lT (gG l l.length) kn)
  (h0:an fr 0= .ptr .S 2 1 0) (h1:an fr 1= .i .i64 scope) (h2:an fr 2= .i .i64 (n:Int)) (iM:an fr 14= .isl .L 57 g 0 xs.length 1) (zf:an fr 59=a) (x9:an fr 60= .i .i64 (xs.length:Int)) (zg:an fr 61= .i .i64 0) (E4:be lh 57=⟨g,.cells (repl [.i .i64 0] xs.length) 0 false⟩) (o7:be lh 7=c7):
  DC pE 89 (.loop kW) ⟨fr,lh,sh⟩=some (o,⟨gr pE 89 kW fr lh sh,gp pE 89 kW fr lh sh,gn pE 89 kW fr lh sh⟩)∧
  ((∀e,r= .error e→an (gr pE 89 kW fr lh sh) 8= .i .i64 0∧an (gr pE 89 kW fr lh sh) 9= .i .i64 e)∧(∀ts,r= .ok ts→be (gp pE 89 kW fr lh sh) 57=⟨g,.cells (ints ts) 0 false⟩)∧
    be (gp pE 89 kW fr lh sh) 7=c7∧ ∃hJ,gn pE 89 kW fr lh sh=xx lT (gG l l.length) hJ∧wY l hJ∧ ∀i,n≤i→fO hJ i=fO kn i):=by
 have _:=hl
 refine fq (P:=fun fR fH fL=>(∀e,r= .error e→an fR 8= .i .i64 0∧an fR 9= .i .i64 e)∧(∀ts,r= .ok ts→be fH 57=⟨g,.cells (ints ts) 0 false⟩)∧be fH 7=c7∧ ∃hJ,fL=xx lT (gG l l.length) hJ∧wY l hJ∧ ∀i,n≤i→fO hJ i=fO kn i)
  (fw (fun k st=> ∃(fr:Fr) (fG:fC fg) (ts:List Int) (G8:List (Nat×Int)),st=⟨fr,fG,xx lT (gG l l.length) G8⟩∧an fr 0= .ptr .S 2 1 0∧an fr 1= .i .i64 scope∧an fr 2= .i .i64 (n:Int)∧an fr 14= .isl .L 57 g 0 xs.length 1∧an fr 59=a∧an fr 60= .i .i64 (xs.length:Int)∧an fr 61= .i .i64 (k:Int)∧be fG 7=c7∧
    be fG 57=⟨g,.cells (ints ts++repl [.i .i64 0] (xs.length-k)) 0 false⟩∧ts.length=k∧r=EM ts (pB (C4 l n) scope (xs.drop k))∧wY l G8∧ ∀i,n≤i→fO G8 i=fO kn i) _ xs.length ?_ ?_ 0 _ (Nat.zero_le _) ⟨fr,lh,[],kn,by rw[jh],h0,h1,h2,iM,zf,x9,zg,o7,by rw[E4];rfl,rfl,by rw[hr,List.drop_zero];cases pB (C4 l n) scope xs <;> rfl,nz,fun _ _=>rfl⟩)
 ·rintro k _ NH ⟨fr,fG,ts,G8,rfl,h0,h1,h2,iM,zf,x9,zg,o7,E4,uI,lN,Jn,Hr⟩
  have fK:(k:Int)<xs.length:=by omega
  have Gc:=ju xs
  have hyk:=mP (List.getElem_mem NH)
  have hw:=fQ (k:=k) (ku (by omega))
  obtain⟨b,cb,rr,fF,iK,oS,hb⟩:=nw ha hx k NH
  obtain⟨KL,fu,Wd,We⟩:=ih xs[k] (List.getElem_mem NH) G8 Jn _ hb (by omega) (zE.1 uE _ (List.getElem_mem NH))
  rw[Hn NH]at lN
  by_cases hf:(xs[k].ty (C4 l n) scope).2=0
  ·left
   rw[if_neg (by simp[hf]),Dq]at lN
   generalize xs[k].ty (C4 l n) scope=q at fu hf lN
   obtain⟨q1,q2⟩:=q
   simp only at fu hf lN
   subst hf
   have SJ:(ints ts++repl [T.i .i64 0] (xs.length-k)).length=xs.length:=by rw[List.length_append,qo,BG,uI];simp;omega
   have Nq:splice (ints ts++repl [T.i .i64 0] (xs.length-k)) k [.i .i64 q1]=ints (ts++ [q1])++repl [T.i .i64 0] (xs.length-(k+1)):=by
    rw[show xs.length-k=(xs.length-(k+1))+1 by omega,yf,BF (ints ts) [T.i .i64 0] _ [T.i .i64 q1] k (by rw[qo];exact uI) rfl,Hp]
   have abM:k+1≤xs.length:=by omega
   simp(maxDischargeDepth:=6) only[qA,seval,iP,kW,h0,h1,h2,iM,zf,x9,zg,E4,fK,fF,hw,fu,OP,iK.kept1,NH,SJ,Nq,abM]
   refine⟨_,rfl,_,_,ts++ [q1],KL,rfl, ?_, ?_, ?_, ?_, ?_, ?_, ?_, ?_, ?_,by simp[uI],lN,Wd,fun i hi=>by rw[We i hi,Hr i hi]⟩
   all_goals first|(simp(maxDischargeDepth:=6) only[qA,seval,h0,h1,h2,iM,zf,x9,o7];done)|skip
  ·right
   rw[if_pos (by simp[hf])]at lN
   generalize xs[k].ty (C4 l n) scope=q at fu hf lN
   obtain⟨q1,q2⟩:=q
   simp only at fu hf lN
   simp(maxDischargeDepth:=6) only[qA,seval,iP,kW,h0,h1,h2,zf,x9,zg,fK,fF,fu,OP,iK.kept1,hf]
   refine⟨_,_,(by simp:Out.ret≠ .nrm),rfl,by rw[ho,lN];rfl,fun e he=> ?_,fun t ht=>(by rw[lN]at ht;cases ht),by simp(maxDischargeDepth:=6) only[qA,seval,o7],KL,rfl,Wd,fun i hi=>by rw[We i hi,Hr i hi]⟩
   rw[lN]at he
   cases he
   exact⟨by simp(maxDischargeDepth:=6) only[qA,seval],by simp(maxDischargeDepth:=6) only[qA,seval]⟩
 ·rintro _ ⟨fr,fG,ts,G8,rfl,h0,h1,h2,iM,zf,x9,zg,o7,E4,uI,lN,Jn,Hr⟩
  rw[List.drop_length,pB,EM,List.append_nil]at lN
  rw[Nat.sub_self,show repl [T.i .i64 0] 0= []from rfl,List.append_nil]at E4
  simp(maxDischargeDepth:=6) only[qA,seval,kW,x9,zg,Int.lt_irrefl]
  refine⟨_,_,(by simp:Out.ext 0≠ .nrm),rfl,by rw[ho,lN];rfl,fun e he=>(by rw[lN]at he;cases he),fun t ht=> ?_,o7,G8,rfl,Jn,Hr⟩
  rw[lN]at ht
  cases ht
  exact E4
include kg hlen
theorem abN(n:Nat)(FZ:n≤l.length)(hc: ∀j,j<n→abL l lT j)(scope:Int)(x:Ex):ajC l lT n scope x:=by
 have _:=hlen
 have _:=kg
 induction x using Ex.ind with
 |h x ih=>
  intro kn nz cs hx hn uE
  obtain⟨a,cc,rfl,ha,Bb⟩:=hx.cells
  rw[fx Xs (by simp[zY]),Ex.ty_eq]
  have hnd:=x.nodes_eq
  rw[Ex.wf_eq,Bool.and_eq_true]at uE
  obtain⟨lU,E3⟩:=uE
  have mW:=GA scope x.name
  have L1:=ju x.args
  have Ho:x.args.length≤om:=ku (by omega)
  simp only[nE,Bool.and_eq_true,decide_eq_true_eq]at lU
  obtain⟨abH,abI,iA,_,_⟩:=lU
  by_cases h6:x.op=6
  ·rw[if_pos h6]
   unfold tS at mW
   by_cases hz:jc scope x.name=0
   ·rw[if_neg (by simp[hz])]
    rw[if_pos hz,hz]at mW
    have ja:=lkS (gG l l.length) x.name
    rw[uG l x.name l.length (Nat.le_refl _),List.take_length]at ja
    have SI:C4 l n x.name=match jl l x.name with|some i=>if i<n then tq l i else(0,6)|none=>(0,6):=by
     unfold C4 xh
     rw[yc]
     cases hi:jl l x.name with
     |none=>rfl
     |some i=>
      simp only
      by_cases tp:i<n
      ·rw[if_pos tp,if_pos tp];exact BH l FZ tp
      ·rw[if_neg tp,if_neg tp]
    rw[SI]
    cases hi:jl l x.name with
    |none=>
     rw[hi]at ja
     unfold NK at ja
     simp(maxDischargeDepth:=6) only[qA,seval,zY,h6,mW,Cn,YK,ch0,gI,ja]
     exact⟨kn,rfl,nz,fun _ _=>rfl⟩
    |some i=>
     rw[hi]at ja
     rw[show NK (some i)= .tup [.i .i64 (i:Int),.b true]from rfl]at ja
     by_cases tp:i<n
     ·obtain⟨hJ,fu,mY,Sa⟩:=hc i tp kn nz
      have abO:(i:Int)<n:=by omega
      simp only[tp,if_true]
      simp(maxDischargeDepth:=6) only[qA,seval,iP,zY,h6,mW,Cn,YK,ch0,gI,ja,abO,fu,Ow]
      exact⟨hJ,rfl,mY,fun j hj=>Sa j (by omega)⟩
     ·have abO: ¬(i:Int)<n:=by omega
      simp only[tp,if_false]
      simp(maxDischargeDepth:=6) only[qA,seval,zY,h6,mW,Cn,YK,ch0,gI,ja,abO]
      exact⟨kn,rfl,nz,fun _ _=>rfl⟩
   ·rw[if_pos hz]
    rw[if_neg hz]at mW
    simp(maxDischargeDepth:=6) only[qA,seval,zY,h6,mW,Cn]
    exact⟨kn,rfl,nz,fun _ _=>rfl⟩
  ·rw[if_neg h6]
   have hL:=fun c7 fr lh sh jh h0 h1 h2 iM zf x9 zg E4 o7=>aou l lT cl hl n scope x.args (fun y hy=>ih y hy) a cc ha Bb (by omega) E3 kn nz _ rfl _ rfl 1 c7 fr lh sh jh h0 h1 h2 iM zf x9 zg E4 o7
   have hmk:x.args.length*8≤roomy∧x.args.length≤roomy:=by unfold om at Ho;unfold roomy;omega
   have hS:=fun c7 fr lh sh jh h0 h1 h2 iM zf x9 zg E4 o7=>(hL c7 fr lh sh jh h0 h1 h2 iM zf x9 zg E4 o7).2.2.2.2
   cases hr:pB (C4 l n) scope x.args with
   |error e=>
    have hL':=fun c7 fr lh sh jh h0 h1 h2 iM zf x9 zg E4 o7=>And.intro (hL c7 fr lh sh jh h0 h1 h2 iM zf x9 zg E4 o7).1 ((hL c7 fr lh sh jh h0 h1 h2 iM zf x9 zg E4 o7).2.1 e hr)
    simp only[hr,Jl]at hL'
    simp(maxDischargeDepth:=6) only[qA,seval,zY,h6,ha.lenI,hmk,hL']
    generalize hX:gn _ _ _ _ _ _=X
    obtain⟨hJ,e1,e2,e3⟩: ∃hJ,X=xx lT (gG l l.length) hJ∧wY l hJ∧ ∀i,n≤i→fO hJ i=fO kn i:=by
     rw[←hX]
     refine hS _ _ _ _ rfl ?_ ?_ ?_ ?_ ?_ ?_ ?_ ?_ rfl <;> simp(maxDischargeDepth:=6) only[qA,seval]
    rw[e1];exact⟨hJ,rfl,e2,e3⟩
   |ok ts=>
    have BD:=xm hr
    have hL':=fun c7 fr lh sh jh h0 h1 h2 iM zf x9 zg E4 o7=>And.intro (hL c7 fr lh sh jh h0 h1 h2 iM zf x9 zg E4 o7).1 (hL c7 fr lh sh jh h0 h1 h2 iM zf x9 zg E4 o7).2.2.2.1
    have hF:=fun c7 fr lh sh jh h0 h1 h2 iM zf x9 zg E4 o7=>(hL c7 fr lh sh jh h0 h1 h2 iM zf x9 zg E4 o7).2.2.1 ts hr
    have qP:(ints ts).length=x.args.length:=by rw[qo,BD]
    have hit:List.take x.args.length (ints ts)=ints ts:=List.take_of_length_le (by omega)
    simp only[hr,Jl]at hL'
    have wz:=Jj x.op ts (.sl (ints ts) x.args.length false) (Or.inr ⟨false,by rw[BD]⟩) (by rw[BD];exact Ho) abH abI h6 (by rw[BD];exact iA)
    by_cases hz:kO x.op ts=0
    ·rw[hz]at wz
     simp(maxDischargeDepth:=6) only[qA,seval,zY,Ck,h6,ha.lenI,hmk,hL' ⟨1,.cells [.i .i64 x.op,.i .i64 x.num,.s x.name,a] 0 true⟩,hF ⟨1,.cells [.i .i64 x.op,.i .i64 x.num,.s x.name,a] 0 true⟩,wz,XJ,hz,qP,hit]
     generalize hX:gn _ _ _ _ _ _=X
     obtain⟨hJ,e1,e2,e3⟩: ∃hJ,X=xx lT (gG l l.length) hJ∧wY l hJ∧ ∀i,n≤i→fO hJ i=fO kn i:=by
      rw[←hX]
      refine hS _ _ _ _ rfl ?_ ?_ ?_ ?_ ?_ ?_ ?_ ?_ rfl <;> simp(maxDischargeDepth:=6) only[qA,seval]
     rw[e1];exact⟨hJ,rfl,e2,e3⟩
    ·simp(maxDischargeDepth:=6) only[qA,seval,zY,Ck,h6,ha.lenI,hmk,hL' ⟨1,.cells [.i .i64 x.op,.i .i64 x.num,.s x.name,a] 0 true⟩,hF ⟨1,.cells [.i .i64 x.op,.i .i64 x.num,.s x.name,a] 0 true⟩,wz,XJ,hz,qP,hit]
     generalize hX:gn _ _ _ _ _ _=X
     obtain⟨hJ,e1,e2,e3⟩: ∃hJ,X=xx lT (gG l l.length) hJ∧wY l hJ∧ ∀i,n≤i→fO hJ i=fO kn i:=by
      rw[←hX]
      refine hS _ _ _ _ rfl ?_ ?_ ?_ ?_ ?_ ?_ ?_ ?_ rfl <;> simp(maxDischargeDepth:=6) only[qA,seval]
     rw[e1];exact⟨hJ,rfl,e2,e3⟩
end
end Go.Proofs.YtblcbheipjeoeaaGreat
namespace Go.Proofs.YtblcbheipjeoeaaGreat
open Go Go.Ev
theorem oP{x:Ex}(hv:fP x=0):x.wf=true:=by
 unfold fP at hv
 by_cases wy:big x
 ·rw[if_pos wy]at hv;cases hv
 ·rw[if_neg wy]at hv
  cases hx:x.wf with
  |true=>rfl
  |false=>rw[hx]at hv;cases hv
section
variable(l:Cs)(lT:T)(cl:List T)(hl:fD lT l.length cl)(kg:iR l cl)(hlen:l.length≤om)(oh:Q1 l)
include hl kg hlen
def MU(n:Nat)(scope:Int)(x:Ex):Int×Int:=if fP x≠0 then(0,fP x)else x.ty (C4 l n) scope
theorem Q6(n:Nat)(FZ:n≤l.length)(hc: ∀j,j<n→abL l lT j)(scope:Int)(x:Ex)(cs:List T)(hx:jY x cs)(hn:0≤x.nodes)(hs:x.sm)(kn:List (Nat×Int))(nz:wY l kn):
  ∃hJ,fj pE 231 [.ptr .S 2 1 0,.i .i64 scope,.i .i64 (n:Int),.agg cs] (xx lT (gG l l.length) kn)=some (.tup [.i .i64 (MU l n scope x).1,.i .i64 (MU l n scope x).2],xx lT (gG l l.length) hJ)∧wY l hJ∧ ∀i,n≤i→fO hJ i=fO kn i:=by
 have hval:=fun z fr lh sh=>rX (z:=z) (fr:=fr) (lh:=lh) (sh:=sh) x cs hx hn hs
 have ajE:=fun h=>abN l lT cl hl kg hlen n FZ hc scope x kn nz cs hx h
 obtain⟨a,cc,rfl,ha,Bb⟩:=hx.cells
 rw[fx W8 (by simp[LF])]
 unfold MU
 by_cases hv:fP x=0
 ·rw[if_neg (by simp[hv])]
  obtain⟨hJ,fu,h2,h3⟩:=ajE (by have:=Bz hv;omega) (oP hv)
  rw[hv]at hval
  simp(maxDischargeDepth:=6) only[qA,seval,iP,LF,hval,fu,OP,ha.kept1]
  exact⟨hJ,rfl,h2,h3⟩
 ·rw[if_pos hv]
  generalize fP x=e at hval hv ⊢
  simp(maxDischargeDepth:=6) only[qA,seval,LF,hval,hv]
  exact⟨kn,rfl,nz,fun _ _=>rfl⟩
include oh
theorem Q7: ∀j,j<l.length→abL l lT j:=by
 intro j
 induction j using Nat.strongRecOn with
 |ind j ih=>
  intro hj kn nz
  obtain⟨b,cb,r,fF,iK,oS,hb⟩:=jZ hl kg j hj
  obtain⟨HD,A9⟩:=oh l[j] (List.getElem_mem hj)
  obtain⟨hJ,fu,mY,Sa⟩:=Q6 l lT cl hl kg hlen j (by omega) (fun i hi=>ih i hi (by omega)) 0 l[j].2 _ hb HD A9 kn nz
  have B4:tq l j=MU l j 0 l[j].2:=by rw[Ej l hj];rfl
  rw[←B4]at fu
  have Wf:(tq l j).2≠0→(tq l j).1=0:=by
   unfold tq
   rw[List.getD_eq_getElem?_getD,List.getElem?_eq_getElem (by rw[lE];exact hj)]
   exact BI l _ _ (List.getElem_mem _)
  have ja:mX (.one .int) (kn.map fun p=>nK p.1) (kn.map fun p=>iV p.2) (.i .i64 (j:Int)) (.i .i64 0) true=_:=aaN (kT:=nK) (vT:=iV) Wb (fun _=>rfl) kn j (.i .i64 0)
  rw[fx WH (by simp[HP])]
  cases hq:fO kn j with
  |some t=>
   obtain⟨_,ht⟩:=nz j t hq
   rw[hq]at ja
   simp only[show iV t= .i .i64 t from rfl]at ja
   rw[ht]
   simp(maxDischargeDepth:=6) only[qA,seval,HP,YK,ch1,gI,ja]
   exact⟨kn,rfl,nz,fun _ _=>rfl⟩
  |none=>
   rw[hq]at ja
   generalize he:tq l j=q at fu Wf ⊢
   obtain⟨q1,q2⟩:=q
   simp only at fu Wf ⊢
   by_cases h0:q2=0
   ·subst h0
    have lU:fO hJ j=none:=by rw[Sa j (Nat.le_refl _),hq]
    have j5:pH (.one .int) (.i .i64 (j:Int)) (.i .i64 q1) (hJ.map fun p=>nK p.1) (hJ.map fun p=>iV p.2)=_:=wQ (kT:=nK) (vT:=iV) Wb hJ j q1 lU
    simp(maxDischargeDepth:=6) only[qA,seval,iP,HP,YK,ch1,gI,ja,fF,iK.kept1,fu,Fy,Yl,j5,aos]
    refine⟨_,rfl, ?_, ?_⟩
    ·intro i t hi
     rw[pU]at hi
     cases Pp:fO hJ i with
     |some u=>rw[Pp]at hi;cases hi;exact mY i _ Pp
     |none=>
      rw[Pp]at hi
      simp only at hi
      split at hi
      ·rename_i e;subst e;cases hi;exact⟨hj,he⟩
      ·cases hi
    ·intro i hi
     rw[pU,Sa i (by omega)]
     cases fO kn i with
     |some u=>rfl
     |none=>simp only;rw[if_neg (by omega)]
   ·rw[Wf h0]
    rw[Wf h0]at fu
    simp(maxDischargeDepth:=6) only[qA,seval,iP,HP,YK,ch1,gI,ja,fF,iK.kept1,fu,Fy,h0]
    exact⟨hJ,rfl,mY,fun i hi=>Sa i (by omega)⟩
end
end Go.Proofs.YtblcbheipjeoeaaGreat
namespace Go.Proofs.YtblcbheipjeoeaaGreat
open Go Go.Ev
def bd(n:Int):Prop:= -1099511627776≤n∧n≤1099511627776
theorem pC{x y:Bool}:tB (.one .bool) (.b x) (.b y)=some (x==y):=rfl
theorem uH(n:Int):bd (gN n):=by unfold bd gN;omega
theorem Ng{n:Int}(h:bd n):gN n=n:=by unfold bd at h;unfold gN;omega
theorem Nh(n:Int):(if(if n<1099511627776 then n else(1099511627776:Int))> -1099511627776 then(if n<1099511627776 then n else(1099511627776:Int))else-1099511627776)=gN n:=by
 unfold gN;split <;> split <;> omega
theorem yh(n:Int):fj pE 191 [.i .i64 n] []=some (.i .i64 (gN n),[]):=by
 rw[fx WT (by simp[NZ]),←Nh]
 simp(maxDischargeDepth:=6) only[qA,seval,NZ]
theorem abP{a b:Int}(ha:bd a)(hb:bd b):wr .i64 (a+b)=a+b:=by unfold bd at *; exact kM ⟨by omega,by omega⟩
theorem Sb{a:Int}(ha:bd a):wr .i64 (0-a)= -a:=by unfold bd at *; rw[kM ⟨by omega,by omega⟩];omega
theorem EN{a:Int}(ha:bd a):bd (-a):=by unfold bd at *; omega
theorem EO{a b:Int}(ha:bd a)(hb:bd b):fj pE 194 [.i .i64 a,.i .i64 b] []=some (.i .i64 (gN (a+b)),[]):=by
 have hw:=abP ha hb
 have hc:=yh (a+b)
 clear ha hb
 rw[fx WU (by simp[Fg])]
 by_cases h1:0≤a
 ·have pJ: ¬a<0:=by omega
  by_cases h2:0≤b
  ·have h3: ¬a+b<0:=by omega
   simp(maxDischargeDepth:=6) only[qA,seval,Fg,hw,hc,vX,h1,pJ,h2,h3]
  ·simp(maxDischargeDepth:=6) only[qA,seval,Fg,hw,hc,vX,h1,pJ,h2]
 ·have pJ:a<0:=by omega
  by_cases h2:b<0
  ·have h3: ¬0≤a+b:=by omega
   simp(maxDischargeDepth:=6) only[qA,seval,Fg,hw,hc,vX,h1,pJ,h2,h3]
  ·simp(maxDischargeDepth:=6) only[qA,seval,Fg,hw,hc,vX,h1,pJ,h2]
theorem abQ{a:Int}(h:bd a)(h0: ¬a<0):wr .u64 a=(a.natAbs:Int):=by unfold bd at h;rw[uX ⟨by omega,by omega⟩];omega
theorem ajF(n:Int):IntKind.wrap .u64 n=n%18446744073709551616:=by
 unfold IntKind.wrap
 have hb:(IntKind.u64).bits=64:=rfl
 simp only[hb]
 rw[if_neg (by simp[IntKind.signed])]
 rfl
theorem EP(n:Int):wr .u64 n=n%18446744073709551616:=by
 show(if(0:Int)≤n∧n≤18446744073709551615 then n else IntKind.wrap .u64 n)=_
 rw[ajF]
 split <;> omega
theorem Wg{a:Int}(h:bd a)(h0:a<0):wr .u64 (0-wr .u64 a)=(a.natAbs:Int):=by
 unfold bd at h
 rw[EP,EP];omega
theorem K7{a:Int}(h:bd a):fj pE 286 [.i .i64 a] []=some (.i .u64 (a.natAbs:Int),[]):=by
 rw[fx Xw (by simp[LJ])]
 by_cases h0:a<0
 ·have hw:=Wg h h0
  simp(maxDischargeDepth:=6) only[qA,seval,LJ,h0,hw]
 ·have hw:=abQ h h0
  simp(maxDischargeDepth:=6) only[qA,seval,LJ,h0,hw]
end Go.Proofs.YtblcbheipjeoeaaGreat
namespace Go.Proofs.YtblcbheipjeoeaaGreat
open Go Go.Ev
theorem ajG(P Q R S:Int)(hP:0≤P)(hQ:0≤Q)(hR:0≤R)(hS:0≤S):
  S+(Q+P/4294967296)/4294967296+((Q+P/4294967296)%4294967296+R)/4294967296=(S*18446744073709551616+(Q+R)*4294967296+P)/18446744073709551616:=by
 have e1:S*18446744073709551616+(Q+R)*4294967296+P=((S*4294967296+(Q+R))*4294967296+P):=by omega
 have e2:(18446744073709551616:Int)=4294967296*4294967296:=by decide
 rw[e1,e2,←Int.ediv_ediv_of_nonneg (by decide)]
 have e3:((S*4294967296+(Q+R))*4294967296+P)/4294967296=S*4294967296+(Q+R)+P/4294967296:=by
  rw[Int.add_comm,Int.add_mul_ediv_right _ _ (by decide)];omega
 rw[e3]
 generalize P/4294967296=p
 have e4:S*4294967296+(Q+R)+p=(Q+p+R)+S*4294967296:=by omega
 rw[e4,Int.add_mul_ediv_right _ _ (by decide)]
 generalize Q+p=t
 have e5:t+R=(t%4294967296+R)+(t/4294967296)*4294967296:=by omega
 rw[e5,Int.add_mul_ediv_right _ _ (by decide)]
 omega
theorem Jo(x1 x0 y1 y0 c:Int):(x1*c+x0)*(y1*c+y0)=x1*y1*(c*c)+(x1*y0+x0*y1)*c+x0*y0:=by
 have a1:x1*c*(y1*c)=x1*y1*(c*c):=by ac_rfl
 have a2:x1*c*y0=x1*y0*c:=Int.mul_right_comm _ _ _
 have a3:x0*(y1*c)=x0*y1*c:=(Int.mul_assoc _ _ _).symm
 rw[Int.add_mul,Int.mul_add,Int.mul_add,Int.add_mul,a1,a2,a3]
 omega
theorem ER{a b A B:Int}(ha:0≤a)(hb:0≤b)(hA:a≤A)(hB:b≤B):0≤a*b∧a*b≤A*B:=
 ⟨Int.mul_nonneg ha hb,Int.mul_le_mul hA hB hb (by omega)⟩
theorem Sc(X Y:Nat)(hX:X≤1099511627776)(hY:Y≤1099511627776):fj pE 285 [.i .u64 (X:Int),.i .u64 (Y:Int)] []=some (.tup [.i .u64 ((X:Int)*Y/18446744073709551616),.i .u64 ((X:Int)*Y%18446744073709551616)],[]):=by
 obtain⟨x1,ZJ⟩: ∃x1,x1=(X:Int)/4294967296:=⟨_,rfl⟩
 obtain⟨x0,hx0⟩: ∃x0,x0=(X:Int)%4294967296:=⟨_,rfl⟩
 obtain⟨y1,SG⟩: ∃y1,y1=(Y:Int)/4294967296:=⟨_,rfl⟩
 obtain⟨y0,hy0⟩: ∃y0,y0=(Y:Int)%4294967296:=⟨_,rfl⟩
 have hX':(X:Int)=x1*4294967296+x0:=by omega
 have hY':(Y:Int)=y1*4294967296+y0:=by omega
 have bx1:0≤x1∧x1≤256:=by omega
 have bx0:0≤x0∧x0≤4294967295:=by omega
 have by1:0≤y1∧y1≤256:=by omega
 have by0:0≤y0∧y0≤4294967295:=by omega
 have uR:(X:Int)*Y=x1*y1*18446744073709551616+(x1*y0+x0*y1)*4294967296+x0*y0:=by
  rw[hX',hY'];exact Jo x1 x0 y1 y0 4294967296
 have bP:=ER bx0.1 by0.1 bx0.2 by0.2
 have bQ:=ER bx1.1 by0.1 bx1.2 by0.2
 have bR:=ER bx0.1 by1.1 bx0.2 by1.2
 have bS:=ER bx1.1 by1.1 bx1.2 by1.2
 have w0:wr .u64 (x0*y0)=x0*y0:=uX ⟨bP.1,Int.le_trans bP.2 (by decide)⟩
 have w1:wr .u64 (x1*y0)=x1*y0:=uX ⟨bQ.1,Int.le_trans bQ.2 (by decide)⟩
 have w2:wr .u64 (x0*y1)=x0*y1:=uX ⟨bR.1,Int.le_trans bR.2 (by decide)⟩
 have w3:wr .u64 (x1*y1)=x1*y1:=uX ⟨bS.1,Int.le_trans bS.2 (by decide)⟩
 have hhi:=ajG (x0*y0) (x1*y0) (x0*y1) (x1*y1) bP.1 bQ.1 bR.1 bS.1
 rw[←uR]at hhi
 have wlo:=EP ((X:Int)*Y)
 rw[fx Xv (by simp[Og]),←hhi]
 generalize hP:x0*y0=P at bP w0
 generalize hQ:x1*y0=Q at bQ w1
 generalize hR:x0*y1=R at bR w2
 generalize hS:x1*y1=S at bS w3
 have w4:wr .u64 (Q+P/4294967296)=Q+P/4294967296:=uX ⟨by omega,by omega⟩
 have w5:wr .u64 ((Q+P/4294967296)%4294967296+R)=(Q+P/4294967296)%4294967296+R:=uX ⟨by omega,by omega⟩
 have w6:wr .u64 (S+(Q+P/4294967296)/4294967296)=S+(Q+P/4294967296)/4294967296:=uX ⟨by omega,by omega⟩
 have w7:wr .u64 (S+(Q+P/4294967296)/4294967296+((Q+P/4294967296)%4294967296+R)/4294967296)=S+(Q+P/4294967296)/4294967296+((Q+P/4294967296)%4294967296+R)/4294967296:=uX ⟨by omega,by omega⟩
 simp(maxDischargeDepth:=6) only[qA,seval,Og,Vc,Vd,←hx0,←ZJ,←hy0,←SG,hP,hQ,hR,hS,w0,w1,w2,w3,w4,w5,w6,w7,wlo]
theorem Jp{a:Int}(h:bd a):a.natAbs≤1099511627776:=by unfold bd at h;omega
theorem Wh(a b:Int):(a.natAbs:Int)*(b.natAbs:Int)=((a*b).natAbs:Int):=by rw[Int.natAbs_mul];omega
theorem Sd{a b:Int}(h:(a<0∧ ¬b<0)∨(¬a<0∧b<0)):a*b≤0:=by
 rcases h with⟨h1,h2⟩|⟨h1,h2⟩
 ·exact Int.mul_nonpos_of_nonpos_of_nonneg (by omega) (by omega)
 ·exact Int.mul_nonpos_of_nonneg_of_nonpos (by omega) (by omega)
theorem Ni{a b:Int}(h:(a<0∧b<0)∨(¬a<0∧ ¬b<0)):0≤a*b:=by
 rcases h with⟨h1,h2⟩|⟨h1,h2⟩
 ·exact Int.mul_nonneg_of_nonpos_of_nonpos (by omega) (by omega)
 ·exact Int.mul_nonneg (by omega) (by omega)
theorem K8{a b:Int}(ha:bd a)(hb:bd b):fj pE 258 [.i .i64 a,.i .i64 b] []=some (.i .i64 (gN (a*b)),[]):=by
 have h1:=K7 ha
 have h2:=K7 hb
 have h3:=Sc a.natAbs b.natAbs (Jp ha) (Jp hb)
 rw[Wh]at h3
 have hs:= @Sd a b
 have hp:= @Ni a b
 rw[fx Xg (by simp[uJ])]
 generalize hx:a*b=x at*
 generalize xt:(x.natAbs:Int)/18446744073709551616=q1 at h3
 generalize wJ:(x.natAbs:Int)%18446744073709551616=q2 at h3
 have key:(if q1≠0 then(1099511627776:Int)else if 1099511627776<q2 then 1099511627776 else q2)=min (x.natAbs:Int) 1099511627776:=by
  split
  ·omega
  ·split <;> omega
 by_cases c1:q1=0
 ·by_cases c2:(1099511627776:Int)<q2
  ·rw[if_neg (by simp[c1]),if_pos c2]at key
   by_cases s1:a<0
   ·by_cases s2:b<0
    ·have:=hp (.inl ⟨s1,s2⟩)
     have e:gN x=1099511627776:=by unfold gN;omega
     simp(maxDischargeDepth:=6) only[qA,seval,uJ,h1,h2,h3,sY,sX,c1,c2,s1,s2,pC,e];rfl
    ·have:=hs (.inl ⟨s1,s2⟩)
     have e:gN x= -1099511627776:=by unfold gN;omega
     simp(maxDischargeDepth:=6) only[qA,seval,uJ,h1,h2,h3,sY,sX,c1,c2,s1,s2,pC,e];rfl
   ·by_cases s2:b<0
    ·have:=hs (.inr ⟨s1,s2⟩)
     have e:gN x= -1099511627776:=by unfold gN;omega
     simp(maxDischargeDepth:=6) only[qA,seval,uJ,h1,h2,h3,sY,sX,c1,c2,s1,s2,pC,e];rfl
    ·have:=hp (.inr ⟨s1,s2⟩)
     have e:gN x=1099511627776:=by unfold gN;omega
     simp(maxDischargeDepth:=6) only[qA,seval,uJ,h1,h2,h3,sY,sX,c1,c2,s1,s2,pC,e];rfl
  ·rw[if_neg (by simp[c1]),if_neg c2]at key
   have w1:wr .i64 q2=q2:=kM ⟨by omega,by omega⟩
   have w2:wr .i64 (0-q2)= -q2:=by rw[kM ⟨by omega,by omega⟩];omega
   by_cases s1:a<0
   ·by_cases s2:b<0
    ·have:=hp (.inl ⟨s1,s2⟩)
     have e:gN x=q2:=by unfold gN;omega
     simp(maxDischargeDepth:=6) only[qA,seval,uJ,h1,h2,h3,sY,sX,c1,c2,s1,s2,pC,w1,w2,e];rfl
    ·have:=hs (.inl ⟨s1,s2⟩)
     have e:gN x= -q2:=by unfold gN;omega
     simp(maxDischargeDepth:=6) only[qA,seval,uJ,h1,h2,h3,sY,sX,c1,c2,s1,s2,pC,w1,w2,e];rfl
   ·by_cases s2:b<0
    ·have:=hs (.inr ⟨s1,s2⟩)
     have e:gN x= -q2:=by unfold gN;omega
     simp(maxDischargeDepth:=6) only[qA,seval,uJ,h1,h2,h3,sY,sX,c1,c2,s1,s2,pC,w1,w2,e];rfl
    ·have:=hp (.inr ⟨s1,s2⟩)
     have e:gN x=q2:=by unfold gN;omega
     simp(maxDischargeDepth:=6) only[qA,seval,uJ,h1,h2,h3,sY,sX,c1,c2,s1,s2,pC,w1,w2,e];rfl
 ·rw[if_pos c1]at key
  by_cases s1:a<0
  ·by_cases s2:b<0
   ·have:=hp (.inl ⟨s1,s2⟩)
    have e:gN x=1099511627776:=by unfold gN;omega
    simp(maxDischargeDepth:=6) only[qA,seval,uJ,h1,h2,h3,sY,sX,c1,s1,s2,pC,e];rfl
   ·have:=hs (.inl ⟨s1,s2⟩)
    have e:gN x= -1099511627776:=by unfold gN;omega
    simp(maxDischargeDepth:=6) only[qA,seval,uJ,h1,h2,h3,sY,sX,c1,s1,s2,pC,e];rfl
  ·by_cases s2:b<0
   ·have:=hs (.inr ⟨s1,s2⟩)
    have e:gN x= -1099511627776:=by unfold gN;omega
    simp(maxDischargeDepth:=6) only[qA,seval,uJ,h1,h2,h3,sY,sX,c1,s1,s2,pC,e];rfl
   ·have:=hp (.inr ⟨s1,s2⟩)
    have e:gN x=1099511627776:=by unfold gN;omega
    simp(maxDischargeDepth:=6) only[qA,seval,uJ,h1,h2,h3,sY,sX,c1,s1,s2,pC,e];rfl
end Go.Proofs.YtblcbheipjeoeaaGreat
namespace Go.Proofs.YtblcbheipjeoeaaGreat
open Go Go.Ev
theorem Se{a b:Int}(h:b≠0):Ev.bin .quo (.i .i64 a) (.i .i64 b)=some (.i .i64 (wr .i64 (a.tdiv b))):=by
 simp only[Ev.bin,if_true,tA,if_neg h]
theorem Sf{a b:Int}(h:b≠0):Ev.bin .rem (.i .i64 a) (.i .i64 b)=some (.i .i64 (a.tmod b)):=by
 simp only[Ev.bin,if_true,tA,if_neg h]
end Go.Proofs.YtblcbheipjeoeaaGreat
namespace Go.Proofs.YtblcbheipjeoeaaGreat
open Go Go.Ev
theorem bq5:((true==true) != true)=false:=nr rfl
theorem bq6:((false==false) != true)=false:=nr rfl
theorem bq7:((true==false) != true)=true:=nr rfl
theorem bq8:((false==true) != true)=true:=nr rfl
theorem Wi:bd (-1):=by unfold bd;omega
theorem Wj{a b:Int}(ha:bd a)(hb:bd b):fj pE 259 [.i .i64 a,.i .i64 b] []=some (.i .i64 (RH a b),[]):=by
 have hm:=K8 ha Wi
 rw[fx Xi (by simp[zX])]
 unfold RH
 by_cases b0:b=0
 ·subst b0
  simp(maxDischargeDepth:=6) only[qA,seval,zX]
 rw[if_neg b0]
 by_cases b1:b= -1
 ·subst b1
  have e:a.fdiv (-1)=a* -1:=by
   have:=Int.fdiv_neg (a:=a) (b:=1) (by decide)
   rw[if_pos (Int.one_dvd a),Int.fdiv_one]at this
   rw[this];omega
  rw[e]
  simp(maxDischargeDepth:=6) only[qA,seval,zX,hm,Xh]
 have hf:= @Int.fdiv_eq_tdiv a b
 have hd:= @Int.dvd_iff_tmod_eq_zero b a
 have hle:=Int.natAbs_tdiv_le_natAbs a b
 have Z1:=Jp ha
 have hqq:Ev.bin .quo (.i .i64 a) (.i .i64 b)=some (.i .i64 (a.tdiv b)):=by
  rw[Se b0,kM ⟨by omega,by omega⟩]
 have xo:=Sf (a:=a) b0
 have Ds:=yh (a.tdiv b)
 have HJ:=yh (a.tdiv b-1)
 have w1:wr .i64 (a.tdiv b-1)=a.tdiv b-1:=kM ⟨by omega,by omega⟩
 generalize a.tdiv b=q at*
 generalize a.tmod b=r at*
 by_cases r0:r=0
 ·have e:a.fdiv b=q:=by rw[hf,if_pos (hd.2 r0)];omega
  rw[e]
  simp(maxDischargeDepth:=6) only[qA,seval,zX,b0,b1,hqq,xo,r0,Ds,vX]
 ·rw[if_neg (fun h=>r0 (hd.1 h))]at hf
  by_cases s1:a<0
  ·by_cases s2:b<0
   ·have e:a.fdiv b=q:=by rw[hf,if_neg (by omega),if_neg (by omega),Int.sign_eq_neg_one_of_neg s2];omega
    rw[e]
    simp(maxDischargeDepth:=6) only[qA,seval,zX,b0,b1,hqq,xo,r0,Ds,vX,s1,s2,pC,bq5]
   ·have e:a.fdiv b=q-1:=by rw[hf,if_neg (by omega),if_pos (by omega),Int.sign_eq_one_of_pos (by omega)]
    rw[e]
    simp(maxDischargeDepth:=6) only[qA,seval,zX,b0,b1,hqq,xo,r0,HJ,vX,s1,s2,pC,bq7,w1]
  ·by_cases s2:b<0
   ·have e:a.fdiv b=q-1:=by rw[hf,if_pos (by omega),if_neg (by omega)]
    rw[e]
    simp(maxDischargeDepth:=6) only[qA,seval,zX,b0,b1,hqq,xo,r0,HJ,vX,s1,s2,pC,bq8,w1]
   ·have e:a.fdiv b=q:=by rw[hf,if_pos (by omega),if_pos (by omega)];omega
    rw[e]
    simp(maxDischargeDepth:=6) only[qA,seval,zX,b0,b1,hqq,xo,r0,Ds,vX,s1,s2,pC,bq6]
theorem Wk(a b:Int):bd (RH a b):=by
 unfold RH
 split
 ·unfold bd;omega
 ·exact uH _
end Go.Proofs.YtblcbheipjeoeaaGreat
namespace Go.Proofs.YtblcbheipjeoeaaGreat
open Go Go.Ev
def bit(n:Int):Prop:=n=0∨n=1
theorem abR{n:Int}(h:bit n):bd n:=by unfold bit at h;unfold bd;omega
theorem Nj(b:Bool):bit (xj b):=by cases b <;> simp[xj,bit]
theorem Jq(c f t:Int):fj pE 193 [.i .i64 c,.i .i64 f,.i .i64 t] []=some (.b (KP c f t),[]):=by
 rw[fx OF (by simp[Lw])]
 unfold KP
 by_cases h1:f≤t
 ·by_cases h2:f≤c <;> by_cases h3:c<t <;> simp(maxDischargeDepth:=6) only[qA,seval,Lw,h1,h2,h3]
 ·by_cases h2:f≤c <;> by_cases h3:c<t <;> simp(maxDischargeDepth:=6) only[qA,seval,Lw,h1,h2,h3,or_true,or_false,or_self]
theorem xp(b:Bool):fj pE 192 [.b b] []=some (.i .i64 (xj b),[]):=by
 rw[fx OE (by simp[N0])]
 cases b <;> simp(maxDischargeDepth:=6) only[qA,seval,N0,xj]
def Sg(op:Int):Int→List Int→Int:=if op=12 then abn else abo
theorem Hs(op m v:Int)(vs:List Int)(h:op=12∨op=13):Sg op m (v::vs)=Sg op (if op=12 then min m v else max m v) vs:=by
 unfold Sg
 rcases h with rfl|rfl <;> rfl
theorem K9(op m:Int):Sg op m []=m:=by unfold Sg;split <;> rfl
def vOk(op:Int)(vs:List Int):Prop:=(∀v∈vs,bd v)∧((op=19∨op=20∨op=21∨op=22)→ ∀v∈vs,bit v)∧(op=14→bit (a0 vs))
end Go.Proofs.YtblcbheipjeoeaaGreat
