/- Expressions compiled: the program's Compile and Constant. Constants' values: the program's Constant. The values of constants, as the reference finds them. Contracts as trees; what is wrong with a contract: plain definitions. The program's check of a contract's form: rules, windows. Conditions: the theorems' own. -/
import Derived.Test.YtblcbheipjeoeaaGreatM8
import Derived.KernelRfl
set_option maxRecDepth 100000
set_option linter.unusedSimpArgs false
set_option linter.unusedVariables false
set_option maxHeartbeats 16000000
namespace Go.Proofs.YtblcbheipjeoeaaGreat
open Go Go.Ev
section
variable(l:Cs)(lT:T)(R:List fg)(cl:List T)(hl:fD lT l.length cl)(kg:iR l cl)(hlen:l.length≤om)
theorem Es(n:Nat)(FZ:n≤l.length)(hc: ∀j,j<n→aj0 l lT R j)(scope:Int)(k6:scope=0∨scope=1∨scope=2∨scope=3)(x:Ex):ajZ l lT R n scope x:=by
 induction x using Ex.ind with
 |h x ih=>
  intro k kn cs nz hx hn uE ht
  obtain⟨a,cc,rfl,ha,Bb⟩:=hx.cells
  obtain⟨h1,h2,iA,Ju,BL,E3⟩:=zL uE
  have hnd:=x.nodes_eq
  rw[fx Zl (by simp[Fb]),qY]
  by_cases e1:x.op=1
  ·rw[if_pos (.inl e1)]
   simp(maxDischargeDepth:=6) only[qA,seval,Fb,e1]
   exact⟨_,kn,rfl,nC.of (x:= .mk 1 x.num []) (Or.inl ⟨rfl,rfl,rfl⟩) fZ.nil,nz,fun _ _=>rfl⟩
  by_cases e2:x.op=2
  ·rw[if_pos (.inr (.inl e2))]
   simp(maxDischargeDepth:=6) only[qA,seval,Fb,e2]
   exact⟨_,kn,rfl,nC.of (x:= .mk 1 x.num []) (Or.inl ⟨rfl,rfl,rfl⟩) fZ.nil,nz,fun _ _=>rfl⟩
  by_cases e3:x.op=3
  ·rw[if_pos (.inr (.inr e3))]
   simp(maxDischargeDepth:=6) only[qA,seval,Fb,e3]
   exact⟨_,kn,rfl,nC.of (x:= .mk 1 x.num []) (Or.inl ⟨rfl,rfl,rfl⟩) fZ.nil,nz,fun _ _=>rfl⟩
  rw[if_neg (by omega)]
  by_cases e4:x.op=4
  ·rw[if_pos e4]
   simp(maxDischargeDepth:=6) only[qA,seval,Fb,e4]
   exact⟨_,kn,rfl,nC.of (x:= .mk 1 1 []) (Or.inl ⟨rfl,rfl,rfl⟩) fZ.nil,nz,fun _ _=>rfl⟩
  rw[if_neg e4]
  by_cases e5:x.op=5
  ·rw[if_pos e5]
   simp(maxDischargeDepth:=6) only[qA,seval,Fb,e5]
   exact⟨_,kn,rfl,nC.of (x:= .mk 1 0 []) (Or.inl ⟨rfl,rfl,rfl⟩) fZ.nil,nz,fun _ _=>rfl⟩
  rw[if_neg e5]
  by_cases h6:x.op=6
  ·rw[if_pos h6]
   rw[Ex.ty_eq,if_pos h6]at ht
   have ja:=lkS (je (S5 scope) (S5 scope).length) x.name
   change _=some (NK (Rp scope x.name))at ja
   by_cases hz:jc scope x.name=0
   ·rw[if_neg (by simp[hz])]at ht
    have hp:=(BN scope x.name).2 hz
    rw[hp]at ja ⊢
    obtain⟨i,qP,tp,No,_,_,ab7,_⟩:=zN FZ ht
    obtain⟨hJ,fu,mY,AA⟩:=hc i tp x.name k kn No ab7 nz
    simp only[NK]at ja
    rcases k6 with rfl|rfl|rfl|rfl
    ·change mX _ ((je [] 0).map _) ((je [] 0).map _) _ _ _=_ at ja
     simp(maxDischargeDepth:=6) only[qA,seval,jz,iP,Fb,h6,EW,aoH,gI,ja,fu,JG]
     exact⟨_,hJ,rfl,nC.of (x:= .mk 1 (sa l x.name) []) (Or.inl ⟨rfl,rfl,rfl⟩) fZ.nil,mY,fun i hi=>AA i (by omega)⟩
    ·change mX _ ((je gZ 11).map _) ((je gZ 11).map _) _ _ _=_ at ja
     simp(maxDischargeDepth:=6) only[qA,seval,jz,iP,Fb,h6,EW,ajV,gI,ja,fu,JG]
     exact⟨_,hJ,rfl,nC.of (x:= .mk 1 (sa l x.name) []) (Or.inl ⟨rfl,rfl,rfl⟩) fZ.nil,mY,fun i hi=>AA i (by omega)⟩
    ·change mX _ ((je jv 25).map _) ((je jv 25).map _) _ _ _=_ at ja
     simp(maxDischargeDepth:=6) only[qA,seval,jz,iP,Fb,h6,EW,ajW,gI,ja,fu,JG]
     exact⟨_,hJ,rfl,nC.of (x:= .mk 1 (sa l x.name) []) (Or.inl ⟨rfl,rfl,rfl⟩) fZ.nil,mY,fun i hi=>AA i (by omega)⟩
    ·change mX _ ((je lz 7).map _) ((je lz 7).map _) _ _ _=_ at ja
     simp(maxDischargeDepth:=6) only[qA,seval,jz,iP,Fb,h6,EW,ajX,gI,ja,fu,JG]
     exact⟨_,hJ,rfl,nC.of (x:= .mk 1 (sa l x.name) []) (Or.inl ⟨rfl,rfl,rfl⟩) fZ.nil,mY,fun i hi=>AA i (by omega)⟩
   ·cases hp:Rp scope x.name with
    |none=>exact absurd ((BN scope x.name).1 hp) hz
    |some i=>
     rw[hp]at ja
     rw[show NK (some i)= .tup [.i .i64 (i:Int),.b true]from rfl]at ja
     have hf:nC (.mk 6 (i:Int) []) [.i .i64 6,.i .i64 (i:Int),.nilsl]:=nC.of (x:= .mk 6 (i:Int) []) (Or.inl ⟨rfl,rfl,rfl⟩) fZ.nil
     rcases k6 with rfl|rfl|rfl|rfl
     ·exact absurd (ra _) hz
     ·change mX _ ((je gZ 11).map _) ((je gZ 11).map _) _ _ _=_ at ja
      simp(maxDischargeDepth:=6) only[qA,seval,jz,Fb,h6,EW,ajV,gI,ja]
      exact⟨_,kn,rfl,hf,nz,fun _ _=>rfl⟩
     ·change mX _ ((je jv 25).map _) ((je jv 25).map _) _ _ _=_ at ja
      simp(maxDischargeDepth:=6) only[qA,seval,jz,Fb,h6,EW,ajW,gI,ja]
      exact⟨_,kn,rfl,hf,nz,fun _ _=>rfl⟩
     ·change mX _ ((je lz 7).map _) ((je lz 7).map _) _ _ _=_ at ja
      simp(maxDischargeDepth:=6) only[qA,seval,jz,Fb,h6,EW,ajX,gI,ja]
      exact⟨_,kn,rfl,hf,nz,fun _ _=>rfl⟩
  ·rw[if_neg h6]
   obtain⟨ts,uI,hr,hk⟩:=zK ht h6
   have L1:=ju x.args
   have Ho:x.args.length≤om:=ku (by omega)
   have hmk:x.args.length*40≤roomy∧x.args.length≤roomy:=by unfold om at Ho;unfold roomy;omega
   have HI:=fun fr lh sh jh h0 h1 h9 uM Dv EX o6 o9 Dw=>aoJ l lT R n scope x.args (fun y hy=>ih y hy) a cc ha Bb (by omega) E3 ts uI kn nz (.i .i64 x.op) 1 1 ⟨1,.cells [.i .i64 0,.i .i64 0,.nilsl] 0 true⟩ fr lh sh jh h0 h1 h9 uM Dv EX o6 o9 Dw
   have hL:=fun fr lh sh jh h0 h1 h9 uM Dv EX o6 o9 Dw=>And.intro (HI fr lh sh jh h0 h1 h9 uM Dv EX o6 o9 Dw).1 (And.intro (HI fr lh sh jh h0 h1 h9 uM Dv EX o6 o9 Dw).2.1 (And.intro (HI fr lh sh jh h0 h1 h9 uM Dv EX o6 o9 Dw).2.2.1 (And.intro (QJ (HI fr lh sh jh h0 h1 h9 uM Dv EX o6 o9 Dw).2.2.2.1).1 (YS (HI fr lh sh jh h0 h1 h9 uM Dv EX o6 o9 Dw).2.2.2.2).1)))
   have hF:=fun fr lh sh jh h0 h1 h9 uM Dv EX o6 o9 Dw=>(QJ (HI fr lh sh jh h0 h1 h9 uM Dv EX o6 o9 Dw).2.2.2.1).2
   have hM:=fun fr lh sh jh h0 h1 h9 uM Dv EX o6 o9 Dw=>(YS (HI fr lh sh jh h0 h1 h9 uM Dv EX o6 o9 Dw).2.2.2.2).2
   have YT:=fun fr lh sh jh h0 h1 h9 uM Dv EX o6 o9 Dw=>(hF fr lh sh jh h0 h1 h9 uM Dv EX o6 o9 Dw).len
   have kg:(jQ (sa l) scope x.args).length=x.args.length:=by rw[pW];simp
   rw[kg]at YT
   simp(maxDischargeDepth:=6) only[qA,seval,gW,AZ,fU,nM,Fb,NV,e1,e2,e3,e4,e5,h6,ha.lenI,hmk,hL,YT]
   generalize hX:QI _ _=X
   generalize hMX:kL _ _ _ _ _ _=hJ
   have hXF:fZ (jQ (sa l) scope x.args) X:=by
    rw[←hX]
    refine hF _ _ _ rfl ?_ ?_ ?_ ?_ ?_ ?_ ?_ ?_ ?_ <;> simp(maxDischargeDepth:=6) only[qA,seval]
   have hMF:nN l hJ∧ ∀i,n≤i→fO hJ i=fO kn i:=by
    rw[←hMX]
    refine hM _ _ _ rfl ?_ ?_ ?_ ?_ ?_ ?_ ?_ ?_ ?_ <;> simp(maxDischargeDepth:=6) only[qA,seval]
   have hXl:=hXF.len
   rw[kg]at hXl
   rw[←hXl,List.take_length]
   exact⟨_,hJ,rfl,nC.of (x:= .mk x.op 0 (jQ (sa l) scope x.args)) (Or.inr ⟨false,by show T.sl X x.args.length false= .sl X (jQ (sa l) scope x.args).length false;rw[kg]⟩) hXF,hMF.1,hMF.2⟩
end
end Go.Proofs.YtblcbheipjeoeaaGreat
namespace Go.Proofs.YtblcbheipjeoeaaGreat
open Go Go.Ev
theorem qw{x:Ex}(hv:fP x=0):x.nodes≤200∧x.depth≤16:=by
 unfold fP at hv
 by_cases h:big x
 ·rw[if_pos h]at hv;cases hv
 ·unfold big at h;omega
theorem Sx{lh:fC fg}{sh:List fg}{keep:Bool}{k g wm:Nat}{cs:List T}{bx:Bool}(h:be lh k=⟨g,.cells cs wm bx⟩)(hc:cs.all froz1=true):fzV lh sh keep (.ptr .L k g 0)=some (.vp cs,[(.L,k,⟨g,.cells cs cs.length bx⟩)]):=by
 unfold fzV fJ
 have hk:(keep&&Sp.L==Sp.S)=false:=by cases keep <;> rfl
 show Q.run _ _ (if(keep&&Sp.L==Sp.S)=true then _ else _)=_
 rw[hk]
 simp only[Bool.false_eq_true,if_false,Q.run]
 have h':(St.mk .nil lh sh).get .L k=⟨g,.cells cs wm bx⟩:=h
 rw[h']
 simp only[if_true,List.drop_zero]
 have:gk (fz false 7) cs= .ret (cs,[]):=by
  clear h h'
  induction cs with
  |nil=>rfl
  |cons c cs ih=>
   rw[List.all_cons,Bool.and_eq_true]at hc
   simp only[gk,tK hc.1,ih hc.2,Q.bind,List.append_nil]
 rw[this]
 rfl
theorem const_comp{l:Cs}{s:List Nat}{t:Int}(h:I5 l s=(t,0)): ∃i,∃hi:i<l.length,jl l s=some i∧fP l[i].2=0∧l[i].2.ty (CL l i) 0=(t,0)∧S4 [] (comp (sa l) 0 l[i].2)∧(comp (sa l) 0 l[i].2).val []=sa l s∧sa l s=(Dt l l.length).getD i 0:=by
 obtain⟨i,hi,No,hv,ht,hta,HH,tp,_,sZ⟩:=Hv h
 have uE:=oP hv
 have hnd:=(l[i].2).nodes_eq
 have nL:=qw hv
 have h0:Sl (YQ (I5 l) 0) (Lf (sa l) 0 []):=by rw[ajR,YR];exact Jv l
 obtain⟨h1,h2,h3⟩:=Wo h0 rfl l[i].2 t uE (by omega) hta
 rw[YR]at h2 h3
 have hf:=(Lc (Jv l) 0 (fun s=>ra s) l[i].2 t uE hta).1
 have hf':So l 0 l[i].2=uP t (l[i].2.val0 (sa l)):=hf
 rw[HH]at hf'
 have e1:=(EU (scope:=0) tp).2.2
 have e2:=(EU (scope:=0) h3).2.2
 rw[←hf',e1]at e2
 exact⟨i,hi,No,hv,ht,h1,by rw[h2,e2],sZ⟩
section
variable(l:Cs)(lT:T)(R:List fg)(cl:List T)(hl:fD lT l.length cl)(kg:iR l cl)(hlen:l.length≤om)
include hl kg
theorem Et: ∀j,j<l.length→aj0 l lT R j:=by
 intro j
 induction j using Nat.strongRecOn with
 |ind j ih=>
  intro hj s t kn No ab7 nz
  obtain⟨j',HF,YU,hv,ht,vR,hval,sZ⟩:=const_comp ab7
  rw[No]at YU
  cases YU
  have Wp:=lkS (gG l l.length) s
  rw[uG l s l.length (Nat.le_refl _),List.take_length,No]at Wp
  rw[show NK (some j)= .tup [.i .i64 (j:Int),.b true]from rfl]at Wp
  have ja:mX (.one .int) (kn.map fun p=>nK p.1) (kn.map fun p=>iV p.2) (.i .i64 (j:Int)) (.i .i64 0) true=_:=aaN (kT:=nK) (vT:=iV) Wb (fun _=>rfl) kn j (.i .i64 0)
  rw[fx WJ (by simp[Lo])]
  cases hq:fO kn j with
  |some v=>
   have e:=nz j v hq
   rw[hq]at ja
   simp only[show iV v= .i .i64 v from rfl]at ja
   rw[sZ,←e]
   simp(maxDischargeDepth:=6) only[qA,seval,Lo,EW,ajT,ajU,gI,Wp,ja]
   exact⟨kn,rfl,nz,fun _ _=>rfl⟩
  |none=>
   rw[hq]at ja
   simp only at ja
   obtain⟨b,cb,r,fF,iK,oS,hb⟩:=jZ hl kg j hj
   obtain⟨cf,hJ,fu,uW,mY,AA⟩:=Es l lT R j (Nat.le_of_lt hj) (fun i hi=>ih i hi (by omega)) 0 (.inl rfl) l[j].2 t kn _ nz hb (qw hv).1 (oP hv) ht
   obtain⟨fa,fc,rfl,AX,hf2⟩:=uW.cells
   have SW:=abT [] .nilsl (Or.inl ⟨rfl,rfl,rfl⟩) (comp (sa l) 0 l[j].2) fa fc [] AX hf2 vR
   rw[hval]at SW
   have lU:fO hJ j=none:=by rw[AA j (Nat.le_refl _),hq]
   have j5:pH (.one .int) (.i .i64 (j:Int)) (.i .i64 (sa l s)) (hJ.map fun p=>nK p.1) (hJ.map fun p=>iV p.2)=_:=wQ (kT:=nK) (vT:=iV) Wb hJ j (sa l s) lU
   generalize comp (sa l) 0 l[j].2=y at*
   have HJ:([T.i .i64 y.op,T.i .i64 y.num,fa]:List T).all froz1=true:=by simp[AX.froz1,wL]
   have hpf:=fun lh sh keep (h:be lh 9=⟨1,.cells [.i .i64 y.op,.i .i64 y.num,fa] 0 true⟩)=>Sx (sh:=sh) (keep:=keep) h HJ
   simp(maxDischargeDepth:=6) only[qA,seval,iP,Lo,EW,ajT,ajU,gI,Wp,ja,fF,iK.kept1,fu,qE,hpf,afY,SW,Yl,j5,ajY]
   refine⟨_,rfl, ?_, ?_⟩
   ·intro i v hi
    rw[pU]at hi
    cases Pp:fO hJ i with
    |some u=>rw[Pp]at hi;cases hi;exact mY i _ Pp
    |none=>
     rw[Pp]at hi
     simp only at hi
     split at hi
     ·rename_i e;subst e;cases hi;exact sZ
     ·cases hi
   ·intro i hi
    rw[pU,AA i (by omega)]
    cases fO kn i with
    |some u=>rfl
    |none=>simp only;rw[if_neg (by omega)]
end
end Go.Proofs.YtblcbheipjeoeaaGreat
namespace Go.Proofs.YtblcbheipjeoeaaGreat
open Go Go.Ev
theorem Dx(l:Cs)(k:Nat): ∀n,n≤k→n≤l.length→jw (l.take k) n=jw l n
 |0,_,_=>rfl
 |n+1,h,hl=>by
  rw[uF l (by omega),uF (l.take k) (by rw[List.length_take];omega),Dx l k n (by omega) (by omega),List.take_take,Nat.min_eq_left (by omega),List.getElem_take]
theorem IU(l:Cs){k:Nat}(hk:k≤l.length)(x:Ex):qX (l.take k) 0 x=Ce (l.take k) (jw l k) x:=by
 unfold qX Ce
 rw[List.length_take,Nat.min_eq_left hk,Dx l k k (Nat.le_refl _) hk]
section
variable(l:Cs)(n:Nat)(FZ:n≤l.length)(lT vT:T)(cl:List T)(hl:fD lT n cl)(kg:iR (l.take n) cl)(hlen:l.length≤om)(hv:fD vT n (ints (Dt l n)))
include hl hv
include FZ kg hlen
end
section
variable(l:Cs)(lT:T)(cl:List T)(hl:fD lT l.length cl)(kg:iR l cl)(hlen:l.length≤om)(oh:Q1 l)
theorem Vt{k:Nat}(hk:k<l.length)(hl:fD lT l.length cl)(kg:iR l cl): ∃ex,lT= .sl cl l.length ex∧fD (.sl (List.take (k*5) cl) k (ex&&decide (k=l.length))) k (cl.take (k*5))∧iR (l.take k) (cl.take (k*5))∧cl.length=l.length*5:=by
 rcases hl with⟨_,hz,_⟩|⟨ex,rfl⟩
 ·omega
 ·exact⟨ex,rfl,Or.inr ⟨_,rfl⟩,kg.take k,kg.len⟩
theorem Rb(oh:Q1 l)(k:Nat):Q1 (l.take k):=fun c hc=>oh c (List.mem_of_mem_take hc)
include hl kg hlen oh
end
end Go.Proofs.YtblcbheipjeoeaaGreat
namespace Go.Proofs.YtblcbheipjeoeaaGreat
open Go Go.Ev
def fy{α:Type}(R:α→List T→Prop):List α→List T→Prop
 | [],cs=>cs= []
 |x::xs,cs=> ∃c r,cs=c++r∧R x c∧fy R xs r
section
variable{α:Type}{R:α→List T→Prop}{k:Nat}
theorem fy.len(hR: ∀x c,R x c→c.length=k): ∀{xs:List α} {cs:List T},fy R xs cs→cs.length=xs.length*k
 | [],cs,h=>by rw[fy]at h;rw[h];simp
 |x::xs,cs,h=>by
  rw[fy]at h
  obtain⟨c,r,rfl,h1,h2⟩:=h
  rw[List.length_append,hR _ _ h1,fy.len hR h2,List.length_cons,Nat.add_mul,Nat.one_mul,Nat.add_comm]
theorem fy.drop(hR: ∀x c,R x c→c.length=k): ∀{xs:List α} {cs:List T} (i:Nat) (hi:i<xs.length),fy R xs cs→ ∃c r,cs.drop (i*k)=c++r∧R xs[i] c
 | [],cs,i,hi,h=>by simp at hi
 |x::xs,cs,0,hi,h=>by
  rw[fy]at h
  obtain⟨c,r,rfl,h1,h2⟩:=h
  exact⟨c,r,by simp,h1⟩
 |x::xs,cs,i+1,hi,h=>by
  rw[fy]at h
  obtain⟨c,r,rfl,h1,h2⟩:=h
  obtain⟨c',r',e,h3⟩:=fy.drop hR i (by simpa using hi) h2
  refine⟨c',r', ?_,h3⟩
  have:(i+1)*k=c.length+i*k:=by rw[hR _ _ h1,Nat.add_mul,Nat.one_mul,Nat.add_comm]
  rw[this,List.drop_append,Nat.add_sub_cancel_left,List.drop_eq_nil_of_le (by omega),e];rfl
theorem pN(hR: ∀x c,R x c→c.length=k){xs:List α}{a:T}{cc:List T}(h1:fD a xs.length cc)(h2:fy R xs cc)(i:Nat)(hi:i<xs.length): ∃c r,(∀kk,tf a (.i kk (i:Int)) k=some (.vp (c++r)))∧R xs[i] c:=by
 obtain⟨c,r,e,h3⟩:=fy.drop hR i hi h2
 exact⟨c,r,fun kk=>by rw[h1.ia (sz:=k) (fy.len hR h2) hi,e],h3⟩
theorem fy.append: ∀{xs ys:List α} {c r:List T},fy R xs c→fy R ys r→fy R (xs++ys) (c++r)
 | [],ys,c,r,h1,h2=>by rw[fy]at h1;subst h1;exact h2
 |x::xs,ys,c,r,h1,h2=>by
  rw[fy]at h1
  obtain⟨c1,r1,rfl,h3,h4⟩:=h1
  rw[List.append_assoc]
  exact⟨c1,r1++r,rfl,h3,fy.append h4 h2⟩
theorem fy.one{x:α}{c:List T}(h:R x c):fy R [x] c:=⟨c,[],by simp,h,rfl⟩
end
structure Ru where
 sc:Int
 nm:List Nat
 x:Ex
structure Co where
 sc:Int
 x:Ex
structure Li where
 nm:List Nat
 me:List Nat
 mo:Int
 da:Int
structure Of where
 nm:List Nat
 ct:Int
 da:Int
def Nz(u:Ru)(c:List T):Prop:= ∃a cc,c= [.i .i64 u.sc,.s u.nm,.i .i64 u.x.op,.i .i64 u.x.num,.s u.x.name,a]∧fD a u.x.args.length cc∧hH u.x.args cc
def SU(u:Co)(c:List T):Prop:= ∃a cc,c= [.i .i64 u.sc,.i .i64 u.x.op,.i .i64 u.x.num,.s u.x.name,a]∧fD a u.x.args.length cc∧hH u.x.args cc
def Vo(u:Li)(c:List T):Prop:=c= [.s u.nm,.s u.me,.i .i64 u.mo,.i .i64 u.da]
def Ym(u:Of)(c:List T):Prop:=c= [.s u.nm,.i .i64 u.ct,.i .i64 u.da]
theorem Nz.len(u:Ru)(c:List T)(h:Nz u c):c.length=6:=by obtain⟨a,cc,rfl,_⟩:=h;rfl
theorem SU.len(u:Co)(c:List T)(h:SU u c):c.length=5:=by obtain⟨a,cc,rfl,_⟩:=h;rfl
theorem Vo.len(u:Li)(c:List T)(h:Vo u c):c.length=4:=by rw[h];rfl
theorem Ym.len(u:Of)(c:List T)(h:Ym u c):c.length=3:=by rw[h];rfl
theorem Ba{xs:List Ru}{a:T}{cc:List T}(h1:fD a xs.length cc)(h2:fy Nz xs cc)(i:Nat)(hi:i<xs.length):
  ∃b cb r,(∀kk,tf a (.i kk (i:Int)) 6=some (.vp (.i .i64 xs[i].sc:: .s xs[i].nm:: .i .i64 xs[i].x.op:: .i .i64 xs[i].x.num:: .s xs[i].x.name::b::r)))∧fD b xs[i].x.args.length cb∧jY xs[i].x [.i .i64 xs[i].x.op,.i .i64 xs[i].x.num,.s xs[i].x.name,b]:=by
 obtain⟨c,r,h3,b,cb,rfl,h4,h5⟩:=pN Nz.len h1 h2 i hi
 exact⟨b,cb,r,h3,h4,jY.of h4 h5⟩
theorem C2{xs:List Co}{a:T}{cc:List T}(h1:fD a xs.length cc)(h2:fy SU xs cc)(i:Nat)(hi:i<xs.length):
  ∃b cb r,(∀kk,tf a (.i kk (i:Int)) 5=some (.vp (.i .i64 xs[i].sc:: .i .i64 xs[i].x.op:: .i .i64 xs[i].x.num:: .s xs[i].x.name::b::r)))∧fD b xs[i].x.args.length cb∧jY xs[i].x [.i .i64 xs[i].x.op,.i .i64 xs[i].x.num,.s xs[i].x.name,b]:=by
 obtain⟨c,r,h3,b,cb,rfl,h4,h5⟩:=pN SU.len h1 h2 i hi
 exact⟨b,cb,r,h3,h4,jY.of h4 h5⟩
theorem Kz{xs:List Li}{a:T}{cc:List T}(h1:fD a xs.length cc)(h2:fy Vo xs cc)(i:Nat)(hi:i<xs.length):
  ∃r,∀kk,tf a (.i kk (i:Int)) 4=some (.vp (.s xs[i].nm:: .s xs[i].me:: .i .i64 xs[i].mo:: .i .i64 xs[i].da::r)):=by
 obtain⟨c,r,h3,h4⟩:=pN Vo.len h1 h2 i hi
 rw[h4]at h3
 exact⟨r,h3⟩
theorem Q0{xs:List Of}{a:T}{cc:List T}(h1:fD a xs.length cc)(h2:fy Ym xs cc)(i:Nat)(hi:i<xs.length):
  ∃r,∀kk,tf a (.i kk (i:Int)) 3=some (.vp (.s xs[i].nm:: .i .i64 xs[i].ct:: .i .i64 xs[i].da::r)):=by
 obtain⟨c,r,h3,h4⟩:=pN Ym.len h1 h2 i hi
 rw[h4]at h3
 exact⟨r,h3⟩
structure Ct where
 rp:Int
 rl:Int
 cn:Int
 st:Int
 ly:Int
 nf:Int
 nt:Int
 cs:Cs
 ru:List Ru
 co:List Co
 cr:List Ex
 li:List Li
 fs:List Of
 gu:Int
def kj(n lo hi:Int):Bool:=decide (lo≤n)&&decide (n≤hi)
def HE(seen:List (List Nat)):Cs→Int
 | []=>0
 |c::l=>if kr c.1=false then 1 else if c.1∈seen then 7 else if fP c.2≠0 then fP c.2 else HE (seen++ [c.1]) l
def Ee(seen:List (Int×List Nat)):List Ru→Int
 | []=>0
 |u::l=>if kj u.sc 1 3=false∨kr u.nm=false then 1 else if(u.sc,u.nm)∈seen then 7 else if fP u.x≠0 then fP u.x else Ee (seen++ [(u.sc,u.nm)]) l
def IP:List Co→Int
 | []=>0
 |u::l=>if kj u.sc 1 3=false then 1 else if fP u.x≠0 then fP u.x else IP l
def IQ:List Ex→Int
 | []=>0
 |x::l=>if fP x≠0 then fP x else IQ l
def GF(s:List Nat):Int:=if s= [98,108,111,99,107]∨s= [115,112,97,110]∨s= [110,105,103,104,116]∨s= [99,114,101,100,105,116]then 3 else if s= [108,101,103,115]∨s= [104,101,97,100,115]∨s= [100,117,116,105,101,115]then 2 else 0
def MS(seen:List (List Nat)):List Li→Int
 | []=>0
 |u::l=>if kr u.nm=false then 1 else if u.nm∈seen then 7 else if GF u.me=0 then 6 else if kj u.mo 0 599999=false∨kj u.da 1 31=false then 5 else MS (seen++ [u.nm]) l
def Ny(seen:List (List Nat)):List Of→Int
 | []=>0
 |u::l=>if kr u.nm=false then 1 else if u.nm∈seen then 7 else if kj u.da 1 31=false∨kj u.ct 1 u.da=false then 5 else Ny (seen++ [u.nm]) l
def Q2(c:Ct):Int:=if MS [] c.li≠0 then MS [] c.li else Ny (c.li.map Li.nm) c.fs
def qu(c:Ct):Bool:=kj c.rp 0 1440&&(kj c.rl 0 1440&&(kj c.cn 0 1440&&(kj c.st c.cn 1440&&(kj c.ly 0 10080&&(kj c.nf 0 1439&&(kj c.nt 0 1439&&kj c.gu 0 599999))))))
def qW(c:Ct):Bool:=decide (c.cs.length≤32)&&(decide (c.ru.length≤40)&&(decide (c.co.length≤16)&&(decide (c.cr.length≤1)&&(decide (c.li.length≤16)&&decide (c.fs.length≤16)))))
def lA(c:Ct):Int:=if qu c=false then 5 else if qW c=false then 10 else if HE [] c.cs≠0 then HE [] c.cs else if Ee [] c.ru≠0 then Ee [] c.ru else if IP c.co≠0 then IP c.co else if IQ c.cr≠0 then IQ c.cr else Q2 c
theorem iQ(n lo hi:Int):fj pE 225 [.i .i64 n,.i .i64 lo,.i .i64 hi] []=some (.b (kj n lo hi),[]):=by
 rw[fx W2 (by simp[N4])]
 unfold kj
 by_cases h:lo≤n <;> simp(maxDischargeDepth:=6) only[qA,seval,N4,h]
theorem C3(n:Int):fj pE 228 [.i .i64 n] []=some (.b (kj n 1 3),[]):=by
 rw[fx W5 (by simp[N5])]
 simp(maxDischargeDepth:=6) only[qA,seval,N5,iQ,iv]
theorem sj{α:Type}[DecidableEq α](s:α): ∀l:List α,fO (l.map fun x=>(x,true)) s=if s∈l then some true else none
 | []=>by simp[fO]
 |a::l=>by
  rw[List.map_cons,fO,sj s l]
  by_cases h:s=a
  ·simp[h]
  ·simp[h]
theorem Ec(seen:List (List Nat))(s:List Nat):mX (.one .str) ((seen.map fun x=>(x,true)).map fun p=>sK p.1) ((seen.map fun x=>(x,true)).map fun p=>T.b p.2) (.s s) (.b false) false=some (.b (decide (s∈seen))):=by
 have:=QE (kT:=sK) (vT:=T.b) Er (fun _=>rfl) (seen.map fun x=>(x,true)) s (.b false)
 rw[show(T.s s)=sK s from rfl,this,sj]
 by_cases h:s∈seen <;> simp[h]
theorem A7(seen:List (List Nat))(s:List Nat)(h:s∉seen):pH (.one .str) (.s s) (.b true) ((seen.map fun x=>(x,true)).map fun p=>sK p.1) ((seen.map fun x=>(x,true)).map fun p=>T.b p.2)=some (((seen++ [s]).map fun x=>(x,true)).map (fun p=>sK p.1),((seen++ [s]).map fun x=>(x,true)).map (fun p=>T.b p.2)):=by
 have:=wQ (kT:=sK) (vT:=T.b) Er (seen.map fun x=>(x,true)) s true (by rw[sj,if_neg h])
 rw[show(T.s s)=sK s from rfl,show T.b true=T.b (true)from rfl,this]
 simp only[List.map_append,List.map_cons,List.map_nil]
theorem aoK(l:Cs)(a:T)(cc:List T)(ha:fD a l.length cc)(hc:iR l cc)(hlen:l.length≤om)(oh:Q1 l)(r:Int)(hr:r=HE [] l)(o:Out)(ho:o=if r=0 then .ext 0 else .ret)(g:Nat)(fr:Fr)(lh:fC fg)(sh:List fg)
  (h3:an fr 3= .mp .L 7 g) (h8:an fr 8=a) (h9:an fr 9= .i .i64 (l.length:Int)) (nJ:an fr 10= .i .i64 0) (o7:be lh 7=⟨g,.map [] [] false⟩):
  DC pE 32 (.loop lI) ⟨fr,lh,sh⟩=some (o,⟨gr pE 32 lI fr lh sh,gp pE 32 lI fr lh sh,gn pE 32 lI fr lh sh⟩)∧
  ((r≠0→an (gr pE 32 lI fr lh sh) 2= .i .i64 r)∧gn pE 32 lI fr lh sh=sh):=by
 refine fq (P:=fun fR fH fL=>(r≠0→an fR 2= .i .i64 r)∧fL=sh)
  (fw (fun k st=> ∃(fr:Fr) (fG:fC fg),st=⟨fr,fG,sh⟩∧an fr 3= .mp .L 7 g∧an fr 8=a∧an fr 9= .i .i64 (l.length:Int)∧an fr 10= .i .i64 (k:Int)∧
    be fG 7=⟨g,.map ((((l.take k).map Prod.fst).map fun x=>(x,true)).map fun p=>sK p.1) ((((l.take k).map Prod.fst).map fun x=>(x,true)).map fun p=>T.b p.2) false⟩∧r=HE ((l.take k).map Prod.fst) (l.drop k)) _ l.length ?_ ?_ 0 _ (Nat.zero_le _) ⟨fr,lh,rfl,h3,h8,h9,nJ,o7,by rw[hr];rfl⟩)
 ·rintro k _ hk ⟨fr,fG,rfl,h3,h8,h9,nJ,o7,hr⟩
  have fK:(k:Int)<l.length:=by omega
  have hw:=fQ (k:=k) (by omega)
  obtain⟨b,cb,rr,fF,iK,oS,hb⟩:=jZ ha hc k hk
  obtain⟨HD,A9⟩:=oh l[k] (List.getElem_mem hk)
  have mI:=rV l[k].1
  have uN:=fun z fr lh sh=>rX (z:=z) (fr:=fr) (lh:=lh) (sh:=sh) l[k].2 _ hb HD A9
  have ja:=Ec ((l.take k).map Prod.fst) l[k].1
  have j5:=A7 ((l.take k).map Prod.fst) l[k].1
  rw[List.drop_eq_getElem_cons hk,HE]at hr
  have FM:(l.take (k+1)).map Prod.fst=(l.take k).map Prod.fst++ [l[k].1]:=by rw[List.take_succ_eq_append_getElem hk,List.map_append];rfl
  rw[FM]
  generalize (l.take k).map Prod.fst=seen at*
  cases hd:kr l[k].1 with
  |false=>
   right
   rw[if_pos hd]at hr
   rw[hd]at mI
   simp(maxDischargeDepth:=6) only[qA,seval,lI,h8,h9,nJ,fK,fF,mI,mS]
   refine⟨_,_,(by simp:Out.ret≠ .nrm),rfl,by rw[ho,hr];rfl,fun _=> ?_,rfl⟩
   simp(maxDischargeDepth:=6) only[qA,seval,hr]
  |true=>
   rw[if_neg (by simp[hd])]at hr
   rw[hd]at mI
   by_cases hs:l[k].1∈seen
   ·right
    rw[if_pos hs]at hr
    rw[decide_eq_true hs]at ja
    simp(maxDischargeDepth:=6) only[qA,seval,lI,h3,h8,h9,nJ,o7,fK,fF,mI,mS,gI,ja]
    refine⟨_,_,(by simp:Out.ret≠ .nrm),rfl,by rw[ho,hr];rfl,fun _=> ?_,rfl⟩
    simp(maxDischargeDepth:=6) only[qA,seval,hr]
   ·rw[if_neg hs]at hr
    rw[decide_eq_false hs]at ja
    have j5:=j5 hs
    by_cases hv:fP l[k].2=0
    ·left
     rw[if_neg (by simp[hv])]at hr
     rw[hv]at uN
     simp(maxDischargeDepth:=6) only[qA,seval,lI,h3,h8,h9,nJ,o7,fK,fF,hw,mI,mS,gI,ja,pM,wN,j5,uN]
     refine⟨_,rfl,_,_,rfl, ?_, ?_, ?_, ?_, ?_,hr⟩
     all_goals (simp(maxDischargeDepth:=6) only[qA,seval,h3,h8,h9])
    ·right
     rw[if_pos hv]at hr
     generalize fP l[k].2=e at*
     simp(maxDischargeDepth:=6) only[qA,seval,lI,h3,h8,h9,nJ,o7,fK,fF,mI,mS,gI,ja,pM,wN,j5,uN,hv]
     refine⟨_,_,(by simp:Out.ret≠ .nrm),rfl,by rw[ho,hr,if_neg hv],fun _=> ?_,rfl⟩
     simp(maxDischargeDepth:=6) only[qA,seval,hr]
 ·rintro _ ⟨fr,fG,rfl,h3,h8,h9,nJ,o7,hr⟩
  rw[List.drop_length,HE]at hr
  simp(maxDischargeDepth:=6) only[qA,seval,lI,h9,nJ,Int.lt_irrefl]
  exact⟨_,_,(by simp:Out.ext 0≠ .nrm),rfl,by rw[ho,hr];rfl,fun h=>absurd hr h,rfl⟩
theorem aaW(l:Cs)(a:T)(cc:List T)(ha:fD a l.length cc)(hc:iR l cc)(hlen:l.length≤om)(oh:Q1 l):fj pE 226 [a] []=some (.i .i64 (HE [] l),[]):=by
 have hL:=fun fr lh sh h3 h8 h9 nJ o7=>aoK l a cc ha hc hlen oh _ rfl _ rfl 1 fr lh sh h3 h8 h9 nJ o7
 rw[fx W3 (by simp[LB])]
 by_cases h0:HE [] l=0
 ·rw[h0]at hL
  simp only[if_true,ne_eq,not_true_eq_false,false_implies,true_and]at hL
  simp(maxDischargeDepth:=6) only[qA,seval,LB,ha.lenI,hL,h0]
 ·simp only[h0,if_false,ne_eq,not_false_eq_true,forall_const]at hL
  simp(maxDischargeDepth:=6) only[qA,seval,LB,ha.lenI,hL]
end Go.Proofs.YtblcbheipjeoeaaGreat
namespace Go.Proofs.YtblcbheipjeoeaaGreat
open Go Go.Ev
def rK(p:Int×List Nat):T:= .agg [.i .i64 p.1,.s p.2]
theorem aj1(a b:Int×List Nat):tB (.flat [.int,.str]) (rK a) (rK b)=some (decide (a=b)):=by
 unfold rK
 rw[aaH]
 congr 1
 by_cases h1:a.1=b.1 <;> by_cases h2:a.2=b.2 <;> simp[h1,h2,Prod.ext_iff]
theorem Sy(seen:List (Int×List Nat))(s:Int×List Nat):mX (.flat [.int,.str]) ((seen.map fun x=>(x,true)).map fun p=>rK p.1) ((seen.map fun x=>(x,true)).map fun p=>T.b p.2) (.agg [.i .i64 s.1,.s s.2]) (.b false) false=some (.b (decide (s∈seen))):=by
 have:=QE (kT:=rK) (vT:=T.b) aj1 (fun _=>Iz) (seen.map fun x=>(x,true)) s (.b false)
 rw[show T.agg [.i .i64 s.1,.s s.2]=rK s from rfl,this,sj]
 by_cases h:s∈seen <;> simp[h]
theorem Np(seen:List (Int×List Nat))(s:Int×List Nat)(h:s∉seen):pH (.flat [.int,.str]) (.agg [.i .i64 s.1,.s s.2]) (.b true) ((seen.map fun x=>(x,true)).map fun p=>rK p.1) ((seen.map fun x=>(x,true)).map fun p=>T.b p.2)=some (((seen++ [s]).map fun x=>(x,true)).map (fun p=>rK p.1),((seen++ [s]).map fun x=>(x,true)).map (fun p=>T.b p.2)):=by
 have:=wQ (kT:=rK) (vT:=T.b) aj1 (seen.map fun x=>(x,true)) s true (by rw[sj,if_neg h])
 rw[show T.agg [.i .i64 s.1,.s s.2]=rK s from rfl,this]
 simp only[List.map_append,List.map_cons,List.map_nil]
def HC(x:Ex):Prop:=0≤x.nodes∧x.sm
def xw(u:Ru):Int×List Nat:=(u.sc,u.nm)
theorem aoL(l:List Ru)(a:T)(cc:List T)(ha:fD a l.length cc)(hc:fy Nz l cc)(hlen:l.length≤om)(oh: ∀u∈l,HC u.x)(r:Int)(hr:r=Ee [] l)(o:Out)(ho:o=if r=0 then .ext 0 else .ret)(g:Nat)(fr:Fr)(lh:fC fg)(sh:List fg)
  (h3:an fr 3= .mp .L 8 g) (h9:an fr 9=a) (nJ:an fr 10= .i .i64 (l.length:Int)) (nR:an fr 11= .i .i64 0) (o8:be lh 8=⟨g,.map [] [] false⟩):
  DC pE 42 (.loop kU) ⟨fr,lh,sh⟩=some (o,⟨gr pE 42 kU fr lh sh,gp pE 42 kU fr lh sh,gn pE 42 kU fr lh sh⟩)∧
  ((r≠0→an (gr pE 42 kU fr lh sh) 2= .i .i64 r)∧gn pE 42 kU fr lh sh=sh):=by
 refine fq (P:=fun fR fH fL=>(r≠0→an fR 2= .i .i64 r)∧fL=sh)
  (fw (fun k st=> ∃(fr:Fr) (fG:fC fg),st=⟨fr,fG,sh⟩∧an fr 3= .mp .L 8 g∧an fr 9=a∧an fr 10= .i .i64 (l.length:Int)∧an fr 11= .i .i64 (k:Int)∧
    be fG 8=⟨g,.map ((((l.take k).map xw).map fun x=>(x,true)).map fun p=>rK p.1) ((((l.take k).map xw).map fun x=>(x,true)).map fun p=>T.b p.2) false⟩∧r=Ee ((l.take k).map xw) (l.drop k)) _ l.length ?_ ?_ 0 _ (Nat.zero_le _) ⟨fr,lh,rfl,h3,h9,nJ,nR,o8,by rw[hr];rfl⟩)
 ·rintro k _ hk ⟨fr,fG,rfl,h3,h9,nJ,nR,o8,hr⟩
  have fK:(k:Int)<l.length:=by omega
  have hw:=fQ (k:=k) (by omega)
  obtain⟨b,cb,rr,fF,iK,hb⟩:=Ba ha hc k hk
  obtain⟨HD,A9⟩:=oh l[k] (List.getElem_mem hk)
  have k6:=C3 l[k].sc
  have mI:=rV l[k].nm
  have uN:=fun z fr lh sh=>rX (z:=z) (fr:=fr) (lh:=lh) (sh:=sh) l[k].x _ hb HD A9
  have ja:=Sy ((l.take k).map xw) (xw l[k])
  have j5:=Np ((l.take k).map xw) (xw l[k])
  rw[List.drop_eq_getElem_cons hk,Ee]at hr
  have FM:(l.take (k+1)).map xw=(l.take k).map xw++ [xw l[k]]:=by rw[List.take_succ_eq_append_getElem hk,List.map_append];rfl
  rw[FM]
  generalize (l.take k).map xw=seen at*
  change r=if kj l[k].sc 1 3=false∨kr l[k].nm=false then 1 else if xw l[k]∈seen then 7 else if fP l[k].x≠0 then fP l[k].x else Ee (seen++ [xw l[k]]) (l.drop (k+1))at hr
  cases hq:kj l[k].sc 1 3 with
  |false=>
   right
   rw[if_pos (.inl hq)]at hr
   rw[hq]at k6
   simp(maxDischargeDepth:=6) only[qA,seval,kU,h9,nJ,nR,fK,fF,k6,yo]
   refine⟨_,_,(by simp:Out.ret≠ .nrm),rfl,by rw[ho,hr];rfl,fun _=> ?_,rfl⟩
   simp(maxDischargeDepth:=6) only[qA,seval,hr]
  |true=>
  rw[hq]at k6
  cases hd:kr l[k].nm with
  |false=>
   right
   rw[if_pos (.inr hd)]at hr
   rw[hd]at mI
   simp(maxDischargeDepth:=6) only[qA,seval,kU,h9,nJ,nR,fK,fF,k6,yo,mI,mS]
   refine⟨_,_,(by simp:Out.ret≠ .nrm),rfl,by rw[ho,hr];rfl,fun _=> ?_,rfl⟩
   simp(maxDischargeDepth:=6) only[qA,seval,hr]
  |true=>
   rw[if_neg (by simp[hd,hq])]at hr
   rw[hd]at mI
   by_cases hs:xw l[k]∈seen
   ·right
    rw[if_pos hs]at hr
    rw[decide_eq_true hs]at ja
    unfold xw at ja
    simp(maxDischargeDepth:=6) only[qA,seval,kU,h3,h9,nJ,nR,o8,fK,fF,k6,yo,mI,mS,gI,ja]
    refine⟨_,_,(by simp:Out.ret≠ .nrm),rfl,by rw[ho,hr];rfl,fun _=> ?_,rfl⟩
    simp(maxDischargeDepth:=6) only[qA,seval,hr]
   ·rw[if_neg hs]at hr
    rw[decide_eq_false hs]at ja
    have j5:=j5 hs
    unfold xw at ja
    change pH (.flat [.int,.str]) (.agg [.i .i64 l[k].sc,.s l[k].nm]) (.b true) _ _=_ at j5
    by_cases hv:fP l[k].x=0
    ·left
     rw[if_neg (by simp[hv])]at hr
     rw[hv]at uN
     simp(maxDischargeDepth:=6) only[qA,seval,kU,h3,h9,nJ,nR,o8,fK,fF,hw,k6,yo,mI,mS,gI,ja,pM,Iz,j5,uN]
     refine⟨_,rfl,_,_,rfl, ?_, ?_, ?_, ?_, ?_,hr⟩
     all_goals (simp(maxDischargeDepth:=6) only[qA,seval,h3,h9,nJ])
    ·right
     rw[if_pos hv]at hr
     generalize fP l[k].x=e at*
     simp(maxDischargeDepth:=6) only[qA,seval,kU,h3,h9,nJ,nR,o8,fK,fF,k6,yo,mI,mS,gI,ja,pM,Iz,j5,uN,hv]
     refine⟨_,_,(by simp:Out.ret≠ .nrm),rfl,by rw[ho,hr,if_neg hv],fun _=> ?_,rfl⟩
     simp(maxDischargeDepth:=6) only[qA,seval,hr]
 ·rintro _ ⟨fr,fG,rfl,h3,h9,nJ,nR,o8,hr⟩
  rw[List.drop_length,Ee]at hr
  simp(maxDischargeDepth:=6) only[qA,seval,kU,nJ,nR,Int.lt_irrefl]
  exact⟨_,_,(by simp:Out.ext 0≠ .nrm),rfl,by rw[ho,hr];rfl,fun h=>absurd hr h,rfl⟩
theorem aaX(l:List Ru)(a:T)(cc:List T)(ha:fD a l.length cc)(hc:fy Nz l cc)(hlen:l.length≤om)(oh: ∀u∈l,HC u.x):fj pE 227 [a] []=some (.i .i64 (Ee [] l),[]):=by
 have hL:=fun fr lh sh h3 h9 nJ nR o8=>aoL l a cc ha hc hlen oh _ rfl _ rfl 1 fr lh sh h3 h9 nJ nR o8
 rw[fx W4 (by simp[LC])]
 by_cases h0:Ee [] l=0
 ·rw[h0]at hL
  simp only[if_true,ne_eq,not_true_eq_false,false_implies,true_and]at hL
  simp(maxDischargeDepth:=6) only[qA,seval,LC,ha.lenI,hL,h0]
 ·simp only[h0,if_false,ne_eq,not_false_eq_true,forall_const]at hL
  simp(maxDischargeDepth:=6) only[qA,seval,LC,ha.lenI,hL]
def Dy:List (List Nat):= [[98,108,111,99,107],[115,112,97,110],[110,105,103,104,116],[99,114,101,100,105,116],[108,101,103,115],[104,101,97,100,115],[100,117,116,105,101,115]]
theorem QX(s:List Nat):fj pE 274 [.s s] []=some (.i .i64 (GF s),[]):=by
 by_cases h:s∈Dy
 ·simp only[Dy,List.mem_cons,List.not_mem_nil,or_false]at h
  rcases h with rfl|rfl|rfl|rfl|rfl|rfl|rfl <;> exact gF (m:=20) (gE (by kernel_rfl))
 ·simp only[Dy,List.mem_cons,List.not_mem_nil,or_false,not_or]at h
  obtain⟨h1,h2,h3,h4,h5,h6,h7⟩:=h
  rw[fx Xr (by simp[Oc])]
  unfold GF
  simp(maxDischargeDepth:=6) only[qA,seval,Oc,h1,h2,h3,h4,h5,h6,h7,or_self]
theorem Q4(s:List Nat): ∃n:Int,(n=0↔GF s=0)∧fj pE 279 [.s s] []=some (.i .i64 n,[]):=by
 by_cases h:s∈Dy
 ·simp only[Dy,List.mem_cons,List.not_mem_nil,or_false]at h
  rcases h with rfl|rfl|rfl|rfl|rfl|rfl|rfl
  iterate 4 exact⟨2,by decide,gF (m:=20) (gE (by kernel_rfl))⟩
  iterate 3 exact⟨1,by decide,gF (m:=20) (gE (by kernel_rfl))⟩
 ·simp only[Dy,List.mem_cons,List.not_mem_nil,or_false,not_or]at h
  obtain⟨h1,h2,h3,h4,h5,h6,h7⟩:=h
  refine⟨0, ?_, ?_⟩
  ·unfold GF;simp[h1,h2,h3,h4,h5,h6,h7]
  ·rw[fx Xu (by simp[Oe])]
   simp(maxDischargeDepth:=6) only[qA,seval,Oe,h1,h2,h3,h4,h5,h6,h7]
end Go.Proofs.YtblcbheipjeoeaaGreat
