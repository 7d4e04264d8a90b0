/- Does a formula have an attribute: the program's answer. Rows of compiled rules in the compiler's state: plain. The zones of a setting, by name and by airport. The zones of a setting by airport. The compiled rules of a setting. Conditions: the theorems' own. -/
import Derived.Test.YtblcbheipjeoeaaGreatM15
import Derived.KernelRfl
set_option maxRecDepth 100000
set_option linter.unusedSimpArgs false
set_option linter.unusedVariables false
set_option maxHeartbeats 16000000
namespace Go.Proofs.YtblcbheipjeoeaaGreat
open Go Go.Ev
mutual
def Fm.us(p:Int):Fm→Bool
 | .mk op num args=>if op=6 then decide (num=p)else Yp p args
def Yp(p:Int):List Fm→Bool
 | []=>false
 |x::xs=>x.us p||Yp p xs
end
theorem Fm.us_eq(p:Int)(x:Fm):x.us p=if x.op=6 then decide (x.num=p)else Yp p x.args:=by obtain⟨_,_,_⟩:=x;rw[Fm.us];rfl
theorem GS: ∀xs:List Fm,xs.length≤vH xs
 | []=>by simp[vH]
 |x::xs=>by
  have h1:=GS xs
  have h2:=x.sz_eq
  rw[vH,List.length_cons];omega
mutual
theorem zA(vx:List Nat→Int)(scope:Int): ∀x:Ex,(comp vx scope x).sz≤x.nodes
 | .mk op num name args=>by
   have h:=GU vx scope args
   rw[Ex.nodes_eq,qY]
   show Fm.sz (if op=1∨op=2∨op=3 then .mk 1 num []else if op=4 then .mk 1 1 []else if op=5 then .mk 1 0 []else if op=6 then(match Rp scope name with|some i=> .mk 6 (i:Int) []|none=> .mk 1 (vx name) [])else .mk op 0 (jQ vx scope args))≤1+gP args
   have l: ∀(a b:Int),Fm.sz (.mk a b [])≤1+gP args:=fun a b=>by rw[Fm.sz_eq];show 1+vH []≤_;rw[vH];omega
   split
   ·exact l _ _
   split
   ·exact l _ _
   split
   ·exact l _ _
   split
   ·split <;> exact l _ _
   ·rw[Fm.sz_eq];show 1+vH (jQ vx scope args)≤_;omega
theorem GU(vx:List Nat→Int)(scope:Int): ∀xs:List Ex,vH (jQ vx scope xs)≤gP xs
 | []=>by rw[jQ,vH,gP];exact Nat.le_refl _
 |x::xs=>by
  have h1:=zA vx scope x
  have h2:=GU vx scope xs
  rw[jQ,vH,gP];omega
end
section
variable(p:Int)
def usP(f:Fm):Prop:= ∀(b:T) (cb r:List T),fD b f.args.length cb→fZ f.args cb→f.sz≤100000→fj pE 90 [.vp (.i .i64 f.op:: .i .i64 f.num::b::r),.i .i64 p] []=some (.b (f.us p),[])
theorem FG(op num:Int)(rr:List T)(xs:List Fm)(ih: ∀y∈xs,usP p y)(a:T)(cc:List T)(ha:fD a xs.length cc)(hx:fZ xs cc)(hn:vH xs≤100000)(r:Bool)(hr:r=Yp p xs)(o:Out)(ho:o=if r then .ret else .ext 0)(fr:Fr)(lh:fC fg)(sh:List fg)
  (h0:an fr 0= .vp (.i .i64 op:: .i .i64 num::a::rr)) (h1:an fr 1= .i .i64 p) (VD:an fr 21= .i .i64 (xs.length:Int)) (NC:an fr 22= .i .i64 0):
  DC pE 34 (.loop pZ) ⟨fr,lh,sh⟩=some (o,⟨gr pE 34 pZ fr lh sh,gp pE 34 pZ fr lh sh,gn pE 34 pZ fr lh sh⟩)∧
  ((r=true→an (gr pE 34 pZ fr lh sh) 4= .b true)∧gn pE 34 pZ fr lh sh=sh):=by
 refine fq (P:=fun fR fH fL=>(r=true→an fR 4= .b true)∧fL=sh)
  (fw (fun k st=> ∃(fr:Fr) (fG:fC fg),st=⟨fr,fG,sh⟩∧r=Yp p (xs.drop k)∧an fr 0= .vp (.i .i64 op:: .i .i64 num::a::rr)∧an fr 1= .i .i64 p∧an fr 21= .i .i64 (xs.length:Int)∧an fr 22= .i .i64 (k:Int)) _ xs.length ?_ ?_ 0 _ (Nat.zero_le _) ⟨fr,lh,rfl,hr,h0,h1,VD,NC⟩)
 ·rintro k _ hk ⟨fr,fG,rfl,hr,h0,h1,VD,NC⟩
  have fK:(k:Int)<xs.length:=by omega
  have hlen:=GS xs
  have hyk:=Bj (List.getElem_mem hk)
  have hw:=fQ (k:=k) (ku (by omega))
  obtain⟨b,cb,r2,fF,iK,oS⟩:=Yq ha hx k hk
  have fu:=ih xs[k] (List.getElem_mem hk) b cb r2 iK oS (by omega)
  rw[List.drop_eq_getElem_cons hk,Yp]at hr
  generalize xs[k]=y at*
  cases hu:y.us p with
  |true=>
   right
   rw[hu]at fu
   rw[hu,Bool.true_or]at hr
   simp(maxDischargeDepth:=6) only[qA,seval,pZ,h0,h1,VD,NC,fK,fF,fu,afP]
   refine⟨_,_,(by simp:Out.ret≠ .nrm),rfl,by rw[ho,hr];rfl,fun _=> ?_,rfl⟩
   simp(maxDischargeDepth:=6) only[qA,seval]
  |false=>
   left
   rw[hu]at fu
   rw[hu,Bool.false_or]at hr
   simp(maxDischargeDepth:=6) only[qA,seval,pZ,h0,h1,VD,NC,fK,fF,fu,afP,hw]
   refine⟨_,rfl,_,_,rfl,hr, ?_, ?_, ?_, ?_⟩ <;> simp(maxDischargeDepth:=6) only[qA,seval,h0,h1,VD]
 ·rintro _ ⟨fr,fG,rfl,hr,h0,h1,VD,NC⟩
  rw[List.drop_length,Yp]at hr
  simp(maxDischargeDepth:=6) only[qA,seval,pZ,VD,NC,Int.lt_irrefl]
  exact⟨_,_,(by simp:Out.ext 0≠ .nrm),rfl,by rw[ho,hr];rfl,fun h=>(by rw[hr]at h;cases h),rfl⟩
theorem Yr(f:Fm):usP p f:=by
 induction f using Fm.ind with
 |h f ih=>
  intro b cb r hb HH nL
  rw[fx Zm (by simp[Y7]),Fm.us_eq]
  have hs:=f.sz_eq
  by_cases h6:f.op=6
  ·simp(maxDischargeDepth:=6) only[qA,seval,Y7,h6]
  ·have hL:=fun fr lh sh h0 h1 VD NC=>FG p f.op f.num r f.args (fun y hy=>ih y hy) b cb hb HH (by omega) _ rfl _ rfl fr lh sh h0 h1 VD NC
   rw[if_neg h6]
   cases hu:Yp p f.args with
   |true=>
    rw[hu]at hL
    simp(maxDischargeDepth:=6) only[qA,seval,Y7,h6,hb.lenI,hL]
   |false=>
    rw[hu]at hL
    simp(maxDischargeDepth:=6) only[qA,seval,Y7,h6,hb.lenI,hL]
end
end Go.Proofs.YtblcbheipjeoeaaGreat
namespace Go.Proofs.YtblcbheipjeoeaaGreat
open Go Go.Ev
theorem ic(R:List fg)(i j:Nat)(e:fg):gC (il R i e) j=if j=i then e else gC R j:=uj _ _ _ _ _
theorem iE: ∀(R:List fg) (i:Nat) (a b:fg),il (il R i a) i b=il R i b
 | [],0,a,b=>rfl
 | [],i+1,a,b=>by
   have:=iE [] i a b
   unfold il at this ⊢
   rw[oc,oc,oc,this]
 |x::R,0,a,b=>rfl
 |x::R,i+1,a,b=>by rw[rT,rT,rT,iE R i a b]
theorem xS: ∀(R:List fg) (e:fg),(il R R.length e).length=R.length+1
 | [],e=>rfl
 |x::R,e=>by rw[List.length_cons,rT,List.length_cons,xS R e]
section
variable(lT:T)(m:List (List Nat×Nat))(kn:List (Nat×Int))(R:List fg)
theorem Db(i:Nat):gC (jA lT m kn R) (i+7)=gC R i:=nr rfl
theorem rZ(i:Nat)(e:fg):il (jA lT m kn R) (i+7) e=jA lT m kn (il R i e):=nr rfl
theorem Dc:(jA lT m kn R).length=R.length+7:=nr (by unfold jA;rw[List.length_append];show 7+R.length=_;omega)
end
def Ys(u:List Nat×Fm)(c:List T):Prop:= ∃fc,c= .s u.1::fc∧nC u.2 fc
theorem Ys.len(u:List Nat×Fm)(c:List T)(h:Ys u c):c.length=4:=by obtain⟨fc,rfl,h⟩:=h;rw[List.length_cons,h.len]
def vQ(sz:Nat)(cs:List T):Prop:=if sz=4 then∃l:List (List Nat×Fm),fy Ys l cs∧ ∀u∈l,u.2.sz≤1000 else∃l:List Fm,fZ l cs∧ ∀f∈l,f.sz≤1000
theorem vQ.app4{cs:List T}(h:vQ 4 cs)(u:List Nat×Fm)(c:List T)(hc:Ys u c)(hu:u.2.sz≤1000):vQ 4 (cs++c):=by
 unfold vQ at h ⊢
 rw[if_pos rfl]at h ⊢
 obtain⟨l,h1,h2⟩:=h
 refine⟨l++ [u],fy.append h1 (fy.one hc),fun v hv=> ?_⟩
 rcases List.mem_append.1 hv with hv|hv
 ·exact h2 v hv
 ·rw[List.mem_singleton.1 hv];exact hu
theorem vQ.app3{cs:List T}(h:vQ 3 cs)(f:Fm)(c:List T)(hc:nC f c)(hu:f.sz≤1000):vQ 3 (cs++c):=by
 unfold vQ at h ⊢
 rw[if_neg (by decide)]at h ⊢
 obtain⟨l,h1,h2⟩:=h
 refine⟨l++ [f],fZ.append h1 (fZ.one hc),fun v hv=> ?_⟩
 rcases List.mem_append.1 hv with hv|hv
 ·exact h2 v hv
 ·rw[List.mem_singleton.1 hv];exact hu
theorem vQ.nil(sz:Nat):vQ sz []:=by
 unfold vQ
 split
 ·exact⟨[],rfl,by simp⟩
 ·exact⟨[],fZ.nil,by simp⟩
def RwK(R:List fg)(B:Nat)(p:Nat×T):Prop:=p.2= .nilsl∨ ∃i g n cs,p.2= .isl .S (i+7) g 0 n p.1∧gC R i=⟨g,.cells cs 0 false⟩∧i<R.length∧n*p.1=cs.length∧n≤B∧vQ p.1 cs
def kyZ:T→Option Nat
 | .isl .S k _ _ _ _=>some k
 |_=>none
theorem akF:kyZ .nilsl=none:=rfl
theorem pO{k g o n s:Nat}:kyZ (.isl .S k g o n s)=some k:=rfl
def jB(R:List fg)(B:Nat)(vs:List (Nat×T)):Prop:=(∀p∈vs,RwK R B p)∧ ∀i j:Nat,∀(hi:i<vs.length) (hj:j<vs.length),i≠j→kyZ vs[i].2=none∨kyZ vs[i].2≠kyZ vs[j].2
theorem RwK.mono{R:List fg}{B B':Nat}{p:Nat×T}(h:RwK R B p)(hB:B≤B'):RwK R B' p:=by
 rcases h with h|⟨i,g,n,cs,h1,h2,h3,h4,h5,h6⟩
 ·exact .inl h
 ·exact .inr ⟨i,g,n,cs,h1,h2,h3,h4,by omega,h6⟩
theorem jB.mono{R:List fg}{B B':Nat}{vs:List (Nat×T)}(h:jB R B vs)(hB:B≤B'):jB R B' vs:=⟨fun p hp=>(h.1 p hp).mono hB,h.2⟩
theorem jB.new{R:List fg}{B:Nat}{vs:List (Nat×T)}(h:jB R B vs)(hB:1≤B)(j:Nat)(hj:j<vs.length){sz:Nat}(nL:vs[j].1=sz)(ps:List T)(yE:ps.length=sz)(hf:vQ sz ps):
  jB (il R R.length ⟨1,.cells ps 0 false⟩) B (vs.set j (sz,.isl .S (R.length+7) 1 0 1 sz)):=by
 have LX: ∀p∈vs,RwK (il R R.length ⟨1,.cells ps 0 false⟩) B p∧kyZ p.2≠some (R.length+7):=by
  intro p hp
  rcases h.1 p hp with h1|⟨i,g,n,cs,h1,h2,h3,h4,h5,h6⟩
  ·exact⟨.inl h1,by rw[h1];simp[kyZ]⟩
  ·refine⟨.inr ⟨i,g,n,cs,h1, ?_, ?_,h4,h5,h6⟩,by rw[h1,pO];simp;omega⟩
   ·rw[ic,if_neg (by omega)];exact h2
   ·rw[xS];omega
 refine⟨fun p hp=> ?_,fun a b ha hb hab=> ?_⟩
 ·rcases List.mem_or_eq_of_mem_set hp with hp|rfl
  ·exact(LX p hp).1
  ·exact .inr ⟨R.length,1,1,ps,rfl,by rw[ic,if_pos rfl],by rw[xS];omega,by simp[yE],hB,hf⟩
 ·rw[List.length_set]at ha hb
  rw[List.getElem_set,List.getElem_set]
  by_cases h1:j=a
  ·rw[if_pos h1,if_neg (by omega)]
   right
   rw[pO]
   exact fun e=>(LX vs[b] (List.getElem_mem hb)).2 e.symm
  ·rw[if_neg h1]
   by_cases h2:j=b
   ·rw[if_pos h2]
    right
    rw[pO]
    exact(LX vs[a] (List.getElem_mem ha)).2
   ·rw[if_neg h2];exact h.2 a b ha hb hab
theorem jB.app{R:List fg}{B:Nat}{vs:List (Nat×T)}(h:jB R B vs)(j:Nat)(hj:j<vs.length){sz i g n:Nat}{cs:List T}(nL:vs[j].1=sz)(hv:vs[j].2= .isl .S (i+7) g 0 n sz)(hE:gC R i=⟨g,.cells cs 0 false⟩)(hi:i<R.length)(hn:n*sz=cs.length)(hB:n≤B)(ps:List T)(yE:ps.length=sz)(hf:vQ sz (cs++ps))(g':Nat):
  jB (il R i ⟨g',.cells (cs++ps) 0 false⟩) (B+1) (vs.set j (sz,.isl .S (i+7) g' 0 (n+1) sz)):=by
 have hl:(il R i ⟨g',.cells (cs++ps) 0 false⟩).length=R.length:=tE _ _ _ hi
 refine⟨fun p hp=> ?_,fun a b ha hb hab=> ?_⟩
 ·obtain⟨a,ha,rfl⟩:=List.getElem_of_mem hp
  rw[List.length_set]at ha
  rw[List.getElem_set]
  by_cases h1:j=a
  ·rw[if_pos h1]
   exact .inr ⟨i,g',n+1,cs++ps,rfl,by rw[ic,if_pos rfl],by rw[hl];exact hi,by rw[List.length_append,yE,Nat.add_mul,hn,Nat.one_mul],by omega,hf⟩
  ·rw[if_neg h1]
   have hd:=h.2 j a hj ha h1
   rw[hv,pO]at hd
   rcases h.1 vs[a] (List.getElem_mem ha)with q|⟨i',g2,n',LY,q1,q2,q3,q4,q5,q6⟩
   ·exact .inl q
   ·refine .inr ⟨i',g2,n',LY,q1, ?_,by rw[hl];exact q3,q4,by omega,q6⟩
    rw[q1,pO]at hd
    rw[ic,if_neg (fun e=>by subst e;rcases hd with hd|hd <;> simp at hd)]
    exact q2
 ·rw[List.length_set]at ha hb
  rw[List.getElem_set,List.getElem_set]
  by_cases h1:j=a
  ·rw[if_pos h1,if_neg (by omega)]
   have:=h.2 j b hj hb (by omega)
   rw[hv,pO]at this
   rw[pO];exact this
  ·rw[if_neg h1]
   by_cases h2:j=b
   ·rw[if_pos h2]
    have:=h.2 a j ha hj (by omega)
    rw[hv,pO]at this
    rw[pO];exact this
   ·rw[if_neg h2];exact h.2 a b ha hb hab
end Go.Proofs.YtblcbheipjeoeaaGreat
namespace Go.Proofs.YtblcbheipjeoeaaGreat
open Go Go.Ev
theorem Bk{α β:Type}[DecidableEq α]{s:α}: ∀{m:List (α×β)},s∉m.map Prod.fst→fO m s=none
 | [],_=>rfl
 |p::m,h=>by
  rw[List.map_cons,List.mem_cons,not_or]at h
  rw[fO,if_neg h.1,Bk h.2]
def ze(m:List (List Nat×List T)):Prop:= ∀p∈m,p.2.all froz1=true∧p.2.length=3
theorem KK{l:List (List Nat)}(hnd:l.Nodup){k:Nat}(hk:k<l.length):l[k]∉l.take k:=by
 intro hm
 obtain⟨j,hj,e⟩:=List.getElem_of_mem hm
 rw[List.length_take]at hj
 rw[List.getElem_take]at e
 exact List.pairwise_iff_getElem.1 hnd j k (by omega) hk (by omega) e
theorem nwz(l:List Zo)(hnd:(l.map Zo.nm).Nodup)(a:T)(cc:List T)(ha:fD a l.length cc)(hc:fy HG l cc)(hlen:l.length≤100)(c2 c3 GV Yt:fg)(fr:Fr)(lh:fC fg)(sh:List fg)
  (h9:an fr 9= .mp .L 38 1) (h40:an fr 40=a) (Yu:an fr 41= .i .i64 (l.length:Int)) (h42:an fr 42= .i .i64 0) (o2:be lh 2=c2) (o3:be lh 3=c3) (kE:be lh 35=GV) (im:be lh 37=Yt) (GW:be lh 38=⟨1,.map [] [] false⟩):
  DC pE 232 (.loop lp) ⟨fr,lh,sh⟩=some (.ext 0,⟨gr pE 232 lp fr lh sh,gp pE 232 lp fr lh sh,gn pE 232 lp fr lh sh⟩)∧
  (be (gp pE 232 lp fr lh sh) 2=c2∧be (gp pE 232 lp fr lh sh) 3=c3∧be (gp pE 232 lp fr lh sh) 35=GV∧be (gp pE 232 lp fr lh sh) 37=Yt∧(∃m,be (gp pE 232 lp fr lh sh) 38=⟨1,.map (m.map fun p=>sK p.1) (m.map fun p=>T.agg p.2) false⟩∧ze m)∧gn pE 232 lp fr lh sh=sh):=by
 refine fq (P:=fun fR fH fL=>be fH 2=c2∧be fH 3=c3∧be fH 35=GV∧be fH 37=Yt∧(∃m,be fH 38=⟨1,.map (m.map fun p=>sK p.1) (m.map fun p=>T.agg p.2) false⟩∧ze m)∧fL=sh)
  (fw (fun k st=> ∃(fr:Fr) (fG:fC fg) (m:List (List Nat×List T)),st=⟨fr,fG,sh⟩∧m.map Prod.fst=(l.map Zo.nm).take k∧ze m∧an fr 9= .mp .L 38 1∧an fr 40=a∧an fr 41= .i .i64 (l.length:Int)∧an fr 42= .i .i64 (k:Int)∧be fG 2=c2∧be fG 3=c3∧be fG 35=GV∧be fG 37=Yt∧be fG 38=⟨1,.map (m.map fun p=>sK p.1) (m.map fun p=>T.agg p.2) false⟩) _ l.length ?_ ?_ 0 _ (Nat.zero_le _) ⟨fr,lh,[],rfl,by simp,(fun p hp=>by cases hp),h9,h40,Yu,h42,o2,o3,kE,im,GW⟩)
 ·rintro k _ hk ⟨fr,fG,m,rfl,hm,hmz,h9,h40,Yu,h42,o2,o3,kE,im,GW⟩
  left
  have fK:(k:Int)<l.length:=by omega
  have hw:=gl (k:=k) (by omega)
  obtain⟨sT,sc,rr,fF,tj,yw⟩:=GL ha hc k hk
  have hkm:k<(l.map Zo.nm).length:=by simpa using hk
  have lU:fO m l[k].nm=none:=Bk (by rw[hm];have:=KK hnd hkm;rwa [List.getElem_map]at this)
  have j5:pH (.one .str) (.s l[k].nm) (.agg [.s l[k].nm,.i .i64 l[k].o,sT]) (m.map fun p=>sK p.1) (m.map fun p=>T.agg p.2)=_:=wQ (kT:=sK) (vT:=T.agg) Er m l[k].nm [.s l[k].nm,.i .i64 l[k].o,sT] lU
  have Rq:(l.map Zo.nm).take (k+1)=(l.map Zo.nm).take k++ [l[k].nm]:=by rw[List.take_succ_eq_append_getElem hkm,List.getElem_map]
  rw[Rq]
  generalize l[k]=z at*
  simp(maxDischargeDepth:=6) only[qA,seval,lp,h9,h40,Yu,h42,GW,fK,fF,hw,pM,wN,j5,tj.froz1]
  refine⟨_,rfl,_,_,m++ [(z.nm,[.s z.nm,.i .i64 z.o,sT])],rfl, ?_, ?_, ?_, ?_, ?_, ?_, ?_, ?_, ?_, ?_, ?_⟩
  ·rw[List.map_append,hm];rfl
  ·intro p hp
   rcases List.mem_append.1 hp with hp|hp
   ·exact hmz p hp
   ·rw[List.mem_singleton.1 hp];exact⟨by simp[tj.froz1,D2,wL],rfl⟩
  all_goals (simp(maxDischargeDepth:=6) only[qA,seval,h9,h40,Yu,o2,o3,kE,im])
 ·rintro _ ⟨fr,fG,m,rfl,hm,hmz,h9,h40,Yu,h42,o2,o3,kE,im,GW⟩
  simp(maxDischargeDepth:=6) only[qA,seval,lp,Yu,h42,Int.lt_irrefl]
  exact⟨_,_,(by simp:Out.ext 0≠ .nrm),rfl,rfl,o2,o3,kE,im,⟨m,GW,hmz⟩,rfl⟩
end Go.Proofs.YtblcbheipjeoeaaGreat
namespace Go.Proofs.YtblcbheipjeoeaaGreat
open Go Go.Ev
def ky(zT aT fT:T)(c:Ct)(a7 a8 a9 a10 fB fA:T)(vs:List T):List T:=zT::aT::fT::(fX c a7 a8 a9 a10 fB fA++ .mp .L 35 1::vs)
theorem VE{m:List (List Nat×List T)}(hm:ze m){s:List Nat}{v:List T}(h:fO m s=some v):v.all froz1=true∧v.length=3:=by
 have Z4: ∃p∈m,p.2=v:=by
  clear hm
  induction m with
  |nil=>cases h
  |cons p m ih=>
   rw[fO]at h
   split at h
   ·injection h with h;exact⟨p,List.mem_cons_self ..,h⟩
   ·obtain⟨q,hq,e⟩:=ih h;exact⟨q,List.mem_cons_of_mem _ hq,e⟩
 obtain⟨p,hp,rfl⟩:=Z4
 exact hm p hp
theorem VF{m:List (List Nat×List T)}(hm:ze m)(s:List Nat): ∃v,mX (.one .str) (m.map fun p=>sK p.1) (m.map fun p=>T.agg p.2) (.s s) (.agg [.s [],.i .i64 0,.nilsl]) false=some (.agg v)∧v.all froz1=true∧v.length=3:=by
 have ja:=QE (kT:=sK) (vT:=T.agg) Er (fun _=>rfl) m s (.agg [.s [],.i .i64 0,.nilsl])
 cases h:fO m s with
 |none=>rw[h]at ja;exact⟨_,ja,rfl,rfl⟩
 |some v=>rw[h]at ja;exact⟨v,ja,VE hm h⟩
theorem nwa(l:List Ap)(hnd:(l.map Ap.cd).Nodup)(a:T)(cc:List T)(ha:fD a l.length cc)(hc:fy IW l cc)(hlen:l.length≤100)(m:List (List Nat×List T))(hmz:ze m)(zT aT fT:T)(c:Ct)(a7 a8 a9 a10 fB fA:T)(vs:List T)(c2 c3:fg)(fr:Fr)(lh:fC fg)(sh:List fg)
  (h8:an fr 8= .ptr .L 37 1 0) (h9:an fr 9= .mp .L 38 1) (E1:an fr 52=a) (yO:an fr 53= .i .i64 (l.length:Int)) (zd:an fr 54= .i .i64 0) (o2:be lh 2=c2) (o3:be lh 3=c3) (kE:be lh 35=⟨1,.map [] [] false⟩) (im:be lh 37=⟨1,.cells (ky zT aT fT c a7 a8 a9 a10 fB fA vs) 0 true⟩) (GW:be lh 38=⟨1,.map (m.map fun p=>sK p.1) (m.map fun p=>T.agg p.2) false⟩):
  DC pE 232 (.loop lP) ⟨fr,lh,sh⟩=some (.ext 2,⟨gr pE 232 lP fr lh sh,gp pE 232 lP fr lh sh,gn pE 232 lP fr lh sh⟩)∧
  (be (gp pE 232 lP fr lh sh) 2=c2∧be (gp pE 232 lP fr lh sh) 3=c3∧be (gp pE 232 lP fr lh sh) 37=⟨1,.cells (ky zT aT fT c a7 a8 a9 a10 fB fA vs) 0 true⟩∧(∃q,be (gp pE 232 lP fr lh sh) 35=⟨1,.map (q.map fun p=>sK p.1) (q.map fun p=>T.agg p.2) false⟩∧ze q)∧gn pE 232 lP fr lh sh=sh):=by
 refine fq (P:=fun fR fH fL=>be fH 2=c2∧be fH 3=c3∧be fH 37=⟨1,.cells (ky zT aT fT c a7 a8 a9 a10 fB fA vs) 0 true⟩∧(∃q,be fH 35=⟨1,.map (q.map fun p=>sK p.1) (q.map fun p=>T.agg p.2) false⟩∧ze q)∧fL=sh)
  (fw (fun k st=> ∃(fr:Fr) (fG:fC fg) (q:List (List Nat×List T)),st=⟨fr,fG,sh⟩∧q.map Prod.fst=(l.map Ap.cd).take k∧ze q∧an fr 8= .ptr .L 37 1 0∧an fr 9= .mp .L 38 1∧an fr 52=a∧an fr 53= .i .i64 (l.length:Int)∧an fr 54= .i .i64 (k:Int)∧be fG 2=c2∧be fG 3=c3∧be fG 37=⟨1,.cells (ky zT aT fT c a7 a8 a9 a10 fB fA vs) 0 true⟩∧be fG 38=⟨1,.map (m.map fun p=>sK p.1) (m.map fun p=>T.agg p.2) false⟩∧be fG 35=⟨1,.map (q.map fun p=>sK p.1) (q.map fun p=>T.agg p.2) false⟩) _ l.length ?_ ?_ 0 _ (Nat.zero_le _) ⟨fr,lh,[],rfl,by simp,(fun p hp=>by cases hp),h8,h9,E1,yO,zd,o2,o3,im,GW,kE⟩)
 ·rintro k _ hk ⟨fr,fG,q,rfl,hq,hqz,h8,h9,E1,yO,zd,o2,o3,im,GW,kE⟩
  left
  have fK:(k:Int)<l.length:=by omega
  have hw:=gl (k:=k) (by omega)
  obtain⟨rr,fF⟩:=KG ha hc k hk
  have hkm:k<(l.map Ap.cd).length:=by simpa using hk
  have lU:fO q l[k].cd=none:=Bk (by rw[hq];have:=KK hnd hkm;rwa [List.getElem_map]at this)
  obtain⟨v,ja,JZ,hv3⟩:=VF hmz l[k].zn
  have j5:pH (.one .str) (.s l[k].cd) (.agg v) (q.map fun p=>sK p.1) (q.map fun p=>T.agg p.2)=_:=wQ (kT:=sK) (vT:=T.agg) Er q l[k].cd v lU
  have Rq:(l.map Ap.cd).take (k+1)=(l.map Ap.cd).take k++ [l[k].cd]:=by rw[List.take_succ_eq_append_getElem hkm,List.getElem_map]
  rw[Rq]
  generalize l[k]=z at*
  unfold ky fX at im ⊢
  simp only[List.cons_append,List.nil_append]at im ⊢
  simp(maxDischargeDepth:=6) only[qA,seval,gW,fU,lP,h8,h9,E1,yO,zd,kE,im,GW,fK,fF,hw,gI,ja,JZ,pM,wN,j5]
  refine⟨_,rfl,_,_,q++ [(z.cd,v)],rfl, ?_, ?_, ?_, ?_, ?_, ?_, ?_, ?_, ?_, ?_, ?_, ?_⟩
  ·rw[List.map_append,hq];rfl
  ·intro p hp
   rcases List.mem_append.1 hp with hp|hp
   ·exact hqz p hp
   ·rw[List.mem_singleton.1 hp];exact⟨JZ,hv3⟩
  all_goals (simp(maxDischargeDepth:=6) only[qA,seval,h8,h9,E1,yO,o2,o3,im,GW])
 ·rintro _ ⟨fr,fG,q,rfl,hq,hqz,h8,h9,E1,yO,zd,o2,o3,im,GW,kE⟩
  simp(maxDischargeDepth:=6) only[qA,seval,lP,yO,zd,Int.lt_irrefl]
  exact⟨_,_,(by simp:Out.ext 2≠ .nrm),rfl,rfl,o2,o3,im,⟨q,kE,hqz⟩,rfl⟩
end Go.Proofs.YtblcbheipjeoeaaGreat
namespace Go.Proofs.YtblcbheipjeoeaaGreat
open Go Go.Ev
theorem Rr{n:Nat}(h:n≤1000):(n+1)*56≤roomy:=by unfold roomy;omega
theorem aba:56≤roomy:=by unfold roomy;omega
def lb(r1 r2 r3 c1 c2 c3 cr nb:T):List T:= [.nilsl,r1,r2,r3,.nilsl,c1,c2,c3,cr,nb]
def mh(r1 r2 r3 c1 c2 c3 cr:T):List (Nat×T):= [(4,r1),(4,r2),(4,r3),(3,c1),(3,c2),(3,c3),(3,cr)]
theorem anQ:jB [] 0 (mh .nilsl .nilsl .nilsl .nilsl .nilsl .nilsl .nilsl):=by
 have gz: ∀p∈mh .nilsl .nilsl .nilsl .nilsl .nilsl .nilsl .nilsl,p.2= .nilsl:=by
  intro p hp
  simp only[mh,List.mem_cons,List.not_mem_nil,or_false]at hp
  rcases hp with rfl|rfl|rfl|rfl|rfl|rfl|rfl <;> rfl
 exact⟨fun p hp=> .inl (gz p hp),fun i j hi hj _=> .inl (by rw[gz _ (List.getElem_mem hi)];rfl)⟩
def ND(l:Cs)(sc:Int)(x:Ex):Prop:=(sc=1∨sc=2∨sc=3)∧fP x=0∧ ∃k,x.ty (I5 l) sc=(k,0)
theorem nwr(c:Ct)(a7 a8:T)(c7 c8:List T)(i7:fD a7 c.cs.length c7)(j7:iR c.cs c7)(i8:fD a8 c.ru.length c8)(j8:fy Nz c.ru c8)(hlen:c.ru.length≤40)(vR: ∀u∈c.ru,ND c.cs u.sc u.x)(zT aT fT a9 a10 fB fA nb:T)(c2 c3 GV:fg)(Bl:List (Nat×Int))(xT:nN c.cs Bl)(fr:Fr)(lh:fC fg)(sh:List fg)(jh:sh=jA a7 (gG c.cs c.cs.length) Bl [])
  (h8:an fr 8= .ptr .L 37 1 0) (iM:an fr 14= .ptr .S 2 1 0) (xe:an fr 73=a8) (vI:an fr 74= .i .i64 (c.ru.length:Int)) (Bm:an fr 75= .i .i64 0) (o2:be lh 2=c2) (o3:be lh 3=c3) (kE:be lh 35=GV) (im:be lh 37=⟨1,.cells (ky zT aT fT c a7 a8 a9 a10 fB fA (lb .nilsl .nilsl .nilsl .nilsl .nilsl .nilsl .nilsl nb)) 0 true⟩):
  DC pE 232 (.loop jI) ⟨fr,lh,sh⟩=some (.ext 4,⟨gr pE 232 jI fr lh sh,gp pE 232 jI fr lh sh,gn pE 232 jI fr lh sh⟩)∧
  (be (gp pE 232 jI fr lh sh) 2=c2∧be (gp pE 232 jI fr lh sh) 3=c3∧be (gp pE 232 jI fr lh sh) 35=GV∧ ∃(R:List fg) (kn:List (Nat×Int)) (r1 r2 r3:T),gn pE 232 jI fr lh sh=jA a7 (gG c.cs c.cs.length) kn R∧nN c.cs kn∧jB R 40 (mh r1 r2 r3 .nilsl .nilsl .nilsl .nilsl)∧be (gp pE 232 jI fr lh sh) 37=⟨1,.cells (ky zT aT fT c a7 a8 a9 a10 fB fA (lb r1 r2 r3 .nilsl .nilsl .nilsl .nilsl nb)) 0 true⟩):=by
 refine fq (P:=fun fR fH fL=>be fH 2=c2∧be fH 3=c3∧be fH 35=GV∧ ∃(R:List fg) (kn:List (Nat×Int)) (r1 r2 r3:T),fL=jA a7 (gG c.cs c.cs.length) kn R∧nN c.cs kn∧jB R 40 (mh r1 r2 r3 .nilsl .nilsl .nilsl .nilsl)∧be fH 37=⟨1,.cells (ky zT aT fT c a7 a8 a9 a10 fB fA (lb r1 r2 r3 .nilsl .nilsl .nilsl .nilsl nb)) 0 true⟩)
  (fw (fun k st=> ∃(fr:Fr) (fG:fC fg) (R:List fg) (kn:List (Nat×Int)) (r1 r2 r3:T),st=⟨fr,fG,jA a7 (gG c.cs c.cs.length) kn R⟩∧nN c.cs kn∧jB R k (mh r1 r2 r3 .nilsl .nilsl .nilsl .nilsl)∧an fr 8= .ptr .L 37 1 0∧an fr 14= .ptr .S 2 1 0∧an fr 73=a8∧an fr 74= .i .i64 (c.ru.length:Int)∧an fr 75= .i .i64 (k:Int)∧be fG 2=c2∧be fG 3=c3∧be fG 35=GV∧be fG 37=⟨1,.cells (ky zT aT fT c a7 a8 a9 a10 fB fA (lb r1 r2 r3 .nilsl .nilsl .nilsl .nilsl nb)) 0 true⟩) _ c.ru.length ?_ ?_ 0 _ (Nat.zero_le _) ⟨fr,lh,[],Bl,.nilsl,.nilsl,.nilsl,by rw[jh],xT,anQ,h8,iM,xe,vI,Bm,o2,o3,kE,im⟩)
 ·rintro k _ hk ⟨fr,fG,R,kn,r1,r2,r3,rfl,nz,pP,h8,iM,xe,vI,Bm,o2,o3,kE,im⟩
  left
  have fK:(k:Int)<c.ru.length:=by omega
  have hw:=gl (k:=k) (by omega)
  obtain⟨b,cb,rr,fF,iK,hb⟩:=Ba i8 j8 k hk
  obtain⟨k6,hval,t,lN⟩:=vR c.ru[k] (List.getElem_mem hk)
  have Bn:=(qw hval).1
  obtain⟨cf,hJ,fu,uW,mY,_⟩:=Es c.cs a7 R c.cs.length (Nat.le_refl _) (Et c.cs a7 R c7 i7 j7) c.ru[k].sc (.inr k6) c.ru[k].x t kn _ nz hb Bn (oP hval) (by rw[Bo];exact lN)
  have nL:=zA (sa c.cs) c.ru[k].sc c.ru[k].x
  generalize c.ru[k]=u at*
  generalize comp (sa c.cs) u.sc u.x=y at*
  obtain⟨fa,fc,rfl,AX,hf2⟩:=uW.cells
  have SJ:Ys (u.nm,y) [.s u.nm,.i .i64 y.op,.i .i64 y.num,fa]:=⟨_,rfl,uW⟩
  have xf:vQ 4 [.s u.nm,.i .i64 y.op,.i .i64 y.num,fa]:=by
   have:=(vQ.nil 4).app4 (u.nm,y) _ SJ (by show y.sz≤1000;omega)
   simpa using this
  have GX:=aba
  have arp:k≤40:=by omega
  unfold ky fX lb at im ⊢
  simp only[List.cons_append,List.nil_append]at im ⊢
  rcases k6 with k6|k6|k6 <;> rw[k6]at fF fu
  ·have hrw:=pP.1 (4,r1) (by simp[mh])
   rcases hrw with jW|⟨i,g,n,cs,hv,hE,hi,hn,hB,hfz⟩
   ·simp only at jW
    subst jW
    have kN:=(pP.mono (Nat.le_succ k)).new (by omega) 0 (by simp[mh]) (sz:=4) rfl [.s u.nm,.i .i64 y.op,.i .i64 y.num,fa] rfl xf
    simp(maxDischargeDepth:=6) only[qA,seval,jz,repl,gW,fU,nM,iP,jI,h8,iM,xe,vI,Bm,im,fK,fF,hw,fu,qE,rj,iK.kept1,AX.froz1,j3,j4,gQ,kI,gM,lB,rZ,Dc,GX]
    refine⟨_,rfl,_,_,il R R.length ⟨1,.cells [.s u.nm,.i .i64 y.op,.i .i64 y.num,fa] 0 false⟩,hJ,.isl .S (R.length+7) 1 0 1 4,r2,r3,rfl,mY,kN, ?_, ?_, ?_, ?_, ?_, ?_, ?_, ?_, ?_⟩
    all_goals (simp(maxDischargeDepth:=6) only[qA,seval,h8,iM,xe,vI,o2,o3,kE])
   ·simp only at hv
    subst hv
    have xU:=pP.app 0 (by simp[mh]) (sz:=4) rfl rfl hE hi hn hB [.s u.nm,.i .i64 y.op,.i .i64 y.num,fa] rfl (hfz.app4 (u.nm,y) [.s u.nm,.i .i64 y.op,.i .i64 y.num,fa] SJ (by show y.sz≤1000;omega)) (g+1)
    have uO:(n+1)*56≤roomy:=Rr (by omega)
    simp(maxDischargeDepth:=6) only[qA,seval,jz,repl,gW,fU,nM,iP,jI,h8,iM,xe,vI,Bm,im,fK,fF,hw,fu,qE,rj,iK.kept1,AX.froz1,j3,j4,gQ,kJ,gM,lC,ji,Db,rZ,Dc,hE,hn,uO]
    refine⟨_,rfl,_,_,il R i ⟨g+1,.cells (cs++ [.s u.nm,.i .i64 y.op,.i .i64 y.num,fa]) 0 false⟩,hJ,.isl .S (i+7) (g+1) 0 (n+1) 4,r2,r3,rfl,mY,xU, ?_, ?_, ?_, ?_, ?_, ?_, ?_, ?_, ?_⟩
    all_goals (simp(maxDischargeDepth:=6) only[qA,seval,h8,iM,xe,vI,o2,o3,kE])
  ·have hrw:=pP.1 (4,r2) (by simp[mh])
   rcases hrw with jW|⟨i,g,n,cs,hv,hE,hi,hn,hB,hfz⟩
   ·simp only at jW
    subst jW
    have kN:=(pP.mono (Nat.le_succ k)).new (by omega) 1 (by simp[mh]) (sz:=4) rfl [.s u.nm,.i .i64 y.op,.i .i64 y.num,fa] rfl xf
    simp(maxDischargeDepth:=6) only[qA,seval,jz,repl,gW,fU,nM,iP,jI,h8,iM,xe,vI,Bm,im,fK,fF,hw,fu,qE,rj,iK.kept1,AX.froz1,j3,j4,gQ,kI,gM,lB,rZ,Dc,GX]
    refine⟨_,rfl,_,_,il R R.length ⟨1,.cells [.s u.nm,.i .i64 y.op,.i .i64 y.num,fa] 0 false⟩,hJ,r1,.isl .S (R.length+7) 1 0 1 4,r3,rfl,mY,kN, ?_, ?_, ?_, ?_, ?_, ?_, ?_, ?_, ?_⟩
    all_goals (simp(maxDischargeDepth:=6) only[qA,seval,h8,iM,xe,vI,o2,o3,kE])
   ·simp only at hv
    subst hv
    have xU:=pP.app 1 (by simp[mh]) (sz:=4) rfl rfl hE hi hn hB [.s u.nm,.i .i64 y.op,.i .i64 y.num,fa] rfl (hfz.app4 (u.nm,y) [.s u.nm,.i .i64 y.op,.i .i64 y.num,fa] SJ (by show y.sz≤1000;omega)) (g+1)
    have uO:(n+1)*56≤roomy:=Rr (by omega)
    simp(maxDischargeDepth:=6) only[qA,seval,jz,repl,gW,fU,nM,iP,jI,h8,iM,xe,vI,Bm,im,fK,fF,hw,fu,qE,rj,iK.kept1,AX.froz1,j3,j4,gQ,kJ,gM,lC,ji,Db,rZ,Dc,hE,hn,uO]
    refine⟨_,rfl,_,_,il R i ⟨g+1,.cells (cs++ [.s u.nm,.i .i64 y.op,.i .i64 y.num,fa]) 0 false⟩,hJ,r1,.isl .S (i+7) (g+1) 0 (n+1) 4,r3,rfl,mY,xU, ?_, ?_, ?_, ?_, ?_, ?_, ?_, ?_, ?_⟩
    all_goals (simp(maxDischargeDepth:=6) only[qA,seval,h8,iM,xe,vI,o2,o3,kE])
  ·have hrw:=pP.1 (4,r3) (by simp[mh])
   rcases hrw with jW|⟨i,g,n,cs,hv,hE,hi,hn,hB,hfz⟩
   ·simp only at jW
    subst jW
    have kN:=(pP.mono (Nat.le_succ k)).new (by omega) 2 (by simp[mh]) (sz:=4) rfl [.s u.nm,.i .i64 y.op,.i .i64 y.num,fa] rfl xf
    simp(maxDischargeDepth:=6) only[qA,seval,jz,repl,gW,fU,nM,iP,jI,h8,iM,xe,vI,Bm,im,fK,fF,hw,fu,qE,rj,iK.kept1,AX.froz1,j3,j4,gQ,kI,gM,lB,rZ,Dc,GX]
    refine⟨_,rfl,_,_,il R R.length ⟨1,.cells [.s u.nm,.i .i64 y.op,.i .i64 y.num,fa] 0 false⟩,hJ,r1,r2,.isl .S (R.length+7) 1 0 1 4,rfl,mY,kN, ?_, ?_, ?_, ?_, ?_, ?_, ?_, ?_, ?_⟩
    all_goals (simp(maxDischargeDepth:=6) only[qA,seval,h8,iM,xe,vI,o2,o3,kE])
   ·simp only at hv
    subst hv
    have xU:=pP.app 2 (by simp[mh]) (sz:=4) rfl rfl hE hi hn hB [.s u.nm,.i .i64 y.op,.i .i64 y.num,fa] rfl (hfz.app4 (u.nm,y) [.s u.nm,.i .i64 y.op,.i .i64 y.num,fa] SJ (by show y.sz≤1000;omega)) (g+1)
    have uO:(n+1)*56≤roomy:=Rr (by omega)
    simp(maxDischargeDepth:=6) only[qA,seval,jz,repl,gW,fU,nM,iP,jI,h8,iM,xe,vI,Bm,im,fK,fF,hw,fu,qE,rj,iK.kept1,AX.froz1,j3,j4,gQ,kJ,gM,lC,ji,Db,rZ,Dc,hE,hn,uO]
    refine⟨_,rfl,_,_,il R i ⟨g+1,.cells (cs++ [.s u.nm,.i .i64 y.op,.i .i64 y.num,fa]) 0 false⟩,hJ,r1,r2,.isl .S (i+7) (g+1) 0 (n+1) 4,rfl,mY,xU, ?_, ?_, ?_, ?_, ?_, ?_, ?_, ?_, ?_⟩
    all_goals (simp(maxDischargeDepth:=6) only[qA,seval,h8,iM,xe,vI,o2,o3,kE])
 ·rintro _ ⟨fr,fG,R,kn,r1,r2,r3,rfl,nz,pP,h8,iM,xe,vI,Bm,o2,o3,kE,im⟩
  simp(maxDischargeDepth:=6) only[qA,seval,jI,vI,Bm,Int.lt_irrefl]
  exact⟨_,_,(by simp:Out.ext 4≠ .nrm),rfl,rfl,o2,o3,kE,R,kn,r1,r2,r3,rfl,nz,pP.mono (by omega),im⟩
end Go.Proofs.YtblcbheipjeoeaaGreat
