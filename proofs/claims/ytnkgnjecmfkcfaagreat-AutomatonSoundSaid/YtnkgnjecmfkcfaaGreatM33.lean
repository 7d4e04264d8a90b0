/- Walks, plain laws (33). Conditions: the theorems' own. -/
import Derived.Test.YtnkgnjecmfkcfaaGreatM29
import Derived.Test.YtnkgnjecmfkcfaaGreatM30
import Derived.Test.YtnkgnjecmfkcfaaGreatM32
set_option maxRecDepth 100000
set_option linter.all false
set_option maxHeartbeats 16000000
namespace Go.Proofs.YtnkgnjecmfkcfaaGreat
open Go Go.Ev
def ja(y:Ex): ∃a,mE y= [qi y.op,qi y.num,.s y.name,a]∧IsSl a y.args.length (acq y.args):=by
 obtain⟨o,n,s,l⟩:=y
 cases l with
 |nil=>exact⟨.nilsl,by rw[mE];rfl,.inl ⟨rfl,rfl,by rw[Ex.args,acq]⟩⟩
 |cons b r=>exact⟨_,by rw[mE];rfl,.inr ⟨false,by rw[Ex.args,acq];rfl⟩⟩
def aqH{j:Nat}(h:oB.map (fun p=>(cj (kJ j) p.1 p.2).2)=oB.map fun _=>0): ∀p∈oB,(cj (kJ j) p.1 p.2).2=0:=List.map_inj_left.1 h
theorem aJv(j:Nat)(hj:j≤2): ∀p∈oB,(cj (kJ j) p.1 p.2).2=0:=three (fun j=> ∀p∈oB,(cj (kJ j) p.1 p.2).2=0) (aqH (by kernel_rfl)) (aqH (by kernel_rfl)) (aqH (by kernel_rfl)) hj
def aqI: ∀p∈oB,p.2.sm:=fun p D=>by
 unfold oB at D
 rcases List.mem_append.1 D with h|h
 ·rcases List.mem_append.1 h with h|h
  ·obtain⟨u,r,rfl⟩:=List.mem_map.1 h;exact alX r
  ·obtain⟨u,r,rfl⟩:=List.mem_map.1 h;exact alY r
 ·obtain⟨u,r,rfl⟩:=List.mem_map.1 h;exact alZ r
def aqJ(j:Nat)(hj:j≤2)(p:Int×Ex)(I:p∈oB): ∃(k:Int) (s:List ah),ae pE 229 [vB false j,qi p.1,.agg (fN p.2)] []=some (.tup [qi k,qi 0],s):=by
 have D:IsSl (vB false j) (kJ j).length (.s ug::fN (nP j)):= .inr ⟨_,rfl⟩
 have F:dc (kJ j) (.s ug::fN (nP j)):=by
  show dc [(ug,nP j)] _
  rw[dc]
  exact⟨fN (nP j),[],by simp,rfl,by rw[dc]⟩
 have r:(kJ j).length≤jA:=show(1:Nat)≤jA by decide
 have J:smC (kJ j):=fun c hc=>by
  have hc:c=(ug,nP j):=List.mem_singleton.1 hc
  subst hc
  exact⟨Nat.zero_le _,al0 hj⟩
 obtain⟨kn,e,_⟩:=Oz (kJ j) (vB false j) _ D F r (kJ j).length (Nat.le_refl _) (fun i hi=>OA (kJ j) (vB false j) _ D F r J i hi) p.1 p.2 (fN p.2) rfl (Nat.zero_le _) (aqI p I) [] (fun i t h=>by cases h)
 have K:LX (kJ j) (kJ j).length p.1 p.2=cj (kJ j) p.1 p.2:=by unfold LX cj FX;rw[List.take_length]
 rw[K,aJv j hj p I]at e
 have hn:=acr (kJ j) (vB false j) _ D F r
 obtain⟨a,cc,ex,H,_⟩:=iD.cells (x:=p.2) rfl
 rw[ex]at e ⊢
 have N:=H.froz1
 have O:=H.cells
 have U:=H.noTup
 have V:=H.kept1
 have W:=D.lenI
 have X:=D.froz
 have m3:=D.froz1
 have Y:=D.kept1
 have Z:=D.kept
 generalize uA (vB false j) (bE (kJ j) (kJ j).length) []=C at*
 generalize vB false j=a7 at*
 generalize (kJ j).length=L at*
 refine⟨(cj (kJ j) p.1 p.2).1, ?_⟩
 rw[au XE (by simp[Ws])]
 simp(maxDischargeDepth:=6) only[qA,seval,eO,dA,bg,aH,Ws,hn,e,N,O,U,V,W,X,m3,Y,Z,ajd,ayA,EV,azf,yy]
def aqK(r:T)(h7:froz1 r=true)(I:froz r=true)(H:kept1 r=true)(J:cellsOf r= [r])(K:noTup r=true)(N k o m:Int)(O:List Nat)(a:T)(ha:froz1 a=true)(U:kept1 a=true)(V:cellsOf a= [a])(dk:noTup a=true)(s0:List ah)(e0:ae pE 229 [r,qi N,.agg [qi o,qi m,.s O,a]] []=some (.tup [qi k,qi 0],s0))(W X Y Z r5 r6 r7:ah)(hN:ae pE 72 [.nilsl] [⟨1,.map [] [] false⟩]=some (.ptr .S 3 1 0,[⟨1,.map [] [] false⟩,W,X,Y,Z,r5,r6,r7]))(o' m':Int)(F:List Nat)(D:T)(ha':froz1 D=true)(aJy:kept1 D=true)(aJz:cellsOf D= [D])(aJA:noTup D=true)(s2:List ah)(hS:ae pE 230 [.ptr .S 8 1 0,qi N,.agg [qi o,qi m,.s O,a]] [⟨1,.map [] [] false⟩,W,X,Y,Z,r5,r6,r7,⟨1,.cells [r,.mp .S 0 1,.ptr .S 3 1 0] 0 true⟩]=some (.agg [qi o',qi m',.s F,D],s2))(vv:Int)(hvv: ¬vv=10)(s3:List ah)(hV:ae pE 215 [.agg [qi o',qi m',.s F,D]] []=some (qi vv,s3)): ∃s,ae pE 152 [r,qi N,.agg [qi o,qi m,.s O,a]] []=some (.tup [.agg [qi o',qi m',.s F,D],qi 0],s):=by
 have fF:=fun lh=>iQ (lh:=lh) (sh:= [⟨1,.map [] [] false⟩,W,X,Y,Z,r5,r6,r7,⟨1,.cells [.nilsl,.nilmp,.nilptr] 0 true⟩]) (k:=8) (g:=1) (off:=0) (m:=3) (v:= .agg [r,.mp .S 0 1,.ptr .S 3 1 0]) (by simp only[qA,seval,dA,H]) rfl
 rw[au Xb (by simp[VS])]
 simp(maxDischargeDepth:=6) only[qA,seval,eO,dA,repl,VS,h7,I,H,J,K,ha,U,V,dk,e0,hN,splice,fF,dP,hS,hV,hvv,ha',aJy,aJz,aJA,azn,azo,aj8,azd,azl,azm,axS,aGj]
 exact⟨_,rfl⟩
def acs(j:Nat)(hj:j≤2)(p:Int×Ex)(Z:p∈oB)(hs: ∀D F H I J K N:ah,∃s,ae pE 230 [.ptr .S 8 1 0,qi p.1,.agg (fN p.2)] (LW (vB false j) D F H I J K N)=some (.agg (mE (jJ j p.2)),s))(hv:jJ j p.2∈exV): ∃s,ae pE 152 [vB false j,qi p.1,.agg (fN p.2)] []=some (.tup [.agg (mE (jJ j p.2)),qi 0],s):=by
 obtain⟨k,s0,V⟩:=aqJ j hj p Z
 obtain⟨D,F,H,I,J,K,N,hN⟩:=aCR
 obtain⟨s2,W⟩:=hs D F H I J K N
 obtain⟨s3,X⟩:=vlK _ hv
 obtain⟨a,cc,ex,O,_⟩:=iD.cells (x:=p.2) rfl
 obtain⟨b,Y,U⟩:=ja (jJ j p.2)
 rw[ex,Y]at W
 rw[ex]at V ⊢
 rw[Y]at X ⊢
 have r:IsSl (vB false j) 1 (.s ug::fN (nP j)):= .inr ⟨_,rfl⟩
 exact aqK _ r.froz1 r.froz r.kept1 r.cells r.noTup p.1 k _ _ _ a O.froz1 O.kept1 O.cells O.noTup s0 V D F H I J K N hN _ _ _ b U.froz1 U.kept1 U.cells U.noTup s2 W 0 zz s3 X
theorem al6(j:Nat): ∀p∈prC,jJ j p.2=jJ 0 p.2:=List.map_inj_left.1 rfl
theorem acu(j:Nat): ∀u∈iX,jJ j u.x=u.x:=List.map_inj_left.1 rfl
theorem aCS(j:Nat): ∀u∈ic.take 9,jJ j u.x=u.x:=List.map_inj_left.1 rfl
theorem aCT(j:Nat): ∀x∈wJ,jJ j x=x:=List.map_inj_left.1 rfl
def H3(j:Nat)(hj:j≤2): ∀p∈oB,∃s,ae pE 152 [vB false j,qi p.1,.agg (fN p.2)] []=some (.tup [.agg (mE (jJ j p.2)),qi 0],s):=by
 have O: ∀p∈prC,p∈oB→ ∃s,ae pE 152 [vB false j,qi p.1,.agg (fN p.2)] []=some (.tup [.agg (mE (jJ j p.2)),qi 0],s):=fun p hc r=>by
  refine acs j hj p r (fun D F H I J K N=> ?_) ?_
  ·rw[al6 j p hc]
   exact td 10 (aJk _ D F H I J K N) (td 10 (aJl _ D F H I J K N) (by rw[List.drop_drop];exact aJm _ D F H I J K N)) p hc
  ·rw[al6 j p hc]
   exact List.mem_append_left _ (List.mem_map_of_mem (f:=fun p:Int×Ex=>jJ 0 p.2) hc)
 have U: ∀p∈(oB.drop 27).take 1,p∈oB→ ∃s,ae pE 152 [vB false j,qi p.1,.agg (fN p.2)] []=some (.tup [.agg (mE (jJ j p.2)),qi 0],s):=fun p hc r=>by
  refine acs j hj p r (fun D F H I J K N=> ?_) ?_
  ·exact three (fun j=> ∃s,ae pE 230 [.ptr .S 8 1 0,qi p.1,.agg (fN p.2)] (LW (vB false j) D F H I J K N)=some (.agg (mE (jJ j p.2)),s)) (aJn D F H I J K N p hc) (aJo D F H I J K N p hc) (aJp D F H I J K N p hc) hj
  ·exact List.mem_append_right _ (List.mem_flatMap.2 ⟨p,hc,three (fun j=>jJ j p.2∈ [jJ 0 p.2,jJ 1 p.2,jJ 2 p.2]) yv yv yv hj⟩)
 intro p r
 have h:=r
 rw[←List.take_append_drop 27 oB]at h
 rcases List.mem_append.1 h with h|h
 ·exact O p (List.mem_append_left _ h) r
 ·rw[←List.take_append_drop 1 (oB.drop 27)]at h
  rcases List.mem_append.1 h with h|h
  ·exact U p h r
  ·rw[List.drop_drop]at h
   exact O p (List.mem_append_right _ h) r
def kmR(j:Nat)(hj:j≤2): ∀u∈iX,∃s,ae pE 152 [vB false j,qi u.sc,.agg (fN u.x)] []=some (.tup [.agg (mE (jJ j u.x)),qi 0],s):=fun u r=>H3 j hj (u.sc,u.x) (List.mem_append_left _ (List.mem_append_left _ (List.mem_map_of_mem (f:=fun u:Ru=>(u.sc,u.x)) r)))
def kmC(j:Nat)(hj:j≤2): ∀u∈ic,∃s,ae pE 152 [vB false j,qi u.sc,.agg (fN u.x)] []=some (.tup [.agg (mE (jJ j u.x)),qi 0],s):=fun u r=>H3 j hj (u.sc,u.x) (List.mem_append_left _ (List.mem_append_right _ (List.mem_map_of_mem (f:=fun u:Co=>(u.sc,u.x)) r)))
def kmV(j:Nat)(hj:j≤2): ∀x∈wJ,∃s,ae pE 152 [vB false j,qi 1,.agg (fN x)] []=some (.tup [.agg (mE (jJ j x)),qi 0],s):=fun x hx=>H3 j hj (1,x) (List.mem_append_right _ (List.mem_map_of_mem (f:=fun x:Ex=>((1:Int),x)) hx))
def aJB(j:Nat)(hj:j≤2): ∀u∈iX,¬(jJ j u.x).op=4:=fun u r=>by
 have h:=List.all_eq_true.1 (show(iX.all fun u=>decide (¬u.x.op=4))=true from rfl) u r
 rw[acu j u r]
 exact of_decide_eq_true h
def aJC(j:Nat)(hj:j≤2): ∀u∈ic,¬(jJ j u.x).op=1:=fun u r=>of_decide_eq_true (List.all_eq_true.1 (show(ic.all fun u=>decide (¬(jJ j u.x).op=1))=true from rfl) u r)
def atK: ∀n∈lF,∃(k:Int) (s:List ah),ae pE 87 [qi 1,.s n] []=some (.tup [qi k,qi 0],s)∧ ¬k=3:=fun n hn=>by
 obtain⟨r,s,e,h⟩:=aJq n hn
 split at h
 ·exact⟨_,s,e,of_decide_eq_true h⟩
 ·cases h
def H4{a:Int}(h:0≤a∧a≤3):a∈trB:=by
 have:a=0∨a=1∨a=2∨a=3:=zV
 simpa[trB]using this
def acv{f:Nat}{A:List T}(h: ∃r s,ae pE f A []=some (r,s)∧rH r=true): ∃(r:Int) (s:List ah),ae pE f A []=some (qi r,s)∧0≤r∧r≤3:=by
 obtain⟨r,s,e,h⟩:=h
 obtain⟨t,rfl,D⟩:=acp h
 exact⟨t,s,e,D⟩
def crK(j:Nat)(hj:j≤2): ∀x∈wJ,∀n∈lF,∃(r:Int) (s:List ah),ae pE 156 [.agg [.s n,.b false],.agg (mE (jJ j x))] []=some (qi r,s)∧0≤r∧r≤3:=fun x hx n hn=>by
 rw[aCT j x hx]
 exact acv (aJr (x,n) (List.mem_flatMap.2 ⟨x,hx,List.mem_map_of_mem hn⟩))
def qRu(j:Nat)(hj:j≤2)(k:Int)(hk:0≤k∧k≤3): ∀u∈iX,∀n∈lF,∃(r:Int) (s:List ah),ae pE 90 [qi u.sc,.agg (mE (jJ j u.x)),.s n,.b false,qi k,.b false] []=some (qi r,s)∧0≤r∧r≤3:=fun u F n hn=>by
 rw[acu j u F]
 refine acv ?_
 have D: ∀{l:List Ru},u∈l→(u,n)∈l.flatMap (fun u=>lF.map fun n=>(u,n)):=fun h=>List.mem_flatMap.2 ⟨u,h,List.mem_map_of_mem hn⟩
 exact td (P:=fun v=>v=u→_) 8 (fun v h e=>qr0 k (u,n) (D (e▸h))) (td 7 (fun v h e=>qr1 k (u,n) (D (e▸h))) (td 1 (fun v h e=>qr2 k (H4 hk) (u,n) (D (by rw[List.drop_drop]at h;exact e▸h))) (fun v h e=>qr3 k (u,n) (D (by rw[List.drop_drop,List.drop_drop]at h;exact e▸h))))) u F rfl
def qCo(j:Nat)(hj:j≤2)(k:Int)(hk:0≤k∧k≤3): ∀u∈ic,∀n∈lF,∃(r:Int) (s:List ah),ae pE 90 [qi u.sc,.agg (mE (jJ j u.x)),.s n,.b false,qi k,.b true] []=some (qi r,s)∧0≤r∧r≤3:=fun u F n hn=>by
 refine acv ?_
 have D: ∀{l:List Co},u∈l→(u,n)∈l.flatMap (fun u=>lF.map fun n=>(u,n)):=fun h=>List.mem_flatMap.2 ⟨u,h,List.mem_map_of_mem hn⟩
 rw[←List.take_append_drop 9 ic]at F
 rcases List.mem_append.1 F with h|h
 ·rw[aCS j u h]
  have h:u∈ic.take 6∨u∈(ic.drop 6).take 1∨u∈(ic.drop 7).take 2:=by
   have e:ic.take 9=ic.take 6++((ic.drop 6).take 1++(ic.drop 7).take 2):=rfl
   rw[e]at h
   simpa only[List.mem_append]using h
  rcases h with h|h|h
  ·exact qc0 k (u,n) (D h)
  ·exact qc1 k (H4 hk) (u,n) (D h)
  ·exact qc2 k (u,n) (D h)
 ·exact three (fun j=> ∃r s,ae pE 90 [qi u.sc,.agg (mE (jJ j u.x)),.s n,.b false,qi k,.b true] []=some (r,s)∧rH r=true) (aJs k (u,n) (D h)) (aJt k (u,n) (D h)) (aJu k (u,n) (D h)) hj
def OB(j:Nat)(u:Ru):List T:= qi u.sc:: .s u.nm::mE (jJ j u.x)
def OC(j:Nat)(u:Co):List T:= qi u.sc::mE (jJ j u.x)
def Vf(j:Nat)(x:Ex):List T:=mE (jJ j x)
theorem H5{α:Type}(f:α→List T)(l:List α)(k:Nat)(h:k<l.length):(l.take (k+1)).flatMap f=(l.take k).flatMap f++f l[k]:=by
 rw[List.take_succ_eq_append_getElem h,List.flatMap_append,List.flatMap_cons,List.flatMap_nil,List.append_nil]
section
variable(j:Nat)(hj:j≤2)(c:Ct)(a8 a9 aw aA az:T)(hT:kR c (vB false j) a8 a9 aw aA az)(uE: ∀u∈c.ru,u∈iX)(iz: ∀u∈c.co,u∈ic)(qn: ∀x∈c.cr,x∈wJ)
include hj hT
include uE in
theorem scR(e2:ah)(fr:Fr)(lh:aE ah)(sh:List ah)(h1:aa fr 1= .ptr .L 1 1 0)(h5:aa fr 5= .ptr .L 5 1 0)(hs:aa fr 38=a8)(hl:aa fr 39= qi (c.ru.length:Int))(hi:aa fr 40= qi 0)(hlen:c.ru.length≤1000)
  (r:ab lh 1=⟨1,.cells (aO c (vB false j) a8 a9 aw aA az) 0 true⟩) (D:ab lh 2=e2) (F:ab lh 5=⟨1,.cells [qi c.rp,qi c.rl,qi c.cn,qi c.st,qi c.ly,qi c.nf,qi c.nt,.nilsl,.nilsl,.nilsl,.nilsl,aA,az,qi c.gu] 0 true⟩):
  Lp pE 138 xX fr lh sh (.ext 0) fun f l s=>s=sh∧ab l 2=e2∧ab l 1=⟨1,.cells (aO c (vB false j) a8 a9 aw aA az) 0 true⟩∧ ∃v,aW l v 70 6 c.ru.length (c.ru.flatMap (OB j))∧ab l 5=⟨1,.cells [qi c.rp,qi c.rl,qi c.cn,qi c.st,qi c.ly,qi c.nf,qi c.nt,.nilsl,v,.nilsl,.nilsl,aA,az,qi c.gu] 0 true⟩:=by
 obtain⟨c7,i7,j7⟩:=hT.h7
 obtain⟨c8,i8,j8⟩:=hT.h8
 refine bK Jt (fun k f l s=>aa f 40= qi (k:Int)∧s=sh∧ab l 1=⟨1,.cells (aO c (vB false j) a8 a9 aw aA az) 0 true⟩∧ab l 2=e2∧ ∃v,aW l v 70 6 k ((c.ru.take k).flatMap (OB j))∧ab l 5=⟨1,.cells [qi c.rp,qi c.rl,qi c.cn,qi c.st,qi c.ly,qi c.nf,qi c.nt,.nilsl,v,.nilsl,.nilsl,aA,az,qi c.gu] 0 true⟩) c.ru.length ⟨hi,rfl,r,D,.nilsl,aW.nil,F⟩ ?_ ?_
 ·rintro k f l _ hk N ⟨O,rfl,r,D,v,H,F⟩
  have U:(k:Int)<c.ru.length:=zV
  have hw:=aF (k:=k) zV
  obtain⟨b,cb,rr,V,W,hb⟩:=zR i8 j8 k hk
  rw[H5 _ _ k hk]
  have X:=uE _ (List.getElem_mem hk)
  have aeL:=X
  generalize c.ru[k]=u at*
  obtain⟨s0,aC⟩:=kmR j hj u X
  have Y:=aJB j hj u X
  obtain⟨fa,ef,IL⟩:=ja (jJ j u.x)
  unfold iD at hb
  rw[ef,←hb]at aC
  have K:=fun(ps:List T) (I:ps.length=6) (aN:aE ah) (J:List ah) (e:ab aN 70=ab l 70)=>de (bytes:=80) (sh:=J) (H.congr e) ps I (by unfold roomy;omega) true
  have Z:=fun ps I aN J e=>(K ps I aN J e).2.1.cells
  have DE:=fun ps I aN J e=>(K ps I aN J e).2.1.noTup
  have lE:=H.notS
  have z7:=i7.froz
  have z71:=i7.froz1
  have zb1:=W.froz1
  have zb2:=W.cells
  have zb3:=W.noTup
  have zf1:=IL.froz1
  have zf2:=IL.cells
  have zf3:=IL.noTup
  generalize vB false j=a7 at*
  unfold aO at r ⊢
  simp(maxDischargeDepth:=6) only[qA,seval,gd,repl,aH,xX,N,h1,h5,hs,hl,O,r,D,F,U,hw,V,z7,z71,zb1,zb2,zb3,zf1,zf2,zf3,aC,Xc,Xd,Y,K,Z,DE,lE]
  refine⟨_,(dx zz).mpr ?_,rfl⟩
  unfold OB
  rw[ef]
  exact(K _ rfl _ _ yk).2.1
 ·rintro f l _ N ⟨O,rfl,r,D,v,H,F⟩
  rw[List.take_length]at H
  simp only[qA,seval,gd,xX,N,hl,O,Int.lt_irrefl]
  exact⟨D,r,v,H,F⟩
include iz in
theorem scO(D:ah)(U:T)(e2:ah)(fr:Fr)(lh:aE ah)(sh:List ah)(h1:aa fr 1= .ptr .L 1 1 0)(h5:aa fr 5= .ptr .L 5 1 0)(hs:aa fr 74=a9)(hl:aa fr 75= qi (c.co.length:Int))(hi:aa fr 76= qi 0)(hlen:c.co.length≤1000)
  (F:ab lh 1=⟨1,.cells (aO c (vB false j) a8 a9 aw aA az) 0 true⟩) (H:ab lh 2=e2) (r:ab lh 70=D) (I:ab lh 5=⟨1,.cells [qi c.rp,qi c.rl,qi c.cn,qi c.st,qi c.ly,qi c.nf,qi c.nt,.nilsl,U,.nilsl,.nilsl,aA,az,qi c.gu] 0 true⟩):
  Lp pE 138 xW fr lh sh (.ext 2) fun f l s=>s=sh∧ab l 2=e2∧ab l 70=D∧ab l 1=⟨1,.cells (aO c (vB false j) a8 a9 aw aA az) 0 true⟩∧ ∃v,aW l v 109 5 c.co.length (c.co.flatMap (OC j))∧ab l 5=⟨1,.cells [qi c.rp,qi c.rl,qi c.cn,qi c.st,qi c.ly,qi c.nf,qi c.nt,.nilsl,U,v,.nilsl,aA,az,qi c.gu] 0 true⟩:=by
 obtain⟨c7,i7,j7⟩:=hT.h7
 obtain⟨c8,i8,j8⟩:=hT.h9
 refine bK Js (fun k f l s=>aa f 76= qi (k:Int)∧s=sh∧ab l 1=⟨1,.cells (aO c (vB false j) a8 a9 aw aA az) 0 true⟩∧ab l 2=e2∧ab l 70=D∧ ∃v,aW l v 109 5 k ((c.co.take k).flatMap (OC j))∧ab l 5=⟨1,.cells [qi c.rp,qi c.rl,qi c.cn,qi c.st,qi c.ly,qi c.nf,qi c.nt,.nilsl,U,v,.nilsl,aA,az,qi c.gu] 0 true⟩) c.co.length ⟨hi,rfl,F,H,r,.nilsl,aW.nil,I⟩ ?_ ?_
 ·rintro k f l _ hk V ⟨W,rfl,F,H,r,v,J,I⟩
  have X:(k:Int)<c.co.length:=zV
  have hw:=aF (k:=k) zV
  obtain⟨b,cb,rr,Y,Z,hb⟩:=CS i8 j8 k hk
  rw[H5 _ _ k hk]
  have hm:=iz _ (List.getElem_mem hk)
  have aeL:=hm
  generalize c.co[k]=u at*
  obtain⟨s0,aC⟩:=kmC j hj u hm
  have hne:=aJC j hj u hm
  obtain⟨fa,ef,IL⟩:=ja (jJ j u.x)
  unfold iD at hb
  rw[ef,←hb]at aC
  have O:=fun(ps:List T) (K:ps.length=5) (aN:aE ah) (N:List ah) (e:ab aN 109=ab l 109)=>de (bytes:=64) (sh:=N) (J.congr e) ps K (by unfold roomy;omega) true
  have hcl:=fun ps K aN N e=>(O ps K aN N e).2.1.cells
  have DE:=fun ps K aN N e=>(O ps K aN N e).2.1.noTup
  have lE:=J.notS
  have z7:=i7.froz
  have z71:=i7.froz1
  have zb1:=Z.froz1
  have zb2:=Z.cells
  have zb3:=Z.noTup
  have zf1:=IL.froz1
  have zf2:=IL.cells
  have zf3:=IL.noTup
  generalize vB false j=a7 at*
  unfold aO at F ⊢
  simp(maxDischargeDepth:=6) only[qA,seval,gd,repl,aH,xW,V,h1,h5,hs,hl,W,F,H,I,X,hw,Y,z7,z71,zb1,zb2,zb3,zf1,zf2,zf3,aC,Xc,Xd,hne,O,hcl,DE,lE,r]
  refine⟨_,(dx zz).mpr ?_,rfl⟩
  unfold OC
  rw[ef]
  exact(O _ rfl _ _ yk).2.1
 ·rintro f l _ V ⟨W,rfl,F,H,r,v,J,I⟩
  rw[List.take_length]at J
  simp only[qA,seval,gd,xW,V,hl,W,Int.lt_irrefl]
  exact⟨H,r,F,v,J,I⟩
include qn in
theorem scX(F:ah)(H:ah)(W:T)(X:T)(e2:ah)(fr:Fr)(lh:aE ah)(sh:List ah)(h1:aa fr 1= .ptr .L 1 1 0)(h5:aa fr 5= .ptr .L 5 1 0)(hs:aa fr 113=aw)(hl:aa fr 114= qi (c.cr.length:Int))(hi:aa fr 115= qi 0)(hlen:c.cr.length≤1000)
  (I:ab lh 1=⟨1,.cells (aO c (vB false j) a8 a9 aw aA az) 0 true⟩) (J:ab lh 2=e2) (r:ab lh 70=F) (D:ab lh 109=H) (K:ab lh 5=⟨1,.cells [qi c.rp,qi c.rl,qi c.cn,qi c.st,qi c.ly,qi c.nf,qi c.nt,.nilsl,W,X,.nilsl,aA,az,qi c.gu] 0 true⟩):
  Lp pE 138 xV fr lh sh (.ext 4) fun f l s=>s=sh∧ab l 2=e2∧ab l 70=F∧ab l 109=H∧ab l 1=⟨1,.cells (aO c (vB false j) a8 a9 aw aA az) 0 true⟩∧ ∃v,aW l v 134 4 c.cr.length (c.cr.flatMap (Vf j))∧ab l 5=⟨1,.cells [qi c.rp,qi c.rl,qi c.cn,qi c.st,qi c.ly,qi c.nf,qi c.nt,.nilsl,W,X,v,aA,az,qi c.gu] 0 true⟩:=by
 obtain⟨c7,i7,j7⟩:=hT.h7
 obtain⟨c8,i8,j8⟩:=hT.h10
 refine bK Jr (fun k f l s=>aa f 115= qi (k:Int)∧s=sh∧ab l 1=⟨1,.cells (aO c (vB false j) a8 a9 aw aA az) 0 true⟩∧ab l 2=e2∧ab l 70=F∧ab l 109=H∧ ∃v,aW l v 134 4 k ((c.cr.take k).flatMap (Vf j))∧ab l 5=⟨1,.cells [qi c.rp,qi c.rl,qi c.cn,qi c.st,qi c.ly,qi c.nf,qi c.nt,.nilsl,W,X,v,aA,az,qi c.gu] 0 true⟩) c.cr.length ⟨hi,rfl,I,J,r,D,.nilsl,aW.nil,K⟩ ?_ ?_
 ·rintro k f l _ hk Y ⟨Z,rfl,I,J,r,D,v,N,K⟩
  have hk':(k:Int)<c.cr.length:=zV
  have hw:=aF (k:=k) zV
  obtain⟨b,cb,rr,hia,fg,_,hb⟩:=nO i8 j8 k hk
  rw[H5 _ _ k hk]
  have hm:=qn _ (List.getElem_mem hk)
  have aeL:=hm
  generalize c.cr[k]=u at*
  obtain⟨s0,aC⟩:=kmV j hj u hm
  have hne:=trivial
  obtain⟨fa,ef,IL⟩:=ja (jJ j u)
  unfold iD at hb
  rw[ef,←hb]at aC
  have V:=fun(ps:List T) (O:ps.length=4) (aN:aE ah) (U:List ah) (e:ab aN 134=ab l 134)=>de (bytes:=56) (sh:=U) (N.congr e) ps O (by unfold roomy;omega) true
  have hcl:=fun ps O aN U e=>(V ps O aN U e).2.1.cells
  have DE:=fun ps O aN U e=>(V ps O aN U e).2.1.noTup
  have lE:=N.notS
  have z7:=i7.froz
  have z71:=i7.froz1
  have zb1:=fg.froz1
  have zb2:=fg.cells
  have zb3:=fg.noTup
  have zf1:=IL.froz1
  have zf2:=IL.cells
  have zf3:=IL.noTup
  generalize vB false j=a7 at*
  unfold aO at I ⊢
  simp(maxDischargeDepth:=6) only[qA,seval,gd,repl,aH,xV,Y,h1,h5,hs,hl,Z,I,J,K,hk',hw,hia,z7,z71,zb1,zb2,zb3,zf1,zf2,zf3,aC,Xc,Xd,hne,V,hcl,DE,lE,r,D]
  refine⟨_,(dx zz).mpr ?_,rfl⟩
  unfold Vf
  rw[ef]
  exact(V _ rfl _ _ yk).2.1
 ·rintro f l _ Y ⟨Z,rfl,I,J,r,D,v,N,K⟩
  rw[List.take_length]at N
  simp only[qA,seval,gd,xV,Y,hl,Z,Int.lt_irrefl]
  exact⟨J,r,D,I,v,N,K⟩
end
theorem A6{α:Type}(f:α→List T): ∀l:List α,aD (fun x c=>c=f x) l (l.flatMap f)
 | []=>rfl
 |x::l=>⟨f x,_,rfl,rfl,A6 f l⟩
theorem H6(y:Ex):(mE y).length=4:=by obtain⟨a,e,_⟩:=ja y;rw[e];rfl
section
variable(j:Nat)(hj:j≤2)(c:Ct)(uE: ∀u∈c.ru,u∈iX)(iz: ∀u∈c.co,u∈ic)(qn: ∀x∈c.cr,x∈wJ)(hl8:c.ru.length≤1000)(hl9:c.co.length≤1000)(ah4:c.cr.length≤1000)
def smT(j:Nat)(c:Ct):List T:= [qi c.rp,qi c.rl,qi c.cn,qi c.st,qi c.ly,qi c.nf,qi c.nt,.nilsl,bj c.ru.length (c.ru.flatMap (OB j)),bj c.co.length (c.co.flatMap (OC j)),bj c.cr.length (c.cr.flatMap (Vf j)),.nilsl,.nilsl,qi c.gu]
theorem sm8:IsSl (bj c.ru.length (c.ru.flatMap (OB j))) c.ru.length (c.ru.flatMap (OB j)):=dX fun h=>by rw[List.length_eq_zero_iff.1 h];rfl
theorem sm9:IsSl (bj c.co.length (c.co.flatMap (OC j))) c.co.length (c.co.flatMap (OC j)):=dX fun h=>by rw[List.length_eq_zero_iff.1 h];rfl
theorem ah5:IsSl (bj c.cr.length (c.cr.flatMap (Vf j))) c.cr.length (c.cr.flatMap (Vf j)):=dX fun h=>by rw[List.length_eq_zero_iff.1 h];rfl
include hj uE iz qn hl8 hl9 ah4 in
def aC3(a8 a9 aw:T)(hT:kR c (vB false j) a8 a9 aw .nilsl .nilsl)(hS:rk c)(hty:eH c=0): ∃s,ae pE 86 [.agg (aO c (vB false j) a8 a9 aw .nilsl .nilsl)] []=some (.tup [.agg (smT j c),qi 0],s):=by
 obtain⟨s0,O⟩:=Qb c (vB false j) a8 a9 aw .nilsl .nilsl hT hS
 rw[hty]at O
 have k1:ae pE 150 [.nilsl] []=some (.nilsl,[]):=cK (m:=100) (cI (by kernel_rfl))
 have k2:ae pE 151 [.nilsl] []=some (.nilsl,[]):=cK (m:=100) (cI (by kernel_rfl))
 obtain⟨c7,i7,_⟩:=hT.h7
 obtain⟨c8,W,_⟩:=hT.h8
 obtain⟨c9,X,_⟩:=hT.h9
 obtain⟨uF,r,_⟩:=hT.h10
 have hR:=fun e2 fr lh sh=>scR j hj c a8 a9 aw .nilsl .nilsl hT uE e2 fr lh sh
 have hO:=fun H Y e2 fr lh sh=>scO j hj c a8 a9 aw .nilsl .nilsl hT iz H Y e2 fr lh sh
 have hX:=fun H acy Y v9 e2 fr lh sh=>scX j hj c a8 a9 aw .nilsl .nilsl hT qn H acy Y v9 e2 fr lh sh
 have z7:=i7.froz1
 have z8:=W.froz1
 have z9:=X.froz1
 have z10:=r.froz1
 have y7:=i7.cells
 have y8:=W.cells
 have y9:=X.cells
 have y10:=r.cells
 have n7:=i7.noTup
 have n8:=W.noTup
 have n9:=X.noTup
 have n10:=r.noTup
 have m8:=W.lenI
 have m9:=X.lenI
 have m10:=r.lenI
 generalize vB false j=a7 at*
 unfold aO at*
 rw[au ax2 (by simp[c86])]
 simp(maxDischargeDepth:=6) only[qA,seval,repl,c86,O,k1,k2,axR,ayI,ayK,z7,z8,z9,z10,y7,y8,y9,y10,n7,n8,n9,n10,m8]
 generalize F:DC pE 138 (.loop xX) _=D
 obtain⟨f2,l2,s2,rfl,⟨rfl,p2,p1,Y,hO8,p5⟩,Z⟩:=qK Jt F (hR _ _ _ _ yk yk yk yk yk hl8 yk rfl yk)
 have q1:aa f2 1= .ptr .L 1 1 0:=by rw[Z 1 zz];simp only[qA,seval]
 have q2:aa f2 2= .ptr .L 2 1 0:=by rw[Z 2 zz];simp only[qA,seval]
 have q5:aa f2 5= .ptr .L 5 1 0:=by rw[Z 5 zz];simp only[qA,seval]
 simp only[qA,seval]at p2
 clear F Z hR
 simp(maxDischargeDepth:=6) only[qA,seval,p1,p5,q1,q2,q5,m9]
 generalize F:DC pE 138 (.loop xW) _=D
 obtain⟨f3,l3,s3,rfl,⟨rfl,r2,r70,r1,v9,hO9,r5⟩,Aq⟩:=qK Js F (hO _ _ _ _ _ _ (by simp only[qA,seval,q1]) (by simp only[qA,seval,q5]) yk yk yk hl9 p1 p2 rfl p5)
 have w1:aa f3 1= .ptr .L 1 1 0:=by rw[Aq 1 zz];simp only[qA,seval,q1]
 have w2:aa f3 2= .ptr .L 2 1 0:=by rw[Aq 2 zz];simp only[qA,seval,q2]
 have w5:aa f3 5= .ptr .L 5 1 0:=by rw[Aq 5 zz];simp only[qA,seval,q5]
 clear F Aq hO
 simp(maxDischargeDepth:=6) only[qA,seval,r1,r5,w1,w2,w5,m10]
 generalize F:DC pE 138 (.loop xV) _=D
 obtain⟨f4,U,s4,rfl,⟨rfl,t2,t70,V,t1,v10,I,t5⟩,J⟩:=qK Jr F (hX _ _ _ _ _ _ _ _ (by simp only[qA,seval,w1]) (by simp only[qA,seval,w5]) yk yk yk ah4 r1 r2 rfl rfl r5)
 have x2:aa f4 2= .ptr .L 2 1 0:=by rw[J 2 zz];simp only[qA,seval,w2]
 have x5:aa f4 5= .ptr .L 5 1 0:=by rw[J 5 zz];simp only[qA,seval,w5]
 clear F J hX
 have K:=hO8.congr (aN:=U) (by rw[t70,r70])
 have N:=hO9.congr (aN:=U) V
 have e8:=fun e m sh keep=>aW.fzW (m:=m) (sh:=sh) (keep:=keep) (K.congr (bq U e (show(70:Nat)≠2 by decide)))
 have e9:=fun e m sh keep=>aW.fzW (m:=m) (sh:=sh) (keep:=keep) (N.congr (bq U e (show(109:Nat)≠2 by decide)))
 have e10:=fun e m sh keep=>aW.fzW (m:=m) (sh:=sh) (keep:=keep) (I.congr (bq U e (show(134:Nat)≠2 by decide)))
 have b8:=K.cells
 have b9:=N.cells
 have b10:=I.cells
 have d8:=K.noTup
 have d9:=N.noTup
 have d10:=I.noTup
 unfold smT
 simp(maxDischargeDepth:=6) only[qA,wD,seval,x2,x5,t2,t5,e8,e9,e10,b8,b9,b10,d8,d9,d10,yy]
end
def al8(j:Nat)(c:Ct):froz1 (bj c.ru.length (c.ru.flatMap (OB j)))=true∧froz1 (bj c.co.length (c.co.flatMap (OC j)))=true∧froz1 (bj c.cr.length (c.cr.flatMap (Vf j)))=true:=⟨(sm8 j c).froz1,(sm9 j c).froz1,(ah5 j c).froz1⟩
def aJD(n:List Nat)(fr:Fr)(lh:aE ah)(sh:List ah)(H:aa fr 9= qi 0)(r:aa fr 10= qi 0)(D:ab lh 3=⟨1,.cells [.s n,.b false] 0 true⟩):
  Lp pE 21 qN fr lh sh (.ext 0) fun f l s=>s=sh∧ab l 3=⟨1,.cells [.s n,.b false] 0 true⟩:=by
 refine bK uH (fun k f l s=>aa f 10= qi 0∧s=sh∧ab l 3=⟨1,.cells [.s n,.b false] 0 true⟩) 0 ⟨r,rfl,D⟩ (fun k f l s h=>absurd h zV) ?_
 rintro f l _ I ⟨F,rfl,D⟩
 simp only[qA,seval,gd,qN,I,H,F,D,Int.lt_irrefl]
def aJE(n:List Nat)(k:Int)(o m:Int)(K:List Nat)(a r:T)(O:List T)(L:Nat)(U:froz1 a=true)(D:cellsOf a= [a])(V:noTup a=true)(W:List ah)(hc:ae pE 156 [.agg [.s n,.b false],.agg [qi o,qi m,.s K,a]] []=some (qi k,W))(fr:Fr)(lh:aE ah)(sh:List ah)(X:aa fr 8=r)(F: ∀kk,iaV r (.i kk 0) 4=some (.vp (qi o:: qi m:: .s K::a::O)))(Y:aa fr 9= qi (L+1:Nat))(H:aa fr 10= qi 0)(h3:aa fr 3= .ptr .L 3 1 0)(I:ab lh 3=⟨1,.cells [.s n,.b false] 0 true⟩):
  Lp pE 21 qN fr lh sh .ret fun f l s=>s=sh∧aa f 4= qi k:=by
 refine bK uH (fun i f l s=>i=0∧aa f 10= qi 0∧s=sh∧ab l 3=⟨1,.cells [.s n,.b false] 0 true⟩) 1 ⟨rfl,H,rfl,I⟩ ?_ ?_
 ·rintro i f l _ hi N ⟨_,J,rfl,I⟩
  have hk:(0:Int)<((L+1:Nat):Int):=zV
  simp(maxDischargeDepth:=6) only[qA,seval,gd,repl,aH,qN,N,h3,X,Y,J,hk,F,I,U,D,V,hc,ayN,ayO]
 ·rintro f l _ N ⟨h,_⟩
  exact absurd h zz
section
variable(j:Nat)(hj:j≤2)(c:Ct)(uE: ∀u∈c.ru,u∈iX)(iz: ∀u∈c.co,u∈ic)(qn: ∀x∈c.cr,x∈wJ)(hl8:c.ru.length≤1000)(hl9:c.co.length≤1000)(n:List Nat)(hn:n∈lF)
include hj qn hn in
theorem aqO: ∃(k:Int) (s:List ah),ae pE 88 [.agg (smT j c),.agg [.s n,.b false]] []=some (qi k,s)∧0≤k∧k≤3:=by
 obtain⟨U,V,F⟩:=al8 j c
 have W:=ah5 j c
 have J:=W.lenI
 have K: ∀x r,c.cr=x::r→ ∃H,∀kk,iaV (bj c.cr.length (c.cr.flatMap (Vf j))) (.i kk 0) 4=some (.vp (mE (jJ j x)++H)):=fun x r h=>by
  obtain⟨X,H,h1,h2⟩:=gI (k:=4) (fun x X (h:X=Vf j x)=>by rw[h];exact H6 _) W (A6 (Vf j) c.cr) 0 (by rw[h];simp)
  have e:c.cr[0]'(by rw[h];simp)=x:=by simp[h]
  rw[e]at h2
  subst h2
  exact⟨H,h1⟩
 unfold smT
 generalize bj c.ru.length (c.ru.flatMap (OB j))=t8 at*
 generalize bj c.co.length (c.co.flatMap (OC j))=t9 at*
 generalize bj c.cr.length (c.cr.flatMap (Vf j))=t10 at*
 cases hc:c.cr with
 |nil=>
  rw[hc]at J
  refine⟨if n= [98,108,111,99,107]then 1 else 0,[], ?_,by split <;> decide,by split <;> decide⟩
  rw[au ani (by simp[c88])]
  simp(maxDischargeDepth:=6) only[qA,seval,c88,U,V,F,J,List.length_nil]
  generalize N:DC pE 21 (.loop qN) _=D
  obtain⟨Y,l2,s2,rfl,⟨rfl,o3⟩,Z⟩:=qK uH N (aJD n _ _ _ yk yk yk)
  have q3:aa Y 3= .ptr .L 3 1 0:=by rw[Z 3 zz];simp only[qA,seval]
  by_cases h:n= [98,108,111,99,107]
  all_goals simp(maxDischargeDepth:=6) only[qA,seval,q3,o3,h]
 |cons x r=>
  rw[hc]at J
  obtain⟨H,I⟩:=K x r hc
  obtain⟨k,s0,e0,hk⟩:=crK j hj x (qn x (by rw[hc];simp)) n hn
  obtain⟨a,ea,O⟩:=ja (jJ j x)
  rw[ea]at e0 I
  refine⟨k,[], ?_,hk⟩
  rw[au ani (by simp[c88])]
  simp(maxDischargeDepth:=6) only[qA,seval,c88,U,V,F,J,List.length_cons]
  generalize N:DC pE 21 (.loop qN) _=D
  obtain⟨Y,l2,s2,rfl,⟨rfl,g4⟩,Z⟩:=qK uH N (aJE n k _ _ _ _ t10 H r.length O.froz1 O.cells O.noTup s0 e0 _ _ _ yk I yk yk yk yk)
  simp(maxDischargeDepth:=6) only[qA,seval,g4]
end
section
variable(j:Nat)(hj:j≤2)(c:Ct)(n:List Nat)(hn:n∈lF)(kt kc:Int)(X1: ¬kt=3)(hkc:0≤kc∧kc≤3)
include hj hn X1 hkc
end
def Dp{q:List Nat→Int}{n:List Nat}{x y r D:Int}(h:UB q (n,x,y)=true)(h1:y≤x→D≤r)(h2:x≤y→r≤D):UB q (n,r,D)=true:=by
 unfold UB at*
 refine LV h h ?_ ?_ <;> simp only[decide_eq_true_eq]
 ·exact fun a _=>h1 a
 ·exact fun a _=>h2 a
def ah7{q:List Nat→Int}(g:Fl)(k:Int×Bool){s u:qJ}(h:qH q s u=true):qH q (jW g k s) (jW g k u)=true:=by
 unfold qH dmP at*
 simp only[List.all_cons,List.all_nil,Bool.and_eq_true,decide_eq_true_eq,Bool.and_true]at*
 obtain⟨⟨⟨D,N,O⟩,F,H,I,J,K⟩,r⟩:=h
 unfold jW
 split
 ·exact⟨⟨⟨D,rfl,by(try simp only);omega⟩,F,Dp H (fun h=>by(try simp only);omega) (fun h=>by(try simp only);omega),I,J,K⟩,r⟩
 ·refine⟨⟨⟨D,rfl,by(try simp only);omega⟩,Dp F (fun h=>by(try simp only);omega) (fun h=>by(try simp only);omega),H,Dp I (fun h=>by(try simp only);omega) (fun h=>by(try simp only);omega),J,K⟩,LV r r ?_ ?_⟩
  all_goals
   simp only[List.all_eq_true,decide_eq_true_eq]
   intro a _ x hx
   rw[Da]at hx ⊢
   exact hx.imp id (a x)
def ah8{q:List Nat→Int}(f g:Fl)(k:Int×Bool){s u:qJ}(h:qH q s u=true):qH q (oH f g k s) (oH f g k u)=true:=by
 unfold oH
 refine ah7 g k ?_
 unfold qH dmP at*
 simp only[List.all_cons,List.all_nil,Bool.and_eq_true,decide_eq_true_eq,Bool.and_true]at*
 obtain⟨⟨⟨r,D,F⟩,H,I,J,K,N⟩,O⟩:=h
 exact⟨⟨⟨r,D,F⟩,H,I,J,Dp K (fun h=>by(try simp only);omega) (fun h=>by(try simp only);omega),Dp N (fun h=>by(try simp only);omega) (fun h=>by(try simp only);omega)⟩,O⟩
def exE(D:List Fl):Int→List (Int×Bool)→qJ→qJ
 |_,[],s=>s
 |p,k::r,s=>exE D k.1 r (oH (NP D p) (NP D k.1) k s)
theorem Rd{q:List Nat→Int}(D:List Fl): ∀(e:List (Int×Bool)) (p:Int) {s u:qJ},qH q s u=true→qH q (exE D p e s) (exE D p e u)=true
 | [],_,_,_,h=>h
 |k::r,p,_,_,h=>Rd D r k.1 (ah8 _ _ k h)
theorem A7(a e:List (Int×Bool)){j:Nat}(h:j<a.length):yI (a++e) j=yI a j:=by
 rw[mB h,mB (show j<(a++e).length by rw[List.length_append];omega),List.getElem_append_left h]
theorem Re(r:List Fl)(a e:List (Int×Bool))(h0:0<a.length): ∀j,j≤a.length→kU r (a++e) j=kU r a j
 |0,_=>by unfold kU;rw[A7 a e h0]
 |j+1,h=>by
  have ih:=Re r a e h0 j zV
  rw[kU,kU,ih]
  unfold df
  rw[A7 a e (show j<a.length by omega)]
  by_cases hj:j=0
  ·rw[if_pos hj,if_pos hj]
  ·rw[if_neg hj,if_neg hj,A7 a e (show j-1<a.length by omega)]
theorem H7(D:List Fl): ∀(e a:List (Int×Bool)),0<a.length→kU D (a++e) (a++e).length=exE D (yI a (a.length-1)).1 e (kU D a a.length)
 | [],a,_=>by rw[List.append_nil];rfl
 |k::r,a,h0=>by
  have ih:=H7 D r (a++ [k]) yv
  have hk:yI (a++ [k]) a.length=k:=by rw[mB (show a.length<(a++ [k]).length by simp)];simp
  have hs:kU D (a++ [k]) (a++ [k]).length=oH (NP D (yI a (a.length-1)).1) (NP D k.1) k (kU D a a.length):=by
   rw[show(a++ [k]).length=a.length+1 by simp,kU,if_neg zV,Re D a [k] h0 _ (Nat.le_refl _),hk]
   unfold df
   rw[hk,A7 a [k] (show a.length-1<a.length by omega)]
  rw[hs,show(a++ [k]).length-1=a.length by simp,hk,List.append_assoc,List.singleton_append]at ih
  rw[ih,exE]
theorem aqP(c:Ct)(r:List Fl){x y:Int×Bool}(h:x.1=y.1): ∀e,kg c r (x::e)=kg c r (y::e)
 | []=>rfl
 |z::e=>by rw[kg,kg,h]
theorem Rf(c:Ct)(D:List Fl)(x:Int×Bool)(e:List (Int×Bool)): ∀a,kg c D (a++x::e)=(kg c D (a++ [x])&&kg c D (x::e))
 | []=>by show kg c D (x::e)=(kg c D [x]&&_);rw[show kg c D [x]=true from rfl,Bool.true_and]
 | [y]=>by
   show kg c D (y::x::e)=(kg c D [y,x]&&_)
   rw[kg,kg,show kg c D [x]=true from rfl,Bool.and_true]
 |y::z::r=>by
  have ih:=Rf c D x e (z::r)
  rw[List.cons_append]at ih
  show(nv c D y.1 z.1&&kg c D (z::(r++x::e)))=((nv c D y.1 z.1&&kg c D (z::(r++ [x])))&&_)
  rw[ih,Bool.and_assoc]
  rfl
def Rg{α:Type}{a:List α}(h:1≤a.length): ∃r x,a=r++ [x]:=⟨a.dropLast,a.getLast (by rintro rfl;simp at h),(List.dropLast_concat_getLast _).symm⟩
theorem Rh(a:List (Int×Bool))(x:Int×Bool):yI (a++ [x]) ((a++ [x]).length-1)=x:=by
 rw[mB (show(a++ [x]).length-1<(a++ [x]).length by simp)];simp
def UC{c:Ct}{D:List Fl}{a b e:List (Int×Bool)}(O:cL c D a=0)(U:1≤b.length)(V:cL c D (b++e)=0)(K:(yI a (a.length-1)).1=(yI b (b.length-1)).1)(N:a.length≤b.length):cL c D (a++e)=0:=by
 obtain⟨a1,Y,F,H⟩:=dM O
 obtain⟨Z,W,I,r⟩:=dM V
 obtain⟨X,x,rfl⟩:=Rg a1
 obtain⟨b',y,rfl⟩:=Rg U
 rw[Rh,Rh]at K
 have J:kg c D (X++ [x]++e)=true:=by
  rw[List.append_assoc,List.singleton_append]at r ⊢
  rw[Rf]at r ⊢
  rw[Bool.and_eq_true]at r ⊢
  exact⟨H,by rw[aqP c D K];exact r.2⟩
 unfold cL
 rw[List.length_append]at W
 rw[if_neg (by rw[List.length_append];omega),if_neg (by rw[List.length_append];omega),if_pos,if_pos J]
 rw[List.all_eq_true]
 intro k hk
 rcases List.mem_append.1 hk with h|h
 ·exact F k h
 ·exact I k (List.mem_append_right _ h)
theorem FY: ∀{l:List (List Nat)},ascN l=true→l.Nodup
 | [],_=>List.nodup_nil
 |x::r,h=>by
  refine List.nodup_cons.2 ⟨?_,FY (abe h)⟩
  cases r with
  |nil=>simp
  |cons y r=>
   rw[ascN,Bool.and_eq_true]at h
   exact N6 x r y h.2 h.1
theorem ama: ∀(l m:List (List Nat)),l.Nodup→(∀x∈l,x∈m)→l.length≤m.length
 | [],_,_,_=>Nat.zero_le _
 |x::r,m,h,hs=>by
  obtain⟨h1,h2⟩:=List.nodup_cons.1 h
  have hx:=hs x (List.mem_cons_self ..)
  have ih:=ama r (m.erase x) h2 fun y D=>(List.mem_erase_of_ne (fun e=>h1 (by rw[←e];exact D))).2 (hs y (List.mem_cons_of_mem _ D))
  rw[List.length_erase_of_mem hx]at ih
  have:=List.length_pos_of_mem hx
  rw[List.length_cons]
  omega
def acA{l m:List (List Nat)}(h:ascN l=true)(hs: ∀x∈l,x∈m):l.length≤m.length:=ama l m (FY h) hs
def agI(t x y:Int):Prop:=(t=1→y≤x)∧(t=2→x≤y)∧(t=3→x=y)
def aia(t:List Int)(A B:List Int):Prop:= ∃r D F H I J K N O U V W X Y Z q6 q7:Int,A= [r,D,F,H,I,J,K,N,O,U,V]∧B= [W,X,Y,Z,I,J,q6,q7,O,U,V]∧agI (t.getD 0 0) r W∧agI (t.getD 1 0) D X∧agI (t.getD 2 0) H Z∧agI (t.getD 3 0) K q6∧agI (t.getD 4 0) N q7∧agI (t.getD 5 0) F Y
def Ri:List (List Int):= [[2,2,0,0,0,0],[2,0,0,0,0,0],[0,0,0,0,0,0],[0,0,2,0,0,0],[0,0,0,0,0,2],[3,3,0,0,0,0],[0,0,0,2,0,0]]
def Rj:List (List Int):= [[2,0,0,0,0,0],[0,0,1,0,0,0],[0,0,0,0,0,0],[0,1,0,0,0,0],[0,0,0,0,0,3]]
theorem Dq:Ag 1 [108,101,103,115]=some 0:=by decide+kernel
theorem yN:Ag 1 [104,101,97,100,115]=some 1:=by decide+kernel
theorem yO:Ag 1 [116,121,112,101,115]=some 2:=by decide+kernel
theorem yQ:Ag 1 [98,108,111,99,107]=some 3:=by decide+kernel
theorem Dr:Ag 1 [115,112,97,110]=some 4:=by decide+kernel
theorem yR:Ag 1 [110,105,103,104,116]=some 5:=by decide+kernel
theorem rI:Ag 1 [108,111,110,103,101,115,116]=some 6:=by decide+kernel
theorem yS:Ag 1 [115,116,97,114,116]=some 9:=by decide+kernel
def Rl:List Ru:=iX.take 7
def FZ:List Co:=ic.take 3++(ic.drop 7).take 2
def aib(r:List Nat→Int)(A B:List Int): ∀p∈Rl.zip Ri,aia p.2 A B→(comp r 1 p.1.x).val B≠0→(comp r 1 p.1.x).val A≠0:=by
 intro p D
 simp only[Rl,Ri,iX,List.take_succ_cons,List.take_zero,List.zip_cons_cons,List.zip_nil_right,List.mem_cons,List.not_mem_nil,or_false]at D
 rcases D with rfl|rfl|rfl|rfl|rfl|rfl|rfl
 all_goals
  rintro⟨F,H,I,J,K,N,O,U,V,W,X,Y,Z,q2,q3,q6,q7,rfl,rfl,h0,h1,h2,h3,h4,h5⟩
  simp[agI]at h0 h1 h2 h3 h4 h5
  simp[comp,eA,Dq,yN,yO,yQ,Dr,yR,rI,yS,Fm.val,eQ,DF,a0,a1,a2,bA,fQ]
  try omega
  try grind
def aic(r:List Nat→Int)(A B:List Int): ∀p∈FZ.zip Rj,aia p.2 A B→(comp r 1 p.1.x).val A≤(comp r 1 p.1.x).val B:=by
 intro p D
 simp only[FZ,Rj,ic,List.take_succ_cons,List.take_zero,List.drop_succ_cons,List.drop_zero,List.cons_append,List.nil_append,List.zip_cons_cons,List.zip_nil_right,List.mem_cons,List.not_mem_nil,or_false]at D
 rcases D with rfl|rfl|rfl|rfl|rfl
 all_goals
  rintro⟨F,H,I,J,K,N,O,U,V,W,X,Y,Z,q2,q3,q6,q7,rfl,rfl,h0,h1,h2,h3,h4,h5⟩
  simp[agI]at h0 h1 h2 h3 h4 h5
  simp[comp,eA,Dq,yN,yO,yQ,Dr,yR,rI,yS,Fm.val,eQ,DF,a0,a1,a2,bA,fQ,Hd]
  try (subst h5;omega)
  try rw[Int.fdiv_eq_ediv_of_nonneg _ zz,Int.fdiv_eq_ediv_of_nonneg _ zz]
  try omega
def A8(t r:Int):Prop:=t=0∨t=r∨r=3
def aqQ{t a r:Int}(h1:A8 t a)(h2:A8 a r)(D:a=3→r=3):A8 t r:=by
 unfold A8 at*
 rcases h1 with h|h|h
 ·exact .inl h
 ·rw[h];exact h2
 ·exact .inr (.inr (D h))
def yU{t r x y:Int}{P Q:Bool}(hc:A8 t r)(h:agr r P Q=true)(D:P=true→y≤x)(F:Q=true→x≤y):agI t x y:=by
 unfold agr at h
 refine⟨fun e=> ?_,fun e=> ?_,fun e=> ?_⟩ <;> subst e
 all_goals
  rcases hc with h0|h0|h0
  ·exact absurd h0 zz
  ·subst h0;simp at h;first|exact D h|exact F h|exact Int.le_antisymm (F h.2) (D h.1)
  ·subst h0;simp at h;first|exact D h.1|exact F h.2|exact Int.le_antisymm (F h.2) (D h.1)
def aqR{t:Tt}{c:Ct}{q:List Nat→Int}{s u:qJ}(h:qH q s u=true)(hs:ascN s.ty=true)(K:ascN u.ty=true)(r:List Int)(hc: ∀p∈r.zip lF,A8 p.1 (q p.2))(N:r.length=6):aia r (abg t c s) (abg t c u):=by
 match r,N with
 | [t0,t1,t2,t3,t4,t5],_=>
 unfold qH dmP at h
 simp only[List.all_cons,List.all_nil,Bool.and_eq_true,decide_eq_true_eq,Bool.and_true]at h
 obtain⟨⟨⟨O,U,_⟩,D,F,H,I,J⟩,V⟩:=h
 simp only[lF,List.zip_cons_cons,List.zip_nil_right,List.mem_cons,List.not_mem_nil,or_false,forall_eq_or_imp,forall_eq]at hc
 obtain⟨W,X,Y,Z,k4,k5⟩:=hc
 unfold UB at D F H I J
 unfold abg
 rw[O,U]
 refine⟨_,_,_,_,_,_,_,_,_,_,_,_,_,_,_,_,_,rfl,rfl,yU W D of_decide_eq_true of_decide_eq_true,yU X F of_decide_eq_true of_decide_eq_true,yU Y H of_decide_eq_true of_decide_eq_true,yU Z I of_decide_eq_true of_decide_eq_true,yU k4 J of_decide_eq_true of_decide_eq_true,yU k5 V (fun h=> ?_) (fun h=> ?_)⟩
 ·rw[List.all_eq_true]at h
  exact Int.ofNat_le.2 (acA K fun x hx=>of_decide_eq_true (h x hx))
 ·rw[List.all_eq_true]at h
  exact Int.ofNat_le.2 (acA hs fun x hx=>of_decide_eq_true (h x hx))
def yV{t:Tt}{c:Ct}(D:np t=0)(hc:eH c=0){d:List (Int×Bool)}(F:cL c t.fl d=0):1≤d.length∧StI t.fl d (d.length-1) (kU t.fl d d.length):=by
 have qn:=CU c hc
 obtain⟨h1,h6,H,r⟩:=dM F
 have h:=Hv ⟨qn.1,qn.2.2.1⟩ (fB t D).1 h6 H r (d.length-1) zV
 rw[Nat.sub_add_cancel h1]at h
 exact⟨h1,h⟩
def UD{t:Tt}{c:Ct}(F:np t=0)(hc:eH c=0){a b e:List (Int×Bool)}{q:List Nat→Int}(J:cL c t.fl a=0)(Y:cL c t.fl b=0)(K:cL c t.fl (b++e)=0)(h:qH q (kU t.fl a a.length) (kU t.fl b b.length)=true):
  cL c t.fl (a++e)=0∧ ∀r:List Int,r.length=6→(∀p∈r.zip lF,A8 p.1 (q p.2))→aia r (aX t c (a++e)) (aX t c (b++e)):=by
 obtain⟨a1,N⟩:=yV F hc J
 obtain⟨O,U⟩:=yV F hc Y
 obtain⟨Z,V⟩:=yV F hc K
 have H:=h
 unfold qH at H
 simp only[Bool.and_eq_true,decide_eq_true_eq]at H
 obtain⟨⟨⟨_,I,gG⟩,_⟩,_⟩:=H
 have D:a.length≤b.length:=by
  rw[N.2.1,U.2.1]at gG
  omega
 have W:(yI a (a.length-1)).1=(yI b (b.length-1)).1:=by rw[←N.2.2.2.1,←U.2.2.2.1];exact I
 have hx:=UC J O K W D
 obtain⟨x1,X⟩:=yV F hc hx
 refine⟨hx,fun r h6 QI=> ?_⟩
 rw[←FH x1 X,←FH Z V]
 refine aqR ?_ X.asc V.asc r QI h6
 rw[H7 t.fl e a a1,H7 t.fl e b O,W]
 exact Rd t.fl e _ h
def amb(D:List Nat→Int)(A:List Int): ∀u∈FZ,bd ((comp D 1 u.x).val A):=by
 intro p r
 simp only[FZ,ic,List.take_succ_cons,List.take_zero,List.drop_succ_cons,List.drop_zero,List.cons_append,List.nil_append,List.mem_cons,List.not_mem_nil,or_false]at r
 rcases r with rfl|rfl|rfl|rfl|rfl
 all_goals
  simp[comp,eA,Dq,yN,yO,yQ,Dr,yR,rI,yS,Fm.val,eQ,DF,a0,a1,a2,bA,fQ,Hd,bd]
  try omega
  try (split <;> omega)
theorem OD{α β:Type}{x:α}: ∀{l:List α} {m:List β},l.length≤m.length→x∈l→ ∃y,(x,y)∈l.zip m
 | [],_,_,h=>by cases h
 |_::_,[],h,_=>by simp at h
 |a::l,b::m,h,hx=>by
  rcases List.mem_cons.1 hx with rfl|hx
  ·exact⟨b,by simp⟩
  ·obtain⟨y,r⟩:=OD (by simpa using h) hx
   exact⟨y,by rw[List.zip_cons_cons];exact List.mem_cons_of_mem _ r⟩
def aqS{u:Ru}(r:u∈iX)(h1:u.sc=1): ∃t,(u,t)∈Rl.zip Ri:=OD zz (by
 have e:(iX.filter fun u=>u.sc==1)=Rl:=rfl
 rw[←e]
 exact List.mem_filter.2 ⟨r,by simp[h1]⟩)
def aqT{u:Co}(r:u∈ic)(h1:u.sc=1):u∈FZ∧ ∃t,(u,t)∈FZ.zip Rj:=by
 have h:u∈FZ:=by
  have e:(ic.filter fun u=>u.sc==1)=FZ:=rfl
  rw[←e]
  exact List.mem_filter.2 ⟨r,by simp[h1]⟩
 exact⟨h,OD zz h⟩
theorem Rm{A B:List Int}: ∀(l:RL) (n m:Int) (k:Nat),(∀u∈l,bd (u.2.val A)∧bd (u.2.val B)∧u.2.val A≤u.2.val B)→n≤m→ -(1099511627776*(k:Int))≤n→m≤1099511627776*(k:Int)→k+l.length≤1000→tb n (l.map fun u=>u.2.val A)≤tb m (l.map fun u=>u.2.val B)
 | [],n,m,_,_,h,_,_,_=>h
 |u::l,n,m,k,r,h,h1,h2,hk=>by
  obtain⟨⟨F,H⟩,⟨I,J⟩,K⟩:=r u (List.mem_cons_self ..)
  rw[List.length_cons]at hk
  rw[List.map_cons,List.map_cons,tb,tb,aZ zV,aZ zV]
  exact Rm l _ _ (k+1) (fun v D=>r v (List.mem_cons_of_mem _ D)) zV zV zV zV
def acB{t:Tt}{c:Ct}(U:np t=0)(hc:eH c=0)(uE: ∀u∈c.ru,u∈iX)(iz: ∀u∈c.co,u∈ic){a b e:List (Int×Bool)}{q:List Nat→Int}(V:cL c t.fl a=0)(W:cL c t.fl b=0)(X:cL c t.fl (b++e)=0)(h:qH q (kU t.fl a a.length) (kU t.fl b b.length)=true)
  (OE: ∀u∈c.ru,∀D,(u,D)∈Rl.zip Ri→ ∀p∈D.zip lF,A8 p.1 (q p.2)) (OG: ∀u∈c.co,∀D,(u,D)∈FZ.zip Rj→ ∀p∈D.zip lF,A8 p.1 (q p.2)):
  cL c t.fl (a++e)=0∧(jy t c (b++e)=true→jy t c (a++e)=true)∧fJ (aX t c (a++e)) (Hu c)≤fJ (aX t c (b++e)) (Hu c):=by
 obtain⟨hx,hr⟩:=UD (e:=e) U hc V W X h
 have I: ∀p∈Rl.zip Ri,p.2.length=6:=fun p J=>by
  have:=(List.of_mem_zip (show(p.1,p.2)∈Rl.zip Ri from J)).2
  exact(show∀x∈Ri,x.length=6 by decide) _ this
 have K: ∀p∈FZ.zip Rj,p.2.length=6:=fun p J=>by
  have:=(List.of_mem_zip (show(p.1,p.2)∈FZ.zip Rj from J)).2
  exact(show∀x∈Rj,x.length=6 by decide) _ this
 refine⟨hx,fun Y=> ?_, ?_⟩
 ·unfold jy tD sJ uD at*
  rw[List.take_length]at*
  rw[List.all_eq_true]at*
  intro v H
  have N:=Y v H
  obtain⟨u,F,rfl⟩:=List.mem_map.1 H
  obtain⟨F,h1⟩:=List.mem_filter.1 F
  have h1:u.sc=1:=by simpa using h1
  obtain⟨D,r⟩:=aqS (uE u F) h1
  rw[decide_eq_true_eq]at N ⊢
  simp only[h1]at N ⊢
  exact aib _ _ _ _ r (hr D (I _ r) (OE u F D r)) N
 ·unfold fJ Hu tC
  rw[List.take_length]
  refine Rm _ 0 0 0 (fun v H=> ?_) (Int.le_refl _) zz zz ?_
  ·obtain⟨u,F,rfl⟩:=List.mem_map.1 H
   obtain⟨F,h1⟩:=List.mem_filter.1 F
   have h1:u.sc=1:=by simpa using h1
   obtain⟨O,D,r⟩:=aqT (iz u F) h1
   simp only[h1]
   exact⟨amb _ _ u O,amb _ _ u O,aic _ _ _ _ r (hr D (K _ r) (OG u F D r))⟩
  ·have Z:=(lP c hc).2.2.2.1
   rw[List.length_map]
   have:=List.length_filter_le (fun u:Co=>u.sc==1) c.co
   omega
end Go.Proofs.YtnkgnjecmfkcfaaGreat
