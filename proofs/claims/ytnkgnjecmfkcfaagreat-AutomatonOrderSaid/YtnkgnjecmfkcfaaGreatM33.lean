/- Walks of functions of the program and of the reference, and their plain laws, part 33. Conditions: the theorems' own. -/
import Derived.Test.YtnkgnjecmfkcfaaGreatGS
import Derived.Test.YtnkgnjecmfkcfaaGreatM9
import Derived.Test.YtnkgnjecmfkcfaaGreatM12
import Derived.Test.YtnkgnjecmfkcfaaGreatM14
import Derived.Test.YtnkgnjecmfkcfaaGreatM27
import Derived.Test.YtnkgnjecmfkcfaaGreatM28
import Derived.Test.YtnkgnjecmfkcfaaGreatM29
import Derived.Test.YtnkgnjecmfkcfaaGreatM30
import Derived.Test.YtnkgnjecmfkcfaaGreatM31
import Derived.Test.YtnkgnjecmfkcfaaGreatM32
import Derived.KernelRfl
set_option maxRecDepth 100000
set_option linter.unusedSimpArgs false
set_option linter.unusedVariables false
set_option maxHeartbeats 16000000
namespace Go.Proofs.YtnkgnjecmfkcfaaGreat
open Go Go.Ev
theorem im(y:Ex): ∃a,mR y= [.i .i64 y.op,.i .i64 y.num,.s y.name,a]∧IsSl a y.args.length (YY y.args):=by
 obtain⟨o,n,s,l⟩:=y
 cases l with
 |nil=>exact⟨.nilsl,by rw[mR];rfl,.inl ⟨rfl,rfl,by rw[Ex.args,YY]⟩⟩
 |cons b r=>exact⟨_,by rw[mR];rfl,.inr ⟨false,by rw[Ex.args,YY];rfl⟩⟩
theorem amA{j:Nat}(h:nw.map (fun p=>(cg (jL j) p.1 p.2).2)=nw.map fun _=>0): ∀p∈nw,(cg (jL j) p.1 p.2).2=0:=List.map_inj_left.1 h
theorem aDY(j:Nat)(hj:j≤2): ∀p∈nw,(cg (jL j) p.1 p.2).2=0:=three (fun j=> ∀p∈nw,(cg (jL j) p.1 p.2).2=0) (amA (by kernel_rfl)) (amA (by kernel_rfl)) (amA (by kernel_rfl)) hj
theorem amB: ∀p∈nw,p.2.sm:=fun p D=>by
 unfold nw at D
 rcases List.mem_append.1 D with h|h
 ·rcases List.mem_append.1 h with h|h
  ·obtain⟨u,r,rfl⟩:=List.mem_map.1 h;exact ahV r
  ·obtain⟨u,r,rfl⟩:=List.mem_map.1 h;exact ahW r
 ·obtain⟨u,r,rfl⟩:=List.mem_map.1 h;exact ahX r
theorem amC(j:Nat)(hj:j≤2)(p:Int×Ex)(I:p∈nw): ∃(k:Int) (s:List ah),ae pE 229 [vB false j,.i .i64 p.1,.agg (fw p.2)] []=some (.tup [.i .i64 k,.i .i64 0],s):=by
 have D:IsSl (vB false j) (jL j).length (.s sN::fw (mL j)):= .inr ⟨_,rfl⟩
 have F:cW (jL j) (.s sN::fw (mL j)):=by
  show cW [(sN,mL j)] _
  rw[cW]
  exact⟨fw (mL j),[],by simp,rfl,by rw[cW]⟩
 have r:(jL j).length≤iP:=show(1:Nat)≤iP by decide
 have J:ZY (jL j):=fun c hc=>by
  have hc:c=(sN,mL j):=List.mem_singleton.1 hc
  subst hc
  exact⟨Nat.zero_le _,ahY hj⟩
 obtain⟨kn,e,_⟩:=Mb (jL j) (vB false j) _ D F r (jL j).length (Nat.le_refl _) (fun i hi=>Mc (jL j) (vB false j) _ D F r J i hi) p.1 p.2 (fw p.2) rfl (Nat.zero_le _) (amB p I) [] (fun i t h=>by cases h)
 have K:JM (jL j) (jL j).length p.1 p.2=cg (jL j) p.1 p.2:=by unfold JM cg DM;rw[List.take_length]
 rw[K,aDY j hj p I]at e
 have hn:=YZ (jL j) (vB false j) _ D F r
 obtain⟨a,Z,ex,H,_⟩:=gr.cells (x:=p.2) rfl
 rw[ex]at e ⊢
 have N:=H.froz1
 have O:=H.cells
 have R:=H.noTup
 have U:=H.kept1
 have V:=D.lenI
 have W:=D.froz
 have m3:=D.froz1
 have X:=D.kept1
 have Y:=D.kept
 generalize ta (vB false j) (bA (jL j) (jL j).length) []=C at*
 generalize vB false j=a7 at*
 generalize (jL j).length=L at*
 refine⟨(cg (jL j) p.1 p.2).1, ?_⟩
 rw[av Uh (by simp[Te])]
 simp(maxDischargeDepth:=6) only[qA,seval,eS,dn,bj,aH,Te,hn,e,N,O,R,U,V,W,m3,X,Y,afu,aty,CQ,aul,AI]
theorem amD(a7:T)(h7:froz1 a7=true)(H:froz a7=true)(F:kept1 a7=true)(I:cellsOf a7= [a7])(J:noTup a7=true)(K k o m:Int)(N:List Nat)(a:T)(ha:froz1 a=true)(O:kept1 a=true)(R:cellsOf a= [a])(ew:noTup a=true)(s0:List ah)(e0:ae pE 229 [a7,.i .i64 K,.agg [.i .i64 o,.i .i64 m,.s N,a]] []=some (.tup [.i .i64 k,.i .i64 0],s0))(U V W X Y Z r7:ah)(hN:ae pE 72 [.nilsl] [⟨1,.map [] [] false⟩]=some (.ptr .S 3 1 0,[⟨1,.map [] [] false⟩,U,V,W,X,Y,Z,r7]))(o' m':Int)(D:List Nat)(r:T)(ha':froz1 r=true)(aD1:kept1 r=true)(aD2:cellsOf r= [r])(aD3:noTup r=true)(s2:List ah)(hS:ae pE 230 [.ptr .S 8 1 0,.i .i64 K,.agg [.i .i64 o,.i .i64 m,.s N,a]] [⟨1,.map [] [] false⟩,U,V,W,X,Y,Z,r7,⟨1,.cells [a7,.mp .S 0 1,.ptr .S 3 1 0] 0 true⟩]=some (.agg [.i .i64 o',.i .i64 m',.s D,r],s2))(vv:Int)(hvv: ¬vv=10)(s3:List ah)(hV:ae pE 215 [.agg [.i .i64 o',.i .i64 m',.s D,r]] []=some (.i .i64 vv,s3)): ∃s,ae pE 152 [a7,.i .i64 K,.agg [.i .i64 o,.i .i64 m,.s N,a]] []=some (.tup [.agg [.i .i64 o',.i .i64 m',.s D,r],.i .i64 0],s):=by
 have fv:=fun lh=>hZ (lh:=lh) (sh:= [⟨1,.map [] [] false⟩,U,V,W,X,Y,Z,r7,⟨1,.cells [.nilsl,.nilmp,.nilptr] 0 true⟩]) (k:=8) (g:=1) (off:=0) (m:=3) (v:= .agg [a7,.mp .S 0 1,.ptr .S 3 1 0]) (by simp only[qA,seval,dn,F]) rfl
 rw[av TR (by simp[SF])]
 simp(maxDischargeDepth:=6) only[qA,seval,eS,dn,repl,SF,h7,H,F,I,J,ha,O,R,ew,e0,hN,splice,fv,dA,hS,hV,hvv,ha',aD1,aD2,aD3,aup,auq,agk,auj,aun,auo,asV,aAN]
 exact⟨_,rfl⟩
theorem Y1(j:Nat)(hj:j≤2)(p:Int×Ex)(Y:p∈nw)(hs: ∀D F H I J K N:ah,∃s,ae pE 230 [.ptr .S 8 1 0,.i .i64 p.1,.agg (fw p.2)] (JL (vB false j) D F H I J K N)=some (.agg (mR (kb j p.2)),s))(hv:kb j p.2∈exV): ∃s,ae pE 152 [vB false j,.i .i64 p.1,.agg (fw p.2)] []=some (.tup [.agg (mR (kb j p.2)),.i .i64 0],s):=by
 obtain⟨k,Z,U⟩:=amC j hj p Y
 obtain⟨D,F,H,I,J,K,N,hN⟩:=axK
 obtain⟨s2,V⟩:=hs D F H I J K N
 obtain⟨s3,W⟩:=vlK _ hv
 obtain⟨a,cc,ex,O,_⟩:=gr.cells (x:=p.2) rfl
 obtain⟨b,X,R⟩:=im (kb j p.2)
 rw[ex,X]at V
 rw[ex]at U ⊢
 rw[X]at W ⊢
 have r:IsSl (vB false j) 1 (.s sN::fw (mL j)):= .inr ⟨_,rfl⟩
 exact amD _ r.froz1 r.froz r.kept1 r.cells r.noTup p.1 k _ _ _ a O.froz1 O.kept1 O.cells O.noTup Z U D F H I J K N hN _ _ _ b R.froz1 R.kept1 R.cells R.noTup s2 V 0 zz s3 W
theorem ah1(j:Nat): ∀p∈prC,kb j p.2=kb 0 p.2:=List.map_inj_left.1 rfl
theorem ah2(j:Nat): ∀u∈jK,kb j u.x=u.x:=List.map_inj_left.1 rfl
theorem axL(j:Nat): ∀u∈iS.take 9,kb j u.x=u.x:=List.map_inj_left.1 rfl
theorem axM(j:Nat): ∀x∈uR,kb j x=x:=List.map_inj_left.1 rfl
theorem FY(j:Nat)(hj:j≤2): ∀p∈nw,∃s,ae pE 152 [vB false j,.i .i64 p.1,.agg (fw p.2)] []=some (.tup [.agg (mR (kb j p.2)),.i .i64 0],s):=by
 have hC: ∀p∈prC,p∈nw→ ∃s,ae pE 152 [vB false j,.i .i64 p.1,.agg (fw p.2)] []=some (.tup [.agg (mR (kb j p.2)),.i .i64 0],s):=fun p hc r=>by
  refine Y1 j hj p r (fun D F H I J K N=> ?_) ?_
  ·rw[ah1 j p hc]
   exact td 10 (aDM _ D F H I J K N) (td 10 (aDN _ D F H I J K N) (by rw[List.drop_drop];exact aDO _ D F H I J K N)) p hc
  ·rw[ah1 j p hc]
   exact List.mem_append_left _ (List.mem_map_of_mem (f:=fun p:Int×Ex=>kb 0 p.2) hc)
 have O: ∀p∈(nw.drop 27).take 1,p∈nw→ ∃s,ae pE 152 [vB false j,.i .i64 p.1,.agg (fw p.2)] []=some (.tup [.agg (mR (kb j p.2)),.i .i64 0],s):=fun p hc r=>by
  refine Y1 j hj p r (fun D F H I J K N=> ?_) ?_
  ·exact three (fun j=> ∃s,ae pE 230 [.ptr .S 8 1 0,.i .i64 p.1,.agg (fw p.2)] (JL (vB false j) D F H I J K N)=some (.agg (mR (kb j p.2)),s)) (aDP D F H I J K N p hc) (aDQ D F H I J K N p hc) (aDR D F H I J K N p hc) hj
  ·exact List.mem_append_right _ (List.mem_flatMap.2 ⟨p,hc,three (fun j=>kb j p.2∈ [kb 0 p.2,kb 1 p.2,kb 2 p.2]) zP zP zP hj⟩)
 intro p r
 have h:=r
 rw[←List.take_append_drop 27 nw]at h
 rcases List.mem_append.1 h with h|h
 ·exact hC p (List.mem_append_left _ h) r
 ·rw[←List.take_append_drop 1 (nw.drop 27)]at h
  rcases List.mem_append.1 h with h|h
  ·exact O p h r
  ·rw[List.drop_drop]at h
   exact hC p (List.mem_append_right _ h) r
theorem kmR(j:Nat)(hj:j≤2): ∀u∈jK,∃s,ae pE 152 [vB false j,.i .i64 u.sc,.agg (fw u.x)] []=some (.tup [.agg (mR (kb j u.x)),.i .i64 0],s):=fun u r=>FY j hj (u.sc,u.x) (List.mem_append_left _ (List.mem_append_left _ (List.mem_map_of_mem (f:=fun u:Ru=>(u.sc,u.x)) r)))
theorem kmC(j:Nat)(hj:j≤2): ∀u∈iS,∃s,ae pE 152 [vB false j,.i .i64 u.sc,.agg (fw u.x)] []=some (.tup [.agg (mR (kb j u.x)),.i .i64 0],s):=fun u r=>FY j hj (u.sc,u.x) (List.mem_append_left _ (List.mem_append_right _ (List.mem_map_of_mem (f:=fun u:Co=>(u.sc,u.x)) r)))
theorem kmV(j:Nat)(hj:j≤2): ∀x∈uR,∃s,ae pE 152 [vB false j,.i .i64 1,.agg (fw x)] []=some (.tup [.agg (mR (kb j x)),.i .i64 0],s):=fun x hx=>FY j hj (1,x) (List.mem_append_right _ (List.mem_map_of_mem (f:=fun x:Ex=>((1:Int),x)) hx))
theorem aD4(j:Nat)(hj:j≤2): ∀u∈jK,¬(kb j u.x).op=4:=fun u r=>by
 have h:=List.all_eq_true.1 (show(jK.all fun u=>decide (¬u.x.op=4))=true from rfl) u r
 rw[ah2 j u r]
 exact of_decide_eq_true h
theorem aD5(j:Nat)(hj:j≤2): ∀u∈iS,¬(kb j u.x).op=1:=fun u r=>of_decide_eq_true (List.all_eq_true.1 (show(iS.all fun u=>decide (¬(kb j u.x).op=1))=true from rfl) u r)
theorem atK: ∀n∈xU,∃(k:Int) (s:List ah),ae pE 87 [.i .i64 1,.s n] []=some (.tup [.i .i64 k,.i .i64 0],s)∧ ¬k=3:=fun n hn=>by
 obtain⟨r,s,e,h⟩:=aDS n hn
 split at h
 ·exact⟨_,s,e,of_decide_eq_true h⟩
 ·cases h
theorem FZ{a:Int}(h:0≤a∧a≤3):a∈trB:=by
 have:a=0∨a=1∨a=2∨a=3:=zZ
 simpa[trB]using this
theorem OA{f:Nat}{A:List T}(h: ∃r s,ae pE f A []=some (r,s)∧pK r=true): ∃(r:Int) (s:List ah),ae pE f A []=some (.i .i64 r,s)∧0≤r∧r≤3:=by
 obtain⟨r,s,e,h⟩:=h
 obtain⟨t,rfl,D⟩:=YX h
 exact⟨t,s,e,D⟩
theorem cbK{a b:Int}(D:0≤a∧a≤3)(F:0≤b∧b≤3): ∃(r:Int) (s:List ah),ae pE 89 [.i .i64 a,.i .i64 b] []=some (.i .i64 r,s)∧0≤r∧r≤3:=OA (aDT (a,b) (List.mem_flatMap.2 ⟨a,FZ D,List.mem_map_of_mem (FZ F)⟩))
theorem crK(j:Nat)(hj:j≤2): ∀x∈uR,∀n∈xU,∃(r:Int) (s:List ah),ae pE 156 [.agg [.s n,.b false],.agg (mR (kb j x))] []=some (.i .i64 r,s)∧0≤r∧r≤3:=fun x hx n hn=>by
 rw[axM j x hx]
 exact OA (aDU (x,n) (List.mem_flatMap.2 ⟨x,hx,List.mem_map_of_mem hn⟩))
theorem qRu(j:Nat)(hj:j≤2)(k:Int)(hk:0≤k∧k≤3): ∀u∈jK,∀n∈xU,∃(r:Int) (s:List ah),ae pE 90 [.i .i64 u.sc,.agg (mR (kb j u.x)),.s n,.b false,.i .i64 k,.b false] []=some (.i .i64 r,s)∧0≤r∧r≤3:=fun u F n hn=>by
 rw[ah2 j u F]
 refine OA ?_
 have D: ∀{l:List Ru},u∈l→(u,n)∈l.flatMap (fun u=>xU.map fun n=>(u,n)):=fun h=>List.mem_flatMap.2 ⟨u,h,List.mem_map_of_mem hn⟩
 exact td (P:=fun v=>v=u→_) 8 (fun v h e=>qr0 k (u,n) (D (e▸h))) (td 7 (fun v h e=>qr1 k (u,n) (D (e▸h))) (td 1 (fun v h e=>qr2 k (FZ hk) (u,n) (D (by rw[List.drop_drop]at h;exact e▸h))) (fun v h e=>qr3 k (u,n) (D (by rw[List.drop_drop,List.drop_drop]at h;exact e▸h))))) u F rfl
theorem qCo(j:Nat)(hj:j≤2)(k:Int)(hk:0≤k∧k≤3): ∀u∈iS,∀n∈xU,∃(r:Int) (s:List ah),ae pE 90 [.i .i64 u.sc,.agg (mR (kb j u.x)),.s n,.b false,.i .i64 k,.b true] []=some (.i .i64 r,s)∧0≤r∧r≤3:=fun u F n hn=>by
 refine OA ?_
 have D: ∀{l:List Co},u∈l→(u,n)∈l.flatMap (fun u=>xU.map fun n=>(u,n)):=fun h=>List.mem_flatMap.2 ⟨u,h,List.mem_map_of_mem hn⟩
 rw[←List.take_append_drop 9 iS]at F
 rcases List.mem_append.1 F with h|h
 ·rw[axL j u h]
  have h:u∈iS.take 6∨u∈(iS.drop 6).take 1∨u∈(iS.drop 7).take 2:=by
   have e:iS.take 9=iS.take 6++((iS.drop 6).take 1++(iS.drop 7).take 2):=rfl
   rw[e]at h
   simpa only[List.mem_append]using h
  rcases h with h|h|h
  ·exact qc0 k (u,n) (D h)
  ·exact qc1 k (FZ hk) (u,n) (D h)
  ·exact qc2 k (u,n) (D h)
 ·exact three (fun j=> ∃r s,ae pE 90 [.i .i64 u.sc,.agg (mR (kb j u.x)),.s n,.b false,.i .i64 k,.b true] []=some (r,s)∧pK r=true) (aDV k (u,n) (D h)) (aDW k (u,n) (D h)) (aDX k (u,n) (D h)) hj
def Md(j:Nat)(u:Ru):List T:= .i .i64 u.sc:: .s u.nm::mR (kb j u.x)
def Me(j:Nat)(u:Co):List T:= .i .i64 u.sc::mR (kb j u.x)
def R5(j:Nat)(x:Ex):List T:=mR (kb j x)
theorem F0{α:Type}(f:α→List T)(l:List α)(k:Nat)(h:k<l.length):(l.take (k+1)).flatMap f=(l.take k).flatMap f++f l[k]:=by
 rw[List.take_succ_eq_append_getElem h,List.flatMap_append,List.flatMap_cons,List.flatMap_nil,List.append_nil]
section
variable(j:Nat)(hj:j≤2)(c:Ct)(a8 a9 aw aA az:T)(hT:kP c (vB false j) a8 a9 aw aA az)(IK: ∀u∈c.ru,u∈jK)(jR: ∀u∈c.co,u∈iS)(qR: ∀x∈c.cr,x∈uR)
include hj hT
include IK in
theorem scR(e2:ah)(fr:Fr)(lh:aE ah)(sh:List ah)(h1:aa fr 1= .ptr .L 1 1 0)(h5:aa fr 5= .ptr .L 5 1 0)(hs:aa fr 38=a8)(hl:aa fr 39= .i .i64 (c.ru.length:Int))(hi:aa fr 40= .i .i64 0)(hlen:c.ru.length≤1000)
  (r:ab lh 1=⟨1,.cells (aV c (vB false j) a8 a9 aw aA az) 0 true⟩) (F:ab lh 2=e2) (H:ab lh 5=⟨1,.cells [.i .i64 c.rp,.i .i64 c.rl,.i .i64 c.cn,.i .i64 c.st,.i .i64 c.ly,.i .i64 c.nf,.i .i64 c.nt,.nilsl,.nilsl,.nilsl,.nilsl,aA,az,.i .i64 c.gu] 0 true⟩):
  Lp pE 138 wo fr lh sh (.ext 0) fun f l s=>s=sh∧ab l 2=e2∧ab l 1=⟨1,.cells (aV c (vB false j) a8 a9 aw aA az) 0 true⟩∧ ∃v,bh l v 70 6 c.ru.length (c.ru.flatMap (Md j))∧ab l 5=⟨1,.cells [.i .i64 c.rp,.i .i64 c.rl,.i .i64 c.cn,.i .i64 c.st,.i .i64 c.ly,.i .i64 c.nf,.i .i64 c.nt,.nilsl,v,.nilsl,.nilsl,aA,az,.i .i64 c.gu] 0 true⟩:=by
 obtain⟨c7,i7,j7⟩:=hT.h7
 obtain⟨c8,i8,j8⟩:=hT.h8
 refine cm Hg (fun k f l s=>aa f 40= .i .i64 (k:Int)∧s=sh∧ab l 1=⟨1,.cells (aV c (vB false j) a8 a9 aw aA az) 0 true⟩∧ab l 2=e2∧ ∃v,bh l v 70 6 k ((c.ru.take k).flatMap (Md j))∧ab l 5=⟨1,.cells [.i .i64 c.rp,.i .i64 c.rl,.i .i64 c.cn,.i .i64 c.st,.i .i64 c.ly,.i .i64 c.nf,.i .i64 c.nt,.nilsl,v,.nilsl,.nilsl,aA,az,.i .i64 c.gu] 0 true⟩) c.ru.length ⟨hi,rfl,r,F,.nilsl,bh.nil,H⟩ ?_ ?_
 ·rintro k f l _ hk O ⟨R,rfl,r,F,v,I,H⟩
  have U:(k:Int)<c.ru.length:=zZ
  have hw:=aG (k:=k) zZ
  obtain⟨b,cb,rr,V,W,hb⟩:=xP i8 j8 k hk
  rw[F0 _ _ k hk]
  have X:=IK _ (List.getElem_mem hk)
  have abd:=X
  generalize c.ru[k]=u at*
  obtain⟨s0,aD⟩:=kmR j hj u X
  have Y:=aD4 j hj u X
  obtain⟨fa,ef,GD⟩:=im (kb j u.x)
  unfold gr at hb
  rw[ef,←hb]at aD
  have N:=fun(D:List T) (J:D.length=6) (aU:aE ah) (K:List ah) (e:ab aU 70=ab l 70)=>dV (bytes:=80) (sh:=K) (I.congr e) D J (by unfold roomy;omega) true
  have Z:=fun D J aU K e=>(N D J aU K e).2.1.cells
  have BD:=fun D J aU K e=>(N D J aU K e).2.1.noTup
  have nY:=I.notS
  have z7:=i7.froz
  have z71:=i7.froz1
  have zb1:=W.froz1
  have zb2:=W.cells
  have zb3:=W.noTup
  have zf1:=GD.froz1
  have zf2:=GD.cells
  have zf3:=GD.noTup
  generalize vB false j=a7 at*
  unfold aV at r ⊢
  simp(maxDischargeDepth:=6) only[qA,seval,gd,repl,aH,wo,O,h1,h5,hs,hl,R,r,F,H,U,hw,V,z7,z71,zb1,zb2,zb3,zf1,zf2,zf3,aD,TS,TT,Y,N,Z,BD,nY]
  refine⟨_,(dN zz).mpr ?_,rfl⟩
  unfold Md
  rw[ef]
  exact(N _ rfl _ _ yW).2.1
 ·rintro f l _ O ⟨R,rfl,r,F,v,I,H⟩
  rw[List.take_length]at I
  simp only[qA,seval,gd,wo,O,hl,R,Int.lt_irrefl]
  exact⟨F,r,v,I,H⟩
include jR in
theorem scO(Y3:ah)(O:T)(e2:ah)(fr:Fr)(lh:aE ah)(sh:List ah)(h1:aa fr 1= .ptr .L 1 1 0)(h5:aa fr 5= .ptr .L 5 1 0)(hs:aa fr 74=a9)(hl:aa fr 75= .i .i64 (c.co.length:Int))(hi:aa fr 76= .i .i64 0)(hlen:c.co.length≤1000)
  (r:ab lh 1=⟨1,.cells (aV c (vB false j) a8 a9 aw aA az) 0 true⟩) (F:ab lh 2=e2) (Y4:ab lh 70=Y3) (H:ab lh 5=⟨1,.cells [.i .i64 c.rp,.i .i64 c.rl,.i .i64 c.cn,.i .i64 c.st,.i .i64 c.ly,.i .i64 c.nf,.i .i64 c.nt,.nilsl,O,.nilsl,.nilsl,aA,az,.i .i64 c.gu] 0 true⟩):
  Lp pE 138 wk fr lh sh (.ext 2) fun f l s=>s=sh∧ab l 2=e2∧ab l 70=Y3∧ab l 1=⟨1,.cells (aV c (vB false j) a8 a9 aw aA az) 0 true⟩∧ ∃v,bh l v 109 5 c.co.length (c.co.flatMap (Me j))∧ab l 5=⟨1,.cells [.i .i64 c.rp,.i .i64 c.rl,.i .i64 c.cn,.i .i64 c.st,.i .i64 c.ly,.i .i64 c.nf,.i .i64 c.nt,.nilsl,O,v,.nilsl,aA,az,.i .i64 c.gu] 0 true⟩:=by
 obtain⟨c7,i7,j7⟩:=hT.h7
 obtain⟨c8,i8,j8⟩:=hT.h9
 refine cm Hf (fun k f l s=>aa f 76= .i .i64 (k:Int)∧s=sh∧ab l 1=⟨1,.cells (aV c (vB false j) a8 a9 aw aA az) 0 true⟩∧ab l 2=e2∧ab l 70=Y3∧ ∃v,bh l v 109 5 k ((c.co.take k).flatMap (Me j))∧ab l 5=⟨1,.cells [.i .i64 c.rp,.i .i64 c.rl,.i .i64 c.cn,.i .i64 c.st,.i .i64 c.ly,.i .i64 c.nf,.i .i64 c.nt,.nilsl,O,v,.nilsl,aA,az,.i .i64 c.gu] 0 true⟩) c.co.length ⟨hi,rfl,r,F,Y4,.nilsl,bh.nil,H⟩ ?_ ?_
 ·rintro k f l _ hk R ⟨U,rfl,r,F,Y4,v,I,H⟩
  have V:(k:Int)<c.co.length:=zZ
  have hw:=aG (k:=k) zZ
  obtain⟨b,cb,rr,W,X,hb⟩:=AY i8 j8 k hk
  rw[F0 _ _ k hk]
  have Y:=jR _ (List.getElem_mem hk)
  have abd:=Y
  generalize c.co[k]=u at*
  obtain⟨s0,aD⟩:=kmC j hj u Y
  have Z:=aD5 j hj u Y
  obtain⟨fa,ef,GD⟩:=im (kb j u.x)
  unfold gr at hb
  rw[ef,←hb]at aD
  have N:=fun(D:List T) (J:D.length=5) (aU:aE ah) (K:List ah) (e:ab aU 109=ab l 109)=>dV (bytes:=64) (sh:=K) (I.congr e) D J (by unfold roomy;omega) true
  have hcl:=fun D J aU K e=>(N D J aU K e).2.1.cells
  have BD:=fun D J aU K e=>(N D J aU K e).2.1.noTup
  have nY:=I.notS
  have z7:=i7.froz
  have z71:=i7.froz1
  have zb1:=X.froz1
  have zb2:=X.cells
  have zb3:=X.noTup
  have zf1:=GD.froz1
  have zf2:=GD.cells
  have zf3:=GD.noTup
  generalize vB false j=a7 at*
  unfold aV at r ⊢
  simp(maxDischargeDepth:=6) only[qA,seval,gd,repl,aH,wk,R,h1,h5,hs,hl,U,r,F,H,V,hw,W,z7,z71,zb1,zb2,zb3,zf1,zf2,zf3,aD,TS,TT,Z,N,hcl,BD,nY,Y4]
  refine⟨_,(dN zz).mpr ?_,rfl⟩
  unfold Me
  rw[ef]
  exact(N _ rfl _ _ yW).2.1
 ·rintro f l _ R ⟨U,rfl,r,F,Y4,v,I,H⟩
  rw[List.take_length]at I
  simp only[qA,seval,gd,wk,R,hl,U,Int.lt_irrefl]
  exact⟨F,Y4,r,v,I,H⟩
include qR in
theorem scX(Y3:ah)(Y5:ah)(O:T)(R:T)(e2:ah)(fr:Fr)(lh:aE ah)(sh:List ah)(h1:aa fr 1= .ptr .L 1 1 0)(h5:aa fr 5= .ptr .L 5 1 0)(hs:aa fr 113=aw)(hl:aa fr 114= .i .i64 (c.cr.length:Int))(hi:aa fr 115= .i .i64 0)(hlen:c.cr.length≤1000)
  (r:ab lh 1=⟨1,.cells (aV c (vB false j) a8 a9 aw aA az) 0 true⟩) (F:ab lh 2=e2) (Y4:ab lh 70=Y3) (Y6:ab lh 109=Y5) (H:ab lh 5=⟨1,.cells [.i .i64 c.rp,.i .i64 c.rl,.i .i64 c.cn,.i .i64 c.st,.i .i64 c.ly,.i .i64 c.nf,.i .i64 c.nt,.nilsl,O,R,.nilsl,aA,az,.i .i64 c.gu] 0 true⟩):
  Lp pE 138 wj fr lh sh (.ext 4) fun f l s=>s=sh∧ab l 2=e2∧ab l 70=Y3∧ab l 109=Y5∧ab l 1=⟨1,.cells (aV c (vB false j) a8 a9 aw aA az) 0 true⟩∧ ∃v,bh l v 134 4 c.cr.length (c.cr.flatMap (R5 j))∧ab l 5=⟨1,.cells [.i .i64 c.rp,.i .i64 c.rl,.i .i64 c.cn,.i .i64 c.st,.i .i64 c.ly,.i .i64 c.nf,.i .i64 c.nt,.nilsl,O,R,v,aA,az,.i .i64 c.gu] 0 true⟩:=by
 obtain⟨c7,i7,j7⟩:=hT.h7
 obtain⟨c8,i8,j8⟩:=hT.h10
 refine cm He (fun k f l s=>aa f 115= .i .i64 (k:Int)∧s=sh∧ab l 1=⟨1,.cells (aV c (vB false j) a8 a9 aw aA az) 0 true⟩∧ab l 2=e2∧ab l 70=Y3∧ab l 109=Y5∧ ∃v,bh l v 134 4 k ((c.cr.take k).flatMap (R5 j))∧ab l 5=⟨1,.cells [.i .i64 c.rp,.i .i64 c.rl,.i .i64 c.cn,.i .i64 c.st,.i .i64 c.ly,.i .i64 c.nf,.i .i64 c.nt,.nilsl,O,R,v,aA,az,.i .i64 c.gu] 0 true⟩) c.cr.length ⟨hi,rfl,r,F,Y4,Y6,.nilsl,bh.nil,H⟩ ?_ ?_
 ·rintro k f l _ hk U ⟨V,rfl,r,F,Y4,Y6,v,I,H⟩
  have W:(k:Int)<c.cr.length:=zZ
  have hw:=aG (k:=k) zZ
  obtain⟨b,cb,rr,X,Y,_,hb⟩:=mK i8 j8 k hk
  rw[F0 _ _ k hk]
  have hm:=qR _ (List.getElem_mem hk)
  have abd:=hm
  generalize c.cr[k]=u at*
  obtain⟨s0,aD⟩:=kmV j hj u hm
  have Z:=trivial
  obtain⟨fa,ef,GD⟩:=im (kb j u)
  unfold gr at hb
  rw[ef,←hb]at aD
  have N:=fun(D:List T) (J:D.length=4) (aU:aE ah) (K:List ah) (e:ab aU 134=ab l 134)=>dV (bytes:=56) (sh:=K) (I.congr e) D J (by unfold roomy;omega) true
  have hcl:=fun D J aU K e=>(N D J aU K e).2.1.cells
  have BD:=fun D J aU K e=>(N D J aU K e).2.1.noTup
  have nY:=I.notS
  have z7:=i7.froz
  have z71:=i7.froz1
  have zb1:=Y.froz1
  have zb2:=Y.cells
  have zb3:=Y.noTup
  have zf1:=GD.froz1
  have zf2:=GD.cells
  have zf3:=GD.noTup
  generalize vB false j=a7 at*
  unfold aV at r ⊢
  simp(maxDischargeDepth:=6) only[qA,seval,gd,repl,aH,wj,U,h1,h5,hs,hl,V,r,F,H,W,hw,X,z7,z71,zb1,zb2,zb3,zf1,zf2,zf3,aD,TS,TT,Z,N,hcl,BD,nY,Y4,Y6]
  refine⟨_,(dN zz).mpr ?_,rfl⟩
  unfold R5
  rw[ef]
  exact(N _ rfl _ _ yW).2.1
 ·rintro f l _ U ⟨V,rfl,r,F,Y4,Y6,v,I,H⟩
  rw[List.take_length]at I
  simp only[qA,seval,gd,wj,U,hl,V,Int.lt_irrefl]
  exact⟨F,Y4,Y6,r,v,I,H⟩
end
theorem yR{α:Type}(f:α→List T): ∀l:List α,aC (fun x c=>c=f x) l (l.flatMap f)
 | []=>rfl
 |x::l=>⟨f x,_,rfl,rfl,yR f l⟩
theorem F1(y:Ex):(mR y).length=4:=by obtain⟨a,e,_⟩:=im y;rw[e];rfl
section
variable(j:Nat)(hj:j≤2)(c:Ct)(IK: ∀u∈c.ru,u∈jK)(jR: ∀u∈c.co,u∈iS)(qR: ∀x∈c.cr,x∈uR)(hl8:c.ru.length≤1000)(hl9:c.co.length≤1000)(aey:c.cr.length≤1000)
def smT(j:Nat)(c:Ct):List T:= [.i .i64 c.rp,.i .i64 c.rl,.i .i64 c.cn,.i .i64 c.st,.i .i64 c.ly,.i .i64 c.nf,.i .i64 c.nt,.nilsl,bG c.ru.length (c.ru.flatMap (Md j)),bG c.co.length (c.co.flatMap (Me j)),bG c.cr.length (c.cr.flatMap (R5 j)),.nilsl,.nilsl,.i .i64 c.gu]
theorem sm8:IsSl (bG c.ru.length (c.ru.flatMap (Md j))) c.ru.length (c.ru.flatMap (Md j)):=fj fun h=>by rw[List.length_eq_zero_iff.1 h];rfl
theorem sm9:IsSl (bG c.co.length (c.co.flatMap (Me j))) c.co.length (c.co.flatMap (Me j)):=fj fun h=>by rw[List.length_eq_zero_iff.1 h];rfl
theorem aez:IsSl (bG c.cr.length (c.cr.flatMap (R5 j))) c.cr.length (c.cr.flatMap (R5 j)):=fj fun h=>by rw[List.length_eq_zero_iff.1 h];rfl
include hj IK jR qR hl8 hl9 aey in
theorem axX(a8 a9 aw:T)(hT:kP c (vB false j) a8 a9 aw .nilsl .nilsl)(hS:qh c)(Z:eV c=0): ∃s,ae pE 86 [.agg (aV c (vB false j) a8 a9 aw .nilsl .nilsl)] []=some (.tup [.agg (smT j c),.i .i64 0],s):=by
 obtain⟨s0,N⟩:=NB c (vB false j) a8 a9 aw .nilsl .nilsl hT hS
 rw[Z]at N
 have k1:ae pE 150 [.nilsl] []=some (.nilsl,[]):=cI (m:=100) (cG (by kernel_rfl))
 have k2:ae pE 151 [.nilsl] []=some (.nilsl,[]):=cI (m:=100) (cG (by kernel_rfl))
 obtain⟨c7,i7,_⟩:=hT.h7
 obtain⟨c8,U,_⟩:=hT.h8
 obtain⟨c9,V,_⟩:=hT.h9
 obtain⟨ti,r,_⟩:=hT.h10
 have hR:=fun e2 fr lh sh=>scR j hj c a8 a9 aw .nilsl .nilsl hT IK e2 fr lh sh
 have hO:=fun Y3 W e2 fr lh sh=>scO j hj c a8 a9 aw .nilsl .nilsl hT jR Y3 W e2 fr lh sh
 have hX:=fun Y3 Y5 W v9 e2 fr lh sh=>scX j hj c a8 a9 aw .nilsl .nilsl hT qR Y3 Y5 W v9 e2 fr lh sh
 have z7:=i7.froz1
 have z8:=U.froz1
 have z9:=V.froz1
 have Z7:=r.froz1
 have y7:=i7.cells
 have y8:=U.cells
 have y9:=V.cells
 have y10:=r.cells
 have n7:=i7.noTup
 have n8:=U.noTup
 have n9:=V.noTup
 have n10:=r.noTup
 have m8:=U.lenI
 have m9:=V.lenI
 have m10:=r.lenI
 generalize vB false j=a7 at*
 unfold aV at*
 rw[av as2 (by simp[c86])]
 simp(maxDischargeDepth:=6) only[qA,seval,repl,c86,N,k1,k2,asU,atH,atJ,z7,z8,z9,Z7,y7,y8,y9,y10,n7,n8,n9,n10,m8]
 generalize F:DC pE 138 (.loop wo) _=D
 obtain⟨f2,l2,s2,rfl,⟨rfl,p2,p1,W,hO8,p5⟩,X⟩:=sa Hg F (hR _ _ _ _ yW yW yW yW yW hl8 yW rfl yW)
 have q1:aa f2 1= .ptr .L 1 1 0:=by rw[X 1 zz];simp only[qA,seval]
 have q2:aa f2 2= .ptr .L 2 1 0:=by rw[X 2 zz];simp only[qA,seval]
 have q5:aa f2 5= .ptr .L 5 1 0:=by rw[X 5 zz];simp only[qA,seval]
 simp only[qA,seval]at p2
 clear F X hR
 simp(maxDischargeDepth:=6) only[qA,seval,p1,p5,q1,q2,q5,m9]
 generalize F:DC pE 138 (.loop wk) _=D
 obtain⟨f3,l3,s3,rfl,⟨rfl,r2,r70,r1,v9,hO9,r5⟩,Y⟩:=sa Hf F (hO _ _ _ _ _ _ (by simp only[qA,seval,q1]) (by simp only[qA,seval,q5]) yW yW yW hl9 p1 p2 rfl p5)
 have w1:aa f3 1= .ptr .L 1 1 0:=by rw[Y 1 zz];simp only[qA,seval,q1]
 have w2:aa f3 2= .ptr .L 2 1 0:=by rw[Y 2 zz];simp only[qA,seval,q2]
 have w5:aa f3 5= .ptr .L 5 1 0:=by rw[Y 5 zz];simp only[qA,seval,q5]
 clear F Y hO
 simp(maxDischargeDepth:=6) only[qA,seval,r1,r5,w1,w2,w5,m10]
 generalize F:DC pE 138 (.loop wj) _=D
 obtain⟨f4,O,s4,rfl,⟨rfl,t2,t70,R,t1,v10,H,t5⟩,I⟩:=sa He F (hX _ _ _ _ _ _ _ _ (by simp only[qA,seval,w1]) (by simp only[qA,seval,w5]) yW yW yW aey r1 r2 rfl rfl r5)
 have x2:aa f4 2= .ptr .L 2 1 0:=by rw[I 2 zz];simp only[qA,seval,w2]
 have x5:aa f4 5= .ptr .L 5 1 0:=by rw[I 5 zz];simp only[qA,seval,w5]
 clear F I hX
 have J:=hO8.congr (aU:=O) (by rw[t70,r70])
 have K:=hO9.congr (aU:=O) R
 have e8:=fun e m sh keep=>bh.fzW (m:=m) (sh:=sh) (keep:=keep) (J.congr (bq O e (show(70:Nat)≠2 by decide)))
 have e9:=fun e m sh keep=>bh.fzW (m:=m) (sh:=sh) (keep:=keep) (K.congr (bq O e (show(109:Nat)≠2 by decide)))
 have e10:=fun e m sh keep=>bh.fzW (m:=m) (sh:=sh) (keep:=keep) (H.congr (bq O e (show(134:Nat)≠2 by decide)))
 have b8:=J.cells
 have b9:=K.cells
 have b10:=H.cells
 have d8:=J.noTup
 have d9:=K.noTup
 have d10:=H.noTup
 unfold smT
 simp(maxDischargeDepth:=6) only[qA,AK,seval,x2,x5,t2,t5,e8,e9,e10,b8,b9,b10,d8,d9,d10,AI]
end
theorem ah3(j:Nat)(c:Ct):froz1 (bG c.ru.length (c.ru.flatMap (Md j)))=true∧froz1 (bG c.co.length (c.co.flatMap (Me j)))=true∧froz1 (bG c.cr.length (c.cr.flatMap (R5 j)))=true:=⟨(sm8 j c).froz1,(sm9 j c).froz1,(aez j c).froz1⟩
theorem aD6(n:List Nat)(fr:Fr)(lh:aE ah)(sh:List ah)(H:aa fr 9= .i .i64 0)(r:aa fr 10= .i .i64 0)(D:ab lh 3=⟨1,.cells [.s n,.b false] 0 true⟩):
  Lp pE 21 pQ fr lh sh (.ext 0) fun f l s=>s=sh∧ab l 3=⟨1,.cells [.s n,.b false] 0 true⟩:=by
 refine cm tj (fun k f l s=>aa f 10= .i .i64 0∧s=sh∧ab l 3=⟨1,.cells [.s n,.b false] 0 true⟩) 0 ⟨r,rfl,D⟩ (fun k f l s h=>absurd h zZ) ?_
 rintro f l _ I ⟨F,rfl,D⟩
 simp only[qA,seval,gd,pQ,I,H,F,D,Int.lt_irrefl]
theorem aD7(n:List Nat)(k:Int)(o m:Int)(K:List Nat)(a r:T)(O:List T)(L:Nat)(R:froz1 a=true)(D:cellsOf a= [a])(U:noTup a=true)(V:List ah)(hc:ae pE 156 [.agg [.s n,.b false],.agg [.i .i64 o,.i .i64 m,.s K,a]] []=some (.i .i64 k,V))(fr:Fr)(lh:aE ah)(sh:List ah)(W:aa fr 8=r)(F: ∀kk,iaV r (.i kk 0) 4=some (.vp (.i .i64 o:: .i .i64 m:: .s K::a::O)))(X:aa fr 9= .i .i64 (L+1:Nat))(H:aa fr 10= .i .i64 0)(h3:aa fr 3= .ptr .L 3 1 0)(I:ab lh 3=⟨1,.cells [.s n,.b false] 0 true⟩):
  Lp pE 21 pQ fr lh sh .ret fun f l s=>s=sh∧aa f 4= .i .i64 k:=by
 refine cm tj (fun i f l s=>i=0∧aa f 10= .i .i64 0∧s=sh∧ab l 3=⟨1,.cells [.s n,.b false] 0 true⟩) 1 ⟨rfl,H,rfl,I⟩ ?_ ?_
 ·rintro i f l _ hi N ⟨_,J,rfl,I⟩
  have hk:(0:Int)<((L+1:Nat):Int):=zZ
  simp(maxDischargeDepth:=6) only[qA,seval,gd,repl,aH,pQ,N,h3,W,X,J,hk,F,I,R,D,U,hc,atN,atO]
 ·rintro f l _ N ⟨h,_⟩
  exact absurd h zz
section
variable(j:Nat)(hj:j≤2)(c:Ct)(IK: ∀u∈c.ru,u∈jK)(jR: ∀u∈c.co,u∈iS)(qR: ∀x∈c.cr,x∈uR)(hl8:c.ru.length≤1000)(hl9:c.co.length≤1000)(n:List Nat)(hn:n∈xU)
include hj qR hn in
theorem amH: ∃(k:Int) (s:List ah),ae pE 88 [.agg (smT j c),.agg [.s n,.b false]] []=some (.i .i64 k,s)∧0≤k∧k≤3:=by
 obtain⟨O,R,Z7⟩:=ah3 j c
 have U:=aez j c
 have I:=U.lenI
 have J: ∀x r,c.cr=x::r→ ∃F,∀kk,iaV (bG c.cr.length (c.cr.flatMap (R5 j))) (.i kk 0) 4=some (.vp (mR (kb j x)++F)):=fun x r h=>by
  obtain⟨V,F,h1,h2⟩:=gJ (k:=4) (fun x V (h:V=R5 j x)=>by rw[h];exact F1 _) U (yR (R5 j) c.cr) 0 (by rw[h];simp)
  have e:c.cr[0]'(by rw[h];simp)=x:=by simp[h]
  rw[e]at h2
  subst h2
  exact⟨F,h1⟩
 unfold smT
 generalize bG c.ru.length (c.ru.flatMap (Md j))=t8 at*
 generalize bG c.co.length (c.co.flatMap (Me j))=t9 at*
 generalize bG c.cr.length (c.cr.flatMap (R5 j))=t10 at*
 cases hc:c.cr with
 |nil=>
  rw[hc]at I
  refine⟨if n= [98,108,111,99,107]then 1 else 0,[], ?_,by split <;> decide,by split <;> decide⟩
  rw[av ai5 (by simp[c88])]
  simp(maxDischargeDepth:=6) only[qA,seval,c88,O,R,Z7,I,List.length_nil]
  generalize K:DC pE 21 (.loop pQ) _=D
  obtain⟨W,Z,s2,rfl,⟨rfl,o3⟩,X⟩:=sa tj K (aD6 n _ _ _ yW yW yW)
  have q3:aa W 3= .ptr .L 3 1 0:=by rw[X 3 zz];simp only[qA,seval]
  by_cases h:n= [98,108,111,99,107]
  all_goals simp(maxDischargeDepth:=6) only[qA,seval,q3,o3,h]
 |cons x r=>
  rw[hc]at I
  obtain⟨F,H⟩:=J x r hc
  obtain⟨k,s0,Y,hk⟩:=crK j hj x (qR x (by rw[hc];simp)) n hn
  obtain⟨a,ea,N⟩:=im (kb j x)
  rw[ea]at Y H
  refine⟨k,[], ?_,hk⟩
  rw[av ai5 (by simp[c88])]
  simp(maxDischargeDepth:=6) only[qA,seval,c88,O,R,Z7,I,List.length_cons]
  generalize K:DC pE 21 (.loop pQ) _=D
  obtain⟨W,Z,s2,rfl,⟨rfl,g4⟩,X⟩:=sa tj K (aD7 n k _ _ _ _ t10 F r.length N.froz1 N.cells N.noTup s0 Y _ _ _ yW H yW yW yW yW)
  simp(maxDischargeDepth:=6) only[qA,seval,g4]
end
section
variable(j:Nat)(hj:j≤2)(c:Ct)(n:List Nat)(hn:n∈xU)(kt kc:Int)(hkt: ¬kt=3)(hkc:0≤kc∧kc≤3)
include hj hn hkt hkc
theorem ofR(IK: ∀u∈c.ru,u∈jK)(hl:c.ru.length≤1000)(e2:ah)(fr:Fr)(lh:aE ah)(sh:List ah)(h1:aa fr 1= .s n)(Z:aa fr 7= .i .i64 kt)(h8:aa fr 8= .i .i64 kc)(h9:aa fr 9= .i .i64 0)(I:aa fr 36=bG c.ru.length (c.ru.flatMap (Md j)))(W:aa fr 37= .i .i64 (c.ru.length:Int))(J:aa fr 38= .i .i64 0)(H:ab lh 2=e2):
  Lp pE 74 vY fr lh sh (.ext 0) fun f l s=>s=sh∧ab l 2=e2∧ ∃r:Int,aa f 9= .i .i64 r∧0≤r∧r≤3:=by
 have hI:=sm8 j c
 refine cm GY (fun k f l s=>aa f 38= .i .i64 (k:Int)∧s=sh∧ab l 2=e2∧ ∃r:Int,aa f 9= .i .i64 r∧0≤r∧r≤3) c.ru.length ⟨J,rfl,H,0,h9,by decide,by decide⟩ ?_ ?_
 ·rintro k f l _ hk K ⟨F,rfl,H,r,N,hr⟩
  have O:(k:Int)<c.ru.length:=zZ
  have hw:=aG (k:=k) zZ
  obtain⟨X,rr,D,R⟩:=gJ (k:=6) (fun x X (h:X=Md j x)=>by rw[h,Md,List.length_cons,List.length_cons,F1]) hI (yR (Md j) c.ru) k hk
  subst R
  have hm:=IK _ (List.getElem_mem hk)
  generalize c.ru[k]=u at*
  obtain⟨q,s0,Y,hq⟩:=qRu j hj kc hkc u hm n hn
  obtain⟨r',s1,e1,U⟩:=cbK hr hq
  obtain⟨a,ea,V⟩:=im (kb j u.x)
  generalize bG c.ru.length (c.ru.flatMap (Md j))=t8 at*
  unfold Md at D
  rw[ea]at Y D
  simp only[List.cons_append,List.nil_append]at D
  have z1:=V.froz1
  have z2:=V.cells
  have z3:=V.noTup
  simp(maxDischargeDepth:=6) only[qA,seval,gd,repl,aH,vY,K,h1,Z,h8,I,W,F,N,H,O,hw,D,z1,z2,z3,hkt,Y,e1,as8,as9,as5,as6]
  exact⟨r',rfl,U⟩
 ·rintro f l _ K ⟨F,rfl,H,r,N,hr⟩
  simp only[qA,seval,gd,vY,K,W,F,N,Int.lt_irrefl]
  exact⟨H,r,rfl,hr⟩
theorem ofC(jR: ∀u∈c.co,u∈iS)(hl:c.co.length≤1000)(I:Int)(ZT:0≤I∧I≤3)(fr:Fr)(lh:aE ah)(sh:List ah)(h1:aa fr 1= .s n)(Z:aa fr 7= .i .i64 kt)(h8:aa fr 8= .i .i64 kc)(h9:aa fr 9= .i .i64 I)(J:aa fr 55=bG c.co.length (c.co.flatMap (Me j)))(H:aa fr 56= .i .i64 (c.co.length:Int))(K:aa fr 57= .i .i64 0):
  Lp pE 74 vX fr lh sh (.ext 2) fun f l s=>s=sh∧ ∃r:Int,aa f 9= .i .i64 r:=by
 have hI:=sm9 j c
 refine cm GX (fun k f l s=>aa f 57= .i .i64 (k:Int)∧s=sh∧ ∃r:Int,aa f 9= .i .i64 r∧0≤r∧r≤3) c.co.length ⟨K,rfl,I,h9,ZT⟩ ?_ ?_
 ·rintro k f l _ hk N ⟨F,rfl,r,O,hr⟩
  have R:(k:Int)<c.co.length:=zZ
  have hw:=aG (k:=k) zZ
  obtain⟨X,rr,D,U⟩:=gJ (k:=5) (fun x X (h:X=Me j x)=>by rw[h,Me,List.length_cons,F1]) hI (yR (Me j) c.co) k hk
  subst U
  have hm:=jR _ (List.getElem_mem hk)
  generalize c.co[k]=u at*
  obtain⟨q,s0,Y,hq⟩:=qCo j hj kc hkc u hm n hn
  obtain⟨r',s1,e1,V⟩:=cbK hr hq
  obtain⟨a,ea,W⟩:=im (kb j u.x)
  generalize bG c.co.length (c.co.flatMap (Me j))=t9 at*
  unfold Me at D
  rw[ea]at Y D
  simp only[List.cons_append,List.nil_append]at D
  have z1:=W.froz1
  have z2:=W.cells
  have z3:=W.noTup
  simp(maxDischargeDepth:=6) only[qA,seval,gd,repl,aH,vX,N,h1,Z,h8,J,H,F,O,R,hw,D,z1,z2,z3,hkt,Y,e1,as8,as9,as5,as6]
  exact⟨r',rfl,V⟩
 ·rintro f l _ N ⟨F,rfl,r,O,hr⟩
  simp only[qA,seval,gd,vX,N,H,F,O,Int.lt_irrefl]
  exact⟨r,rfl⟩
end
theorem amJ(j:Nat)(hj:j≤2)(c:Ct)(n:List Nat)(hn:n∈xU)(IK: ∀u∈c.ru,u∈jK)(jR: ∀u∈c.co,u∈iS)(qR: ∀x∈c.cr,x∈uR)(hl8:c.ru.length≤1000)(hl9:c.co.length≤1000)(aey:c.cr.length≤1000)(a8 a9 aw:T)(hT:kP c (vB false j) a8 a9 aw .nilsl .nilsl)(W:qh c)(K:eV c=0):
  ∃(r:Int) (s:List ah),ae pE 47 [.agg (aV c (vB false j) a8 a9 aw .nilsl .nilsl),.s n] []=some (.tup [.i .i64 r,.i .i64 0],s):=by
 obtain⟨s0,X⟩:=axX j hj c IK jR qR hl8 hl9 aey a8 a9 aw hT W K
 obtain⟨kt,s1,e1,hkt⟩:=atK n hn
 obtain⟨kc,s2,e2,hkc⟩:=amH j hj c qR n hn
 have U:=fun e fr lh sh=>ofR j hj c n hn kt kc hkt hkc IK hl8 e fr lh sh
 have hC:=fun Y ZT fr lh sh=>ofC j hj c n hn kt kc hkt hkc jR hl9 Y ZT fr lh sh
 obtain⟨Z,z9,Z7⟩:=ah3 j c
 have m8:=(sm8 j c).lenI
 have m9:=(sm9 j c).lenI
 have y8:=(sm8 j c).cells
 have y9:=(sm9 j c).cells
 have N:=(aez j c).cells
 have n8:=(sm8 j c).noTup
 have n9:=(sm9 j c).noTup
 have O:=(aez j c).noTup
 have x7:froz1 (vB false j)=true:=by obtain⟨_,F,_⟩:=hT.h7;exact F.froz1
 have x8:froz1 a8=true:=by obtain⟨_,F,_⟩:=hT.h8;exact F.froz1
 have x9:froz1 a9=true:=by obtain⟨_,F,_⟩:=hT.h9;exact F.froz1
 have R:froz1 aw=true:=by obtain⟨_,F,_⟩:=hT.h10;exact F.froz1
 generalize vB false j=a7 at*
 unfold smT aV at*
 generalize bG c.ru.length (c.ru.flatMap (Md j))=t8 at*
 generalize bG c.co.length (c.co.flatMap (Me j))=t9 at*
 generalize bG c.cr.length (c.cr.flatMap (R5 j))=t10 at*
 suffices h: ∃(r:Int),∃(s:List ah),ae pE 47 [.agg [.i .i64 c.rp,.i .i64 c.rl,.i .i64 c.cn,.i .i64 c.st,.i .i64 c.ly,.i .i64 c.nf,.i .i64 c.nt,a7,a8,a9,aw,.nilsl,.nilsl,.i .i64 c.gu],.s n] []=some (.tup [.i .i64 r,.i .i64 0],s)from h
 rw[av asH (by simp[c47])]
 simp(maxDischargeDepth:=6) only[qA,seval,repl,c47,x7,x8,x9,R,X,e1,e2,aAU,PC,aAV,hkt,Z,z9,Z7,y8,y9,N,n8,n9,O,m8]
 generalize I:DC pE 74 (.loop vY) _=D
 obtain⟨J,l2,s2,rfl,⟨rfl,V,r,g9,hr⟩,H⟩:=sa GY I (U _ _ _ _ yW yW yW yW yW yW yW rfl)
 simp only[qA,seval]at V
 have p1:aa J 1= .s n:=by rw[H 1 zz];simp only[qA,seval]
 have p2:aa J 2= .ptr .L 2 1 0:=by rw[H 2 zz];simp only[qA,seval]
 have p7:aa J 7= .i .i64 kt:=by rw[H 7 zz];simp only[qA,seval]
 have p8:aa J 8= .i .i64 kc:=by rw[H 8 zz];simp only[qA,seval]
 clear I H U
 simp(maxDischargeDepth:=6) only[qA,seval,p2,V,m9]
 generalize I:DC pE 74 (.loop vX) _=D
 obtain⟨f3,l3,s3,rfl,⟨rfl,r2,q9⟩,yk⟩:=sa GX I (hC r hr _ _ _ (by simp only[qA,seval,p1]) (by simp only[qA,seval,p7]) (by simp only[qA,seval,p8]) (by simp only[qA,seval,g9]) yW yW yW)
 refine⟨r2, ?_⟩
 simp(maxDischargeDepth:=6) only[qA,seval,q9,AI]
def zSt:List T:= [.i .i64 0,.b false,.i .i64 0,.b false,.i .i64 0,.i .i64 0,.i .i64 0,.i .i64 0,.i .i64 0,.nilsl]
def scS(s:rh):List T:=nI s (qm s.ty)
def arS(k:Nat)(x y z:rh):List T:=(if 0<k then scS x else zSt)++((if 1<k then scS y else zSt)++(if 2<k then scS z else zSt))
def PSt(n:Nat)(s:rh):Prop:=A4 n s=true∧s.ty.length≤1000
section
variable(t:Tt)(c:Ct)(zT aT fT a7 a8 a9 aw aA az:T)(hT:ky t zT aT fT)(hC:kP c a7 a8 a9 aw aA az)(hA:Ds c)(hk:eb t c=0)(out:List Lg)(v:T)(hv:LV out v)(RZ: ∀g∈out,fx c t.fl g.du=0)(h0:out≠ [])(ki:out.length≤1000000000)(A0:Int)
include hT hC hA hk hv RZ h0 ki
theorem or1(fr:Fr)(lh:aE ah)(sh:List ah)(h1:aa fr 1= .i .i64 A0)(h5:aa fr 5= .ptr .L 5 1 0)(h6:aa fr 6= .ptr .L 6 1 0)(K:aa fr 10=v)(N:aa fr 12= .ptr .L 12 1 0)(rk:aa fr 13= .i .i64 0)(O:ab lh 5=⟨1,.cells [zT,aT,fT] 0 true⟩)(R:ab lh 6=⟨1,.cells (aV c a7 a8 a9 aw aA az) 0 true⟩)(JN:ab lh 12=⟨1,.cells (zSt++(zSt++zSt)) 0 true⟩):
  Lp pE 147 xk fr lh sh (.ext 0) fun f l s=>s=sh∧ab l 5=⟨1,.cells [zT,aT,fT] 0 true⟩∧ab l 6=⟨1,.cells (aV c a7 a8 a9 aw aA az) 0 true⟩∧ ∃x y z,PSt t.fl.length x∧PSt t.fl.length y∧PSt t.fl.length z∧ab l 12=⟨1,.cells (scS x++(scS y++scS z)) 0 true⟩:=by
 obtain⟨cs,i1,i2⟩:=hv
 have eQ:=i1.lenI
 have hz:=Dt t c zT aT fT a7 a8 a9 aw aA az hT hC
 have Uv:0<out.length:=List.length_pos_iff.2 h0
 have H: ∀B:Int,∃x:rh,PSt t.fl.length x∧ ∃(q:Nat) (w:T) (r:List T),froz w=true∧froz1 w=true∧q<out.length∧(B%256).tmod (out.length:Int)=(q:Int)∧(∀kk,iaV v (.i kk (q:Int)) 7=some (.vp (w::r)))∧ ∃s,ae pE 10 [.agg [zT,aT,fT],.agg (aV c a7 a8 a9 aw aA az),w] []=some (.tup [j5 x,.i .i64 0],s):=fun B=>by
  obtain⟨q,U,PS⟩: ∃q:Nat,q<out.length∧(B%256).tmod (out.length:Int)=(q:Int):=by
   rw[dZ zZ]
   have h1:=Int.emod_nonneg (B%256) (b:=(out.length:Int)) zZ
   have h2:=Int.emod_lt_of_pos (B%256) (b:=(out.length:Int)) zZ
   exact⟨((B%256)%(out.length:Int)).toNat,by omega,by omega⟩
  obtain⟨ca,ra,ea,w,W,X⟩:=i2.drop LgQ.len q U
  have J:=fun kk=>i1.ia (sz:=7) (k:=q) (kk:=kk) (i2.len LgQ.len) U
  rw[ea]at J
  unfold Fk at W
  subst W
  unfold LgT at X
  have hE:=RZ out[q] (List.getElem_mem U)
  generalize out[q].du=d at*
  have hd:uX d w:=uX.of X
  obtain⟨s1,e1⟩:=adL t c zT aT fT a7 a8 a9 aw aA az hT hC hA hk d w hd hE
  have hI:=alq t c zT aT fT a7 a8 a9 aw aA az hT hC hA hk d w hd hE
  obtain⟨_,g6,_,_⟩:=kU hE
  exact⟨_,⟨hI.1,by have:=hI.2.2.2.2.2.1;omega⟩,q,w,_,hd.sl.froz,hd.sl.froz1,U,PS,J,s1,e1⟩
 have V: ¬(out.length:Int)=0:=zZ
 refine cm Mu (fun k f l s=>aa f 13= .i .i64 (k:Int)∧s=sh∧ab l 5=⟨1,.cells [zT,aT,fT] 0 true⟩∧ab l 6=⟨1,.cells (aV c a7 a8 a9 aw aA az) 0 true⟩∧ ∃x y z,PSt t.fl.length x∧PSt t.fl.length y∧PSt t.fl.length z∧ab l 12=⟨1,.cells (arS k x y z) 0 true⟩) 3 ?_ ?_ ?_
 ·obtain⟨x,hx,_⟩:=H 0
  exact⟨rk,rfl,O,R,x,x,x,hx,hx,hx,JN⟩
 ·rintro k f l _ R6 Y ⟨Rq,rfl,O,R,x,y,z,hx,hy,I,JN⟩
  obtain⟨G,hG⟩: ∃G,(ab l 14).g+1=G:=⟨_,rfl⟩
  have h3:k=0∨k=1∨k=2:=zZ
  unfold aV at*
  rcases h3 with rfl|rfl|rfl
  ·obtain⟨s,hs,q,w,r,Z,z2,U,PS,J,s1,e1⟩:=H A0
   have Rq:aa f 13= .i .i64 0:=Rq
   have JN:ab l 12=⟨1,.cells [.i .i64 0,.b false,.i .i64 0,.b false,.i .i64 0,.i .i64 0,.i .i64 0,.i .i64 0,.i .i64 0,.nilsl,.i .i64 0,.b false,.i .i64 0,.b false,.i .i64 0,.i .i64 0,.i .i64 0,.i .i64 0,.i .i64 0,.nilsl,.i .i64 0,.b false,.i .i64 0,.b false,.i .i64 0,.i .i64 0,.i .i64 0,.i .i64 0,.i .i64 0,.nilsl] 0 true⟩:=JN
   have BS:=(bU s.ty).froz1
   have D:=(bU s.ty).cells
   have F:=(bU s.ty).noTup
   unfold j5 nI at e1
   simp(maxDischargeDepth:=6) only[qA,seval,gd,splice,repl,eI,bj,aH,xk,Y,h1,h5,h6,K,N,Rq,O,R,JN,eQ,V,PS,J,Z,z2,hz,e1,aiE,aiF,hG,BS,D,F]
   exact⟨s,y,z,hs,hy,I,rfl⟩
  ·obtain⟨s,hs,q,w,r,Z,z2,U,PS,J,s1,e1⟩:=H (A0/256)
   have Rq:aa f 13= .i .i64 1:=Rq
   have JN:ab l 12=⟨1,.cells [.i .i64 x.ff,.b x.fh,.i .i64 x.lf,.b x.lh,.i .i64 x.lg,.i .i64 x.hd,.i .i64 x.bl,.i .i64 x.lo,.i .i64 x.so,qm x.ty,.i .i64 0,.b false,.i .i64 0,.b false,.i .i64 0,.i .i64 0,.i .i64 0,.i .i64 0,.i .i64 0,.nilsl,.i .i64 0,.b false,.i .i64 0,.b false,.i .i64 0,.i .i64 0,.i .i64 0,.i .i64 0,.i .i64 0,.nilsl] 0 true⟩:=JN
   have BS:=(bU s.ty).froz1
   have D:=(bU s.ty).cells
   have F:=(bU s.ty).noTup
   unfold j5 nI at e1
   simp(maxDischargeDepth:=6) only[qA,seval,gd,splice,repl,eI,bj,aH,xk,Y,h1,h5,h6,K,N,Rq,O,R,JN,eQ,V,PS,J,Z,z2,hz,e1,aiE,aiF,hG,BS,D,F]
   exact⟨x,s,z,hx,hs,I,rfl⟩
  ·obtain⟨s,hs,q,w,r,Z,z2,U,PS,J,s1,e1⟩:=H (A0/65536)
   have Rq:aa f 13= .i .i64 2:=Rq
   have JN:ab l 12=⟨1,.cells [.i .i64 x.ff,.b x.fh,.i .i64 x.lf,.b x.lh,.i .i64 x.lg,.i .i64 x.hd,.i .i64 x.bl,.i .i64 x.lo,.i .i64 x.so,qm x.ty,.i .i64 y.ff,.b y.fh,.i .i64 y.lf,.b y.lh,.i .i64 y.lg,.i .i64 y.hd,.i .i64 y.bl,.i .i64 y.lo,.i .i64 y.so,qm y.ty,.i .i64 0,.b false,.i .i64 0,.b false,.i .i64 0,.i .i64 0,.i .i64 0,.i .i64 0,.i .i64 0,.nilsl] 0 true⟩:=JN
   have BS:=(bU s.ty).froz1
   have D:=(bU s.ty).cells
   have F:=(bU s.ty).noTup
   unfold j5 nI at e1
   simp(maxDischargeDepth:=6) only[qA,seval,gd,splice,repl,eI,bj,aH,xk,Y,h1,h5,h6,K,N,Rq,O,R,JN,eQ,V,PS,J,Z,z2,hz,e1,aiE,aiF,hG,BS,D,F]
   exact⟨x,y,s,hx,hy,hs,rfl⟩
 ·rintro f l _ Y ⟨Rq,rfl,O,R,x,y,z,hx,hy,I,JN⟩
  have Rq:aa f 13= .i .i64 3:=Rq
  simp(maxDischargeDepth:=6) only[qA,seval,gd,xk,Y,Rq]
  exact⟨O,R,x,y,z,hx,hy,I,JN⟩
end
theorem amK(Z:T)(xs:List Int)(hl:IsSl Z xs.length (ints xs))(A0:Int): ∃s,ae pE 4 [Z,.i .i64 A0] []=some (.b true,s):=by
 have F:=aer xs Z hl
 have O:=hl.froz
 obtain⟨s4,R⟩:=L8
 have hn:=mP (tA xs)
 have kK:=oZ (tA xs)
 have hT:=ahU (BM xs)
 have zf:=(FW xs).froz1
 have zo:=(vu xs).froz1
 have U:=(vu xs).froz
 unfold kW at F
 unfold mC at hT F
 have I:=dW (fun i=>decide (BM xs (7+i)%4=0)) 0 jK
 have H:=dW (fun i=>decide (BM xs (30+i)%3=0)) 0 iS
 obtain⟨K,N⟩:=Bl (BM xs)
 have hk:=sg (BM xs)
 have W:(kW (BM xs)).all froz1=true:=by
  unfold kW aV Rl JF
  repeat' split
  all_goals rfl
 unfold kW mC at W
 have e7:Rl (BM xs)=vB false (kB (BM xs) 6):=rfl
 generalize cX (fun i=>decide (BM xs (7+i)%4=0)) 0 jK=ru at*
 generalize cX (fun i=>decide (BM xs (30+i)%3=0)) 0 iS=co at*
 generalize crX (BM xs)=cr at*
 generalize Rl (BM xs)=a7 at*
 generalize kB (BM xs)=kk at*
 have IK:(iy kk ru co cr).ru=ru:=rfl
 have jR:(iy kk ru co cr).co=co:=rfl
 have qR:(iy kk ru co cr).cr=cr:=rfl
 rw[IK,jR,qR]at hT F W
 generalize JF ru.length (ru.flatMap FT)=a8 at*
 generalize JF co.length (co.flatMap Kj)=a9 at*
 generalize JF cr.length (cr.flatMap fw)=aw at*
 have V:kP (iy kk [] co cr) a7 .nilsl a9 aw .nilsl .nilsl:=⟨hT.h7,⟨_,.inl ⟨rfl,rfl,rfl⟩,rfl⟩,hT.h9,hT.h10,hT.h11,hT.h12⟩
 obtain⟨v,s1,e1,X⟩:=aDF xs kk hk [] co cr (List.nil_sublist _) H K N a7 .nilsl a9 aw .nilsl .nilsl V
 have wE:=axG xs kk hk ru co cr I H K N
 have hA:=YQ kk hk ru co cr I H K
 have hm:=fun g hg=>(aeu (mB (tA xs)) (iy kk [] co cr) (Rh (oA xs) (po (tA xs))) 2 g).1 hg
 rw[kK]at hm
 have RZ: ∀g∈jP (po (tA xs)) (jn (iy kk [] co cr) (mB (tA xs)).fl) (iw (Rh (oA xs) (po (tA xs)))) (jm (mB (tA xs)) (iy kk [] co cr)) (cD (mB (tA xs)) (iy kk [] co cr)) 2,fx (iy kk ru co cr) (mB (tA xs)).fl g.du=0:=fun g hg=>by
  obtain⟨d,rfl,q1,_⟩:=hm g hg
  rw[NQ,aev kk ru [] co cr]
  exact q1
 have ki:=Yo (po (tA xs)) (jn (iy kk [] co cr) (mB (tA xs)).fl) (iw (Rh (oA xs) (po (tA xs)))) (jm (mB (tA xs)) (iy kk [] co cr)) (cD (mB (tA xs)) (iy kk [] co cr)) zZ 2
 generalize jP (po (tA xs)) (jn (iy kk [] co cr) (mB (tA xs)).fl) (iw (Rh (oA xs) (po (tA xs)))) (jm (mB (tA xs)) (iy kk [] co cr)) (cD (mB (tA xs)) (iy kk [] co cr)) 2=out at*
 have hS:qh (iy kk ru co cr):=⟨⟨hA.n7,show(1:Nat)≤iP by decide⟩,⟨hA.n8,Nat.le_trans I.length_le zz⟩,⟨hA.n9,Nat.le_trans H.length_le zz⟩,⟨hA.n10,Nat.le_trans N zz⟩,show(0:Nat)≤iP by decide,show(0:Nat)≤iP by decide,hA.b7,hA.b8,hA.b9,hA.b10⟩
 have J: ∀s∈xU,∃r:Int,∃z,ae pE 47 [.agg (aV (iy kk ru co cr) a7 a8 a9 aw .nilsl .nilsl),.s s] []=some (.tup [.i .i64 r,.i .i64 0],z):=fun s hs=>by
  subst e7
  exact amJ (kk 6) (hk 6) (iy kk ru co cr) s hs (fun u hu=>I.subset hu) (fun u hu=>H.subset hu) K (Nat.le_trans I.length_le zz) (Nat.le_trans H.length_le zz) (Nat.le_trans N zz) a8 a9 aw hT hS (FJ kk hk ru co cr I H K N)
 obtain⟨q,hq⟩: ∃q:List Nat→Int,∀s∈ [nLg,nHd,nBk,nLo,nSo,nTy],∃z,ae pE 47 [.agg (aV (iy kk ru co cr) a7 a8 a9 aw .nilsl .nilsl),.s s] []=some (.tup [.i .i64 (q s),.i .i64 0],z):=by
  classical
  refine⟨fun s=>if h:s∈xU then(J s h).choose else 0,fun s hs=> ?_⟩
  have h:s∈xU:=hs
  simp only[dif_pos h]
  exact(J s h).choose_spec
 have Y7:=fun a b ha hb=>amz (mB (tA xs)) (iy kk ru co cr) BK BL (Rn xs) a7 a8 a9 aw .nilsl .nilsl (YS xs) hT hA wE a b 0 0 (show PSt (mB (tA xs)).fl.length a from ha).1 (show PSt (mB (tA xs)).fl.length b from hb).1 ha.2 hb.2 q hq
 have hL:=fun h0=>or1 (mB (tA xs)) (iy kk ru co cr) BK BL (Rn xs) a7 a8 a9 aw .nilsl .nilsl (YS xs) hT hA wE out v X RZ h0 ki A0
 have zv:froz1 v=true:=X.choose_spec.1.froz1
 have eQ:=X.choose_spec.1.lenI
 clear hm RZ ki wE hA I H K N V X hS J hq e7
 unfold aV at*
 simp only[List.all_cons,Bool.and_eq_true]at W
 obtain⟨_,_,_,_,_,_,_,z7,z8,z9,Z7,z11,z12,_⟩:=W
 have z1:froz1 BK=true:=rfl
 have z2:froz1 BL=true:=rfl
 have z3:froz1 baT=true:=rfl
 have n1:(iy kk [] co cr).rp=(iy kk ru co cr).rp:=rfl
 have n2:(iy kk [] co cr).rl=(iy kk ru co cr).rl:=rfl
 have n3:(iy kk [] co cr).cn=(iy kk ru co cr).cn:=rfl
 have n4:(iy kk [] co cr).st=(iy kk ru co cr).st:=rfl
 have n5:(iy kk [] co cr).ly=(iy kk ru co cr).ly:=rfl
 have n6:(iy kk [] co cr).nf=(iy kk ru co cr).nf:=rfl
 have n7:(iy kk [] co cr).nt=(iy kk ru co cr).nt:=rfl
 have n8:(iy kk [] co cr).gu=(iy kk ru co cr).gu:=rfl
 rw[n1,n2,n3,n4,n5,n6,n7,n8]at e1
 generalize iy kk ru co cr=ct at*
 generalize Rn xs=fT at*
 generalize oTB xs=oT at*
 generalize BK=zT at*
 generalize BL=aT at*
 generalize baT=bT at*
 rw[av fn4 (by simp[c4])]
 by_cases h3:(out.length:Int)<3
 ·simp(maxDischargeDepth:=6) only[qA,seval,c4,F,dc7,dc8,dc9,O,zf,U,z1,z2,z7,z8,z9,Z7,e1,zv,eQ,h3,R,AI]
 ·have h0:out≠ []:=fun h=>by rw[h]at h3;exact h3 zz
  simp(maxDischargeDepth:=6) only[qA,seval,repl,c4,F,dc7,dc8,dc9,O,zf,U,z1,z2,z7,z8,z9,Z7,e1,zv,eQ,h3]
  generalize hD:DC pE 147 (.loop xk) _=D
  obtain⟨f2,l2,s2,rfl,⟨rfl,o5,o6,x,y,z,hx,hy,hz,JN⟩,Y⟩:=sa Mu hD (hL h0 _ _ _ yW yW yW yW yW yW yW yW (by(simp only[qA,seval]) <;> rfl))
  have p5:aa f2 5= .ptr .L 5 1 0:=by rw[Y 5 zz];simp only[qA,seval]
  have p6:aa f2 6= .ptr .L 6 1 0:=by rw[Y 6 zz];simp only[qA,seval]
  have p12:aa f2 12= .ptr .L 12 1 0:=by rw[Y 12 zz];simp only[qA,seval]
  clear hD Y hL
  have JN:ab l2 12=⟨1,.cells [.i .i64 x.ff,.b x.fh,.i .i64 x.lf,.b x.lh,.i .i64 x.lg,.i .i64 x.hd,.i .i64 x.bl,.i .i64 x.lo,.i .i64 x.so,qm x.ty,.i .i64 y.ff,.b y.fh,.i .i64 y.lf,.b y.lh,.i .i64 y.lg,.i .i64 y.hd,.i .i64 y.bl,.i .i64 y.lo,.i .i64 y.so,qm y.ty,.i .i64 z.ff,.b z.fh,.i .i64 z.lf,.b z.lh,.i .i64 z.lg,.i .i64 z.hd,.i .i64 z.bl,.i .i64 z.lo,.i .i64 z.so,qm z.ty] 0 true⟩:=JN
  obtain⟨u1,d1⟩:=Y7 x y hx hy
  obtain⟨u2,d2⟩:=Y7 y z hy hz
  obtain⟨u3,d3⟩:=Y7 x z hx hz
  obtain⟨u4,d4⟩:=Y7 x x hx hx
  rw[Ro]at d4
  have htr:vw q x y=true→vw q y z=true→vw q x z=true:=Ma
  have x1:=(bU x.ty).froz1
  have y1:=(bU y.ty).froz1
  have w1:=(bU z.ty).froz1
  unfold j5 nI at d1 d2 d3 d4
  clear Y7
  generalize vw q x y=A at*
  generalize vw q y z=B at*
  generalize vw q x z=C at*
  generalize qm x.ty=nx at*
  generalize qm y.ty=ny at*
  generalize qm z.ty=nz at*
  have hc:A=false∨B=false∨C=true:=by cases A <;> cases B <;> simp_all
  cases A
  all_goals cases B
  all_goals cases C
  all_goals first|(simp at hc;done)|simp(maxDischargeDepth:=6) only[qA,seval,eI,p5,p6,p12,o5,o6,JN,z1,z2,zf,z7,z8,z9,Z7,x1,y1,w1,d1,d2,d3,d4,R,dc9,aAo,aAp,AI]
end Go.Proofs.YtnkgnjecmfkcfaaGreat
