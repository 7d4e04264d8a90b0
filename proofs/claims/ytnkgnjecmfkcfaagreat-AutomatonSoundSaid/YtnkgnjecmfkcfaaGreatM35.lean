/- Walks, plain laws (35). Conditions: the theorems' own. -/
import Derived.Test.YtnkgnjecmfkcfaaGreatM34
set_option maxRecDepth 100000
set_option linter.all false
set_option maxHeartbeats 16000000
namespace Go.Proofs.YtnkgnjecmfkcfaaGreat
open Go Go.Ev
def cbx{a b:Int}(ha:0≤a∧a≤3)(hb:0≤b∧b≤3): ∃(r:Int) (s:List ah),ae pE 89 [qi a,qi b] []=some (qi r,s)∧(0≤r∧r≤3)∧A8 a r∧A8 b r:=by
 obtain⟨r,s,e,h⟩:=cbX (a,b) (List.mem_flatMap.2 ⟨a,H4 ha,List.mem_map_of_mem (H4 hb)⟩)
 split at h
 ·rw[decide_eq_true_eq]at h
  exact⟨_,s,e,h⟩
 ·cases h
def OH{t a r:Int}(h1:A8 t a)(h2:A8 a r):A8 t r:=aqQ h1 h2 fun e=>by
 rcases h2 with h|h|h
 ·omega
 ·omega
 ·exact h
def cvR(n:List Nat)(l:List Ru)(r:Int):Prop:= ∀u∈l,∀D z,(u,D)∈Rl.zip Ri→(z,n)∈D.zip lF→A8 z r
def cvC(n:List Nat)(l:List Co)(r:Int):Prop:= ∀u∈l,∀D z,(u,D)∈FZ.zip Rj→(z,n)∈D.zip lF→A8 z r
theorem OI{α β:Type}{x:α}{y:β}: ∀{l:List α} {m:List β},(x,y)∈l.zip m→(y,x)∈m.zip l
 | [],_,h=>by simp at h
 |_::_,[],h=>by simp at h
 |a::l,b::m,h=>by
  rw[List.zip_cons_cons]at h ⊢
  rcases List.mem_cons.1 h with e|h
  ·cases e;exact List.mem_cons_self ..
  ·exact List.mem_cons_of_mem _ (OI h)
def qRx(j:Nat)(hj:j≤2)(k:Int)(hk:0≤k∧k≤3)(u:Ru)(H:u∈iX)(n:List Nat)(hn:n∈lF): ∃(r:Int) (s:List ah),ae pE 90 [qi u.sc,.agg (mE (jJ j u.x)),.s n,.b false,qi k,.b false] []=some (qi r,s)∧(0≤r∧r≤3)∧ ∀D z,(u,D)∈Rl.zip Ri→(z,n)∈D.zip lF→z=r:=by
 obtain⟨r,s,e,hr⟩:=qRu j hj k hk u H n hn
 refine⟨r,s,e,hr,fun D z h1 h2=> ?_⟩
 obtain⟨I,F⟩:=qxR k (u,n,z) (List.mem_flatMap.2 ⟨(u,D),h1,List.mem_map.2 ⟨(n,z),OI h2,rfl⟩⟩)
 rw[acu j u H]at e
 simp only at F
 rw[e]at F
 cases F;rfl
def qCx(j:Nat)(hj:j≤2)(k:Int)(hk:0≤k∧k≤3)(u:Co)(H:u∈ic)(n:List Nat)(hn:n∈lF): ∃(r:Int) (s:List ah),ae pE 90 [qi u.sc,.agg (mE (jJ j u.x)),.s n,.b false,qi k,.b true] []=some (qi r,s)∧(0≤r∧r≤3)∧ ∀D z,(u,D)∈FZ.zip Rj→(z,n)∈D.zip lF→z=r:=by
 obtain⟨r,s,e,hr⟩:=qCo j hj k hk u H n hn
 refine⟨r,s,e,hr,fun D z h1 h2=> ?_⟩
 have hx:jJ j u.x=u.x:=(List.map_inj_left (f:=fun u:Co=>jJ j u.x) (g:=fun u=>u.x)).1 (show FZ.map (fun u=>jJ j u.x)=FZ.map fun u=>u.x from rfl) u (List.of_mem_zip h1).1
 obtain⟨I,F⟩:=qxC k (u,n,z) (List.mem_flatMap.2 ⟨(u,D),h1,List.mem_map.2 ⟨(n,z),OI h2,rfl⟩⟩)
 rw[hx]at e
 simp only at F
 rw[e]at F
 cases F;rfl
section
variable(j:Nat)(hj:j≤2)(c:Ct)(n:List Nat)(hn:n∈lF)(kt kc:Int)(X1: ¬kt=3)(hkc:0≤kc∧kc≤3)
include hj hn X1 hkc
def aJJ(uE: ∀u∈c.ru,u∈iX)(hl:c.ru.length≤1000)(e2:ah)(fr:Fr)(lh:aE ah)(sh:List ah)(h1:aa fr 1= .s n)(h7:aa fr 7= qi kt)(h8:aa fr 8= qi kc)(h9:aa fr 9= qi 0)(I:aa fr 36=bj c.ru.length (c.ru.flatMap (OB j)))(X:aa fr 37= qi (c.ru.length:Int))(J:aa fr 38= qi 0)(H:ab lh 2=e2):
  Lp pE 74 xM fr lh sh (.ext 0) fun f l s=>s=sh∧ab l 2=e2∧ ∃r:Int,aa f 9= qi r∧(0≤r∧r≤3)∧cvR n c.ru r:=by
 have hI:=sm8 j c
 refine bK Ja (fun k f l s=>aa f 38= qi (k:Int)∧s=sh∧ab l 2=e2∧ ∃r:Int,aa f 9= qi r∧(0≤r∧r≤3)∧cvR n (c.ru.take k) r) c.ru.length ⟨J,rfl,H,0,h9,by decide,fun u hu=>by simp at hu⟩ ?_ ?_
 ·rintro k f l _ hk K ⟨F,rfl,H,r,N,hr,QI⟩
  have O:(k:Int)<c.ru.length:=zV
  have hw:=aF (k:=k) zV
  obtain⟨Y,rr,D,U⟩:=gI (k:=6) (fun x Y (h:Y=OB j x)=>by rw[h,OB,List.length_cons,List.length_cons,H6]) hI (A6 (OB j) c.ru) k hk
  subst U
  have hm:=uE _ (List.getElem_mem hk)
  rw[List.take_succ_eq_append_getElem hk]
  generalize c.ru[k]=u at*
  obtain⟨q,s0,Z,hq,hz⟩:=qRx j hj kc hkc u hm n hn
  obtain⟨r',s1,e1,V,v1,v2⟩:=cbx hr hq
  have W:cvR n (c.ru.take k++ [u]) r':=fun w hw tv z h1 h2=>by
   rcases List.mem_append.1 hw with hw|hw
   ·exact OH (QI w hw tv z h1 h2) v1
   ·rw[List.mem_singleton.1 hw]at h1
    rw[hz tv z h1 h2];exact v2
  obtain⟨a,ea,ha⟩:=ja (jJ j u.x)
  generalize bj c.ru.length (c.ru.flatMap (OB j))=t8 at*
  unfold OB at D
  rw[ea]at Z D
  simp only[List.cons_append,List.nil_append]at D
  have z1:=ha.froz1
  have z2:=ha.cells
  have z3:=ha.noTup
  simp(maxDischargeDepth:=6) only[qA,seval,gd,repl,aH,xM,K,h1,h7,h8,I,X,F,N,H,O,hw,D,z1,z2,z3,X1,Z,e1,ax8,ax9,ax5,ax6]
  exact⟨r',rfl,V,W⟩
 ·rintro f l _ K ⟨F,rfl,H,r,N,hr,QI⟩
  rw[List.take_length]at QI
  simp only[qA,seval,gd,xM,K,X,F,N,Int.lt_irrefl]
  exact⟨H,r,rfl,hr,QI⟩
def aJL(iz: ∀u∈c.co,u∈ic)(hl:c.co.length≤1000)(H:Int)(K:0≤H∧H≤3)(yD:cvR n c.ru H)(fr:Fr)(lh:aE ah)(sh:List ah)(h1:aa fr 1= .s n)(h7:aa fr 7= qi kt)(h8:aa fr 8= qi kc)(h9:aa fr 9= qi H)(N:aa fr 55=bj c.co.length (c.co.flatMap (OC j)))(I:aa fr 56= qi (c.co.length:Int))(O:aa fr 57= qi 0):
  Lp pE 74 xL fr lh sh (.ext 2) fun f l s=>s=sh∧ ∃r:Int,aa f 9= qi r∧(0≤r∧r≤3)∧cvR n c.ru r∧cvC n c.co r:=by
 have hI:=sm9 j c
 refine bK I9 (fun k f l s=>aa f 57= qi (k:Int)∧s=sh∧ ∃r:Int,aa f 9= qi r∧(0≤r∧r≤3)∧cvR n c.ru r∧cvC n (c.co.take k) r) c.co.length ⟨O,rfl,H,h9,K,yD,fun u hu=>by simp at hu⟩ ?_ ?_
 ·rintro k f l _ hk U ⟨F,rfl,r,V,hr,W,QI⟩
  have X:(k:Int)<c.co.length:=zV
  have hw:=aF (k:=k) zV
  obtain⟨cc,rr,D,Y⟩:=gI (k:=5) (fun x cc (h:cc=OC j x)=>by rw[h,OC,List.length_cons,H6]) hI (A6 (OC j) c.co) k hk
  subst Y
  have hm:=iz _ (List.getElem_mem hk)
  rw[List.take_succ_eq_append_getElem hk]
  generalize c.co[k]=u at*
  obtain⟨q,s0,e0,hq,hz⟩:=qCx j hj kc hkc u hm n hn
  obtain⟨Z,s1,e1,hr',v1,v2⟩:=cbx hr hq
  have aJN:cvR n c.ru Z:=fun w hw J z h1 h2=>OH (W w hw J z h1 h2) v1
  have aqW:cvC n (c.co.take k++ [u]) Z:=fun w hw J z h1 h2=>by
   rcases List.mem_append.1 hw with hw|hw
   ·exact OH (QI w hw J z h1 h2) v1
   ·rw[List.mem_singleton.1 hw]at h1
    rw[hz J z h1 h2];exact v2
  obtain⟨a,ea,ha⟩:=ja (jJ j u.x)
  generalize bj c.co.length (c.co.flatMap (OC j))=t9 at*
  unfold OC at D
  rw[ea]at e0 D
  simp only[List.cons_append,List.nil_append]at D
  have z1:=ha.froz1
  have z2:=ha.cells
  have z3:=ha.noTup
  simp(maxDischargeDepth:=6) only[qA,seval,gd,repl,aH,xL,U,h1,h7,h8,N,I,F,V,X,hw,D,z1,z2,z3,X1,e0,e1,ax8,ax9,ax5,ax6]
  exact⟨Z,rfl,hr',aJN,aqW⟩
 ·rintro f l _ U ⟨F,rfl,r,V,hr,W,QI⟩
  rw[List.take_length]at QI
  simp only[qA,seval,gd,xL,U,I,F,V,Int.lt_irrefl]
  exact⟨r,rfl,hr,W,QI⟩
end
def aqY(j:Nat)(hj:j≤2)(c:Ct)(n:List Nat)(hn:n∈lF)(uE: ∀u∈c.ru,u∈iX)(iz: ∀u∈c.co,u∈ic)(qn: ∀x∈c.cr,x∈wJ)(H:c.ru.length≤1000)(I:c.co.length≤1000)(O:c.cr.length≤1000)(a8 a9 aw:T)(hT:kR c (vB false j) a8 a9 aw .nilsl .nilsl)(hS:rk c)(U:eH c=0):
  ∃(r:Int) (s:List ah),ae pE 47 [.agg (aO c (vB false j) a8 a9 aw .nilsl .nilsl),.s n] []=some (.tup [qi r,qi 0],s)∧cvR n c.ru r∧cvC n c.co r:=by
 obtain⟨s0,e0⟩:=aC3 j hj c uE iz qn H I O a8 a9 aw hT hS U
 obtain⟨kt,s1,e1,X1⟩:=atK n hn
 obtain⟨kc,s2,e2,hkc⟩:=aqO j hj c qn n hn
 have hR:=fun e fr lh sh=>aJJ j hj c n hn kt kc X1 hkc uE H e fr lh sh
 have hC:=fun r0 V yD fr lh sh=>aJL j hj c n hn kt kc X1 hkc iz I r0 V yD fr lh sh
 obtain⟨z8,z9,W⟩:=al8 j c
 have m8:=(sm8 j c).lenI
 have m9:=(sm9 j c).lenI
 have y8:=(sm8 j c).cells
 have y9:=(sm9 j c).cells
 have X:=(ah5 j c).cells
 have n8:=(sm8 j c).noTup
 have n9:=(sm9 j c).noTup
 have Y:=(ah5 j c).noTup
 have x7:froz1 (vB false j)=true:=by obtain⟨_,F,_⟩:=hT.h7;exact F.froz1
 have x8:froz1 a8=true:=by obtain⟨_,F,_⟩:=hT.h8;exact F.froz1
 have x9:froz1 a9=true:=by obtain⟨_,F,_⟩:=hT.h9;exact F.froz1
 have Z:froz1 aw=true:=by obtain⟨_,F,_⟩:=hT.h10;exact F.froz1
 generalize vB false j=a7 at*
 unfold smT aO at*
 generalize bj c.ru.length (c.ru.flatMap (OB j))=t8 at*
 generalize bj c.co.length (c.co.flatMap (OC j))=t9 at*
 generalize bj c.cr.length (c.cr.flatMap (Vf j))=t10 at*
 suffices h: ∃(r:Int),(∃(s:List ah),ae pE 47 [.agg [qi c.rp,qi c.rl,qi c.cn,qi c.st,qi c.ly,qi c.nf,qi c.nt,a7,a8,a9,aw,.nilsl,.nilsl,qi c.gu],.s n] []=some (.tup [qi r,qi 0],s))∧cvR n c.ru r∧cvC n c.co r from by
  obtain⟨r,⟨s,e⟩,h⟩:=h
  exact⟨r,s,e,h⟩
 rw[au axE (by simp[c47])]
 simp(maxDischargeDepth:=6) only[qA,seval,repl,c47,x7,x8,x9,Z,e0,e1,e2,aGt,Sz,aGu,X1,z8,z9,W,y8,y9,X,n8,n9,Y,m8]
 generalize K:DC pE 74 (.loop xM) _=D
 obtain⟨N,l2,s2,rfl,⟨rfl,o2,r,g9,hr,hv⟩,J⟩:=qK Ja K (hR _ _ _ _ yk yk yk yk yk yk yk rfl)
 simp only[qA,seval]at o2
 have p1:aa N 1= .s n:=by rw[J 1 zz];simp only[qA,seval]
 have p2:aa N 2= .ptr .L 2 1 0:=by rw[J 2 zz];simp only[qA,seval]
 have p7:aa N 7= qi kt:=by rw[J 7 zz];simp only[qA,seval]
 have p8:aa N 8= qi kc:=by rw[J 8 zz];simp only[qA,seval]
 clear K J hR
 simp(maxDischargeDepth:=6) only[qA,seval,p2,o2,m9]
 generalize K:DC pE 74 (.loop xL) _=D
 obtain⟨f3,l3,s3,rfl,⟨rfl,r2,q9,_,ahx⟩,Aq⟩:=qK I9 K (hC r hr hv _ _ _ (by simp only[qA,seval,p1]) (by simp only[qA,seval,p7]) (by simp only[qA,seval,p8]) (by simp only[qA,seval,g9]) yk yk yk)
 refine⟨r2, ?_,ahx⟩
 simp(maxDischargeDepth:=6) only[qA,seval,q9,yy]
section
variable(t:Tt)(c:Ct)(zT aT fT a7 a8 a9 aw aA az:T)(hT:jV t zT aT fT)(hC:kR c a7 a8 a9 aw aA az)(hA:CY c)(hk:ee t c=0)(d:List (Int×Bool))(dT:T)(hd:kK d dT)(hE:cL c t.fl d=0)
include hT hC hA hk hd hE
def Rn:ae pE 62 [.agg [zT,aT,fT],.agg (aO c a7 a8 a9 aw aA az),dT] []=some (.tup [qi (fJ (aX t c d) (Hu c)),qi 0],[]):=by
 obtain⟨h1,h6,U,_⟩:=dM hE
 obtain⟨H,e1,V⟩:=QA t c zT aT fT a7 a8 a9 aw aA az hT hC hA hk d dT hd zV
 rw[if_pos hE]at e1
 have hz:=Aj t c zT aT fT a7 a8 a9 aw aA az hT hC
 have J:=hd.sl.froz
 have II:=pT c zT aT fT a7 a8 a9 aw aA az H
 obtain⟨W,hc⟩:=um t c zT aT fT a7 a8 a9 aw aA az hT hC hA hk
 obtain⟨s1,K⟩:=aa2 t c zT aT fT a7 a8 a9 aw aA az H hT V W hc d dT hd h1 zV U
 have D:=wV (t:=t) (c:=c) W hc h1 (show d.length≤100 by omega) U
 obtain⟨g1,X,g3,g4,g5⟩:=alz (t:=t) hc D
 have Y:IsSl (.sl (ints (aX t c d)) 11 false) (aX t c d).length (ints (aX t c d)):= .inr ⟨false,by rw[D.1]⟩
 have N:froz (.sl (ints (aX t c d)) 11 false)=true:=rfl
 obtain⟨q,Z,r2,r3,c1,c2,c3,cr,nb,r,_,_,_,_,_,F,_,_,O⟩:=V
 have r:H=vsL (.vm (q.map fun p=>sK p.1) (q.map fun p=>T.agg p.2)) Z r2 r3 c1 c2 c3 cr (.b nb):=r
 have hb:=aa9 c zT aT fT a7 a8 a9 aw aA az (.vm (q.map fun p=>sK p.1) (q.map fun p=>T.agg p.2)) Z r2 r3 c1 c2 c3 cr (.b nb) _ _ Y (Hu c) F X zV
 rw[←r]at hb
 clear F O g1 X g3 Y r
 generalize ints (aX t c d)=I at*
 generalize fJ (aX t c d) (Hu c)=x1 at*
 generalize stV c zT aT fT a7 a8 a9 aw aA az H=S at*
 unfold aO at*
 rw[au am3 (by simp[c62])]
 simp(maxDischargeDepth:=6) only[qA,seval,c62,hz,e1,K,hb,amW,axB,ayl,J,II,N]
end
section
variable(d e:List (Int×Bool))(a b:T)(ha:kK d a)(hb:kK e b)(hd:1≤d.length)(he:1≤e.length)(hd6:d.length≤6)(he6:e.length≤6)
include ha hb hd he hd6 he6
def aid: ∃(v:Bool),ae pE 21 [a,b] []=some (.b v,[]):=by
 have hc:=abZ d e a b ha.sl hb.sl zV zV
 have F:=ha.sl.lenI
 have H:=hb.sl.lenI
 have I:=ha.sl.froz
 have J:=hb.sl.froz
 obtain⟨K,r⟩:=iH ha 0 zV
 obtain⟨X,N⟩:=iH ha (d.length-1) zV
 obtain⟨O,D⟩:=iH hb 0 zV
 obtain⟨Y,U⟩:=iH hb (e.length-1) zV
 have r: ∀kk,iaV a (.i kk 0) 2=some (.vp (qi d[0].1:: .b d[0].2::K)):=r
 have D: ∀kk,iaV b (.i kk 0) 2=some (.vp (qi e[0].1:: .b e[0].2::O)):=D
 have V:wr .i64 ((d.length:Int)-1)=((d.length-1:Nat):Int):=by rw[aZ zV];omega
 have W:wr .i64 ((e.length:Int)-1)=((e.length-1:Nat):Int):=by rw[aZ zV];omega
 generalize d[0]=x0 at*
 generalize d[d.length-1]=x1 at*
 generalize e[0]=y0 at*
 generalize e[e.length-1]=y1 at*
 generalize LD d e=cm at*
 refine⟨decide (x0.1=y0.1)&&(decide (x1.1=y1.1)&& !decide (cm=0)), ?_⟩
 rw[au amM (by simp[c21])]
 by_cases h1:x0.1=y0.1
 all_goals by_cases h2:x1.1=y1.1
 all_goals by_cases h3:cm=0
 all_goals simp(maxDischargeDepth:=6) only[qA,seval,bg,aH,c21,F,H,I,J,r,N,D,U,V,W,hc,aec,aed,h1,h2,h3]
end
theorem acD(d:List (Int×Bool))(m:Nat):(iv d).take (m*2)=iv (d.take m):=by
 induction d generalizing m with
 |nil=>simp[iv]
 |cons x r ih=>
  cases m with
  |zero=>simp[iv]
  |succ m=>rw[Nat.succ_mul];show _::_::((iv r).take (m*2))=_;rw[ih];rfl
theorem acE(d:List (Int×Bool))(m:Nat):(iv d).drop (m*2)=iv (d.drop m):=by
 induction d generalizing m with
 |nil=>simp[iv]
 |cons x r ih=>
  cases m with
  |zero=>simp[iv]
  |succ m=>rw[Nat.succ_mul];show((iv r).drop (m*2))=_;rw[ih];rfl
def H8{d:List (Int×Bool)}{w:T}(h:kK d w)(h1:1≤d.length): ∃ex,w= .sl (iv d) d.length ex:=by
 rcases h.sl with⟨_,h0,_⟩|⟨ex,e⟩
 ·omega
 ·exact⟨ex,e⟩
def aqZ{d:List (Int×Bool)}{w:T}(h:kK d w)(h1:1≤d.length)(m:Nat)(r:m≤d.length): ∃w',pG 2 w 0 m=some w'∧kK (d.take m) w':=by
 obtain⟨ex,rfl⟩:=H8 h h1
 refine⟨.sl (iv (d.take m)) m (ex&&decide (m=d.length)), ?_,kK.of (.inr ⟨_,by rw[List.length_take,Nat.min_eq_left r]⟩)⟩
 unfold pG
 simp only
 rw[if_pos ⟨Nat.zero_le _,r,gY d⟩,Nat.zero_mul,List.drop_zero,Nat.sub_zero,acD]
def aq0{d:List (Int×Bool)}{w:T}(h:kK d w)(h1:1≤d.length)(m:Nat)(r:m≤d.length): ∃ex,pG 2 w m d.length=some (.sl (iv (d.drop m)) (d.length-m) ex):=by
 obtain⟨ex,rfl⟩:=H8 h h1
 refine⟨ex&&decide (d.length=d.length), ?_⟩
 unfold pG
 simp only
 rw[if_pos ⟨r,Nat.le_refl _,gY d⟩,acE,List.take_of_length_le (by rw[gY,List.length_drop];exact Nat.le_refl _)]
theorem aie{x y:Int×Bool}(h:LC x y=0):x=y:=by
 obtain⟨x1,x2⟩:=x
 obtain⟨r,D⟩:=y
 unfold LC at h
 simp only at h
 by_cases h1:x1=r
 ·rw[if_pos h1]at h
  rw[h1]
  cases x2 <;> cases D <;> first|rfl|(simp[fQ]at h)
 ·rw[if_neg h1]at h
  split at h <;> omega
theorem Ro: ∀{a b:List (Int×Bool)},At a b=0→a.length=b.length→a=b
 | [],[],_,_=>rfl
 | [],_::_,_,h=>by simp at h
 |_::_,[],_,h=>by simp at h
 |x::a,y::b,h,r=>by
  rw[At]at h
  by_cases hk:LC x y=0
  ·rw[if_neg (by simp[hk])]at h
   rw[aie hk,Ro h (by simpa using r)]
  ·rw[if_pos hk]at h
   exact absurd h hk
def aif{a b:List (Int×Bool)}(h:LD a b=0)(D:a.length=b.length):a=b:=by
 unfold LD at h
 by_cases r:At a b=0
 ·exact Ro r D
 ·rw[if_pos r]at h
  exact absurd h r
section
variable(t:Tt)(c:Ct)(zT aT fT a7 a8 a9 aw aA az:T)(hT:jV t zT aT fT)(hC:kR c a7 a8 a9 aw aA az)(hA:CY c)(hk:ee t c=0)(out:List Lg)(v:T)(hv:Em out v)(A5: ∀g∈out,cL c t.fl g.du=0)(gG:out.length≤1000000000)
 (uE: ∀u∈c.ru,u∈iX) (iz: ∀u∈c.co,u∈ic) (q:List Nat→Int) (OE: ∀u∈c.ru,∀tv,(u,tv)∈Rl.zip Ri→ ∀p∈tv.zip lF,A8 p.1 (q p.2)) (OG: ∀u∈c.co,∀tv,(u,tv)∈FZ.zip Rj→ ∀p∈tv.zip lF,A8 p.1 (q p.2))
 (a b:List (Int×Bool)) (wa wb:T) (ha:kK a wa) (hb:kK b wb) (OJ:cL c t.fl a=0) (hEb:cL c t.fl b=0)
include hT hC hA hk hv A5 gG uE iz OE OG ha hb OJ hEb
def so1(aJO:qH q (kU t.fl a a.length) (kU t.fl b b.length)=true)(fr:Fr)(lh:aE ah)(sh:List ah)(h2:aa fr 2=v)(h3:aa fr 3=wa)(h4:aa fr 4=wb)(h5:aa fr 5= .ptr .L 5 1 0)(h6:aa fr 6= .ptr .L 6 1 0)(mG:aa fr 17= qi 0)(H:ab lh 5=⟨1,.cells [zT,aT,fT] 0 true⟩)(I:ab lh 6=⟨1,.cells (aO c a7 a8 a9 aw aA az) 0 true⟩):
  Lp pE 149 oW fr lh sh (.ext 0) fun f l s=>s=sh:=by
 obtain⟨cs,i1,i2⟩:=hv
 have W:=i1.lenI
 have hz:=Aj t c zT aT fT a7 a8 a9 aw aA az hT hC
 obtain⟨ht,hc⟩:=um t c zT aT fT a7 a8 a9 aw aA az hT hC hA hk
 obtain⟨a1,a6,_,_⟩:=dM OJ
 obtain⟨b1,b6,_,_⟩:=dM hEb
 have lb:=hb.sl.lenI
 have zb:=hb.sl.froz
 have za:=ha.sl.froz
 refine bK IY (fun k f l s=>aa f 17= qi (k:Int)∧s=sh∧ab l 5=⟨1,.cells [zT,aT,fT] 0 true⟩∧ab l 6=⟨1,.cells (aO c a7 a8 a9 aw aA az) 0 true⟩) out.length ⟨mG,rfl,H,I⟩ ?_ ?_
 ·rintro k f l s IP U ⟨DL,rfl,H,I⟩
  have DM:(k:Int)<out.length:=zV
  have hw:=aF (k:=k) zV
  obtain⟨ca,ra,ea,w,Y,Z⟩:=i2.drop LgQ.len k IP
  have ia:=fun kk=>i1.ia (sz:=7) (k:=k) (kk:=kk) (i2.len LgQ.len) IP
  rw[ea]at ia
  unfold Eh at Y
  subst Y
  unfold LgT at Z
  have hE:=A5 out[k] (List.getElem_mem IP)
  generalize out[k].du=d at*
  have hd:kK d w:=kK.of Z
  have ld:=hd.sl.lenI
  have lt:=hd.sl.len
  have zd:=hd.sl.froz
  have r:=hd.sl.froz1
  obtain⟨d1,d6,_,_⟩:=dM hE
  have e1:=QB t c zT aT fT a7 a8 a9 aw aA az hT hC hA hk d w hd zV
  rw[if_pos hE]at e1
  have e2:=Rn t c zT aT fT a7 a8 a9 aw aA az hT hC hA hk d w hd hE
  by_cases hlt:d.length<b.length
  ·have MP:(d.length:Int)<b.length:=zV
   clear e1 e2
   unfold aO at*
   simp(maxDischargeDepth:=6) only[qA,seval,gd,oW,U,h2,h3,h4,h5,h6,DL,H,I,W,DM,hw,ia,ld,lb,MP,zd,r]
  ·have MP: ¬(d.length:Int)<b.length:=zV
   obtain⟨w',GQ,Ye⟩:=aqZ hd d1 b.length zV
   have K:=abZ (d.take b.length) b w' wb Ye.sl hb.sl (by rw[List.length_take];omega) zV
   have zw:=Ye.sl.froz
   by_cases D:LD (d.take b.length) b=0
   ·have hdb:d.take b.length=b:=aif D (by rw[List.length_take];omega)
    obtain⟨ex,aC6⟩:=aq0 hd d1 b.length zV
    have hde:b++d.drop b.length=d:=by
     have:=List.take_append_drop b.length d
     rwa [hdb]at this
    have QJ:d.length-b.length=(d.drop b.length).length:=by rw[List.length_drop]
    rw[QJ]at aC6
    generalize d.drop b.length=e at*
    have hsp:=acB (e:=e) ht hc uE iz OJ hEb (by rw[hde];exact hE) aJO OE OG
    rw[hde]at hsp
    obtain⟨hx,F,hcx⟩:=hsp
    have l6:(a++e).length≤6:=(dM hx).2.1
    rw[List.length_append]at l6
    obtain⟨exa,hwa⟩:=H8 ha a1
    have A:=FW (lh:=l) (sh:=s) (v:= .nilsl) (k:=102) (n:=0) (q:=a.length) (sz:=2) (bytes:=16) (d:=102) (cs:= []) (ps:=iv a) aW.nil (fun _ _=>rfl) (gY a) (by unfold roomy;omega) exa
    rw[←hwa]at A
    generalize UZ l s 102 2 16 .nilsl wa=V1 at A
    generalize G6 l s 102 2 16 .nilsl wa=L1 at A
    obtain⟨A1,A2,A3⟩:=A
    rw[Nat.zero_add,List.nil_append]at A2
    have B:=FW (lh:=L1) (sh:=s) (d:=107) (q:=e.length) (bytes:=16) (ps:=iv e) A2 (fun h=>by omega) (gY e) (by unfold roomy;omega) ex
    generalize UZ L1 s 107 2 16 V1 (.sl (iv e) e.length ex)=V2 at B
    generalize G6 L1 s 107 2 16 V1 (.sl (iv e) e.length ex)=L2 at B
    obtain⟨B1,B2,B3⟩:=B
    rw[←Ht,←List.length_append]at B2
    have A4:=A2.notS
    have B4:=B2.fzV (sh:=s) (keep:=false)
    have p5:ab L2 5=⟨1,.cells [zT,aT,fT] 0 true⟩:=by rw[B3 5 zz,A3 5 zz];exact H
    have p6:ab L2 6=⟨1,.cells (aO c a7 a8 a9 aw aA az) 0 true⟩:=by rw[B3 6 zz,A3 6 zz];exact I
    have hX:kK (a++e) (bj (a++e).length (iv (a++e))):=kK.of B2.isl
    have e3:=QB t c zT aT fT a7 a8 a9 aw aA az hT hC hA hk (a++e) _ hX (by rw[List.length_append];omega)
    rw[if_pos hx]at e3
    have e4:=Rn t c zT aT fT a7 a8 a9 aw aA az hT hC hA hk (a++e) _ hX hx
    have N:=Lf (aX t c d) (sJ c)
    have O:=Lf (aX t c (a++e)) (sJ c)
    have J:lenI (bj (fO (aX t c d) (sJ c)).length (T7 (fO (aX t c d) (sJ c))))=some (qi ((fO (aX t c d) (sJ c)).length:Int)):=IsSl.lenI (dX fun h=>by rw[List.length_eq_zero_iff.1 h];rfl)
    unfold jy at F
    generalize fJ (aX t c d) (Hu c)=x1 at*
    generalize fJ (aX t c (a++e)) (Hu c)=x2 at*
    have K9: ¬x1<x2:=zV
    generalize bj (a++e).length (iv (a++e))=X at*
    by_cases hn:fO (aX t c d) (sJ c)= []
    ·have iR:tD (aX t c d) (sJ c)=true:=N.1 hn
     have iK:fO (aX t c (a++e)) (sJ c)= []:=O.2 (F iR)
     rw[hn]at e1
     rw[iK]at e3
     have e1:ae pE 14 [.agg [zT,aT,fT],.agg (aO c a7 a8 a9 aw aA az),w] []=some (.tup [.nilsl,qi 0],[]):=e1
     have e3:ae pE 14 [.agg [zT,aT,fT],.agg (aO c a7 a8 a9 aw aA az),X] []=some (.tup [.nilsl,qi 0],[]):=e3
     clear N O J F hX hcx
     unfold aO at*
     have zt:froz (.agg [zT,aT,fT])=true:=by simp only[qA,seval,hz]
     have zc:froz (.agg [qi c.rp,qi c.rl,qi c.cn,qi c.st,qi c.ly,qi c.nf,qi c.nt,a7,a8,a9,aw,aA,az,qi c.gu])=true:=by simp only[qA,seval,hz]
     have fz3:Aa L2 s false [.agg [zT,aT,fT],.agg [qi c.rp,qi c.rl,qi c.cn,qi c.st,qi c.ly,qi c.nf,qi c.nt,a7,a8,a9,aw,aA,az,qi c.gu],V2]=some ([.agg [zT,aT,fT],.agg [qi c.rp,qi c.rl,qi c.cn,qi c.st,qi c.ly,qi c.nf,qi c.nt,a7,a8,a9,aw,aA,az,qi c.gu],X],fzU L2 V2):=by
      rw[js,mi zt,js,mi zc,js,Az,B4];simp
     have C14: ∀(z:Nat) (fr:Fr),br pE (ae pE) z ⟨fr,L2,s⟩ 14 [.agg [zT,aT,fT],.agg [qi c.rp,qi c.rl,qi c.cn,qi c.st,qi c.ly,qi c.nf,qi c.nt,a7,a8,a9,aw,aA,az,qi c.gu],V2]=some (.tup [.nilsl,qi 0],⟨fr,L2,s⟩):=fun z fr=>by
      rw[aFS,fz3,Option.bind_some,e3];rfl
     have C62: ∀(z:Nat) (fr:Fr),br pE (ae pE) z ⟨fr,L2,s⟩ 62 [.agg [zT,aT,fT],.agg [qi c.rp,qi c.rl,qi c.cn,qi c.st,qi c.ly,qi c.nf,qi c.nt,a7,a8,a9,aw,aA,az,qi c.gu],V2]=some (.tup [qi x2,qi 0],⟨fr,L2,s⟩):=fun z fr=>by
      rw[aGe,fz3,Option.bind_some,e4];rfl
     simp(maxDischargeDepth:=6) only[qA,seval,gd,bg,aH,oW,U,h2,h3,h4,h5,h6,DL,H,I,W,DM,hw,ia,ld,lt,lb,MP,zd,r,GQ,K,D,zw,zb,za,aec,aed,e1,e2,C14,C62,axj,aGd,hz,A1,A4,B1,B4,aC6,p5,p6,K9]
    ·have vP:(0:Int)<((fO (aX t c d) (sJ c)).length:Int):=by
      have:=List.length_pos_iff.2 hn
      omega
     clear N O e3 e4 F hX hcx
     generalize bj (fO (aX t c d) (sJ c)).length (T7 (fO (aX t c d) (sJ c)))=V at*
     generalize ((fO (aX t c d) (sJ c)).length:Int)=nb at*
     unfold aO at*
     simp(maxDischargeDepth:=6) only[qA,seval,gd,oW,U,h2,h3,h4,h5,h6,DL,H,I,W,DM,hw,ia,ld,lt,lb,MP,zd,r,GQ,K,D,zw,zb,aec,aed,e1,axj,hz,J,vP]
   ·clear e1 e2
    generalize LD (d.take b.length) b=cm at*
    unfold aO at*
    simp(maxDischargeDepth:=6) only[qA,seval,gd,oW,U,h2,h3,h4,h5,h6,DL,H,I,W,DM,hw,ia,ld,lt,lb,MP,zd,r,GQ,K,D,zw,zb,aec,aed]
 ·rintro f l s U ⟨DL,rfl,H,I⟩
  simp(maxDischargeDepth:=6) only[qA,seval,gd,oW,U,h2,DL,W,Int.lt_irrefl]
end
section
variable(t:Tt)(c:Ct)(zT aT fT a7 a8 a9 aw aA az:T)(hT:jV t zT aT fT)(hC:kR c a7 a8 a9 aw aA az)(hA:CY c)(hk:ee t c=0)(out:List Lg)(v:T)(hv:Em out v)(A5: ∀g∈out,cL c t.fl g.du=0)(gG:out.length≤1000000000)
 (uE: ∀u∈c.ru,u∈iX) (iz: ∀u∈c.co,u∈ic) (q:List Nat→Int) (OE: ∀u∈c.ru,∀tv,(u,tv)∈Rl.zip Ri→ ∀p∈tv.zip lF,A8 p.1 (q p.2)) (OG: ∀u∈c.co,∀tv,(u,tv)∈FZ.zip Rj→ ∀p∈tv.zip lF,A8 p.1 (q p.2))
 (hq: ∀s∈ [nLg,nHd,nBk,nLo,nSo,nTy],∃r,ae pE 47 [.agg (aO c a7 a8 a9 aw aA az),.s s] []=some (.tup [qi (q s),qi 0],r))
 (a b:List (Int×Bool)) (wa wb:T) (ha:kK a wa) (hb:kK b wb) (OJ:cL c t.fl a=0) (hEb:cL c t.fl b=0)
include hT hC hA hk hv A5 gG uE iz OE OG hq ha hb OJ hEb
def LY: ∃s,ae pE 22 [.agg [zT,aT,fT],.agg (aO c a7 a8 a9 aw aA az),v,wa,wb] []=some (.b true,s):=by
 have I:=Aj t c zT aT fT a7 a8 a9 aw aA az hT hC
 obtain⟨J,hc⟩:=um t c zT aT fT a7 a8 a9 aw aA az hT hC hA hk
 obtain⟨_,K⟩:=yV J hc OJ
 obtain⟨_,N⟩:=yV J hc hEb
 obtain⟨a1,a6,_,_⟩:=dM OJ
 obtain⟨b1,b6,_,_⟩:=dM hEb
 obtain⟨s1,e1⟩:=QD t c zT aT fT a7 a8 a9 aw aA az hT hC hA hk a wa ha OJ
 obtain⟨s2,e2⟩:=QD t c zT aT fT a7 a8 a9 aw aA az hT hC hA hk b wb hb hEb
 obtain⟨s3,e3⟩:=aqG t c zT aT fT a7 a8 a9 aw aA az hT hC hA hk _ _ 0 0 K.1 N.1 (by have:=K.2.2.2.2.2.1;omega) (by have:=N.2.2.2.2.2.1;omega) q hq
 have hL:=so1 t c zT aT fT a7 a8 a9 aw aA az hT hC hA hk out v hv A5 gG uE iz q OE OG a b wa wb ha hb OJ hEb
 have O:=ha.sl.froz
 have U:=hb.sl.froz
 have V:froz v=true:=hv.choose_spec.1.froz
 have r:=ha.sl.froz1
 have F:=hb.sl.froz1
 have H:froz1 v=true:=hv.choose_spec.1.froz1
 have W:=(dg (kU t.fl a a.length).ty).froz1
 have X:=(dg (kU t.fl b b.length).ty).froz1
 have Y:=(dg (kU t.fl a a.length).ty).cells
 have Z:=(dg (kU t.fl b b.length).ty).cells
 have y5:=(dg (kU t.fl a a.length).ty).noTup
 have y6:=(dg (kU t.fl b b.length).ty).noTup
 generalize kU t.fl a a.length=x at*
 generalize kU t.fl b b.length=y at*
 unfold nS sZ at e1 e2 e3
 generalize yK x.ty=nx at*
 generalize yK y.ty=ny at*
 unfold aO at*
 rw[au axo (by simp[c22])]
 by_cases hd:qH q x y=true
 ·rw[hd]at e3
  simp(maxDischargeDepth:=6) only[qA,seval,repl,splice,c22,I,O,U,V,r,F,H,W,X,Y,Z,y5,y6,e1,e2,e3,axi,axl]
  generalize hD:DC pE 149 (.loop oW) _=D
  obtain⟨f2,l2,s2,rfl,rfl,fR⟩:=qK IY hD (hL hd _ _ _ yk yk yk yk yk yk yk yk)
  simp(maxDischargeDepth:=6) only[qA,seval,yy]
 ·have hd:qH q x y=false:=by simpa using hd
  rw[hd]at e3
  simp(maxDischargeDepth:=6) only[qA,seval,repl,splice,c22,I,O,U,V,r,F,H,W,X,Y,Z,y5,y6,e1,e2,e3,axi,axl,yy]
end
def aC7(A0:Int)(K k:Nat)(hK:K<40)(hk:k≤1000000000):0≤A0/256%65536+3*(K:Int)+(k:Int)∧A0/256%65536+3*(K:Int)+(k:Int)≤1099511627776:=zV
def aJR(A0:Int)(K k:Nat)(hK:K<40)(hk:k≤1000000000):wr .i64 (A0/256%65536+3*(K:Int)+(k:Int))=A0/256%65536+3*(K:Int)+(k:Int):=aZ (by have:=aC7 A0 K k hK hk;omega)
def OK{out:List Lg}{v:T}(hv:Em out v)(h0:out≠ [])(gG:out.length≤1000000000)(B:Int)(U:0≤B∧B≤1099511627776): ∃g∈out,∃(p:Nat) (w:T) (r:List T),kK g.du w∧B.tmod (out.length:Int)=(p:Int)∧ ∀kk,iaV v (.i kk (p:Int)) 7=some (.vp (w::r)):=by
 obtain⟨cs,N,J⟩:=hv
 have V:0<out.length:=List.length_pos_iff.2 h0
 obtain⟨p,H,I⟩: ∃p:Nat,p<out.length∧B.tmod (out.length:Int)=(p:Int):=by
  rw[eF zV]
  have h1:=Int.emod_nonneg B (b:=(out.length:Int)) zV
  have h2:=Int.emod_lt_of_pos B (b:=(out.length:Int)) zV
  exact⟨(B%(out.length:Int)).toNat,by omega,by omega⟩
 obtain⟨W,X,O,w,D,F⟩:=J.drop LgQ.len p H
 have K:=fun kk=>N.ia (sz:=7) (k:=p) (kk:=kk) (J.len LgQ.len) H
 rw[O]at K
 unfold Eh at D
 subst D
 unfold LgT at F
 exact⟨out[p],List.getElem_mem H,p,w,_,kK.of F,I,K⟩
section
variable(t:Tt)(c:Ct)(zT aT fT a7 a8 a9 aw aA az:T)(hT:jV t zT aT fT)(hC:kR c a7 a8 a9 aw aA az)(hA:CY c)(hk:ee t c=0)(out:List Lg)(v:T)(hv:Em out v)(A5: ∀g∈out,cL c t.fl g.du=0)(gG:out.length≤1000000000)
 (uE: ∀u∈c.ru,u∈iX) (iz: ∀u∈c.co,u∈ic) (q:List Nat→Int) (OE: ∀u∈c.ru,∀tv,(u,tv)∈Rl.zip Ri→ ∀p∈tv.zip lF,A8 p.1 (q p.2)) (OG: ∀u∈c.co,∀tv,(u,tv)∈FZ.zip Rj→ ∀p∈tv.zip lF,A8 p.1 (q p.2))
 (hq: ∀s∈ [nLg,nHd,nBk,nLo,nSo,nTy],∃r,ae pE 47 [.agg (aO c a7 a8 a9 aw aA az),.s s] []=some (.tup [qi (q s),qi 0],r)) (h0:out≠ []) (A0:Int)
include hT hC hA hk hv A5 gG uE iz OE OG hq h0
def sl1(a:List (Int×Bool))(W:T)(ha:kK a W)(OJ:cL c t.fl a=0)(K:Nat)(hK:K<40)(e5 X:ah)(fr:Fr)(lh:aE ah)(sh:List ah)(h1:aa fr 1= qi A0)(F:aa fr 10=v)(N:aa fr 12= qi (K:Int))(ij:aa fr 13=W)(cV: ∃g∈out,kK g.du (aa fr 14))(ll:aa fr 15= qi 0)(I:ab lh 5=e5)(J:ab lh 6=X):
  Lp pE 118 Bd fr lh sh (.ext 2) fun f l s=>s=sh∧ab l 5=e5∧ab l 6=X∧ ∃g∈out,kK g.du (aa f 14):=by
 have _:=hT;have _:=hC;have _:=hA;have _:=hk;have _:=uE;have _:=iz;have _:=OE;have _:=OG;have _:=hq
 have Y:=hv.choose_spec.1.lenI
 have Z: ¬(out.length:Int)=0:=by
  have:=List.length_pos_iff.2 h0
  omega
 obtain⟨a1,a6,_,_⟩:=dM OJ
 have za:=ha.sl.froz
 have w3:wr .i64 (3*(K:Int))=3*(K:Int):=aZ zV
 have w4:wr .i64 (A0/256%65536+3*(K:Int))=A0/256%65536+3*(K:Int):=aZ zV
 refine bK O0 (fun k f l s=>aa f 15= qi (k:Int)∧s=sh∧ab l 5=e5∧ab l 6=X∧ ∃g∈out,kK g.du (aa f 14)) out.length ⟨ll,rfl,I,J,cV⟩ ?_ ?_
 ·rintro k f l _ IP U ⟨D,rfl,I,J,g,V,LZ⟩
  have DM:(k:Int)<out.length:=zV
  have H:k≤1000000000:=Nat.le_trans (Nat.le_of_lt IP) gG
  have hw:=aF (k:=k) (Nat.lt_of_le_of_lt H zz)
  have hEb:=A5 g V
  obtain⟨b1,b6,_,_⟩:=dM hEb
  have zb:=LZ.sl.froz
  obtain⟨vb,he⟩:=aid a g.du W _ ha LZ a1 b1 a6 b6
  have w5:=aJR A0 K k hK H
  obtain⟨g',hg',p,w',r,Ye,hp,ia⟩:=OK hv h0 gG (A0/256%65536+3*(K:Int)+(k:Int)) (aC7 A0 K k hK H)
  have zw:=Ye.sl.froz
  generalize O:aa f 14=wb at*
  cases vb
  ·simp(maxDischargeDepth:=6) only[qA,seval,gd,Bd,U,h1,F,N,ij,O,D,I,J,Y,DM,hw,za,zb,he,axm,axn,w3,w4,w5,Z,hp,ia]
   exact⟨g',hg',Ye⟩
  ·simp(maxDischargeDepth:=6) only[qA,seval,gd,Bd,U,h1,F,N,ij,O,D,I,J,Y,DM,hw,za,zb,he,axm,axn]
   exact⟨g,V,LZ⟩
 ·rintro f l _ U ⟨D,rfl,I,J,g,V,LZ⟩
  simp(maxDischargeDepth:=6) only[qA,seval,gd,Bd,U,F,D,I,J,Y,Int.lt_irrefl]
  exact⟨g,V,LZ⟩
def sl2(fr:Fr)(lh:aE ah)(sh:List ah)(h1:aa fr 1= qi A0)(h5:aa fr 5= .ptr .L 5 1 0)(h6:aa fr 6= .ptr .L 6 1 0)(r:aa fr 10=v)(Y:aa fr 12= qi 0)(J:ab lh 5=⟨1,.cells [zT,aT,fT] 0 true⟩)(K:ab lh 6=⟨1,.cells (aO c a7 a8 a9 aw aA az) 0 true⟩):
  Lp pE 118 Be fr lh sh (.ext 0) fun f l s=>s=sh:=by
 have Z:=hv.choose_spec.1.lenI
 have zv:froz v=true:=hv.choose_spec.1.froz
 have hne: ¬(out.length:Int)=0:=by
  have:=List.length_pos_iff.2 h0
  omega
 have hz:=Aj t c zT aT fT a7 a8 a9 aw aA az hT hC
 refine bK O1 (fun k f l s=>aa f 12= qi (k:Int)∧s=sh∧ab l 5=⟨1,.cells [zT,aT,fT] 0 true⟩∧ab l 6=⟨1,.cells (aO c a7 a8 a9 aw aA az) 0 true⟩) (min out.length 40) ⟨Y,rfl,J,K⟩ ?_ ?_
 ·rintro k f l s IP F ⟨Rc,rfl,J,K⟩
  have DM:(k:Int)<out.length:=zV
  have hk2:(k:Int)<40:=zV
  have U:=aF (k:=k) zV
  have w2:wr .i64 (A0%65536+(k:Int))=A0%65536+(k:Int):=aZ zV
  have w3:wr .i64 (3*(k:Int))=3*(k:Int):=aZ zV
  have w4:wr .i64 (A0/256%65536+3*(k:Int))=A0/256%65536+3*(k:Int):=aZ zV
  obtain⟨V,hga,pa,W,ra,H,hpa,iaa⟩:=OK hv h0 gG (A0%65536+(k:Int)) zV
  obtain⟨gb,hgb,pb,wb,rb,N,hpb,iab⟩:=OK hv h0 gG (A0/256%65536+3*(k:Int)) zV
  have OJ:=A5 V hga
  have hI:=fun e5 e6 fr lh sh=>sl1 t c zT aT fT a7 a8 a9 aw aA az hT hC hA hk out v hv A5 gG uE iz q OE OG hq h0 A0 V.du W H OJ k zV e5 e6 fr lh sh
  have hS:=fun(g:Lg) (X:g∈out) (w:T) (U:kK g.du w)=>And.intro (LY t c zT aT fT a7 a8 a9 aw aA az hT hC hA hk out v hv A5 gG uE iz q OE OG hq V.du g.du W w H U OJ (A5 g X)) (LY t c zT aT fT a7 a8 a9 aw aA az hT hC hA hk out v hv A5 gG uE iz q OE OG hq g.du V.du w W U H (A5 g X) OJ)
  have za:=H.sl.froz
  have zb:=N.sl.froz
  unfold aO at*
  simp(maxDischargeDepth:=6) only[qA,seval,gd,bg,aH,Be,F,h1,h5,h6,r,Rc,J,K,Z,DM,hk2,w2,w3,w4,hne,hpa,iaa,hpb,iab,zv,za,zb]
  generalize hD:DC pE 118 (.loop Bd) _=D
  obtain⟨I,l2,s2,rfl,⟨rfl,r5,r6,g,X,LZ⟩,O⟩:=qK O0 hD (hI _ _ _ _ _ (by simp only[qA,seval,F,h1]) (by simp only[qA,seval,F,r]) (by simp only[qA,seval,Rc]) yk ⟨gb,hgb,by simp only[qA,seval];exact N⟩ yk rfl rfl)
  simp only[qA,seval,J,K]at r5 r6
  obtain⟨⟨t1,e1⟩,⟨t2,e2⟩⟩:=hS g X _ LZ
  have zw:=LZ.sl.froz
  have q5:aa I 5= .ptr .L 5 1 0:=by rw[O 5 zz];simp only[qA,seval,F,h5]
  have q6:aa I 6= .ptr .L 6 1 0:=by rw[O 6 zz];simp only[qA,seval,F,h6]
  have q10:aa I 10=v:=by rw[O 10 zz];simp only[qA,seval,F,r]
  have q12:aa I 12= qi (k:Int):=by rw[O 12 zz];simp only[qA,seval,Rc]
  have q13:aa I 13=W:=by rw[O 13 zz];simp only[qA,seval]
  generalize hwb:aa I 14=wc at*
  simp(maxDischargeDepth:=6) only[qA,seval,gd,q5,q6,q10,q12,q13,hwb,r5,r6,hz,zv,za,zw,e1,e2,aFT,U]
 ·rintro f l s F ⟨Rc,rfl,J,K⟩
  by_cases hh:out.length≤40
  ·have: ¬((min out.length 40:Nat):Int)<out.length:=zV
   simp only[qA,seval,gd,Be,F,r,Z,Rc,this]
  ·have h1:((min out.length 40:Nat):Int)<out.length:=zV
   have h2: ¬((min out.length 40:Nat):Int)<40:=zV
   simp only[qA,seval,gd,Be,F,r,Z,Rc,h1,h2]
end
def aq1(la:T)(xs:List Int)(hl:IsSl la xs.length (ints xs))(A0:Int): ∃s,ae pE 6 [la,qi A0] []=some (.b true,s):=by
 have I:=ahY xs la hl
 have X:=hl.froz
 obtain⟨s4,Y⟩:=Oy
 have hn:=nV (tA xs)
 have kF:=qb (tA xs)
 have hT:=alW (DO xs)
 have zf:=(H0 xs).froz1
 have zo:=(xk xs).froz1
 have Z:=(xk xs).froz
 unfold lS at I
 unfold nD at hT I
 have O:=eC (fun i=>decide (DO xs (7+i)%4=0)) 0 iX
 have N:=eC (fun i=>decide (DO xs (30+i)%3=0)) 0 ic
 obtain⟨V,W⟩:=Dh (DO xs)
 have hk:=tG (DO xs)
 have AV:(lS (DO xs)).all froz1=true:=by
  unfold lS aO Uz LQ
  repeat' split
  all_goals rfl
 unfold lS nD at AV
 have e7:Uz (DO xs)=vB false (kB (DO xs) 6):=rfl
 generalize dh (fun i=>decide (DO xs (7+i)%4=0)) 0 iX=H at*
 generalize dh (fun i=>decide (DO xs (30+i)%3=0)) 0 ic=F at*
 generalize crX (DO xs)=cr at*
 generalize Uz (DO xs)=a7 at*
 generalize kB (DO xs)=kk at*
 have uE:(iY kk H F cr).ru=H:=rfl
 have iz:(iY kk H F cr).co=F:=rfl
 have qn:(iY kk H F cr).cr=cr:=rfl
 rw[uE,iz,qn]at hT I AV
 generalize LQ H.length (H.flatMap HX)=a8 at*
 generalize LQ F.length (F.flatMap Mx)=a9 at*
 generalize LQ cr.length (cr.flatMap fN)=aw at*
 have hT0:kR (iY kk [] F cr) a7 .nilsl a9 aw .nilsl .nilsl:=⟨hT.h7,⟨_,.inl ⟨rfl,rfl,rfl⟩,rfl⟩,hT.h9,hT.h10,hT.h11,hT.h12⟩
 obtain⟨v,s1,e1,v1⟩:=aJi xs kk hk [] F cr (List.nil_sublist _) N V W a7 .nilsl a9 aw .nilsl .nilsl hT0
 have zx:=aCN xs kk hk H F cr O N V W
 have hA:=acj kk hk H F cr O N V
 have hm:=fun g hg=>(ah1 (oM (tA xs)) (iY kk [] F cr) (Uv (oA xs) (qp (tA xs))) 2 g).1 hg
 rw[kF]at hm
 have A5: ∀g∈kP (qp (tA xs)) (jn (iY kk [] F cr) (oM (tA xs)).fl) (jc (Uv (oA xs) (qp (tA xs)))) (jy (oM (tA xs)) (iY kk [] F cr)) (cF (oM (tA xs)) (iY kk [] F cr)) 2,cL (iY kk H F cr) (oM (tA xs)).fl g.du=0:=fun g hg=>by
  obtain⟨d,rfl,q1,_⟩:=hm g hg
  rw[Qx,ah2 kk H [] F cr]
  exact q1
 have gG:=abO (qp (tA xs)) (jn (iY kk [] F cr) (oM (tA xs)).fl) (jc (Uv (oA xs) (qp (tA xs)))) (jy (oM (tA xs)) (iY kk [] F cr)) (cF (oM (tA xs)) (iY kk [] F cr)) zV 2
 generalize kP (qp (tA xs)) (jn (iY kk [] F cr) (oM (tA xs)).fl) (jc (Uv (oA xs) (qp (tA xs)))) (jy (oM (tA xs)) (iY kk [] F cr)) (cF (oM (tA xs)) (iY kk [] F cr)) 2=out at*
 have hS:rk (iY kk H F cr):=⟨⟨hA.n7,show(1:Nat)≤jA by decide⟩,⟨hA.n8,Nat.le_trans O.length_le zz⟩,⟨hA.n9,Nat.le_trans N.length_le zz⟩,⟨hA.n10,Nat.le_trans W zz⟩,show(0:Nat)≤jA by decide,show(0:Nat)≤jA by decide,hA.b7,hA.b8,hA.b9,hA.b10⟩
 have U: ∀s∈lF,∃r:Int,∃z,ae pE 47 [.agg (aO (iY kk H F cr) a7 a8 a9 aw .nilsl .nilsl),.s s] []=some (.tup [qi r,qi 0],z)∧cvR s H r∧cvC s F r:=fun s hs=>by
  subst e7
  exact aqY (kk 6) (hk 6) (iY kk H F cr) s hs (fun u J=>O.subset J) (fun u J=>N.subset J) V (Nat.le_trans O.length_le zz) (Nat.le_trans N.length_le zz) (Nat.le_trans W zz) a8 a9 aw hT hS (HO kk hk H F cr O N V W)
 obtain⟨q,hq⟩: ∃q:List Nat→Int,∀s∈lF,(∃z,ae pE 47 [.agg (aO (iY kk H F cr) a7 a8 a9 aw .nilsl .nilsl),.s s] []=some (.tup [qi (q s),qi 0],z))∧cvR s H (q s)∧cvC s F (q s):=by
  classical
  refine⟨fun s=>if h:s∈lF then(U s h).choose else 0,fun s h=> ?_⟩
  simp only[dif_pos h]
  obtain⟨z,h1,h2,h3⟩:=(U s h).choose_spec
  exact⟨⟨z,h1⟩,h2,h3⟩
 have OE: ∀u∈(iY kk H F cr).ru,∀K,(u,K)∈Rl.zip Ri→ ∀p∈K.zip lF,A8 p.1 (q p.2):=fun u J K h1 p hp=>(hq p.2 (List.of_mem_zip (show(p.1,p.2)∈K.zip lF from hp)).2).2.1 u J K p.1 h1 hp
 have OG: ∀u∈(iY kk H F cr).co,∀K,(u,K)∈FZ.zip Rj→ ∀p∈K.zip lF,A8 p.1 (q p.2):=fun u J K h1 p hp=>(hq p.2 (List.of_mem_zip (show(p.1,p.2)∈K.zip lF from hp)).2).2.2 u J K p.1 h1 hp
 have hL:=fun h0=>sl2 (oM (tA xs)) (iY kk H F cr) En Eo (Vd xs) a7 a8 a9 aw .nilsl .nilsl (al2 xs) hT hA zx out v v1 A5 gG (fun u J=>O.subset J) (fun u J=>N.subset J) q OE OG (fun s hs=>(hq s hs).1) h0 A0
 have zv:froz1 v=true:=v1.choose_spec.1.froz1
 have dL:=v1.choose_spec.1.lenI
 clear hm A5 gG zx hA O N V W hT0 v1 hS U hq OE OG e7
 unfold aO at*
 simp only[List.all_cons,Bool.and_eq_true]at AV
 obtain⟨_,_,_,_,_,_,_,z7,z8,z9,z10,z11,z12,_⟩:=AV
 have z1:froz1 En=true:=rfl
 have z2:froz1 Eo=true:=rfl
 have z3:froz1 baT=true:=rfl
 have n1:(iY kk [] F cr).rp=(iY kk H F cr).rp:=rfl
 have n2:(iY kk [] F cr).rl=(iY kk H F cr).rl:=rfl
 have n3:(iY kk [] F cr).cn=(iY kk H F cr).cn:=rfl
 have n4:(iY kk [] F cr).st=(iY kk H F cr).st:=rfl
 have n5:(iY kk [] F cr).ly=(iY kk H F cr).ly:=rfl
 have n6:(iY kk [] F cr).nf=(iY kk H F cr).nf:=rfl
 have n7:(iY kk [] F cr).nt=(iY kk H F cr).nt:=rfl
 have n8:(iY kk [] F cr).gu=(iY kk H F cr).gu:=rfl
 rw[n1,n2,n3,n4,n5,n6,n7,n8]at e1
 generalize iY kk H F cr=ct at*
 generalize Vd xs=fT at*
 generalize oTB xs=oT at*
 generalize En=zT at*
 generalize Eo=aT at*
 generalize baT=bT at*
 rw[au fn6 (by simp[c6])]
 by_cases h0:out= []
 ·have xw:(out.length:Int)=0:=by rw[h0];rfl
  simp(maxDischargeDepth:=6) only[qA,seval,c6,I,dc7,dc8,dc9,X,zf,Z,z1,z2,z7,z8,z9,z10,e1,zv,dL,xw,Y,yy]
 ·have xw: ¬(out.length:Int)=0:=by
   have:=List.length_pos_iff.2 h0
   omega
  simp(maxDischargeDepth:=6) only[qA,seval,c6,I,dc7,dc8,dc9,X,zf,Z,z1,z2,z7,z8,z9,z10,e1,zv,dL,xw]
  generalize hD:DC pE 118 (.loop Be) _=D
  obtain⟨f2,l2,s2,rfl,rfl,fR⟩:=qK O1 hD (hL h0 _ _ _ yk yk yk yk yk yk yk)
  simp(maxDischargeDepth:=6) only[qA,seval,Y,dc9,yy]
end Go.Proofs.YtnkgnjecmfkcfaaGreat
