/- The given contract's trees. Conditions: the theorems' own. -/
import Derived.Test.YtfenhjpkomldcaaGreatM21
import Derived.KernelRfl
set_option maxRecDepth 100000
set_option maxHeartbeats 16000000
namespace Go.Proofs.YtfenhjpkomldcaaGreat
open Go Go.Ev
def tyS:List TypeId:= [43,25,106,111,113,68,60,30,38,39,23,40,41,3,9]
theorem RV:tyS.all (TR Tryz.prog tyS)=true:=by kernel_rfl
theorem aet:iv Tryz.prog 43=some [3,3,3,3,3,3,3,30,38,39,23,40,41,3]:=by kernel_rfl
theorem aeu:iv Tryz.prog 25=some [3,3,9,23]:=by kernel_rfl
theorem Zc:iv Tryz.prog 106=some [9,25]:=by kernel_rfl
theorem Zd:iv Tryz.prog 111=some [3,9,25]:=by kernel_rfl
theorem Ze:iv Tryz.prog 113=some [3,25]:=by kernel_rfl
theorem aev:iv Tryz.prog 68=some [9,9,3,3]:=by kernel_rfl
theorem aew:iv Tryz.prog 60=some [9,3,3]:=by kernel_rfl
theorem ah0: [30,38,39,23,40,41].map (yL Tryz.prog)= [106,111,113,25,68,60].map some:=by kernel_rfl
theorem afV: [25,106,111,113,68,60].all (fun t=>decide (0<Tryz.prog.bytesOf t))=true:=by kernel_rfl
theorem ty3:Tryz.prog.underlying 3=some (.int .i64):=by kernel_rfl
theorem ty9:Tryz.prog.underlying 9=some .string:=by kernel_rfl
theorem xN:reachBytes≤j3:=by decide
theorem fY: ∀{n:Nat} {ts:List T},iu Tryz.prog n 3 ts→ ∃x,ts= [.i .i64 x]
 |0,_,h=>h.elim
 |n+1,ts,h=>by unfold iu at h;rw[ty3]at h;exact h
theorem sn: ∀{n:Nat} {ts:List T},iu Tryz.prog n 9 ts→ ∃s,ts= [.s s]∧s.length≤j3
 |0,_,h=>h.elim
 |n+1,ts,h=>by
  unfold iu at h;rw[ty9]at h
  obtain⟨s,h1,h2⟩:=h
  exact⟨s,h1,Nat.le_trans h2 xN⟩
theorem lH{α:Type}{R:α→List T→Prop}{Q:α→Prop}{K:List T→Prop}(hR: ∀p,K p→ ∃x,R x p∧Q x): ∀(len:Nat) (cc:List T),vg K len cc→ ∃xs:List α,xs.length=len∧aS R xs cc∧ ∀x∈xs,Q x
 |0,cc,h=>⟨[],rfl,h,by simp⟩
 |len+1,cc,h=>by
  obtain⟨p,r,rfl,h1,h2⟩:=h
  obtain⟨x,x1,x2⟩:=hR p h1
  obtain⟨xs,y1,y2,y3⟩:=lH hR len r h2
  refine⟨x::xs,by rw[List.length_cons,y1],⟨p,r,rfl,x1,y2⟩,fun z hz=> ?_⟩
  rcases List.mem_cons.1 hz with rfl|hz
  ·exact x2
  ·exact y3 z hz
theorem oz: ∀{xs:List Ex} {cc:List T},aS bE xs cc→aK xs cc
 | [],cc,h=>by rw[aK];exact h
 |x::xs,cc,h=>by
  obtain⟨c,r,rfl,h1,h2⟩:=h
  exact aK.cons h1 (oz h2)
theorem vL: ∀{xs:Cs} {cc:List T},aS (fun c cs=> ∃ex,cs=T.s c.1::ex∧bE c.2 ex) xs cc→dK xs cc
 | [],cc,h=>by rw[dK];exact h
 |x::xs,cc,h=>by
  obtain⟨c,r,rfl,⟨ex,rfl,h1⟩,h2⟩:=h
  rw[dK];exact⟨ex,r,rfl,h1,vL h2⟩
theorem vM{t e:TypeId}(he:yL Tryz.prog t=some e)(hp:0<Tryz.prog.bytesOf e): ∀{n:Nat} {ts:List T},iu Tryz.prog n t ts→ ∃m v len cc,n=m+1∧ts= [v]∧aR v len cc∧len≤j3∧vg (iu Tryz.prog m e) len cc
 |0,_,h=>h.elim
 |n+1,ts,h=>by
  obtain⟨v,len,cc,h1,h2,h3,h4⟩:=h.row he
  exact⟨n,v,len,cc,rfl,h1,h2,Nat.le_trans (Nat.le_mul_of_pos_right len hp) (Nat.le_trans h3 xN),h4⟩
theorem RQ: ∀(k n:Nat) (ts:List T),n≤k→iu Tryz.prog n 25 ts→ ∃x:Ex,bE x ts∧x.al∧x.sm
 |0,0,_,_,h=>h.elim
 |_+1,0,_,_,h=>h.elim
 |k+1,n+1,ts,hk,h=>by
  obtain⟨p1,r1,rfl,h1,p2,r2,rfl,h2,p3,r3,rfl,h3,p4,r4,rfl,h4,rfl⟩:=h.st aeu
  obtain⟨op,rfl⟩:=fY h1
  obtain⟨num,rfl⟩:=fY h2
  obtain⟨s,rfl,hs⟩:=sn h3
  obtain⟨m,v,len,cc,rfl,rfl,h5,h6,h7⟩:=vM (e:=25) (by kernel_rfl) (of_decide_eq_true (by kernel_rfl)) h4
  obtain⟨xs,y1,y2,y3⟩:=lH (Q:=fun x:Ex=>x.al∧x.sm) (fun p hp=>RQ k m p (by omega) hp) len cc h7
  subst y1
  exact⟨.mk op num s xs,by rw[bE];exact⟨v,cc,rfl,h5,oz y2⟩,by rw[Ex.al];exact⟨h6,zh.2 fun x hx=>(y3 x hx).1⟩,by rw[Ex.sm];exact⟨hs,oS.2 fun x hx=>(y3 x hx).2⟩⟩
theorem E8{n:Nat}{ts:List T}(h:iu Tryz.prog n 25 ts): ∃x:Ex,bE x ts∧x.al∧B6 x:=by
 obtain⟨x,h1,h2,h3⟩:=RQ n n ts (Nat.le_refl _) h
 exact⟨x,h1,h2,Nat.zero_le _,h3⟩
theorem Zf: ∀{n:Nat} {p:List T},iu Tryz.prog n 106 p→ ∃c:List Nat×Ex,(∃ex,p=T.s c.1::ex∧bE c.2 ex)∧c.2.al∧B6 c.2
 |0,_,h=>h.elim
 |n+1,p,h=>by
  obtain⟨p1,r1,rfl,h1,p2,r2,rfl,h2,rfl⟩:=h.st Zc
  obtain⟨s,rfl,_⟩:=sn h1
  obtain⟨x,x1,x2⟩:=E8 h2
  exact⟨(s,x),⟨p2,by simp,x1⟩,x2⟩
theorem Zg: ∀{n:Nat} {p:List T},iu Tryz.prog n 111 p→ ∃u:Ru,za u p∧u.x.al∧B6 u.x
 |0,_,h=>h.elim
 |n+1,p,h=>by
  obtain⟨p0,r0,rfl,h0,p1,r1,rfl,h1,p2,r2,rfl,h2,rfl⟩:=h.st Zd
  obtain⟨k,rfl⟩:=fY h0
  obtain⟨s,rfl,_⟩:=sn h1
  obtain⟨x,x1,x2⟩:=E8 h2
  obtain⟨a,cc,rfl,y⟩:=x1.cells
  exact⟨⟨k,s,x⟩,⟨a,cc,rfl,y⟩,x2⟩
theorem Zh: ∀{n:Nat} {p:List T},iu Tryz.prog n 113 p→ ∃u:Co,BB u p∧u.x.al∧B6 u.x
 |0,_,h=>h.elim
 |n+1,p,h=>by
  obtain⟨p0,r0,rfl,h0,p2,r2,rfl,h2,rfl⟩:=h.st Ze
  obtain⟨k,rfl⟩:=fY h0
  obtain⟨x,x1,x2⟩:=E8 h2
  obtain⟨a,cc,rfl,y⟩:=x1.cells
  exact⟨⟨k,x⟩,⟨a,cc,rfl,y⟩,x2⟩
theorem Zi: ∀{n:Nat} {p:List T},iu Tryz.prog n 68 p→ ∃u:Li,L1 u p∧True
 |0,_,h=>h.elim
 |n+1,p,h=>by
  obtain⟨p0,r0,rfl,h0,p1,r1,rfl,h1,p2,r2,rfl,h2,p3,r3,rfl,h3,rfl⟩:=h.st aev
  obtain⟨s,rfl,_⟩:=sn h0
  obtain⟨m,rfl,_⟩:=sn h1
  obtain⟨x,rfl⟩:=fY h2
  obtain⟨y,rfl⟩:=fY h3
  exact⟨⟨s,m,x,y⟩,rfl,trivial⟩
theorem Zj: ∀{n:Nat} {p:List T},iu Tryz.prog n 60 p→ ∃u:Of,O3 u p∧True
 |0,_,h=>h.elim
 |n+1,p,h=>by
  obtain⟨p0,r0,rfl,h0,p1,r1,rfl,h1,p2,r2,rfl,h2,rfl⟩:=h.st aew
  obtain⟨s,rfl,_⟩:=sn h0
  obtain⟨x,rfl⟩:=fY h1
  obtain⟨y,rfl⟩:=fY h2
  exact⟨⟨s,x,y⟩,rfl,trivial⟩
theorem Vk: ∀{n:Nat} {p:List T},iu Tryz.prog n 43 p→ ∃(c:Ct) (a7 a8 a9 a10 bf ba:T),p=bG c a7 a8 a9 a10 bf ba∧zH c a7 a8 a9 a10 bf ba∧CtA c∧Z8 c
 |0,_,h=>h.elim
 |n+1,p,h=>by
  obtain⟨p0,r0,rfl,h0,p1,r1,rfl,h1,p2,r2,rfl,h2,p3,r3,rfl,h3,p4,r4,rfl,h4,p5,r5,rfl,h5,p6,r6,rfl,h6,p7,r7,rfl,h7,p8,r8,rfl,h8,p9,r9,rfl,h9,p10,r10,rfl,jV,p11,r11,rfl,mC,p12,r12,rfl,kW,p13,r13,rfl,Bx,rfl⟩:=h.st aet
  obtain⟨x0,rfl⟩:=fY h0
  obtain⟨x1,rfl⟩:=fY h1
  obtain⟨x2,rfl⟩:=fY h2
  obtain⟨x3,rfl⟩:=fY h3
  obtain⟨x4,rfl⟩:=fY h4
  obtain⟨x5,rfl⟩:=fY h5
  obtain⟨x6,rfl⟩:=fY h6
  obtain⟨x13,rfl⟩:=fY Bx
  obtain⟨m7,a7,l7,c7,_,rfl,i7,b7,j7⟩:=vM (e:=106) (by kernel_rfl) (of_decide_eq_true (by kernel_rfl)) h7
  obtain⟨m8,a8,l8,c8,_,rfl,i8,b8,j8⟩:=vM (e:=111) (by kernel_rfl) (of_decide_eq_true (by kernel_rfl)) h8
  obtain⟨m9,a9,l9,c9,_,rfl,i9,b9,j9⟩:=vM (e:=113) (by kernel_rfl) (of_decide_eq_true (by kernel_rfl)) h9
  obtain⟨m10,a10,RK,kQ,_,rfl,i10,b10,jz⟩:=vM (e:=25) (by kernel_rfl) (of_decide_eq_true (by kernel_rfl)) jV
  obtain⟨m11,bf,RL,j2,_,rfl,i11,b11,ju⟩:=vM (e:=68) (by kernel_rfl) (of_decide_eq_true (by kernel_rfl)) mC
  obtain⟨m12,ba,RM,ki,_,rfl,i12,b12,jy⟩:=vM (e:=60) (by kernel_rfl) (of_decide_eq_true (by kernel_rfl)) kW
  obtain⟨v7,rfl,w7,q7⟩:=lH (fun p hp=>Zf hp) l7 c7 j7
  obtain⟨v8,rfl,w8,q8⟩:=lH (fun p hp=>Zg hp) l8 c8 j8
  obtain⟨v9,rfl,w9,q9⟩:=lH (fun p hp=>Zh hp) l9 c9 j9
  obtain⟨v10,rfl,w10,q10⟩:=lH (fun p hp=>E8 hp) RK kQ jz
  obtain⟨v11,rfl,w11,_⟩:=lH (fun p hp=>Zi hp) RL j2 ju
  obtain⟨v12,rfl,w12,_⟩:=lH (fun p hp=>Zj hp) RM ki jy
  refine⟨⟨x0,x1,x2,x3,x4,x5,x6,v7,v8,v9,v10,v11,v12,x13⟩,a7,a8,a9,a10,bf,ba,rfl,⟨⟨_,i7,vL w7⟩,⟨_,i8,w8⟩,⟨_,i9,w9⟩,⟨_,i10,oz w10⟩,⟨_,i11,w11⟩,⟨_,i12,w12⟩⟩, ?_, ?_⟩
  ·exact⟨⟨fun u hu=>(q7 u hu).1,b7⟩,⟨fun u hu=>(q8 u hu).1,b8⟩,⟨fun u hu=>(q9 u hu).1,b9⟩,⟨fun u hu=>(q10 u hu).1,b10⟩,b11,b12⟩
  ·exact⟨fun u hu=>(q7 u hu).2,fun u hu=>(q8 u hu).2,fun u hu=>(q9 u hu).2,fun u hu=>(q10 u hu).2⟩
end Go.Proofs.YtfenhjpkomldcaaGreat
