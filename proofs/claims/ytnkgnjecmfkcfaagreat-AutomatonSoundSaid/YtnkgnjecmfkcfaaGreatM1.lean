/- Walks, plain laws (1). Conditions: the theorems' own. -/
import Derived.Test.YtnkgnjecmfkcfaaGreatGS
set_option maxRecDepth 100000
set_option linter.all false
set_option maxRecDepth 1000000
set_option maxHeartbeats 16000000
namespace Go.Proofs.YtnkgnjecmfkcfaaGreat
open Go Go.Ev
def cK{m f:Nat}{args:List T}{r:T×List ah}(h:cQ pE m f args []=some r):ae pE f args []=some r:=DCall_iff.2 ⟨m,h⟩
def G8{m f:Nat}{args:List T}{v:T}(h:(cQ pE m f args []).map (·.1)=some v): ∃s,ae pE f args []=some (v,s):=by
 cases hc:cQ pE m f args []with
 |none=>grind
 |some r=>
  rw[hc]at h
  obtain⟨a,s⟩:=r
  simp at h
  subst h
  exact⟨s,DCall_iff.2 ⟨m,hc⟩⟩
inductive Ex where
 |mk (op num:Int) (name:List Nat) (args:List Ex)
def Ex.op:Ex→Int| .mk o _ _ _=>o
def Ex.num:Ex→Int| .mk _ n _ _=>n
def Ex.name:Ex→List Nat| .mk _ _ s _=>s
def Ex.args:Ex→List Ex| .mk _ _ _ a=>a
mutual
def fN:Ex→List T
 | .mk op n s a=> [qi op,qi n,.s s,match a with| []=> .nilsl|b::r=> .sl (fN b++qC r) (r.length+1) (!decide (op=13))]
def qC:List Ex→List T
 | []=> []
 |x::r=>fN x++qC r
end
def iD(x:Ex)(cs:List T):Prop:=cs=fN x
def cD(l:List Ex)(cs:List T):Prop:=cs=qC l
theorem iD.cells{x:Ex}{cs:List T}(h:iD x cs): ∃a D,cs= [qi x.op,qi x.num,.s x.name,a]∧IsSl a x.args.length D∧cD x.args D:=by
 obtain⟨o,n,s,l⟩:=x
 unfold iD at h
 subst h
 cases l with
 |nil=>exact⟨.nilsl,[],by rw[fN];rfl,.inl ⟨rfl,rfl,rfl⟩,by rw[cD,Ex.args,qC]⟩
 |cons b r=>exact⟨_,qC (b::r),by rw[fN,qC];rfl,.inr ⟨_,rfl⟩,rfl⟩
theorem iD.len{x:Ex}{cs:List T}(h:iD x cs):cs.length=4:=by
 obtain⟨a,r,rfl,_⟩:=h.cells;rfl
theorem pO(x:Ex):(fN x).length=4:=iD.len (x:=x) rfl
theorem cD.len: ∀{xs:List Ex} {cs:List T},cD xs cs→cs.length=xs.length*4
 | [],cs,h=>by rw[cD,qC]at h;rw[h];rfl
 |x::xs,cs,h=>by
  rw[cD,qC]at h
  rw[h,List.length_append,pO,cD.len (xs:=xs) rfl,List.length_cons];omega
theorem cD.drop: ∀{xs:List Ex} {cs:List T} (k:Nat) (hk:k<xs.length),cD xs cs→ ∃c r,cs.drop (k*4)=c++r∧iD xs[k] c∧cD (xs.drop (k+1)) r
 | [],cs,k,hk,h=>by simp at hk
 |x::xs,cs,0,hk,h=>by
  rw[cD,qC]at h
  exact⟨_,_,by rw[h];rfl,rfl,rfl⟩
 |x::xs,cs,k+1,hk,h=>by
  rw[cD,qC]at h
  subst h
  obtain⟨D,F,e,h3,h4⟩:=cD.drop (cs:=qC xs) k (by simpa using hk) rfl
  refine⟨D,F, ?_,h3,by simpa using h4⟩
  rw[show(k+1)*4=(fN x).length+k*4 by rw[pO];omega,List.drop_length_add_append]
  exact e
def nO{xs:List Ex}{a:T}{F:List T}(h1:IsSl a xs.length F)(h2:cD xs F)(k:Nat)(hk:k<xs.length):
  ∃b D r,(∀kk,iaV a (.i kk (k:Int)) 4=some (.vp (qi xs[k].op:: qi xs[k].num:: .s xs[k].name::b::r)))∧IsSl b xs[k].args.length D∧cD xs[k].args D∧iD xs[k] [qi xs[k].op,qi xs[k].num,.s xs[k].name,b]:=by
 obtain⟨c,r,e,h3,h4⟩:=cD.drop k hk h2
 obtain⟨b,D,rfl,h5,h6⟩:=h3.cells
 refine⟨b,D,r,fun kk=> ?_,h5,h6,h3⟩
 rw[h1.ia (sz:=4) h2.len hk,e];rfl
mutual
def Ex.nodes:Ex→Nat
 | .mk _ _ _ args=>1+gm args
def gm:List Ex→Nat
 | []=>0
 |x::xs=>x.nodes+gm xs
end
mutual
def Ex.depth:Ex→Nat
 | .mk _ _ _ args=>1+aaj args
def aaj:List Ex→Nat
 | []=>0
 |x::xs=>max x.depth (aaj xs)
end
theorem Ex.nodes_eq(x:Ex):x.nodes=1+gm x.args:=by obtain⟨_,_,_,_⟩:=x;rw[Ex.nodes];rfl
theorem gn: ∀xs:List Ex,xs.length≤gm xs
 | []=>by simp
 |x::xs=>by
  have:=gn xs
  rw[gm,List.length_cons,x.nodes_eq];omega
theorem mq: ∀{xs:List Ex} {x:Ex},x∈xs→x.nodes≤gm xs
 |y::xs,x,h=>by
  rw[gm]
  rcases List.mem_cons.1 h with rfl|h
  ·omega
  ·have:=mq h;omega
def Ex.ind{P:Ex→Prop}(h: ∀x:Ex,(∀y∈x.args,P y)→P x)(x:Ex):P x:=by
 have: ∀n (x:Ex),x.nodes≤n→P x:=by
  intro n
  induction n with
  |zero=>intro x hx;rw[x.nodes_eq]at hx;omega
  |succ n ih=>
   intro x hx
   refine h x fun y r=>ih y ?_
   have:=mq r
   rw[x.nodes_eq]at hx;omega
 exact this _ x (Nat.le_refl _)
def D5(c:Nat):Prop:=(97:Int)≤c∧(c:Int)≤122
def G9(c:Nat):Prop:=(48:Int)≤c∧(c:Int)≤57
instance (c:Nat):Decidable (D5 c):=by unfold D5;infer_instance
instance (c:Nat):Decidable (G9 c):=by unfold G9;infer_instance
def tB(c:Nat):Bool:=decide (D5 c∨G9 c∨(c:Int)=95)
def jG:List Nat→Bool
 | []=>false
 |c::cs=>decide (cs.length<16)&&(decide (D5 c)&&cs.all tB)
def Kx(c:Nat):ae pE 168 [.i .u8 c] []=some (.b (decide (D5 c)),[]):=by
 rw[au ajD (by simp[R5])]
 by_cases h1:(97:Int)≤c
 ·by_cases h2:(c:Int)≤122 <;> simp only[qA,seval,R5,h1,h2,D5]
 ·simp only[qA,seval,R5,h1,D5]
def Fk(c:Nat):ae pE 169 [.i .u8 c] []=some (.b (decide (G9 c)),[]):=by
 rw[au ajE (by simp[R6])]
 by_cases h1:(48:Int)≤c
 ·by_cases h2:(c:Int)≤57 <;> simp only[qA,seval,R6,h1,h2,G9]
 ·simp only[qA,seval,R6,h1,G9]
theorem zQ{s:List Nat}{k:Nat}(hk:k<s.length)(kk:IntKind):D4 (.s s) (.i kk (k:Int))=some (.i .u8 (s[k]:Int)):=by
 rw[Nj,if_pos (Int.natCast_nonneg k),Int.toNat_natCast,List.getElem?_eq_getElem hk];rfl
def aF{k:Nat}(h:k<4611686018427387904):wr .i64 ((k:Int)+1)=((k+1:Nat):Int):=by rw[aZ zV];omega
def aoZ(s:List Nat)(hs:s.length≤16)(fr:Fr)(lh:aE ah)(sh:List ah)(h0:aa fr 0= .s s)(h3:aa fr 3= qi 0):
  LpC pE 42 Bw fr lh sh 0 2 (s.all tB=true) (.b false) (fun D F=>D=lh∧F=sh):=by
 refine mn Vw (by simp[aU]) (fun k f D F=>aa f 3= qi (k:Int)∧D=lh∧F=sh∧s.all tB=(s.drop k).all tB) s.length ⟨h3,rfl,rfl,rfl⟩ ?_ ?_
 ·rintro k f _ _ hk r ⟨H,rfl,rfl,hr⟩
  have I:(k:Int)<s.length:=zV
  have N:=aF (k:=k) zV
  have J:=cJ (Kx s[k])
  have K:=cJ (Fk s[k])
  rw[List.drop_eq_getElem_cons hk,List.all_cons]at hr
  simp only[qB,seval,gd,Bw,r,h0,H,I,zQ hk,N,J,K,Xl,ajF]
  clear r J K
  unfold tB at*
  grind
 ·rintro f _ _ r ⟨H,rfl,rfl,hr⟩
  rw[List.drop_length,List.all_nil]at hr
  simp only[qB,seval,gd,Bw,r,h0,H,Int.lt_irrefl,hr]
theorem CD(s:List Nat):ae pE 96 [.s s] []=some (.b (jG s),[]):=by
 rw[au ayb (by simp[c96])]
 cases s with
 |nil=>simp only[qA,seval,c96,jG]
 |cons c cs=>
  have TH:D4 (.s (c::cs)) (qi 0)=some (.i .u8 (c:Int)):=by rw[Nj];rfl
  have r:=cJ (Kx c)
  unfold jG
  by_cases h3:cs.length<16
  ·have D:=aoZ (c::cs) (by simp;omega)
   simp only[qB,seval,c96,TH,r,Xl,D]
   clear D r
   grind [tB]
  ·simp only[qB,seval,c96,TH,r,Xl]
   clear r
   grind
def chC(k:Nat)(c:Nat):Bool:=decide (D5 c)||(decide (0<k)&&tB c)
def D6:Nat→List Nat→Bool
 |_,[]=>true
 |k,c::cs=>chC k c&&D6 (k+1) cs
theorem Ky: ∀(cs:List Nat) (k:Nat),0<k→D6 k cs=cs.all tB
 | [],k,h=>rfl
 |c::cs,k,h=>by
  rw[D6,List.all_cons,Ky cs (k+1) zV]
  congr 1
  unfold chC
  by_cases h1:D5 c <;> simp[h,h1,tB]
def ao0(s:List Nat)(hs:s.length≤16)(fr:Fr)(lh:aE ah)(sh:List ah)(h0:aa fr 0= .s s)(J:aa fr 14= qi (s.length:Int))(K:aa fr 15= qi 0):
  LpC pE 44 Bo fr lh sh 0 2 (D6 0 s=true) (.b false) (fun D F=>D=lh∧F=sh):=by
 refine mn Vu (by simp[aU]) (fun k f D F=>aa f 15= qi (k:Int)∧D=lh∧F=sh∧D6 0 s=D6 k (s.drop k)) s.length ⟨K,rfl,rfl,rfl⟩ ?_ ?_
 ·rintro k f _ _ hk r ⟨H,rfl,rfl,hr⟩
  have I:(k:Int)<s.length:=zV
  have N:=aF (k:=k) zV
  rw[List.drop_eq_getElem_cons hk,D6]at hr
  simp only[qB,seval,gd,Bo,r,h0,J,H,I,zQ hk,N]
  clear r
  unfold chC tB D5 G9 at*
  grind (splits:=30)
 ·rintro f _ _ r ⟨H,rfl,rfl,hr⟩
  rw[List.drop_length,D6]at hr
  simp only[qB,seval,gd,Bo,r,J,H,Int.lt_irrefl,hr]
theorem wE(s:List Nat):ae pE 78 [.s s] []=some (.b (jG s),[]):=by
 rw[au axV (by simp[c78])]
 have h3:jG s=(decide (s.length≤16)&&decide (1≤s.length)&&D6 0 s):=by
  cases s with
  |nil=>rfl
  |cons c cs=>rw[D6,Ky cs 1 zV];unfold jG chC;grind
 by_cases h2:s.length≤16
 ·have r:=ao0 s h2
  simp only[qB,seval,c78,r]
  clear r
  grind
 ·simp only[qB,seval,c78]
  grind
def ao1:List (List Nat):= [[97,110,100],[111,114],[110,111,116],[105,109,112,108,105,101,115],[105,110],[116,111],[116,114,117,101],[102,97,108,115,101],[109,105,110],[109,97,120],[105,102],[116,104,101,110],[101,108,115,101]]
def agK:List (List Nat):= [[108,101,103,115],[104,101,97,100,115],[116,121,112,101,115]]
def agL:List (List Nat):= [[98,108,111,99,107],[115,112,97,110],[110,105,103,104,116],[108,111,110,103,101,115,116],[115,104,111,114,116,101,115,116],[115,104,105,102,116]]
def agM:List (List Nat):= [[115,116,97,114,116],[101,110,100]]
def P5:List (List Nat):= [[100,117,116,105,101,115],[108,101,103,115],[104,101,97,100,115],[100,97,121,115]]
def P6:List (List Nat):= [[98,108,111,99,107],[115,112,97,110],[99,114,101,100,105,116]]
def bC:List (List Nat):= [[108,101,103,115],[104,101,97,100,115],[116,121,112,101,115],[98,108,111,99,107],[115,112,97,110],[110,105,103,104,116],[108,111,110,103,101,115,116],[115,104,111,114,116,101,115,116],[115,104,105,102,116],[115,116,97,114,116],[101,110,100]]
def ev:List (List Nat):= [[114,101,115,116],[110,105,103,104,116,115],[104,111,109,101],[98,101,102,111,114,101,46,108,101,103,115],[98,101,102,111,114,101,46,104,101,97,100,115],[98,101,102,111,114,101,46,116,121,112,101,115],[98,101,102,111,114,101,46,98,108,111,99,107],[98,101,102,111,114,101,46,115,112,97,110],[98,101,102,111,114,101,46,110,105,103,104,116],[98,101,102,111,114,101,46,108,111,110,103,101,115,116],[98,101,102,111,114,101,46,115,104,111,114,116,101,115,116],[98,101,102,111,114,101,46,115,104,105,102,116],[98,101,102,111,114,101,46,115,116,97,114,116],[98,101,102,111,114,101,46,101,110,100],[97,102,116,101,114,46,108,101,103,115],[97,102,116,101,114,46,104,101,97,100,115],[97,102,116,101,114,46,116,121,112,101,115],[97,102,116,101,114,46,98,108,111,99,107],[97,102,116,101,114,46,115,112,97,110],[97,102,116,101,114,46,110,105,103,104,116],[97,102,116,101,114,46,108,111,110,103,101,115,116],[97,102,116,101,114,46,115,104,111,114,116,101,115,116],[97,102,116,101,114,46,115,104,105,102,116],[97,102,116,101,114,46,115,116,97,114,116],[97,102,116,101,114,46,101,110,100]]
def kI:List (List Nat):= [[100,117,116,105,101,115],[108,101,103,115],[104,101,97,100,115],[100,97,121,115],[98,108,111,99,107],[115,112,97,110],[99,114,101,100,105,116]]
def aak(s:List Nat):Bool:=decide (s∈ao1)
def jt(s:List Nat):Bool:=jG s&& !aak s
def lB(s:List Nat):Int:=if s∈agK then 1 else if s∈agL then 2 else if s∈agM then 3 else 0
def wF(s:List Nat):Int:=if s∈P5 then 1 else if s∈P6 then 2 else 0
def Mp:List Nat:= [98,101,102,111,114,101,46]
def NC:List Nat:= [97,102,116,101,114,46]
def pP(p s:List Nat):Prop:=p.length≤s.length∧s.take p.length=p
instance (p s:List Nat):Decidable (pP p s):=by unfold pP;infer_instance
def wG(s:List Nat):Int:=if s= [114,101,115,116]then 2 else if s= [110,105,103,104,116,115]then 1 else if s= [104,111,109,101]then 4 else if pP Mp s then lB (s.drop 7)else if pP NC s then lB (s.drop 6)else 0
def dI(scope:Int)(s:List Nat):Int:=if scope=1 then lB s else if scope=2 then wG s else if scope=3 then wF s else 0
theorem agN(s:List Nat):ae pE 286 [.s s] []=some (.b (aak s),[]):=by
 rw[au akM (by simp[WL])]
 simp only[qB,seval,WL,aak,ao1,List.mem_cons,List.not_mem_nil,or_false]
 grind (splits:=40)
theorem wH(s:List Nat):ae pE 153 [.s s] []=some (qi (lB s),[]):=by
 rw[au aju (by simp[VT])]
 simp only[qB,seval,VT,lB,agK,agL,agM,List.mem_cons,List.not_mem_nil,or_false]
 grind (splits:=40)
theorem aal(s:List Nat):ae pE 155 [.s s] []=some (qi (wF s),[]):=by
 rw[au ajw (by simp[VU])]
 simp only[qB,seval,VU,wF,P5,P6,List.mem_cons,List.not_mem_nil,or_false]
 grind (splits:=40)
theorem agO(s:List Nat):ae pE 253 [.s s] []=some (.b (aak s),[]):=by
 rw[au akw (by simp[Wz])]
 simp only[qB,seval,cX,repl,Wz,sD,O4,aak,ao1,List.mem_cons,List.not_mem_nil,or_false]
 grind (splits:=40)
def sG(s:List Nat):ae pE 256 [.s s] []=some (.b (jt s),[]):=by
 rw[au akA (by simp[WC])]
 cases h:jG s <;> simp only[qA,seval,WC,wE,agN,Sy,azC,h,jt]
def oz(s:List Nat):ae pE 200 [.s s] []=some (.b (jt s),[]):=by
 rw[au ajR (by simp[Wc])]
 cases h:jG s <;> simp only[qA,seval,Wc,CD,agO,WU,azs,h,jt]
theorem Fo(s p:List Nat):ae pE 303 [.s s,.s p] []=some (.b (decide (pP p s)),[]):=by
 rw[au akP (by simp[Sr])]
 by_cases h:p.length≤s.length
 ·have r:(p.length:Int)≤s.length:=zV
  simp only[qA,seval,tZ,Sr,h,r,pP,Nat.sub_zero]
 ·have r: ¬(p.length:Int)≤s.length:=zV
  simp only[qA,seval,Sr,h,r,pP]
def Fp(s p:List Nat):ae pE 231 [.s s,.s p] []=some (if pP p s then .tup [.s (s.drop p.length),.b true]else .tup [.s s,.b false],[]):=by
 rw[au akk (by simp[Wt])]
 have h1:ae pE 271 [.s s,.s p] []=some (if pP p s then .tup [.s (s.drop p.length),.b true]else .tup [.s s,.b false],[]):=by
  rw[au akI (by simp[So])]
  by_cases h:pP p s
  ·have r:p.length≤s.length:=h.1
   have D:List.take (s.length-p.length) (s.drop p.length)=s.drop p.length:=List.take_of_length_le yv
   simp only[qA,seval,tZ,So,Fo,akQ,h,r,D]
  ·simp only[qA,seval,So,Fo,akQ,h]
 by_cases h:pP p s <;> simp only[h]at h1 <;> simp only[qA,seval,Wt,h1,azy,h]
theorem aam(s:List Nat):ae pE 154 [.s s] []=some (qi (wG s),[]):=by
 by_cases h1:s= [114,101,115,116]
 ·subst h1;exact cK (m:=100) (cI (by kernel_rfl))
 ·by_cases h2:s= [110,105,103,104,116,115]
  ·subst h2;exact cK (m:=100) (cI (by kernel_rfl))
  ·by_cases h3:s= [104,111,109,101]
   ·subst h3;exact cK (m:=100) (cI (by kernel_rfl))
   ·have r:=Fp s Mp
    have D:=Fp s NC
    have F:Mp.length=7:=rfl
    have H:NC.length=6:=rfl
    rw[wG,if_neg h1,if_neg h2,if_neg h3]
    rw[au ajv (by simp[ME])]
    rw[F]at r
    rw[H]at D
    by_cases h4:pP Mp s
    ·rw[if_pos h4]at r
     unfold Mp at r
     simp only[qA,seval,ME,h1,h2,h3,r,wH,XF,Pb,h4]
    ·rw[if_neg h4]at r
     by_cases h5:pP NC s
     ·rw[if_pos h5]at D
      unfold Mp at r
      unfold NC at D
      simp only[qA,seval,ME,h1,h2,h3,r,D,wH,XF,Pb,h4,h5]
     ·rw[if_neg h5]at D
      unfold Mp at r
      unfold NC at D
      simp only[qA,seval,ME,h1,h2,h3,r,D,wH,XF,Pb,h4,h5]
def rh(scope:Int)(s:List Nat):Int:=if dI scope s=0 then 6 else 0
def Kz(scope:Int)(s:List Nat):ae pE 87 [qi scope,.s s] []=some (.tup [qi (dI scope s),qi (rh scope s)],[]):=by
 rw[au ax3 (by simp[c87])]
 by_cases h1:scope=1
 ·by_cases h:lB s=0 <;> simp only[qA,seval,c87,h1,rh,dI,wH,Pb,h]
 ·by_cases h2:scope=2
  ·by_cases h:wG s=0 <;> simp only[qA,seval,c87,h2,rh,dI,aam,ayL,h]
  ·by_cases h3:scope=3
   ·by_cases h:wF s=0 <;> simp only[qA,seval,c87,h3,rh,dI,aal,ayM,h]
   ·simp only[qA,seval,c87,h1,h2,h3,rh,dI]
def strs(l:List (List Nat)):List T:=l.map T.s
theorem CE(l:List (List Nat)):(strs l).length=l.length:=by simp[strs]
theorem Fq(l:List (List Nat))(k:Nat)(hk:k<l.length):(strs l).drop k=T.s l[k]::(strs l).drop (k+1):=by
 rw[List.drop_eq_getElem_cons (by rw[CE];exact hk)];simp[strs]
theorem CF:ae pE 55 [qi 1] []=some (.sl (strs bC) 11 true,[]):=cK (m:=100) (cI (by kernel_rfl))
theorem uf:ae pE 55 [qi 2] []=some (.sl (strs ev) 25 false,[]):=cK (m:=100) (cI (by kernel_rfl))
theorem ND:ae pE 55 [qi 3] []=some (.sl (strs kI) 7 true,[]):=cK (m:=100) (cI (by kernel_rfl))
theorem NF(scope:Int)(h1:scope≠1)(h2:scope≠2)(h3:scope≠3):ae pE 55 [qi scope] []=some (.nilsl,[]):=by
 rw[au axI (by simp[c55])]
 simp only[qA,seval,repl,c55,h1,h2,h3]
def aan(s:List Nat)(v:T)(l:List (List Nat))(r:IsSl v l.length (strs l))(O:l.length<1000)(hs:s∉l)(fr:Fr)(lh:aE ah)(sh:List ah)(h1:aa fr 1= .s s)(h6:aa fr 6=v)(K:aa fr 7= qi 0):
  Lp pE 69 pc fr lh sh (.ext 0) fun f l s=>l=lh∧s=sh:=by
 refine bK RE (fun k f l s=>aa f 7= qi (k:Int)∧l=lh∧s=sh) l.length ⟨K,rfl,rfl⟩ ?_ ?_
 ·rintro k f _ _ hk D ⟨F,rfl,rfl⟩
  have H:(k:Int)<l.length:=zV
  have N:=aF (k:=k) zV
  have I: ¬l[k]=s:=fun e=>hs (e▸List.getElem_mem hk)
  have J: ∀kk,iaV v (.i kk (k:Int)) 1=some (.vp (T.s l[k]::(strs l).drop (k+1))):=fun kk=>by rw[r.ia (sz:=1) (by rw[CE];omega) hk,Nat.mul_one,Fq l k hk]
  simp only[qB,seval,gd,pc,D,h1,h6,F,r.lenI,H,J,I,N]
 ·rintro f _ _ D ⟨F,rfl,rfl⟩
  simp only[qB,seval,gd,pc,D,h6,F,r.lenI,Int.lt_irrefl]
theorem wI(s:List Nat):ae pE 103 [qi 1,.s s] []=some (.tup [qi (lB s),qi (if lB s=0 then 6 else 0)],[]):=by
 rw[au Bz (by simp[qv])]
 simp only[qB,seval,tZ,cX,repl,qv,CF,ML,sD,pc,strs,bC,lB,agK,agL,agM,List.mem_cons,List.not_mem_nil,or_false]
 grind (splits:=40)
theorem TI(s:List Nat):ae pE 103 [qi 3,.s s] []=some (.tup [qi (wF s),qi (if wF s=0 then 6 else 0)],[]):=by
 rw[au Bz (by simp[qv])]
 simp only[qB,seval,tZ,cX,repl,qv,ND,ML,sD,pc,strs,kI,wF,P5,P6,List.mem_cons,List.not_mem_nil,or_false]
 grind (splits:=40)
def TJ{s:List Nat}(hs:s∈ev):s= [114,101,115,116]∨s= [110,105,103,104,116,115]∨s= [104,111,109,101]∨(7<s.length∧s.take 7=Mp)∨(6<s.length∧s.take 6=NC):=by
 simp only[ev,List.mem_cons,List.not_mem_nil,or_false]at hs
 rcases hs with rfl|rfl|rfl|rfl|rfl|rfl|rfl|rfl|rfl|rfl|rfl|rfl|rfl|rfl|rfl|rfl|rfl|rfl|rfl|rfl|rfl|rfl|rfl|rfl|rfl <;> decide
theorem CG(s:List Nat):pP Mp s↔(7≤s.length∧s.take 7=Mp):=Iff.rfl
theorem CH(s:List Nat):pP NC s↔(6≤s.length∧s.take 6=NC):=Iff.rfl
theorem TK(s:List Nat):ae pE 103 [qi 2,.s s] []=some (.tup [qi (wG s),qi (if wG s=0 then 6 else 0)],[]):=by
 by_cases h1:s= [114,101,115,116]
 ·subst h1;exact cK (m:=100) (cI (by kernel_rfl))
 by_cases h2:s= [110,105,103,104,116,115]
 ·subst h2;exact cK (m:=100) (cI (by kernel_rfl))
 by_cases h3:s= [104,111,109,101]
 ·subst h3;exact cK (m:=100) (cI (by kernel_rfl))
 rw[wG,if_neg h1,if_neg h2,if_neg h3]
 by_cases h4:pP Mp s
 ·rw[if_pos h4]
  have J:=(CG s).1 h4
  by_cases h6:7<s.length
  ·have D:(7:Int)<s.length:=zV
   have r:7≤s.length:=zV
   have e:=J.2
   unfold Mp at e
   have I:List.take (s.length-7) (s.drop 7)=s.drop 7:=List.take_of_length_le yv
   rw[au Bz (by simp[qv])]
   simp only[qA,seval,tZ,qv,D,r,Nat.sub_zero,e,wI,ES,I]
  ·have:s=Mp:=by
    grind
   subst this
   exact cK (m:=100) (cI (by kernel_rfl))
 ·rw[if_neg h4]
  have U: ¬((7:Int)<s.length∧s.take 7=Mp):=fun⟨a,b⟩=>h4 ((CG s).2 ⟨by omega,b⟩)
  by_cases h5:pP NC s
  ·rw[if_pos h5]
   have SC:=(CH s).1 h5
   by_cases h6:6<s.length
   ·have D:(6:Int)<s.length:=zV
    have r:6≤s.length:=zV
    have e:=SC.2
    unfold NC at e
    have I:List.take (s.length-6) (s.drop 6)=s.drop 6:=List.take_of_length_le yv
    rw[au Bz (by simp[qv])]
    by_cases F:(7:Int)<s.length
    ·have H:7≤s.length:=zV
     have K: ¬s.take 7= [98,101,102,111,114,101,46]:=fun b=>U ⟨F,b⟩
     simp only[qA,seval,tZ,qv,D,r,F,H,K,Nat.sub_zero,e,wI,ES,I]
    ·simp only[qA,seval,tZ,qv,D,r,F,Nat.sub_zero,e,wI,ES,I]
   ·have:s=NC:=by
     grind
    subst this
    exact cK (m:=100) (cI (by kernel_rfl))
  ·rw[if_neg h5]
   have V: ¬((6:Int)<s.length∧s.take 6=NC):=fun⟨a,b⟩=>h5 ((CH s).2 ⟨by omega,b⟩)
   have hs:s∉ev:=fun W=>by
    rcases TJ W with h|h|h|⟨a,b⟩|⟨a,b⟩
    ·exact h1 h
    ·exact h2 h
    ·exact h3 h
    ·grind
    ·grind
   have N:=aan s (.sl (strs ev) 25 false) ev (Or.inr ⟨false,rfl⟩) zz hs
   rw[au Bz (by simp[qv])]
   by_cases F:(7:Int)<s.length
   ·have h6:(6:Int)<s.length:=zV
    have H:7≤s.length:=zV
    have r:6≤s.length:=zV
    have K: ¬s.take 7= [98,101,102,111,114,101,46]:=fun b=>U ⟨F,b⟩
    have O: ¬s.take 6= [97,102,116,101,114,46]:=fun b=>V ⟨h6,b⟩
    simp only[qA,seval,tZ,qv,h6,F,r,H,K,O,Nat.sub_zero,uf,ML,N]
   ·by_cases h6:(6:Int)<s.length
    ·have r:6≤s.length:=zV
     have O: ¬s.take 6= [97,102,116,101,114,46]:=fun b=>V ⟨h6,b⟩
     simp only[qA,seval,tZ,qv,h6,F,r,O,Nat.sub_zero,uf,ML,N]
    ·simp only[qA,seval,tZ,qv,h6,F,uf,ML,N]
def KA(scope:Int)(s:List Nat):ae pE 103 [qi scope,.s s] []=some (.tup [qi (dI scope s),qi (rh scope s)],[]):=by
 unfold rh dI
 by_cases h1:scope=1
 ·grind [wI]
 ·by_cases h2:scope=2
  ·grind [TK]
  ·by_cases h3:scope=3
   ·grind [TI]
   ·simp only[h1,h2,h3,if_false,if_true]
    rw[au Bz (by simp[qv])]
    have r:=aan s .nilsl [] (Or.inl ⟨rfl,rfl,rfl⟩) zz yv
    simp only[qA,seval,tZ,qv,h2,NF scope h1 h2 h3,ML,r]
def aBz:List Nat→Option Nat
 | []=>none
 |c::cs=>if c=46 then some 0 else(aBz cs).map (· +1)
def Ha(s:List Nat):Bool:=match aBz s with
 |none=>jt s
 |some i=>jG (s.take i)&&jG (s.drop (i+1))
def dQ(op:Int)(n:Nat):Bool:=
 if op≤6 then decide (n=0)else if op=7∨op=19 then decide (n=1)else if op=12∨op=13 then decide (2≤n)
 else if op=14∨op=15 then decide (n=3)else decide (n=2)
def Fs(op:Int):Int:=if op=1∨op=2 then 1099511627776 else if op=3 then 1439 else 0
def ri(op num:Int)(name:List Nat)(n:Nat):Bool:=
 decide (1≤op)&&(decide (op≤22)&&(dQ op n&&(decide (0≤num∧num≤Fs op)&&(if op=6 then Ha name else decide (name= [])))))
mutual
def Ex.wf:Ex→Bool
 | .mk op num name args=>ri op num name args.length&&Hb args
def Hb:List Ex→Bool
 | []=>true
 |x::xs=>x.wf&&Hb xs
end
theorem Ex.wf_eq(x:Ex):x.wf=(ri x.op x.num x.name x.args.length&&Hb x.args):=by obtain⟨_,_,_,_⟩:=x;rw[Ex.wf];rfl
theorem AE: ∀{xs:List Ex},Hb xs=true↔ ∀x∈xs,x.wf=true
 | []=>by simp[Hb]
 |x::xs=>by rw[Hb,Bool.and_eq_true,AE (xs:=xs)];simp
def big(x:Ex):Prop:=200<x.nodes∨16<x.depth
instance (x:Ex):Decidable (big x):=by unfold big;infer_instance
def bM(x:Ex):Int:=if big x then 10 else if x.wf then 0 else 1
def jb(ts:List Int)(k:Int):Bool:=ts.all fun t=>decide (t=k)
def KB(op a b:Int):Int:=
 if a=1∧b=1 then 1 else if a=2∧b=1 then 2 else if op=10∧a=1∧b=2 then 2 else if op=11∧a=2∧b=2 then 1 else 0
def a0(ts:List Int):Int:=ts.getD 0 0
def a1(ts:List Int):Int:=ts.getD 1 0
def a2(ts:List Int):Int:=ts.getD 2 0
def mr(op:Int)(ts:List Int):Int:=
 if op=1 then 1 else if op=2 then 2 else if op=3 then 3 else if op=4 then 4 else if op=5 then 4
 else if op=7∨op=8∨op=9∨op=12∨op=13 then(if jb ts 1 then 1 else if jb ts 2 then 2 else 0)
 else if op=10∨op=11 then KB op (a0 ts) (a1 ts)
 else if op=14 then(if a0 ts=4∧a1 ts=a2 ts then a1 ts else 0)
 else if op=15 then(if jb ts 3 then 4 else 0)
 else if op=16∨op=17 then(if(a0 ts=1∨a0 ts=2)∧a0 ts=a1 ts then 4 else 0)
 else if op=18 then(if a0 ts=a1 ts then 4 else 0)
 else(if jb ts 4 then 4 else 0)
mutual
def Ex.ty(cl:List Nat→Int×Int)(scope:Int):Ex→Int×Int
 | .mk op _ name args=>
   if op=6 then(if dI scope name≠0 then(dI scope name,0)else cl name)
   else match lC cl scope args with
    | .error e=>(0,e)
    | .ok ts=>if mr op ts=0 then(0,9)else(mr op ts,0)
def lC(cl:List Nat→Int×Int)(scope:Int):List Ex→Except Int (List Int)
 | []=> .ok []
 |x::xs=>if(x.ty cl scope).2≠0 then .error (x.ty cl scope).2 else match lC cl scope xs with
  | .error e=> .error e
  | .ok ts=> .ok ((x.ty cl scope).1::ts)
end
theorem Ex.ty_eq(cl:List Nat→Int×Int)(scope:Int)(x:Ex):x.ty cl scope=
  if x.op=6 then(if dI scope x.name≠0 then(dI scope x.name,0)else cl x.name)
  else match lC cl scope x.args with
   | .error e=>(0,e)
   | .ok ts=>if mr x.op ts=0 then(0,9)else(mr x.op ts,0):=by obtain⟨_,_,_,_⟩:=x;rw[Ex.ty];rfl
abbrev Cs:=List (List Nat×Ex)
def fu:Cs→List Nat→Option Nat
 | [],_=>none
 |c::cs,s=>if c.1=s then some 0 else(fu cs s).map (· +1)
def clk(l:Cs)(r:List (Int×Int))(s:List Nat):Int×Int:=match fu l s with
 |none=>(0,6)
 |some i=>r.getD i (0,6)
def Hc(l:Cs)(r:List (Int×Int))(x:Ex):Int×Int:=if bM x≠0 then(0,bM x)else x.ty (clk l r) 0
def ju(l:Cs):Nat→List (Int×Int)
 |0=> []
 |n+1=>ju l n++ [Hc (l.take n) (ju l n) (l.getD n ([],.mk 0 0 [] [])).2]
def cj(l:Cs)(scope:Int)(x:Ex):Int×Int:=if bM x≠0 then(0,bM x)else x.ty (clk l (ju l l.length)) scope
def isLit(x:Ex):Bool:=match x with
 | .mk op _ _ args=>decide (op=1∨op=2∨op=3∨op=4∨op=5)||(decide (op=7)&&(match args with|y::_=>decide (y.op=1∨y.op=2)| []=>false))
def agQ(x:Ex):Int:=match x with
 | .mk op num _ args=>if op=4 then 1 else if op=5 then 0 else if op=7 then(match args with|y::_=> -y.num| []=>0)else num
def iE(op num:Int):Ex:= .mk op num [] []
def sX(k n:Int):Ex:=
 if k=4 then(if n=0 then iE 5 0 else iE 4 0)else if k=3 then iE 3 n
 else if n<0 then .mk 7 0 [] [iE (if k=2 then 2 else 1) (-n)]else iE (if k=2 then 2 else 1) n
def bA(n:Int):Int:=max (-1099511627776) (min 1099511627776 n)
def Hd(a b:Int):Int:=if b=0 then 0 else bA (Int.fdiv a b)
def dD(c f t:Int):Bool:=if f≤t then decide (f≤c∧c<t)else decide (f≤c∨c<t)
def fQ(b:Bool):Int:=if b then 1 else 0
def ao3:Int→List Int→Int
 |m,[]=>m
 |m,v::r=>ao3 (min m v) r
def ao4:Int→List Int→Int
 |m,[]=>m
 |m,v::r=>ao4 (max m v) r
def DF(op:Int)(r:List Int):Int:=
 if op=7 then-a0 r else if op=8 then bA (a0 r+a1 r)else if op=9 then bA (a0 r-a1 r)else if op=10 then bA (a0 r*a1 r)
 else if op=11 then Hd (a0 r) (a1 r)else if op=12 then ao3 (a0 r) r.tail else if op=13 then ao4 (a0 r) r.tail
 else if op=14 then(if a0 r=0 then a2 r else a1 r)else if op=15 then fQ (dD (a0 r) (a1 r) (a2 r))
 else if op=16 then fQ (decide (a0 r<a1 r))else if op=17 then fQ (decide (a0 r≤a1 r))else if op=18 then fQ (decide (a0 r=a1 r))
 else if op=19 then 1-a0 r else if op=20 then min (a0 r) (a1 r)else if op=21 then max (a0 r) (a1 r)else max (1-a0 r) (a1 r)
def aao(x:Ex):Bool:=decide (x.op=1∨x.op=2)&&decide (x.num=0)
def ao5(x:Ex):Bool:=decide (x.op=1)&&decide (x.num=1)
def aBA(op:Int)(r:List Ex):Ex:=
 match r with
 | [a]=>if op=19∧a.op=19 then a.args.headD (iE 0 0)else .mk op 0 [] r
 | [a,b]=>
   if op=20 then(if a.op=5∨b.op=5 then iE 5 0 else if a.op=4 then b else if b.op=4 then a else .mk op 0 [] r)
   else if op=21 then(if a.op=4∨b.op=4 then iE 4 0 else if a.op=5 then b else if b.op=5 then a else .mk op 0 [] r)
   else if op=22 then(if a.op=5∨b.op=4 then iE 4 0 else if a.op=4 then b else if b.op=5 then(if a.op=19 then a.args.headD (iE 0 0)else .mk 19 0 [] [a])else .mk op 0 [] r)
   else if op=8 then(if aao b then a else if aao a then b else .mk op 0 [] r)
   else if op=9 then(if aao b then a else .mk op 0 [] r)
   else if op=10 then(if ao5 b then a else if ao5 a then b else .mk op 0 [] r)
   else if op=11 then(if ao5 b then a else .mk op 0 [] r)
   else .mk op 0 [] r
 | [a,b,c]=>if op=14 then(if a.op=4 then b else if a.op=5 then c else .mk op 0 [] r)else .mk op 0 [] r
 |_=> .mk op 0 [] r
mutual
def Ex.fold(cl:List Nat→Int×Int)(cx:List Nat→Ex)(scope:Int):Ex→Ex
 | .mk op num name args=>
   if op=6 then(if dI scope name≠0 then .mk op num name args else cx name)
   else if args.isEmpty then .mk op num name args
   else if(nk cl cx scope args).all isLit then sX ((Ex.mk op num name args).ty cl scope).1 (DF op ((nk cl cx scope args).map agQ))
   else aBA op (nk cl cx scope args)
def nk(cl:List Nat→Int×Int)(cx:List Nat→Ex)(scope:Int):List Ex→List Ex
 | []=> []
 |x::xs=>x.fold cl cx scope::nk cl cx scope xs
end
structure Ru where
 sc:Int
 nm:List Nat
 x:Ex
structure Co where
 sc:Int
 x:Ex
def iX:List Ru:= [
 ⟨1,[115,105,122,101],.mk 17 0 [] [.mk 8 0 [] [.mk 6 0 [108,101,103,115] [],.mk 6 0 [104,101,97,100,115] []],.mk 1 3 [] []]⟩,
 ⟨1,[115,112,97,110],.mk 17 0 [] [.mk 6 0 [115,112,97,110] [],.mk 9 0 [] [.mk 2 780 [] [],.mk 10 0 [] [.mk 2 30 [] [],.mk 9 0 [] [.mk 6 0 [108,101,103,115] [],.mk 1 1 [] []]]]]⟩,
 ⟨1,[110,105,103,104,116],.mk 22 0 [] [.mk 15 0 [] [.mk 6 0 [115,116,97,114,116] [],.mk 3 1320 [] [],.mk 3 300 [] []],.mk 17 0 [] [.mk 6 0 [115,112,97,110] [],.mk 2 480 [] []]]⟩,
 ⟨1,[98,108,111,99,107],.mk 17 0 [] [.mk 6 0 [98,108,111,99,107] [],.mk 2 360 [] []]⟩,
 ⟨1,[116,121,112,101,115],.mk 17 0 [] [.mk 6 0 [116,121,112,101,115] [],.mk 1 1 [] []]⟩,
 ⟨1,[111,100,100],.mk 21 0 [] [.mk 21 0 [] [.mk 18 0 [] [.mk 6 0 [108,101,103,115] [],.mk 1 1 [] []],.mk 18 0 [] [.mk 6 0 [108,101,103,115] [],.mk 1 3 [] []]],.mk 18 0 [] [.mk 6 0 [104,101,97,100,115] [],.mk 1 1 [] []]]⟩,
 ⟨1,[103,97,112],.mk 21 0 [] [.mk 17 0 [] [.mk 6 0 [108,111,110,103,101,115,116] [],.mk 2 120 [] []],.mk 17 0 [] [.mk 2 360 [] [],.mk 6 0 [115,112,97,110] []]]⟩,
 ⟨2,[108,101,97,115,116],.mk 17 0 [] [.mk 2 480 [] [],.mk 6 0 [114,101,115,116] []]⟩,
 ⟨2,[98,101,102,111,114,101],.mk 17 0 [] [.mk 13 0 [] [.mk 2 360 [] [],.mk 6 0 [98,101,102,111,114,101,46,115,112,97,110] []],.mk 6 0 [114,101,115,116] []]⟩,
 ⟨2,[110,105,103,104,116,115],.mk 21 0 [] [.mk 17 0 [] [.mk 6 0 [110,105,103,104,116,115] [],.mk 1 1 [] []],.mk 6 0 [104,111,109,101] []]⟩,
 ⟨2,[104,111,109,101],.mk 22 0 [] [.mk 6 0 [104,111,109,101] [],.mk 17 0 [] [.mk 6 0 [114,101,115,116] [],.mk 2 1200 [] []]]⟩,
 ⟨2,[97,102,116,101,114],.mk 21 0 [] [.mk 15 0 [] [.mk 6 0 [97,102,116,101,114,46,115,116,97,114,116] [],.mk 3 360 [] [],.mk 3 1200 [] []],.mk 17 0 [] [.mk 2 540 [] [],.mk 6 0 [114,101,115,116] []]]⟩,
 ⟨3,[100,97,121,115],.mk 17 0 [] [.mk 6 0 [100,97,121,115] [],.mk 1 3 [] []]⟩,
 ⟨3,[100,117,116,105,101,115],.mk 17 0 [] [.mk 6 0 [100,117,116,105,101,115] [],.mk 1 3 [] []]⟩,
 ⟨3,[98,108,111,99,107],.mk 17 0 [] [.mk 6 0 [98,108,111,99,107] [],.mk 2 540 [] []]⟩,
 ⟨3,[99,114,101,100,105,116],.mk 17 0 [] [.mk 6 0 [99,114,101,100,105,116] [],.mk 2 720 [] []]⟩,
 ⟨3,[115,112,97,110],.mk 17 0 [] [.mk 6 0 [115,112,97,110] [],.mk 2 3000 [] []]⟩,
 ⟨3,[108,101,103,115],.mk 17 0 [] [.mk 1 2 [] [],.mk 6 0 [108,101,103,115] []]⟩]
def ic:List Co:= [
 ⟨1,.mk 8 0 [] [.mk 1 100 [] [],.mk 10 0 [] [.mk 1 10 [] [],.mk 6 0 [108,101,103,115] []]]⟩,
 ⟨1,.mk 11 0 [] [.mk 9 0 [] [.mk 6 0 [115,112,97,110] [],.mk 6 0 [98,108,111,99,107] []],.mk 2 15 [] []]⟩,
 ⟨1,.mk 14 0 [] [.mk 17 0 [] [.mk 6 0 [110,105,103,104,116] [],.mk 2 120 [] []],.mk 1 0 [] [],.mk 1 30 [] []]⟩,
 ⟨2,.mk 14 0 [] [.mk 6 0 [104,111,109,101] [],.mk 1 0 [] [],.mk 1 50 [] []]⟩,
 ⟨2,.mk 11 0 [] [.mk 6 0 [114,101,115,116] [],.mk 2 60 [] []]⟩,
 ⟨3,.mk 10 0 [] [.mk 1 20 [] [],.mk 6 0 [100,97,121,115] []]⟩,
 ⟨3,.mk 11 0 [] [.mk 13 0 [] [.mk 2 0 [] [],.mk 9 0 [] [.mk 6 0 [99,114,101,100,105,116] [],.mk 2 480 [] []]],.mk 2 30 [] []]⟩,
 ⟨1,.mk 7 0 [] [.mk 10 0 [] [.mk 1 5 [] [],.mk 6 0 [104,101,97,100,115] []]]⟩,
 ⟨1,.mk 10 0 [] [.mk 6 0 [116,121,112,101,115] [],.mk 6 0 [116,121,112,101,115] []]⟩,
 ⟨3,.mk 8 0 [] [.mk 7 0 [] [.mk 10 0 [] [.mk 1 3 [] [],.mk 6 0 [108,101,103,115] []]],.mk 6 0 [115,104,105,102,116,115] []]⟩]
def wJ:List Ex:= [
 .mk 13 0 [] [.mk 6 0 [98,108,111,99,107] [],.mk 2 240 [] []],
 .mk 11 0 [] [.mk 6 0 [115,112,97,110] [],.mk 1 2 [] []],
 .mk 8 0 [] [.mk 6 0 [98,108,111,99,107] [],.mk 10 0 [] [.mk 2 20 [] [],.mk 6 0 [108,101,103,115] []]]]
def shB:List Ex:= [.mk 1 2 [] [],.mk 11 0 [] [.mk 1 7 [] [],.mk 1 2 [] []],.mk 7 0 [] [.mk 1 1 [] []]]
def ug:List Nat:= [115,104,105,102,116,115]
def nP(k:Nat):Ex:=shB.getD k (.mk 1 2 [] [])
def exB:List Ex:=iX.map Ru.x++ic.map Co.x++wJ++shB
def Ex.sm(x:Ex):Prop:=x∈exB
def dK{α:Type}(L:List α)(f:Nat)(g:α→List T)(v:α→T)(h:(L.map fun x=>(ow pE 1000 f (g x) []).map (·.1))=L.map fun x=>some (v x):=by kernel_rfl): ∀x∈L,∃s,ae pE f (g x) []=some (v x,s):=fun x hx=>G8 (m:=1000) (List.map_inj_left.1 h x hx)
def NG{α:Type}(L:List α)(f:Nat)(g:α→List T)(v:α→T)(h:(L.map fun x=>ow pE 1000 f (g x) [])=L.map fun x=>some (v x,[]):=by kernel_rfl): ∀x∈L,ae pE f (g x) []=some (v x,[]):=fun x hx=>DCall_iff.2 ⟨1000,List.map_inj_left.1 h x hx⟩
def td{α:Type}{P:α→Prop}{L:List α}(m:Nat)(a: ∀x∈L.take m,P x)(b: ∀x∈L.drop m,P x): ∀x∈L,P x:=fun x hx=>by
 rw[←List.take_append_drop m L]at hx
 exact(List.mem_append.1 hx).elim (a x) (b x)
def kJ(j:Nat):List (List Nat×Ex):= [(ug,nP j)]
def oB:List (Int×Ex):=iX.map (fun u=>(u.sc,u.x))++ic.map (fun u=>(u.sc,u.x))++wJ.map fun x=>(1,x)
def vB(e:Bool)(j:Nat):T:= .sl (.s ug::fN (nP j)) 1 e
end Go.Proofs.YtnkgnjecmfkcfaaGreat
