/- Walks of functions of the program and of the reference, and their plain laws, part 1. Conditions: the theorems' own. -/
import Derived.Test.YtcpceiclnbmgiaaGreatGS
import Derived.KernelRfl
set_option maxRecDepth 100000
set_option linter.unusedSimpArgs false
set_option linter.unusedVariables false
set_option maxHeartbeats 16000000
namespace Go.Proofs.YtcpceiclnbmgiaaGreat
open Go Go.Ev
theorem mS{m f:Nat}{args:List T}{r:T×List b8}(h:j4 pE m f args []=some r):be pE f args []=some r:=DCall_iff.2 ⟨m,h⟩
theorem iu{m f:Nat}{args:List T}{v:T}(h:(j4 pE m f args []).map (·.1)=some v): ∃s,be pE f args []=some (v,s):=by
 cases hc:j4 pE m f args []with
 |none=>grind
 |some r=>
  rw[hc]at h
  obtain⟨a,s⟩:=r
  simp at h
  subst h
  exact⟨s,DCall_iff.2 ⟨m,hc⟩⟩
inductive Ex where
 |mk (op num:Int) (name:List Nat) (args:List Ex)
def Ex.op:Ex→Int| .mk o _ _ _=>o
def Ex.num:Ex→Int| .mk _ n _ _=>n
def Ex.name:Ex→List Nat| .mk _ _ s _=>s
def Ex.args:Ex→List Ex| .mk _ _ _ a=>a
mutual
def mU:Ex→List T→Prop
 | .mk op num name args,cs=> ∃a r,cs= [.i .i64 op,.i .i64 num,.s name,a]∧IsSl a args.length r∧ku args r
def ku:List Ex→List T→Prop
 | [],cs=>cs= []
 |x::xs,cs=> ∃c r,cs=c++r∧mU x c∧ku xs r
end
theorem mU.cells{x:Ex}{cs:List T}(h:mU x cs): ∃a r,cs= [.i .i64 x.op,.i .i64 x.num,.s x.name,a]∧IsSl a x.args.length r∧ku x.args r:=by
 obtain⟨o,n,s,a⟩:=x
 rw[mU]at h
 exact h
theorem mU.of{x:Ex}{a:T}{r:List T}(D:IsSl a x.args.length r)(F:ku x.args r):mU x [.i .i64 x.op,.i .i64 x.num,.s x.name,a]:=by
 obtain⟨o,n,s,l⟩:=x
 rw[mU]
 exact⟨a,r,rfl,D,F⟩
theorem mU.len{x:Ex}{cs:List T}(h:mU x cs):cs.length=4:=by
 obtain⟨a,i,rfl,_⟩:=h.cells;rfl
theorem ku.len: ∀{xs:List Ex} {cs:List T},ku xs cs→cs.length=xs.length*4
 | [],cs,h=>by grind [ku]
 |x::xs,cs,h=>by
  rw[ku]at h
  obtain⟨c,r,rfl,i,D⟩:=h
  rw[List.length_append,i.len,D.len,List.length_cons];omega
theorem ku.drop: ∀{xs:List Ex} {cs:List T} (k:Nat) (hk:k<xs.length),ku xs cs→ ∃c r,cs.drop (k*4)=c++r∧mU xs[k] c∧ku (xs.drop (k+1)) r
 | [],cs,k,hk,h=>by simp at hk
 |x::xs,cs,0,hk,h=>by
  grind [ku]
 |x::xs,cs,k+1,hk,h=>by
  rw[ku]at h
  obtain⟨c,r,rfl,i,D⟩:=h
  obtain⟨F,H,e,I,J⟩:=ku.drop k (by simpa using hk) D
  refine⟨F,H, ?_,I,by simpa using J⟩
  have:(k+1)*4=c.length+k*4:=by rw[i.len];omega
  grind [List.drop_append,Nat.add_sub_cancel_left,List.drop_eq_nil_of_le]
theorem rY{xs:List Ex}{a:T}{F:List T}(J:IsSl a xs.length F)(H:ku xs F)(k:Nat)(hk:k<xs.length):
  ∃b D r,(∀kk,lR a (.i kk (k:Int)) 4=some (.vp (.i .i64 xs[k].op:: .i .i64 xs[k].num:: .s xs[k].name::b::r)))∧IsSl b xs[k].args.length D∧ku xs[k].args D∧mU xs[k] [.i .i64 xs[k].op,.i .i64 xs[k].num,.s xs[k].name,b]:=by
 obtain⟨c,r,e,I,O⟩:=ku.drop k hk H
 obtain⟨b,D,rfl,K,N⟩:=I.cells
 refine⟨b,D,r,fun kk=> ?_,K,N,I⟩
 rw[J.ia (sz:=4) H.len hk,e];rfl
mutual
def Ex.nodes:Ex→Nat
 | .mk _ _ _ args=>1+jP args
def jP:List Ex→Nat
 | []=>0
 |x::xs=>x.nodes+jP xs
end
mutual
def Ex.depth:Ex→Nat
 | .mk _ _ _ args=>1+oU args
def oU:List Ex→Nat
 | []=>0
 |x::xs=>max x.depth (oU xs)
end
theorem Ex.nodes_eq(x:Ex):x.nodes=1+jP x.args:=by obtain⟨_,_,_,_⟩:=x;rw[Ex.nodes];rfl
theorem Ex.depth_eq(x:Ex):x.depth=1+oU x.args:=by obtain⟨_,_,_,_⟩:=x;rw[Ex.depth];rfl
theorem mi: ∀xs:List Ex,xs.length≤jP xs
 | []=>by simp
 |x::xs=>by
  have:=mi xs
  rw[jP,List.length_cons,x.nodes_eq];omega
theorem oV: ∀{xs:List Ex} {x:Ex},x∈xs→x.nodes≤jP xs
 |y::xs,x,h=>by
  rw[jP]
  rcases List.mem_cons.1 h with rfl|h
  ·omega
  ·have:=oV h;omega
theorem Ex.ind{P:Ex→Prop}(h: ∀x:Ex,(∀y∈x.args,P y)→P x)(x:Ex):P x:=by
 have: ∀n (x:Ex),x.nodes≤n→P x:=by
  intro n
  induction n with
  |zero=>intro x hx;rw[x.nodes_eq]at hx;omega
  |succ n ih=>
   intro x hx
   refine h x fun y i=>ih y ?_
   have:=oV i
   rw[x.nodes_eq]at hx;omega
 exact this _ x (Nat.le_refl _)
def Fx(c:Nat):Prop:=(97:Int)≤c∧(c:Int)≤122
def HK(c:Nat):Prop:=(48:Int)≤c∧(c:Int)≤57
instance (c:Nat):Decidable (Fx c):=by unfold Fx;infer_instance
instance (c:Nat):Decidable (HK c):=by unfold HK;infer_instance
def wK(c:Nat):Bool:=decide (Fx c∨HK c∨(c:Int)=95)
def oe:List Nat→Bool
 | []=>false
 |c::cs=>decide (cs.length<16)&&(decide (Fx c)&&cs.all wK)
theorem Ky(c:Nat):be pE 208 [.i .u8 c] []=some (.b (decide (Fx c)),[]):=by
 rw[il aeV (by simp[QM])]
 by_cases r:(97:Int)≤c
 ·by_cases D:(c:Int)≤122 <;> simp only[qA,seval,QM,r,D,Fx]
 ·simp only[qA,seval,QM,r,Fx]
theorem RQ(c:Nat):be pE 205 [.i .u8 c] []=some (.b (decide (HK c)),[]):=by
 rw[il aeU (by simp[QL])]
 by_cases r:(48:Int)≤c
 ·by_cases D:(c:Int)≤57 <;> simp only[qA,seval,QL,r,D,HK]
 ·simp only[qA,seval,QL,r,HK]
theorem Gx{s:List Nat}{k:Nat}(hk:k<s.length)(kk:IntKind):My (.s s) (.i kk (k:Int))=some (.i .u8 (s[k]:Int)):=by
 rw[MG,if_pos (Int.natCast_nonneg k),Int.toNat_natCast,List.getElem?_eq_getElem hk];rfl
theorem iO{k:Nat}(h:k<4611686018427387904):wr .i64 ((k:Int)+1)=((k+1:Nat):Int):=by rw[jw (by omega)];omega
theorem aix(s:List Nat)(hs:s.length≤16)(fr:Fr)(lh:iw b8)(sh:List b8)(I:an fr 0= .s s)(N:an fr 3= .i .i64 0):
  LpC pE 42 yf fr lh sh 0 2 (s.all wK=true) (.b false) (fun D F=>D=lh∧F=sh):=by
 refine xm QF (by simp[iT]) (fun k f D F=>an f 3= .i .i64 (k:Int)∧D=lh∧F=sh∧s.all wK=(s.drop k).all wK) s.length ⟨N,rfl,rfl,rfl⟩ ?_ ?_
 ·rintro k f _ _ hk r ⟨H,rfl,rfl,hr⟩
  have O:(k:Int)<s.length:=by omega
  have U:=iO (k:=k) (by omega)
  have J:=kq (Ky s[k])
  have K:=kq (RQ s[k])
  rw[List.drop_eq_getElem_cons hk,List.all_cons]at hr
  simp only[qB,seval,gd,yf,r,I,H,O,Gx hk,U,J,K,Ux,aqG]
  clear r J K
  unfold wK at*
  grind
 ·rintro f _ _ r ⟨H,rfl,rfl,hr⟩
  rw[List.drop_length,List.all_nil]at hr
  simp only[qB,seval,gd,yf,r,I,H,Int.lt_irrefl,hr]
theorem Kz(s:List Nat):be pE 175 [.s s] []=some (.b (oe s),[]):=by
 rw[il aeC (by simp[L6])]
 cases s with
 |nil=>simp only[qA,seval,L6,oe]
 |cons c cs=>
  have r:My (.s (c::cs)) (.i .i64 0)=some (.i .u8 (c:Int)):=by rw[MG];rfl
  have D:=kq (Ky c)
  unfold oe
  by_cases H:cs.length<16
  ·have F:=aix (c::cs) (by simp;omega)
   simp only[qB,seval,L6,r,D,Ux,F]
   clear F D
   grind [wK]
  ·simp only[qB,seval,L6,r,D,Ux]
   clear D
   grind
def chC(k:Nat)(c:Nat):Bool:=decide (Fx c)||(decide (0<k)&&wK c)
def Fy:Nat→List Nat→Bool
 |_,[]=>true
 |k,c::cs=>chC k c&&Fy (k+1) cs
theorem KA: ∀(cs:List Nat) (k:Nat),0<k→Fy k cs=cs.all wK
 | [],k,h=>rfl
 |c::cs,k,h=>by
  rw[Fy,List.all_cons,KA cs (k+1) (by omega)]
  congr 1
  unfold chC
  by_cases i:Fx c <;> simp[h,i,wK]
theorem aiy(s:List Nat)(hs:s.length≤16)(fr:Fr)(lh:iw b8)(sh:List b8)(J:an fr 0= .s s)(I:an fr 14= .i .i64 (s.length:Int))(K:an fr 15= .i .i64 0):
  LpC pE 44 yc fr lh sh 0 2 (Fy 0 s=true) (.b false) (fun D F=>D=lh∧F=sh):=by
 refine xm Qt (by simp[iT]) (fun k f D F=>an f 15= .i .i64 (k:Int)∧D=lh∧F=sh∧Fy 0 s=Fy k (s.drop k)) s.length ⟨K,rfl,rfl,rfl⟩ ?_ ?_
 ·rintro k f _ _ hk r ⟨H,rfl,rfl,hr⟩
  have N:(k:Int)<s.length:=by omega
  have O:=iO (k:=k) (by omega)
  rw[List.drop_eq_getElem_cons hk,Fy]at hr
  simp only[qB,seval,gd,yc,r,J,I,H,N,Gx hk,O]
  clear r
  unfold chC wK Fx HK at*
  grind (splits:=30)
 ·rintro f _ _ r ⟨H,rfl,rfl,hr⟩
  rw[List.drop_length,Fy]at hr
  simp only[qB,seval,gd,yc,r,I,H,Int.lt_irrefl,hr]
theorem zd(s:List Nat):be pE 133 [.s s] []=some (.b (oe s),[]):=by
 rw[il aed (by simp[Qu])]
 have D:oe s=(decide (s.length≤16)&&decide (1≤s.length)&&Fy 0 s):=by
  cases s with
  |nil=>rfl
  |cons c cs=>rw[Fy,KA cs 1 (by omega)];unfold oe chC;grind
 by_cases r:s.length≤16
 ·have i:=aiy s r
  simp only[qB,seval,Qu,i]
  clear i
  grind
 ·simp only[qB,seval,Qu]
  grind
def aiz:List (List Nat):= [[97,110,100],[111,114],[110,111,116],[105,109,112,108,105,101,115],[105,110],[116,111],[116,114,117,101],[102,97,108,115,101],[109,105,110],[109,97,120],[105,102],[116,104,101,110],[101,108,115,101]]
def aiA:List (List Nat):= [[108,101,103,115],[104,101,97,100,115],[116,121,112,101,115]]
def aiB:List (List Nat):= [[98,108,111,99,107],[115,112,97,110],[110,105,103,104,116],[108,111,110,103,101,115,116],[115,104,111,114,116,101,115,116],[115,104,105,102,116]]
def aiC:List (List Nat):= [[115,116,97,114,116],[101,110,100]]
def WG:List (List Nat):= [[100,117,116,105,101,115],[108,101,103,115],[104,101,97,100,115],[100,97,121,115]]
def WH:List (List Nat):= [[98,108,111,99,107],[115,112,97,110],[99,114,101,100,105,116]]
def kb:List (List Nat):= [[108,101,103,115],[104,101,97,100,115],[116,121,112,101,115],[98,108,111,99,107],[115,112,97,110],[110,105,103,104,116],[108,111,110,103,101,115,116],[115,104,111,114,116,101,115,116],[115,104,105,102,116],[115,116,97,114,116],[101,110,100]]
def my:List (List Nat):= [[114,101,115,116],[110,105,103,104,116,115],[104,111,109,101],[98,101,102,111,114,101,46,108,101,103,115],[98,101,102,111,114,101,46,104,101,97,100,115],[98,101,102,111,114,101,46,116,121,112,101,115],[98,101,102,111,114,101,46,98,108,111,99,107],[98,101,102,111,114,101,46,115,112,97,110],[98,101,102,111,114,101,46,110,105,103,104,116],[98,101,102,111,114,101,46,108,111,110,103,101,115,116],[98,101,102,111,114,101,46,115,104,111,114,116,101,115,116],[98,101,102,111,114,101,46,115,104,105,102,116],[98,101,102,111,114,101,46,115,116,97,114,116],[98,101,102,111,114,101,46,101,110,100],[97,102,116,101,114,46,108,101,103,115],[97,102,116,101,114,46,104,101,97,100,115],[97,102,116,101,114,46,116,121,112,101,115],[97,102,116,101,114,46,98,108,111,99,107],[97,102,116,101,114,46,115,112,97,110],[97,102,116,101,114,46,110,105,103,104,116],[97,102,116,101,114,46,108,111,110,103,101,115,116],[97,102,116,101,114,46,115,104,111,114,116,101,115,116],[97,102,116,101,114,46,115,104,105,102,116],[97,102,116,101,114,46,115,116,97,114,116],[97,102,116,101,114,46,101,110,100]]
def qQ:List (List Nat):= [[100,117,116,105,101,115],[108,101,103,115],[104,101,97,100,115],[100,97,121,115],[98,108,111,99,107],[115,112,97,110],[99,114,101,100,105,116]]
def WI(s:List Nat):Bool:=decide (s∈aiz)
def og(s:List Nat):Bool:=oe s&& !WI s
def ze(s:List Nat):Int:=if s∈aiA then 1 else if s∈aiB then 2 else if s∈aiC then 3 else 0
def Gy(s:List Nat):Int:=if s∈WG then 1 else if s∈WH then 2 else 0
def WJ:List Nat:= [98,101,102,111,114,101,46]
def ZE:List Nat:= [97,102,116,101,114,46]
def uM(p s:List Nat):Prop:=p.length≤s.length∧s.take p.length=p
instance (p s:List Nat):Decidable (uM p s):=by unfold uM;infer_instance
def Gz(s:List Nat):Int:=if s= [114,101,115,116]then 2 else if s= [110,105,103,104,116,115]then 1 else if s= [104,111,109,101]then 4 else if uM WJ s then ze (s.drop 7)else if uM ZE s then ze (s.drop 6)else 0
def lX(scope:Int)(s:List Nat):Int:=if scope=1 then ze s else if scope=2 then Gz s else if scope=3 then Gy s else 0
theorem ach(s:List Nat):be pE 212 [.s s] []=some (.b (WI s),[]):=by
 rw[il aeZ (by simp[Ua])]
 simp only[qB,seval,Ua,WI,aiz,List.mem_cons,List.not_mem_nil,or_false]
 grind (splits:=40)
theorem zg(s:List Nat):be pE 143 [.s s] []=some (.i .i64 (ze s),[]):=by
 rw[il aen (by simp[TV])]
 simp only[qB,seval,TV,ze,aiA,aiB,aiC,List.mem_cons,List.not_mem_nil,or_false]
 grind (splits:=40)
theorem WK(s:List Nat):be pE 145 [.s s] []=some (.i .i64 (Gy s),[]):=by
 rw[il aep (by simp[TW])]
 simp only[qB,seval,TW,Gy,WG,WH,List.mem_cons,List.not_mem_nil,or_false]
 grind (splits:=40)
theorem aci(s:List Nat):be pE 176 [.s s] []=some (.b (WI s),[]):=by
 rw[il aeE (by simp[T0])]
 simp only[qB,seval,oc,repl,T0,B9,N7,WI,aiz,List.mem_cons,List.not_mem_nil,or_false]
 grind (splits:=40)
theorem sO(s:List Nat):be pE 179 [.s s] []=some (.b (og s),[]):=by
 rw[il aeI (by simp[T2])]
 cases h:oe s <;> simp only[qA,seval,T2,zd,ach,JJ,aqJ,h,og]
theorem qy(s:List Nat):be pE 130 [.s s] []=some (.b (og s),[]):=by
 rw[il aea (by simp[TM])]
 cases h:oe s <;> simp only[qA,seval,TM,Kz,aci,aeD,aqB,h,og]
theorem GA(s p:List Nat):be pE 228 [.s s,.s p] []=some (.b (decide (uM p s)),[]):=by
 rw[il ae6 (by simp[QR])]
 by_cases h:p.length≤s.length
 ·have i:(p.length:Int)≤s.length:=by omega
  simp only[qA,seval,DN,QR,h,i,uM,Nat.sub_zero]
 ·have i: ¬(p.length:Int)≤s.length:=by omega
  simp only[qA,seval,QR,h,i,uM]
theorem GB(s p:List Nat):be pE 183 [.s s,.s p] []=some (if uM p s then .tup [.s (s.drop p.length),.b true]else .tup [.s s,.b false],[]):=by
 rw[il aeN (by simp[T4])]
 have i:be pE 215 [.s s,.s p] []=some (if uM p s then .tup [.s (s.drop p.length),.b true]else .tup [.s s,.b false],[]):=by
  rw[il ae2 (by simp[QQ])]
  by_cases h:uM p s
  ·have r:p.length≤s.length:=h.1
   have D:List.take (s.length-p.length) (s.drop p.length)=s.drop p.length:=List.take_of_length_le (by simp)
   simp only[qA,seval,DN,QQ,GA,ae7,h,r,D]
  ·simp only[qA,seval,QQ,GA,ae7,h]
 by_cases h:uM p s <;> simp only[h]at i <;> simp only[qA,seval,T4,i,aqM,h]
theorem WL(s:List Nat):be pE 144 [.s s] []=some (.i .i64 (Gz s),[]):=by
 by_cases F:s= [114,101,115,116]
 ·subst F;exact mS (m:=100) (mP (by kernel_rfl))
 ·by_cases H:s= [110,105,103,104,116,115]
  ·subst H;exact mS (m:=100) (mP (by kernel_rfl))
  ·by_cases I:s= [104,111,109,101]
   ·subst I;exact mS (m:=100) (mP (by kernel_rfl))
   ·have r:=GB s WJ
    have D:=GB s ZE
    have N:WJ.length=7:=rfl
    have O:ZE.length=6:=rfl
    rw[Gz,if_neg F,if_neg H,if_neg I]
    rw[il aeo (by simp[L4])]
    rw[N]at r
    rw[O]at D
    by_cases J:uM WJ s
    ·rw[if_pos J]at r
     unfold WJ at r
     simp only[qA,seval,L4,F,H,I,r,zg,Uv,Oc,J]
    ·rw[if_neg J]at r
     by_cases K:uM ZE s
     ·rw[if_pos K]at D
      unfold WJ at r
      unfold ZE at D
      simp only[qA,seval,L4,F,H,I,r,D,zg,Uv,Oc,J,K]
     ·rw[if_neg K]at D
      unfold WJ at r
      unfold ZE at D
      simp only[qA,seval,L4,F,H,I,r,D,zg,Uv,Oc,J,K]
def DW(scope:Int)(s:List Nat):Int:=if lX scope s=0 then 6 else 0
theorem KB(scope:Int)(s:List Nat):be pE 90 [.i .i64 scope,.s s] []=some (.tup [.i .i64 (lX scope s),.i .i64 (DW scope s)],[]):=by
 rw[il ap4 (by simp[c90])]
 by_cases r:scope=1
 ·by_cases h:ze s=0 <;> simp only[qA,seval,c90,r,DW,lX,zg,Oc,h]
 ·by_cases D:scope=2
  ·by_cases h:Gz s=0 <;> simp only[qA,seval,c90,D,DW,lX,WL,aqu,h]
  ·by_cases F:scope=3
   ·by_cases h:Gy s=0 <;> simp only[qA,seval,c90,F,DW,lX,WK,aqv,h]
   ·simp only[qA,seval,c90,r,D,F,DW,lX]
def strs(l:List (List Nat)):List T:=l.map T.s
theorem KC(l:List (List Nat)):(strs l).length=l.length:=by simp[strs]
theorem RR(l:List (List Nat))(k:Nat)(hk:k<l.length):(strs l).drop k=T.s l[k]::(strs l).drop (k+1):=by
 rw[List.drop_eq_getElem_cons (by rw[KC];exact hk)];simp[strs]
theorem WM(s:List Nat):uM WJ s↔(7≤s.length∧s.take 7=WJ):=Iff.rfl
theorem WN(s:List Nat):uM ZE s↔(6≤s.length∧s.take 6=ZE):=Iff.rfl
def oW:List Nat→Option Nat
 | []=>none
 |c::cs=>if c=46 then some 0 else(oW cs).map (· +1)
def tH(s:List Nat):Bool:=match oW s with
 |none=>og s
 |some i=>oe (s.take i)&&oe (s.drop (i+1))
def lF(op:Int)(n:Nat):Bool:=
 if op≤6 then decide (n=0)else if op=7∨op=19 then decide (n=1)else if op=12∨op=13 then decide (2≤n)
 else if op=14∨op=15 then decide (n=3)else decide (n=2)
def DX(op:Int):Int:=if op=1∨op=2 then 1099511627776 else if op=3 then 1439 else 0
def tI(op num:Int)(name:List Nat)(n:Nat):Bool:=
 decide (1≤op)&&(decide (op≤22)&&(lF op n&&(decide (0≤num∧num≤DX op)&&(if op=6 then tH name else decide (name= [])))))
mutual
def Ex.wf:Ex→Bool
 | .mk op num name args=>tI op num name args.length&&BV args
def BV:List Ex→Bool
 | []=>true
 |x::xs=>x.wf&&BV xs
end
theorem Ex.wf_eq(x:Ex):x.wf=(tI x.op x.num x.name x.args.length&&BV x.args):=by obtain⟨_,_,_,_⟩:=x;rw[Ex.wf];rfl
theorem HL: ∀{xs:List Ex},BV xs=true↔ ∀x∈xs,x.wf=true
 | []=>by simp[BV]
 |x::xs=>by rw[BV,Bool.and_eq_true,HL (xs:=xs)];simp
def big(x:Ex):Prop:=200<x.nodes∨16<x.depth
instance (x:Ex):Decidable (big x):=by unfold big;infer_instance
def jy(x:Ex):Int:=if big x then 10 else if x.wf then 0 else 1
def oh(ts:List Int)(k:Int):Bool:=ts.all fun t=>decide (t=k)
def KD(op a b:Int):Int:=
 if a=1∧b=1 then 1 else if a=2∧b=1 then 2 else if op=10∧a=1∧b=2 then 2 else if op=11∧a=2∧b=2 then 1 else 0
def a0(ts:List Int):Int:=ts.getD 0 0
def a1(ts:List Int):Int:=ts.getD 1 0
def a2(ts:List Int):Int:=ts.getD 2 0
def tJ(op:Int)(ts:List Int):Int:=
 if op=1 then 1 else if op=2 then 2 else if op=3 then 3 else if op=4 then 4 else if op=5 then 4
 else if op=7∨op=8∨op=9∨op=12∨op=13 then(if oh ts 1 then 1 else if oh ts 2 then 2 else 0)
 else if op=10∨op=11 then KD op (a0 ts) (a1 ts)
 else if op=14 then(if a0 ts=4∧a1 ts=a2 ts then a1 ts else 0)
 else if op=15 then(if oh ts 3 then 4 else 0)
 else if op=16∨op=17 then(if(a0 ts=1∨a0 ts=2)∧a0 ts=a1 ts then 4 else 0)
 else if op=18 then(if a0 ts=a1 ts then 4 else 0)
 else(if oh ts 4 then 4 else 0)
mutual
def Ex.ty(cl:List Nat→Int×Int)(scope:Int):Ex→Int×Int
 | .mk op _ name args=>
   if op=6 then(if lX scope name≠0 then(lX scope name,0)else cl name)
   else match se cl scope args with
    | .error e=>(0,e)
    | .ok ts=>if tJ op ts=0 then(0,9)else(tJ op ts,0)
def se(cl:List Nat→Int×Int)(scope:Int):List Ex→Except Int (List Int)
 | []=> .ok []
 |x::xs=>if(x.ty cl scope).2≠0 then .error (x.ty cl scope).2 else match se cl scope xs with
  | .error e=> .error e
  | .ok ts=> .ok ((x.ty cl scope).1::ts)
end
theorem Ex.ty_eq(cl:List Nat→Int×Int)(scope:Int)(x:Ex):x.ty cl scope=
  if x.op=6 then(if lX scope x.name≠0 then(lX scope x.name,0)else cl x.name)
  else match se cl scope x.args with
   | .error e=>(0,e)
   | .ok ts=>if tJ x.op ts=0 then(0,9)else(tJ x.op ts,0):=by obtain⟨_,_,_,_⟩:=x;rw[Ex.ty];rfl
abbrev Cs:=List (List Nat×Ex)
def oX:Cs→List Nat→Option Nat
 | [],_=>none
 |c::cs,s=>if c.1=s then some 0 else(oX cs s).map (· +1)
def clk(l:Cs)(IJ:List (Int×Int))(s:List Nat):Int×Int:=match oX l s with
 |none=>(0,6)
 |some i=>IJ.getD i (0,6)
def MR(l:Cs)(IJ:List (Int×Int))(x:Ex):Int×Int:=if jy x≠0 then(0,jy x)else x.ty (clk l IJ) 0
def pL(l:Cs):Nat→List (Int×Int)
 |0=> []
 |n+1=>pL l n++ [MR (l.take n) (pL l n) (l.getD n ([],.mk 0 0 [] [])).2]
def BC(l:Cs)(scope:Int)(x:Ex):Int×Int:=if jy x≠0 then(0,jy x)else x.ty (clk l (pL l l.length)) scope
def isLit(x:Ex):Bool:=match x with
 | .mk op _ _ args=>decide (op=1∨op=2∨op=3∨op=4∨op=5)||(decide (op=7)&&(match args with|y::_=>decide (y.op=1∨y.op=2)| []=>false))
def acj(x:Ex):Int:=match x with
 | .mk op num _ args=>if op=4 then 1 else if op=5 then 0 else if op=7 then(match args with|y::_=> -y.num| []=>0)else num
def nQ(op num:Int):Ex:= .mk op num [] []
def wc(k n:Int):Ex:=
 if k=4 then(if n=0 then nQ 5 0 else nQ 4 0)else if k=3 then nQ 3 n
 else if n<0 then .mk 7 0 [] [nQ (if k=2 then 2 else 1) (-n)]else nQ (if k=2 then 2 else 1) n
def jD(n:Int):Int:=max (-1099511627776) (min 1099511627776 n)
def WO(a b:Int):Int:=if b=0 then 0 else jD (Int.fdiv a b)
def nn(c f t:Int):Bool:=if f≤t then decide (f≤c∧c<t)else decide (f≤c∨c<t)
def qR(b:Bool):Int:=if b then 1 else 0
def aiD:Int→List Int→Int
 |m,[]=>m
 |m,v::i=>aiD (min m v) i
def aiE:Int→List Int→Int
 |m,[]=>m
 |m,v::i=>aiE (max m v) i
def SY(op:Int)(i:List Int):Int:=
 if op=7 then-a0 i else if op=8 then jD (a0 i+a1 i)else if op=9 then jD (a0 i-a1 i)else if op=10 then jD (a0 i*a1 i)
 else if op=11 then WO (a0 i) (a1 i)else if op=12 then aiD (a0 i) i.tail else if op=13 then aiE (a0 i) i.tail
 else if op=14 then(if a0 i=0 then a2 i else a1 i)else if op=15 then qR (nn (a0 i) (a1 i) (a2 i))
 else if op=16 then qR (decide (a0 i<a1 i))else if op=17 then qR (decide (a0 i≤a1 i))else if op=18 then qR (decide (a0 i=a1 i))
 else if op=19 then 1-a0 i else if op=20 then min (a0 i) (a1 i)else if op=21 then max (a0 i) (a1 i)else max (1-a0 i) (a1 i)
def WQ(x:Ex):Bool:=decide (x.op=1∨x.op=2)&&decide (x.num=0)
def aiF(x:Ex):Bool:=decide (x.op=1)&&decide (x.num=1)
def asG(op:Int)(i:List Ex):Ex:=
 match i with
 | [a]=>if op=19∧a.op=19 then a.args.headD (nQ 0 0)else .mk op 0 [] i
 | [a,b]=>
   if op=20 then(if a.op=5∨b.op=5 then nQ 5 0 else if a.op=4 then b else if b.op=4 then a else .mk op 0 [] i)
   else if op=21 then(if a.op=4∨b.op=4 then nQ 4 0 else if a.op=5 then b else if b.op=5 then a else .mk op 0 [] i)
   else if op=22 then(if a.op=5∨b.op=4 then nQ 4 0 else if a.op=4 then b else if b.op=5 then(if a.op=19 then a.args.headD (nQ 0 0)else .mk 19 0 [] [a])else .mk op 0 [] i)
   else if op=8 then(if WQ b then a else if WQ a then b else .mk op 0 [] i)
   else if op=9 then(if WQ b then a else .mk op 0 [] i)
   else if op=10 then(if aiF b then a else if aiF a then b else .mk op 0 [] i)
   else if op=11 then(if aiF b then a else .mk op 0 [] i)
   else .mk op 0 [] i
 | [a,b,c]=>if op=14 then(if a.op=4 then b else if a.op=5 then c else .mk op 0 [] i)else .mk op 0 [] i
 |_=> .mk op 0 [] i
mutual
def Ex.fold(cl:List Nat→Int×Int)(cx:List Nat→Ex)(scope:Int):Ex→Ex
 | .mk op num name args=>
   if op=6 then(if lX scope name≠0 then .mk op num name args else cx name)
   else if args.isEmpty then .mk op num name args
   else if(rJ cl cx scope args).all isLit then wc ((Ex.mk op num name args).ty cl scope).1 (SY op ((rJ cl cx scope args).map acj))
   else asG op (rJ cl cx scope args)
def rJ(cl:List Nat→Int×Int)(cx:List Nat→Ex)(scope:Int):List Ex→List Ex
 | []=> []
 |x::xs=>x.fold cl cx scope::rJ cl cx scope xs
end
theorem pM{k:Nat}(h:k≤1000000):wr .i64 ((k:Int)+1)=((k+1:Nat):Int):=iO (Nat.lt_of_le_of_lt h (by decide))
theorem ack{a b:Nat}(i:a≤1000000)(r:b≤1000000):wr .i64 ((a:Int)+b)=((a+b:Nat):Int):=by
 rw[jw (by omega)];omega
def qz:Nat:=1000000
theorem oi{k:Nat}(h:k≤100000):k≤qz:=Nat.le_trans h (by decide)
theorem ji{k:Nat}(h:k≤qz):wr .i64 ((k:Int)+1)=((k+1:Nat):Int):=pM h
def oY:Nat:=1125899906842624
theorem acm{k:Nat}(h:k≤100000):k≤oY:=Nat.le_trans h (by decide)
theorem DY{k:Nat}(h:k≤oY):wr .i64 ((k:Int)+1)=((k+1:Nat):Int):=iO (Nat.lt_of_le_of_lt h (by decide))
def DZ(n:Nat):List b8:= [⟨1,.cells [.i .i64 (n:Int)] 0 true⟩]
def kF(n level:Nat)(x:Ex):Prop:=n+x.nodes≤200∧level+x.depth≤17
def jo(n level:Nat)(xs:List Ex):Prop:=n+jP xs≤200∧level+oU xs≤17
instance (n level:Nat) (x:Ex):Decidable (kF n level x):=by unfold kF;infer_instance
instance (n level:Nat) (x:List Ex):Decidable (jo n level x):=by unfold jo;infer_instance
theorem vN{xs:List Ex}{k:Nat}(hk:k<xs.length):xs.drop k=xs[k]::xs.drop (k+1):=List.drop_eq_getElem_cons hk
def asH(level n:Nat)(a:T)(xs:List Ex)(k:Nat)(st:St):Prop:=
 ∃fr lh m,st=⟨fr,lh,DZ m⟩∧an fr 1= .i .i64 (level:Int)∧an fr 2= .ptr .S 0 1 0∧an fr 23=a∧an fr 24= .i .i64 (xs.length:Int)∧an fr 25= .i .i64 (k:Int)∧
  k≤m∧m≤200∧(jo m (level+1) (xs.drop k)↔jo n (level+1) xs)∧(jo n (level+1) xs→m+jP (xs.drop k)=n+jP xs)
def afx(y:Ex):Prop:= ∀(level n:Nat) (cs:List T),mU y cs→n≤200→level≤17→ ∃r:Nat,be pE 180 [.agg cs,.i .i64 (level:Int),.ptr .S 0 1 0] (DZ n)=some (.b (decide (kF n level y)),DZ r)∧(kF n level y→r=n+y.nodes)
theorem asI(xs:List Ex)(ih: ∀y∈xs,afx y)(a:T)(W:List T)(ha:IsSl a xs.length W)(hx:ku xs W)(level n:Nat)(hl:level≤16)(hn:n≤200)(o:Out)(X:o=if jo n (level+1) xs then .ext 0 else .ret)(fr:Fr)(lh:iw b8)(sh:List b8)(lQ:sh=DZ n)
  (J:an fr 1= .i .i64 (level:Int)) (K:an fr 2= .ptr .S 0 1 0) (F:an fr 23=a) (D:an fr 24= .i .i64 (xs.length:Int)) (H:an fr 25= .i .i64 0):
  wJ 36 rh fr lh sh o∧
  ((jo n (level+1) xs→ow pE 36 rh fr lh sh=DZ (n+jP xs))∧(¬jo n (level+1) xs→an (tD pE 36 rh fr lh sh) 6= .b false∧ ∃m,ow pE 36 rh fr lh sh=DZ m)):=by
 refine jH (P:=fun fr lh sh=>(jo n (level+1) xs→sh=DZ (n+jP xs))∧(¬jo n (level+1) xs→an fr 6= .b false∧ ∃m,sh=DZ m)) (j6 (asH level n a xs) _ xs.length ?_ ?_ 0 _ (Nat.zero_le _) ⟨fr,lh,n,by rw[lQ],J,K,F,D,H,Nat.zero_le _,hn,Iff.rfl,fun _=>rfl⟩)
 ·rintro k _ hk ⟨fr,lh,m,rfl,J,K,F,D,H,WR,Y,N,hs⟩
  have Z:(k:Int)<xs.length:=by omega
  have Oq:=xs[k].nodes_eq
  have hw:=pM (k:=k) (by omega)
  have GC:=pM (k:=level) (by omega)
  obtain⟨b,cb,r,je,mZ,sg,hb⟩:=rY ha hx k hk
  obtain⟨m',U,V⟩:=ih xs[k] (List.getElem_mem hk) (level+1) m _ hb Y (by omega)
  rw[vN hk]at N hs
  simp only[jo,jP,oU]at N hs
  by_cases O:kF m (level+1) xs[k]
  ·left
   rw[decide_eq_true O]at U
   simp only[qA,seval,j2,rh,J,K,F,D,H,Z,je,hw,GC,U,Od,mZ.kept1]
   refine⟨_,rfl,_,_,m',rfl, ?_, ?_, ?_, ?_, ?_, ?_, ?_, ?_, ?_⟩
   all_goals first|(simp only[qA,seval,J,K,F,D];done)|skip
   all_goals (rw[V O];unfold kF at O;first|omega|(simp only[jo];omega)|(intro hc;have:=hs (by simpa only[jo]using hc);omega))
  ·right
   rw[decide_eq_false O]at U
   simp only[qA,seval,j2,rh,J,K,F,D,H,Z,je,GC,U,Od,mZ.kept1]
   have xP: ¬jo n (level+1) xs:=by unfold kF at O;unfold jo;omega
   refine⟨_,_,Ud,rfl, ?_,fun hc=>absurd hc xP,fun _=>⟨by simp only[qA,seval],m',rfl⟩⟩
   rw[X,if_neg xP]
 ·rintro _ ⟨fr,lh,m,rfl,J,K,F,D,H,WR,Y,N,hs⟩
  rw[List.drop_length]at N hs
  have I:jo n (level+1) xs:=N.1 (by unfold jo;rw[jP,oU];omega)
  simp only[qA,seval,rh,D,H,Int.lt_irrefl]
  refine⟨_,_,uC,rfl,by rw[X,if_pos I],fun _=> ?_,fun hc=>absurd I hc⟩
  have:=hs I
  rw[jP,Nat.add_zero]at this
  rw[this]
theorem aco(x:Ex):afx x:=by
 induction x using Ex.ind with
 |h x ih=>
  intro level n cs hx hn hl
  obtain⟨a,V,rfl,U,KE⟩:=hx.cells
  rw[il aeJ (by simp[JC])]
  have J:=pM (k:=n) (by omega)
  have W:=x.nodes_eq
  have Y:=x.depth_eq
  unfold DZ
  by_cases D:(200:Int)<((n+1:Nat):Int)
  ·have r: ¬kF n level x:=by unfold kF;omega
   rw[decide_eq_false r]
   simp only[qA,seval,jm,JC,J,D]
   exact⟨n+1,rfl,fun h=>absurd h r⟩
  ·by_cases F:(16:Int)<(level:Int)
   ·have r: ¬kF n level x:=by unfold kF;omega
    rw[decide_eq_false r]
    simp only[qA,seval,jm,JC,J,D,F]
    exact⟨n+1,rfl,fun h=>absurd h r⟩
   ·have KF:kF n level x↔jo (n+1) (level+1) x.args:=by unfold kF jo;omega
    have H:=fun fr lh sh I=>asI x.args ih a V U KE level (n+1) (by omega) (by omega) _ rfl fr lh sh I
    unfold DZ at H
    by_cases r:jo (n+1) (level+1) x.args
    ·rw[decide_eq_true (KF.2 r)]
     simp only[r,if_true,forall_const,not_true_eq_false,false_implies,and_true]at H
     simp only[qA,seval,jm,JC,J,D,F,U.lenI,H]
     exact⟨n+1+jP x.args,rfl,fun _=>by omega⟩
    ·rw[decide_eq_false (fun h=>r (KF.1 h))]
     simp only[r,if_false,forall_const,not_false_eq_true,false_implies,true_and]at H
     have ZF:=fun fr lh sh I D F K N O=>(H fr lh sh I D F K N O).2.2
     have KG:=fun fr lh sh I D F K N O=>And.intro (H fr lh sh I D F K N O).1 (H fr lh sh I D F K N O).2.1
     simp only[qA,seval,jm,JC,J,D,F,U.lenI,KG]
     generalize Z:ow _ _ _ _ _ _=X
     obtain⟨m,hm⟩: ∃m:Nat,X= [⟨1,.cells [.i .i64 (m:Int)] 0 true⟩]:=by
      rw[←Z]
      refine ZF _ _ _ rfl ?_ ?_ ?_ ?_ ?_ <;> simp only[qA,seval]
     rw[hm]
     exact⟨m,rfl,fun h=>absurd (KF.1 h) r⟩
mutual
def Ex.sz:Ex→Nat→Nat×Nat
 | .mk _ _ _ args,level=>if 16<level then(1,1)else Ch args level (1,1)
def Ch:List Ex→Nat→Nat×Nat→Nat×Nat
 | [],_,p=>p
 |x::xs,level,p=>if p.1≤200 then Ch xs level (p.1+(x.sz (level+1)).1,max p.2 ((x.sz (level+1)).2+1))else p
end
theorem Ex.sz_eq(x:Ex)(level:Nat):x.sz level=if 16<level then(1,1)else Ch x.args level (1,1):=by obtain⟨_,_,_,_⟩:=x;rw[Ex.sz];rfl
theorem aiH{xs:List Ex}{level:Nat}(ih: ∀y∈xs,(y.sz (level+1)).1≤1+200*(17-(level+1))∧(y.sz (level+1)).2≤18-(level+1))(r:level≤16): ∀p:Nat×Nat,p.1≤1+200*(17-level)→p.2≤18-level→(Ch xs level p).1≤1+200*(17-level)∧(Ch xs level p).2≤18-level:=by
 induction xs with
 |nil=>grind [Ch]
 |cons y D Ve=>
  intro p F H
  rw[Ch]
  have I:=ih y (by simp)
  split
  ·refine Ve (fun z i=>ih z (by simp[i])) _ ?_ ?_ <;> simp only <;> omega
  ·grind
theorem asJ(x:Ex): ∀level,level≤17→(x.sz level).1≤1+200*(17-level)∧(x.sz level).2≤18-level:=by
 induction x using Ex.ind with
 |h x ih=>
  intro level r
  rw[Ex.sz_eq]
  split
  ·grind
  ·exact aiH (fun y i=>ih y i (level+1) (by omega)) (by omega) _ (by simp only;omega) (by simp only;omega)
theorem aiI(x:Ex){level:Nat}(h:level≤17):(x.sz level).1≤4000∧(x.sz level).2≤18:=by
 grind [asJ]
theorem D0: ∀(xs:List Ex) (level:Nat) (p:Nat×Nat),p.1≤(Ch xs level p).1∧p.2≤(Ch xs level p).2
 | [],level,p=>by rw[Ch];simp
 |x::xs,level,p=>by
  rw[Ch]
  split
  ·have:=D0 xs level (p.1+(x.sz (level+1)).1,max p.2 ((x.sz (level+1)).2+1))
   grind
  ·simp
def asK(x:Ex):Prop:= ∀level,level≤17→if kF 0 level x then x.sz level=(x.nodes,x.depth)else 200<(x.sz level).1∨17<level+(x.sz level).2
theorem aiJ{xs:List Ex}{level:Nat}(ih: ∀y∈xs,asK y)(N:level≤16): ∀p:Nat×Nat,1≤p.2→p.1≤200→
  if jo p.1 (level+1) xs then Ch xs level p=(p.1+jP xs,max p.2 (oU xs+1))else 200<(Ch xs level p).1∨17<level+(Ch xs level p).2:=by
 induction xs with
 |nil=>
  grind [jo,jP,oU,Ch,Nat.max_eq_left]
 |cons y r Ve=>
  intro p O I
  have H:=ih y (by simp) (level+1) (by omega)
  have ZA:=Ve fun z J=>ih z (by simp[J])
  have WS:=D0 r level (p.1+(y.sz (level+1)).1,max p.2 ((y.sz (level+1)).2+1))
  rw[Ch,if_pos I]
  by_cases D:kF 0 (level+1) y
  ·rw[if_pos D]at H
   rw[H]at WS ⊢
   simp only at WS ⊢
   by_cases K:p.1+y.nodes≤200
   ·have:=ZA (p.1+y.nodes,max p.2 (y.depth+1)) (by simp only;omega) K
    simp only at this
    by_cases F:jo (p.1+y.nodes) (level+1) r
    ·rw[if_pos F]at this
     have i:jo p.1 (level+1) (y::r):=by unfold jo at F ⊢; unfold kF at D;rw[jP,oU];omega
     rw[if_pos i,this,jP,oU]
     refine Prod.ext ?_ ?_ <;> simp only <;> omega
    ·rw[if_neg F]at this
     have i: ¬jo p.1 (level+1) (y::r):=by unfold jo at F ⊢; unfold kF at D;rw[jP,oU];omega
     rw[if_neg i];exact this
   ·have i: ¬jo p.1 (level+1) (y::r):=by unfold jo;rw[jP,oU];omega
    rw[if_neg i];omega
  ·rw[if_neg D]at H
   have i: ¬jo p.1 (level+1) (y::r):=by unfold jo;unfold kF at D;rw[jP,oU];omega
   rw[if_neg i]
   simp only at WS;omega
theorem asL(x:Ex):asK x:=by
 induction x using Ex.ind with
 |h x ih=>
  intro level H
  have D:=x.nodes_eq
  have F:=x.depth_eq
  rw[Ex.sz_eq]
  by_cases h:16<level
  ·grind [kF]
  ·rw[if_neg h]
   have:=aiJ ih (level:=level) (by omega) (1,1) (by simp) (by simp)
   simp only at this
   by_cases i:jo 1 (level+1) x.args
   ·rw[if_pos i]at this
    have r:kF 0 level x:=by unfold jo at i;unfold kF;omega
    rw[if_pos r,this]
    refine Prod.ext ?_ ?_ <;> simp only <;> omega
   ·rw[if_neg i]at this
    have r: ¬kF 0 level x:=by unfold jo at i;unfold kF;omega
    rw[if_neg r];exact this
theorem aiK(x:Ex):(200<(x.sz 1).1∨16<(x.sz 1).2)↔big x:=by
 have:=asL x 1 (by omega)
 grind [big,kF]
def szP(y:Ex):Prop:= ∀(level:Nat) (cs:List T),mU y cs→level≤17→be pE 209 [.agg cs,.i .i64 (level:Int)] []=some (.tup [.i .i64 ((y.sz level).1:Int),.i .i64 ((y.sz level).2:Int)],[])
theorem asM(xs:List Ex)(ih: ∀y∈xs,szP y)(a:T)(cc:List T)(U:IsSl a xs.length cc)(hx:ku xs cc)(level:Nat)(hl:level≤16)(op num:Int)(s:List Nat)(g:Nat)(fr:Fr)(lh:iw b8)(sh:List b8)
  (J:an fr 1= .i .i64 (level:Int)) (F:an fr 2= .ptr .L 2 g 0) (I:an fr 6= .i .i64 1) (K:an fr 7= .i .i64 1) (N:an fr 8= .i .i64 0) (W:b7 lh 2=⟨g,.cells [.i .i64 op,.i .i64 num,.s s,a] 0 true⟩):
  wJ 44 pd fr lh sh (.ext 0)∧
  (an (tD pE 44 pd fr lh sh) 6= .i .i64 ((Ch xs level (1,1)).1:Int)∧an (tD pE 44 pd fr lh sh) 7= .i .i64 ((Ch xs level (1,1)).2:Int)∧nU pE 44 pd fr lh sh=lh∧ow pE 44 pd fr lh sh=sh):=by
 refine jH (P:=fun fr iU iX=>an fr 6= .i .i64 ((Ch xs level (1,1)).1:Int)∧an fr 7= .i .i64 ((Ch xs level (1,1)).2:Int)∧iU=lh∧iX=sh) (j6 (fun k st=> ∃(fr:Fr) (p:Nat×Nat),st=⟨fr,lh,sh⟩∧an fr 1= .i .i64 (level:Int)∧an fr 2= .ptr .L 2 g 0∧an fr 6= .i .i64 (p.1:Int)∧an fr 7= .i .i64 (p.2:Int)∧an fr 8= .i .i64 (k:Int)∧
   Ch (xs.drop k) level p=Ch xs level (1,1)∧k≤p.1∧p.2≤19∧p.1≤4300) _ xs.length ?_ ?_ 0 _ (Nat.zero_le _) ⟨fr,(1,1),rfl,J,F,I,K,N,rfl,by simp,by simp,by simp⟩)
 ·rintro k _ hk ⟨fr,p,rfl,J,F,I,K,N,D,hp,Y,Z⟩
  have iW:(k:Int)<xs.length:=by omega
  obtain⟨b,cb,r,je,mZ,sg,hb⟩:=rY U hx k hk
  have im:=ih xs[k] (List.getElem_mem hk) (level+1) _ hb (by omega)
  have wG:=aiI xs[k] (level:=level+1) (by omega)
  have xe:1≤(xs[k].sz (level+1)).1:=by
   rw[Ex.sz_eq];split
   ·simp
   ·exact(D0 xs[k].args (level+1) (1,1)).1
  rw[vN hk,Ch]at D
  generalize xs[k].sz (level+1)=q at im wG xe D
  obtain⟨hq1,hq2⟩:=wG
  by_cases X:p.1≤200
  ·left
   have H:(p.1:Int)≤200:=by omega
   have hw:=pM (k:=k) (Nat.le_trans hp (Nat.le_trans X (by decide)))
   have GC:=pM (k:=level) (Nat.le_trans hl (by decide))
   have V:=pM (k:=q.2) (Nat.le_trans hq2 (by decide))
   have ZG:=ack (a:=p.1) (b:=q.1) (Nat.le_trans X (by decide)) (Nat.le_trans hq1 (by decide))
   rw[if_pos X]at D
   by_cases O:(p.2:Int)<((q.2+1:Nat):Int)
   ·have aFb:(p.2:Int)<((q.2+1:Nat):Int):=O
    simp only[qA,seval,pd,J,F,I,K,N,W,iW,U.lenI,H,je,hw,GC,V,ZG,im,Uy,mZ.froz1,O]
    refine⟨_,rfl,_,(p.1+q.1,q.2+1),rfl, ?_, ?_, ?_, ?_, ?_, ?_, ?_, ?_, ?_⟩
    all_goals first|(simp only[qA,seval,J,F];done)|skip
    ·grind
    all_goals (simp only;omega)
   ·simp only[qA,seval,pd,J,F,I,K,N,W,iW,U.lenI,H,je,hw,GC,V,ZG,im,Uy,mZ.froz1,O]
    refine⟨_,rfl,_,(p.1+q.1,p.2),rfl, ?_, ?_, ?_, ?_, ?_, ?_, ?_, ?_, ?_⟩
    all_goals first|(simp only[qA,seval,J,F];done)|skip
    ·grind
    all_goals (simp only;omega)
  ·right
   have H: ¬(p.1:Int)≤200:=by omega
   rw[if_neg X]at D
   simp only[qA,seval,pd,F,I,N,W,iW,U.lenI,H]
   exact⟨_,_,uC,rfl,rfl,by simp only[qA,seval,I,←D],by simp only[qA,seval,K,←D],rfl,rfl⟩
 ·rintro _ ⟨fr,p,rfl,J,F,I,K,N,D,hp,Y,Z⟩
  rw[List.drop_length,Ch]at D
  simp only[qA,seval,pd,F,N,W,U.lenI,Int.lt_irrefl]
  exact⟨_,_,uC,rfl,rfl,by simp only[qA,seval,I,←D],by simp only[qA,seval,K,←D],rfl,rfl⟩
end Go.Proofs.YtcpceiclnbmgiaaGreat
