/- Walks of functions of the program and of the reference, and their plain laws, part 20. Conditions: the theorems' own. -/
import Derived.Test.YtbdfboojnfinkaaGreatM14
import Derived.KernelRfl
set_option maxRecDepth 1000000
set_option linter.unusedSimpArgs false
set_option linter.unusedVariables false
set_option maxHeartbeats 16000000
namespace Go.Proofs.YtbdfboojnfinkaaGreat
open Go Go.Ev
theorem jS{m:Nat}{a b:List (List Nat)}{s D E:List ib}(h:kJ m a s=some D)(H:kJ m b D=some E):kJ m (a++b) s=some E:=by
 induction a generalizing s with
 |nil=>simp only[kJ,Option.some.injEq]at h;subst h;exact H
 |cons l a ih=>
  rw[List.cons_append,kJ]
  rw[kJ]at h
  cases F:Jq m l s with
  |none=>rw[F]at h;cases h
  |some I=>rw[F]at h;exact ih h
theorem VI{m:Nat}{l:List Nat}{s E:List ib}(h:Jq m l s=some E): ∃AQ a n u,hZ pE 51 [.s l] []=some (.tup [AQ,a,.i .i64 0],u)∧lenI AQ=some (.i .i64 ((n+1:Nat):Int))∧froz AQ=true∧hZ pE 52 [.ptr .S 0 1 0,.ptr .S 1 1 0,AQ] s=some (.i .i64 0,E):=by
 unfold Jq at h
 split at h
 ·rename_i AQ a u F
  split at h
  ·rename_i n H
   cases D:froz AQ with
   |false=>rw[D]at h;cases h
   |true=>
    rw[D,cond_true]at h
    split at h
    ·rename_i J I
     cases h
     exact⟨AQ,a,n,u,DCall_iff.2 ⟨_,F⟩,H,D,DCall_iff.2 ⟨_,I⟩⟩
    ·cases h
  ·cases h
 ·cases h
def DY(h:List (List Nat)):List Nat:=h.flatMap (· ++ [10])
theorem P1(m:Nat)(v:T)(h:List (List Nat))(D:IsSl v h.length (strs h))(hb:h.length<1000000)(E:List ib)(fr:Fr)(lh:iz ib)(sh:List ib)(hs:kJ m h sh=some E)(K:an fr 5=v)(N:an fr 7= .ptr .S 0 1 0)(O:an fr 8= .ptr .S 1 1 0)(U:an fr 9= .i .i64 0):
  Lp pE 61 Bj fr lh sh (.ext 0) fun f l s=>s=E∧l=lh:=by
 refine px Hn (fun k f l s=>an f 9= .i .i64 (k:Int)∧l=lh∧kJ m (h.drop k) s=some E) h.length ⟨U,rfl,hs⟩ ?_ ?_
 ·rintro k f _ s F H ⟨I,rfl,hs⟩
  have V:(k:Int)<h.length:=by omega
  have W:=iM (k:=k) (by omega)
  rw[List.drop_eq_getElem_cons F,kJ]at hs
  cases J:Jq m h[k] s with
  |none=>rw[J]at hs;cases hs
  |some s'=>
   rw[J]at hs
   obtain⟨AQ,a,n,u,X,Y,Z,q4⟩:=VI J
   have iS: ∀kk,pv v (.i kk (k:Int)) 1=some (.vp (.s h[k]::(strs h).drop (k+1))):=fun kk=>by
    rw[D.ia (sz:=1) (by simp[strs]) F,Nat.mul_one,List.drop_eq_getElem_cons (by simp[strs];exact F)]
    simp[strs]
   have wy:(0:Int)<((n+1:Nat):Int):=by omega
   simp only[qA,nl,seval,gd,Bj,H,K,N,O,I,D.lenI,V,iS,X,Y,Z,q4,wy,W,hs,atf,ath]
 ·rintro f _ s H ⟨I,rfl,hs⟩
  rw[List.drop_length]at hs
  cases hs
  simp only[qA,seval,gd,Bj,H,K,I,D.lenI,Int.lt_irrefl]
theorem l7: ∀(cs D:List T),D.length=cs.length→splice cs 0 D=D
 | [],[],_=>by simp[splice]
 | [],v::D,h=>by simp at h
 |c::cs,[],h=>by simp at h
 |c::cs,v::D,h=>by simp[splice,l7 cs D (by simpa using h)]
theorem sC(m:Nat)(h:List (List Nat))(v:T)(U:h.length<1000000)(N:IsSl v h.length (strs h))(s:List ib)(V:hZ pE 50 [.s (DY h)] []=some (.tup [v,.i .i64 0],s))(rc cs:List T)(D:List ib)(E:rc.length=14)
  (F: ∀q lh,∃us,xP q lh (⟨1,.cells rc 0 true⟩::D) false rc=some (cs,us))
  (hs:kJ m h kS0=some (⟨1,.cells rc 0 true⟩::D)) (W:List ib) (H:hZ pE 53 [.agg cs] []=some (.i .i64 0,W)):
  ∃I,hZ pE 26 [.s (DY h)] []=some (.tup [.agg cs,.i .i64 0,.i .i64 0],I):=by
 have O:=fun fr lh X Y Z (h9:an fr 9= .i .i64 0)=>P1 m v h N U _ fr lh _ hs X Y Z h9
 unfold kS0 iZ at O
 have P8:rc.take 14=rc:=by rw[←E];exact List.take_length
 have J:=l7 [T.i IntKind.i64 0,T.i IntKind.i64 0,T.i IntKind.i64 0,T.i IntKind.i64 0,T.i IntKind.i64 0,T.i IntKind.i64 0,T.i IntKind.i64 0,T.nilsl,T.nilsl,T.nilsl,T.nilsl,T.nilsl,T.nilsl,T.i IntKind.i64 0] rc (by rw[E];rfl)
 obtain⟨us,K⟩: ∃us:Nat→iz ib→List Up,∀q lh,xP q lh (⟨1,.cells rc 0 true⟩::D) false rc=some (cs,us q lh):=⟨fun q lh=>(F q lh).choose,fun q lh=>(F q lh).choose_spec⟩
 rw[im akJ (by simp[c26])]
 generalize DY h=tx at*
 simp only[qA,nl,seval,c26,V,H,atd,ati,N.froz1,O,Hn,E,P8,J,K]
 exact⟨_,rfl⟩
def mA:List ib→List T
 |⟨g,.cells rc a b⟩::r=>rc.map fun x=>match x with
  | .isl .S k _ off n sz=>(match jr (⟨g,.cells rc a b⟩::r) k with|⟨_,.cells cs _ _⟩=> .sl ((cs.drop off).take (n*sz)) n false|_=>x)
  |x=>x
 |_=> []
end Go.Proofs.YtbdfboojnfinkaaGreat
