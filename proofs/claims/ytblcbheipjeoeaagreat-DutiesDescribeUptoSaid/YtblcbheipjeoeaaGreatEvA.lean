/- A tree evaluator over the model, proved against it (part A): where it answers, the call returns that answer. Conditions: none beyond its theorems' own. -/
import GoSem.Dispatch
import Derived.Orders
import Derived.LoopN
import Derived.Below
import Derived.MapKept
set_option linter.unusedSimpArgs false
set_option linter.unusedVariables false
namespace Go.Ev
open Go
inductive Sp where
 |L|S
 deriving DecidableEq,Inhabited
inductive T where
 |b (x:Bool)
 |i (k:IntKind) (n:Int)
 |s (l:List Nat)
 |nilsl
 |sl (cs:List T) (len:Nat) (ex:Bool)
 |isl (sp:Sp) (k g off len sz:Nat)
 |nilptr
 |vp (cs:List T)
 |ptr (sp:Sp) (k g off:Nat)
 |nilmp
 |vm (ks vs:List T)
 |mp (sp:Sp) (k g:Nat)
 |nilfn
 |fn (f:Nat) (first cap:List T)
 |agg (cs:List T)
 |tup (vs:List T)
 |any
 deriving Inhabited
inductive Ob where
 |none
 |cells (cs:List T) (wm:Nat) (bx:Bool)
 |map (ks vs:List T) (fz:Bool)
 deriving Inhabited
structure gR where
 g:Nat
 ob:Ob
 deriving Inhabited
def single:T→Bool
 | .agg _| .tup _| .any=>false
 |_=>true
def noTup:T→Bool
 | .tup _| .any=>false
 |_=>true
def lA:gR:=⟨0,.none⟩
def iY:T:= .tup []
def iy{α:Type}(d:α):List α→Nat→α
 | [],_=>d
 |x::_,0=>x
 |_::xs,n+1=>iy d xs n
def pd{α:Type}(d:α):List α→Nat→α→List α
 | [],0,v=> [v]
 | [],n+1,v=>d::pd d [] n v
 |_::xs,0,v=>v::xs
 |x::xs,n+1,v=>x::pd d xs n v
theorem xo{α:Type}(d:α)(v:α): ∀(l:List α) (n m:Nat),iy d (pd d l n v) m=if m=n then v else iy d l m
 | [],0,0=>by simp[pd,iy]
 | [],0,m+1=>by simp[pd,iy]
 | [],n+1,0=>by simp[pd,iy]
 | [],n+1,m+1=>by
   simp_all[pd,iy,xo]
 |x::xs,0,0=>by simp[pd,iy]
 |x::xs,0,m+1=>by simp[pd,iy]
 |x::xs,n+1,0=>by simp[pd,iy]
 |x::xs,n+1,m+1=>by
  simp_all[pd,iy,xo]
inductive hJ (α:Type) where
 |nil
 |nd (v:α) (l r:hJ α)
 deriving Inhabited
def hJ.get{α:Type}(d:α):hJ α→Nat→α
 | .nil,_=>d
 | .nd v l r,n=>match n with
   |0=>v
   |k+1=>bif Nat.beq (k%2) 0 then l.get d (k/2)else r.get d (k/2)
def hJ.put{α:Type}(d:α):Nat→hJ α→Nat→α→hJ α
 |0,t,_,_=>t
 |f+1,t,n,v=>match n with
  |0=>match t with
   | .nil=> .nd v .nil .nil
   | .nd _ l r=> .nd v l r
  |k+1=>match t with
   | .nil=>bif Nat.beq (k%2) 0 then .nd d (hJ.put d f .nil (k/2) v) .nil else .nd d .nil (hJ.put d f .nil (k/2) v)
   | .nd u l r=>bif Nat.beq (k%2) 0 then .nd u (hJ.put d f l (k/2) v) r else .nd u l (hJ.put d f r (k/2) v)
def hJ.set{α:Type}(d:α)(t:hJ α)(n:Nat)(v:α):hJ α:=hJ.put d (n+1) t n v
theorem hJ.get_nil{α:Type}(d:α)(n:Nat):hJ.get d .nil n=d:=by unfold hJ.get;rfl
theorem hJ.get_put{α:Type}(d:α)(v:α): ∀(f:Nat) (t:hJ α) (n m:Nat),n<f→hJ.get d (hJ.put d f t n v) m=if m=n then v else hJ.get d t m
 |0,t,n,m,h=>by omega
 |f+1,t,0,m,h=>by
  cases t with
  |nil=>
   cases m with
   |zero=>simp[hJ.put,hJ.get]
   |succ m=>simp[hJ.put,hJ.get]
  |nd u l r=>
   cases m with
   |zero=>simp[hJ.put,hJ.get]
   |succ m=>simp[hJ.put,hJ.get]
 |f+1,t,k+1,m,h=>by
  have F:k/2<f:=by omega
  have ih:=fun t j=>hJ.get_put d v f t (k/2) j F
  cases i:Nat.beq (k%2) 0 with
  |true=>
   have D:k%2=0:=Nat.eq_of_beq_eq_true i
   cases t with
   |nil=>
    cases m with
    |zero=>simp[hJ.put,hJ.get,i]
    |succ m=>
     grind [hJ.put,hJ.get,hJ.get_nil,Nat.eq_of_beq_eq_true]
   |nd u l r=>
    cases m with
    |zero=>simp[hJ.put,hJ.get,i]
    |succ m=>
     grind [hJ.put,hJ.get,Nat.eq_of_beq_eq_true]
  |false=>
   have D:k%2≠0:=fun e=>by rw[e]at i;simp at i
   cases t with
   |nil=>
    cases m with
    |zero=>simp[hJ.put,hJ.get,i]
    |succ m=>
     simp only[hJ.put,i,cond_false,hJ.get]
     cases C:Nat.beq (m%2) 0 with
     |true=>
      grind
     |false=>
      have E:m%2≠0:=fun e=>by rw[e]at C;simp at C
      grind [hJ.get_nil]
   |nd u l r=>
    cases m with
    |zero=>simp[hJ.put,hJ.get,i]
    |succ m=>
     simp only[hJ.put,i,cond_false,hJ.get]
     cases C:Nat.beq (m%2) 0 with
     |true=>
      grind
     |false=>
      have E:m%2≠0:=fun e=>by rw[e]at C;simp at C
      grind
theorem hJ.get_set{α:Type}(d:α)(v:α)(t:hJ α)(n m:Nat):hJ.get d (hJ.set d t n v) m=if m=n then v else hJ.get d t m:=
 hJ.get_put d v (n+1) t n m (Nat.lt_succ_self n)
inductive Q (α:Type) where
 |ret (a:α)
 |fail
 |rd (sp:Sp) (k:Nat) (f:gR→Q α)
 |new (f:Nat→Q α)
def Q.bind{α β:Type}:Q α→(α→Q β)→Q β
 | .ret a,f=>f a
 | .fail,_=> .fail
 | .rd sp k g,f=> .rd sp k fun e=>(g e).bind f
 | .new g,f=> .new fun e=>(g e).bind f
def Q.run{α:Type}(h:Sp→Nat→gR)(i:Nat):Q α→Option α
 | .ret a=>some a
 | .fail=>none
 | .rd sp k f=>(f (h sp k)).run h i
 | .new f=>(f i).run h i
def Q.log{α:Type}(h:Sp→Nat→gR)(i:Nat):Q α→List (Sp×Nat)
 | .ret _=> []
 | .fail=> []
 | .rd sp k f=>(sp,k)::(f (h sp k)).log h i
 | .new f=>(f i).log h i
def Q.asks{α:Type}(h:Sp→Nat→gR)(i:Nat):Q α→Bool
 | .ret _=>false
 | .fail=>false
 | .rd sp k f=>(f (h sp k)).asks h i
 | .new _=>true
def Q.of{α:Type}:Option α→Q α
 |some a=> .ret a
 |none=> .fail
abbrev Up:=Sp×Nat×gR
inductive Du where
 |val (v:T) (ups:List Up)
 deriving Inhabited
def iZ(f:T→Q (T×List Up)):List T→Q (List T×List Up)
 | []=> .ret ([],[])
 |c::cs=>(f c).bind fun p=>(iZ f cs).bind fun q=> .ret (p.1::q.1,p.2++q.2)
def fz(keep:Bool):Nat→T→Q (T×List Up)
 |0,_=> .fail
 |n+1,t=>match t with
  | .isl sp k g off len sz=>if keep&&sp== .S then .ret (t,[])else .rd sp k fun e=>
    if e.g=g then match e.ob with
     | .cells cs _ false=>if off+len*sz≤cs.length then .ret (.sl ((cs.drop off).take (len*sz)) len false,[(sp,k,⟨g,.cells cs cs.length false⟩)])else .fail
     | .cells cs _ true=>if off+len*sz≤cs.length then(iZ (fz false n) ((cs.drop off).take (len*sz))).bind fun q=> .ret (.sl q.1 len false,q.2++ [(sp,k,⟨g,.cells cs cs.length true⟩)])else .fail
     |_=> .fail
    else .fail
  | .mp sp k g=>if keep&&sp== .S then .ret (t,[])else .rd sp k fun e=>
    if e.g=g then match e.ob with
     | .map ks i _=> .ret (.vm ks i,[(sp,k,⟨g,.map ks i true⟩)])
     |_=> .fail
    else .fail
  | .ptr sp k g off=>if keep&&sp== .S then .ret (t,[])else .rd sp k fun e=>
    if e.g=g then match e.ob with
     | .cells cs _ bx=>(iZ (fz false n) (cs.drop off)).bind fun q=> .ret (.vp q.1,q.2++ [(sp,k,⟨g,.cells cs cs.length bx⟩)])
     |_=> .fail
    else .fail
  | .fn f a c=>(iZ (fz keep n) a).bind fun p=>(iZ (fz keep n) c).bind fun q=> .ret (.fn f p.1 q.1,p.2++q.2)
  | .agg cs=>(iZ (fz keep n) cs).bind fun q=> .ret (.agg q.1,q.2)
  | .tup cs=>(iZ (fz keep n) cs).bind fun q=> .ret (.tup q.1,q.2)
  |t=> .ret (t,[])
def iB:Nat:=8
def scalar:T→Bool
 | .b _| .i .. | .s _| .nilsl| .nilptr| .nilmp| .nilfn=>true
 | .tup r=>r.all fun| .b _| .i .. | .s _| .nilsl| .nilptr| .nilmp| .nilfn=>true|_=>false
 |_=>false
def lo:IntKind→Int
 | .i8=> -128| .i16=> -32768| .i32=> -2147483648| .i64=> -9223372036854775808|_=>0
def hi:IntKind→Int
 | .i8=>127| .i16=>32767| .i32=>2147483647| .i64=>9223372036854775807
 | .u8=>255| .u16=>65535| .u32=>4294967295| .u64=>18446744073709551615
def wr(k:IntKind)(n:Int):Int:=if lo k≤n∧n≤hi k then n else k.wrap n
def lG:List Nat→List Nat→Bool
 |_,[]=>false
 | [],_::_=>true
 |a::x,b::y=>a<b||(a==b&&lG x y)
def th(op:BinOp)(k:IntKind)(a b:Int):Option T:=
 match op with
 | .add=>some (.i k (wr k (a+b)))
 | .sub=>some (.i k (wr k (a-b)))
 | .mul=>some (.i k (wr k (a*b)))
 | .quo=>if b=0 then none else some (.i k (wr k (a.tdiv b)))
 | .rem=>if b=0 then none else some (.i k (a.tmod b))
 | .eql=>some (.b (a==b))
 | .neq=>some (.b (a != b))
 | .lss=>some (.b (a<b))
 | .leq=>some (.b (a≤b))
 | .gtr=>some (.b (a>b))
 | .geq=>some (.b (a≥b))
 | .and=>some (.i k (k.wrap (BitVec.ofInt k.bits a &&& BitVec.ofInt k.bits b).toNat))
 | .or=>some (.i k (k.wrap (BitVec.ofInt k.bits a ||| BitVec.ofInt k.bits b).toNat))
 | .xor=>some (.i k (k.wrap (BitVec.ofInt k.bits a ^^^ BitVec.ofInt k.bits b).toNat))
 | .andNot=>some (.i k (k.wrap (BitVec.ofInt k.bits a &&& ~~~BitVec.ofInt k.bits b).toNat))
 |_=>none
def Re(op:BinOp)(a b:List Nat):Option T:=
 match op with
 | .add=>if a.length+b.length≤1099511627776 then some (.s (a++b))else none
 | .eql=>some (.b (a==b))
 | .neq=>some (.b (a != b))
 | .lss=>some (.b (lG a b))
 | .leq=>some (.b (lG a b||a==b))
 | .gtr=>some (.b !(lG a b||a==b))
 | .geq=>some (.b !(lG a b))
 |_=>none
def Dv(op:BinOp)(k:IntKind)(a b:Int):Option T:=
 if b<0 then none else
 match op with
 | .shl=>some (.i k (k.wrap (a*2 ^ (min b.toNat k.bits))))
 | .shr=>some (.i k (a.fdiv (2 ^ (min b.toNat k.bits))))
 |_=>none
inductive CK where
 |int|str|bool
 deriving DecidableEq,Inhabited
inductive EK where
 |one (k:CK)
 |flat (ks:List CK)
 |sl|ptr|map
 deriving Inhabited
def lN:CK→T→T→Option Bool
 | .bool,.b x,.b y=>some (x==y)
 | .int,.i k x,.i k' y=>if k=k' then some (x==y)else none
 | .str,.s x,.s y=>some (x==y)
 |_,_,_=>none
def jX:List CK→List T→List T→Option Bool
 | [],[],[]=>some true
 |k::ks,x::xs,y::i=>match lN k x y with
  |some true=>jX ks xs i
  |some false=>some false
  |none=>none
 |_,_,_=>none
def xV:EK→T→T→Option Bool
 | .one k,x,y=>lN k x y
 | .flat ks,.agg xs,.agg i=>jX ks xs i
 | .sl,.nilsl,.nilsl=>some true
 | .sl,.sl ..,.nilsl=>some false
 | .sl,.isl ..,.nilsl=>some false
 | .ptr,.nilptr,.nilptr=>some true
 | .ptr,.vp _,.nilptr=>some false
 | .ptr,.ptr ..,.nilptr=>some false
 | .map,.nilmp,.nilmp=>some true
 | .map,.vm ..,.nilmp=>some false
 | .map,.mp ..,.nilmp=>some false
 |_,_,_=>none
def bin(op:BinOp)(x y:T):Option T:=
 match op,x,y with
 | .shl,.i k a,.i _ b=>Dv .shl k a b
 | .shr,.i k a,.i _ b=>Dv .shr k a b
 |op,.i k a,.i k' b=>if k=k' then th op k a b else none
 |op,.s a,.s b=>Re op a b
 |_,_,_=>none
def un(op:UnOp)(x:T):Option T:=
 match op,x with
 | .neg,.i k n=>some (.i k (wr k (0-n)))
 | .not,.b x=>some (.b !x)
 | .xor,.i k n=>th .xor k (if k.signed then-1 else k.max) n
 |_,_=>none
inductive iz where
 |t (n:Nat)
 |c (v:T)
 deriving Inhabited
inductive mO where
 |mv (x:iz)
 |pick (c a b:iz)
 |alloc (z:List T) (sh:Bool)
 |box (x:iz) (sh:Bool)
 |build (z:List T) (ps:List (Nat×Nat×iz))
 |bsl (z:List T) (len:Nat) (ps:List (Nat×iz))
 |ld (x:iz) (n:Nat) (ag:Bool)
 |st (x v:iz) (n:Nat)
 |nck (x:iz)
 |bin (op:BinOp) (x y:iz)
 |eq (neg:Bool) (k:EK) (x y:iz)
 |un (op:UnOp) (x:iz)
 |cvi (k:IntKind) (x:iz)
 |mkfn (f:Nat) (first cap:List iz)
 |mkmap (sh:Bool)
 |mksl (z:List T) (bytes:Nat) (x:iz) (sh:Bool)
 |slS (x:iz) (lo hi:Option iz)
 |slV (sz:Nat) (x:iz) (lo hi mx:Option iz)
 |fa (x:iz) (off:Nat)
 |fld (x:iz) (off n:Nat) (ag:Bool)
 |ia (x ix:iz) (sz:Nat)
 |iaA (x ix:iz) (len sz:Nat)
 |ixS (x ix:iz)
 |ixA (x ix:iz) (len sz:Nat) (ag:Bool)
 |lk (kk:EK) (m k:iz) (z:T) (ok:Bool)
 |mu (kk:EK) (m k v:iz)
 |ext (x:iz) (j:Nat)
 |callf (f:Nat) (args:List iz)
 |callv (f:iz) (args:List iz)
 |lenS (x:iz)
 |lenV (x:iz)
 |lenM (x:iz)
 |lenC (n:Nat)
 |app (sz bytes:Nat) (s x:iz) (sh:Bool) (nm:Bool)
 |mm (isMax:Bool) (args:List iz)
 deriving Inhabited
structure be where
 d:Option Nat
 op:mO
 gd:Option (Nat×Bool)
 deriving Inhabited
inductive gT where
 |skip
 |region (ops:List be)
 |draws (ops:List (List Nat×be))
 |seq (a b:gT)
 |fork (os Fh:List be) (b:gT)
 |cond (c:iz) (a b:gT)
 |block (id:Nat) (a:gT)
 |loop (a:gT)
 |exit (id:Nat)
 |ret
 deriving Inhabited
inductive qt where
 |tmp (t:Nat)
 |cell (t n:Nat) (ag:Bool)
 deriving Inhabited
structure gU where
 n:Nat
 code:gT
 res:List qt
 eff:Bool
 own:Option Nat
 deriving Inhabited
abbrev Fr:=hJ T
structure St where
 fr:Fr
 lh:hJ gR
 sh:List gR
 deriving Inhabited
def an(l:Fr)(n:Nat):T:=hJ.get iY l n
def kj(l:Fr)(n:Nat)(v:T):Fr:=hJ.set iY l n v
theorem re(l:Fr)(n:Nat)(v:T)(m:Nat):an (kj l n v) m=if m=n then v else an l m:=hJ.get_set iY v l n m
def yC:List T→Nat→Fr
 | [],_=> .nil
 |x::xs,k=>kj (yC xs (k+1)) k x
def pe(l:List T):Fr:=yC l 0
theorem BZ: ∀(l:List T) (k m:Nat),an (yC l k) m=if m<k then iY else iy iY l (m-k)
 | [],k,m=>by simp[yC,an,hJ.get_nil,iy]
 |x::xs,k,m=>by
  rw[yC,re,BZ xs (k+1) m]
  by_cases i:m=k
  ·subst i;simp[iy]
  ·rw[if_neg i]
   by_cases r:m<k
   ·grind
   ·rw[if_neg (by omega),if_neg r]
    have:m-k=(m-(k+1))+1:=by omega
    rw[this];rfl
theorem Gn(l:List T)(m:Nat):an (pe l) m=iy iY l m:=by
 grind [pe,BZ]
def jr(l:List gR)(n:Nat):gR:=iy lA l n
def jP(l:List gR)(n:Nat)(v:gR):List gR:=pd lA l n v
def St.get(st:St):Sp→Nat→gR
 | .L,k=>hJ.get lA st.lh k
 | .S,k=>jr st.sh k
def St.up(st:St):Up→St
 |(.L,k,e)=>{st with lh:=hJ.set lA st.lh k e}
 |(.S,k,e)=>{st with sh:=jP st.sh k e}
def St.ups(st:St):List Up→St
 | []=>st
 |u::us=>(st.up u).ups us
def St.rho(st:St):iz→T
 | .t n=>an st.fr n
 | .c v=>v
def oT(d:Nat)(sh:Bool)(ob:Ob)(f:Sp→Nat→Nat→T):Q Du:=
 if sh then .new fun k=> .ret (.val (f .S k 1) [(.S,k,⟨1,ob⟩)])
 else .rd .L d fun e=> .ret (.val (f .L d (e.g+1)) [(.L,d,⟨e.g+1,ob⟩)])
def nmZ:List T→Bool
 | [.nilsl]=>true
 |_=>false
def pf(us:List Up)(sp:Sp)(k:Nat):Bool:=us.any fun u=>u.1==sp&&u.2.1==k
def cellsOf:T→List T
 | .agg cs=>cs
 |t=> [t]
def asNat:T→Option Nat
 | .i _ n=>if 0≤n then some n.toNat else none
 |_=>none
def repl{α:Type}(z:List α):Nat→List α
 |0=> []
 |n+1=>z++repl z n
def splice{α:Type}:List α→Nat→List α→List α
 |cs,0,[]=>cs
 |_::cs,0,v::i=>v::splice cs 0 i
 |c::cs,off+1,i=>c::splice cs off i
 | [],_,_=> []
def qG{α:Type}:List α→List (Nat×List α)→Option (List α)
 |cs,[]=>some cs
 |cs,(off,r)::i=>if off+r.length≤cs.length then qG (splice cs off r) i else none
def part(cs:List T)(off n:Nat)(i:Bool):Option T:=
 if i then(if off+n≤cs.length then some (.agg ((cs.drop off).take n))else none)
 else cs[off]?
def HH(x:T)(n:Nat)(i:Bool):Q T:=
 match x with
 | .vp cs=> .of (part cs 0 n i)
 | .ptr sp k g off=> .rd sp k fun e=>
   if e.g=g then match e.ob with
    | .cells cs _ _=> .of (part cs off n i)
    |_=> .fail
   else .fail
 |_=> .fail
def vS(x v:T)(n:Nat):Q Du:=
 if(cellsOf v).length≠n|| !noTup v then .fail else
 match x with
 | .ptr sp k g off=> .rd sp k fun e=>
   if e.g=g then match e.ob with
    | .cells cs wm bx=>if wm≤off&&off+n≤cs.length then
        (if bx&&sp== .L then .ret (.val iY [(sp,k,⟨g,.cells (splice cs off (cellsOf v)) wm bx⟩)])
        else(fz (bx&&sp== .S) iB v).bind fun p=>if pf p.2 sp k|| !noTup p.1||(cellsOf p.1).length≠n then .fail else .ret (.val iY (p.2++ [(sp,k,⟨g,.cells (splice cs off (cellsOf p.1)) wm bx⟩)])))
      else .fail
    |_=> .fail
   else .fail
 |_=> .fail
def jQ(sz:Nat):T→Q (Nat×List T)
 | .nilsl=> .ret (0,[])
 | .sl cs len _=>if cs.length=len*sz then .ret (len,cs)else .fail
 | .isl sp k g off len r=>if r=sz then .rd sp k fun e=>
     if e.g=g then match e.ob with
      | .cells cs _ false=>if off+len*sz≤cs.length then .ret (len,(cs.drop off).take (len*sz))else .fail
      |_=> .fail
     else .fail
   else .fail
 | .s l=>if sz=1 then .ret (l.length,l.map fun(n:Nat)=>T.i .u8 (n:Int))else .fail
 |_=> .fail
def roomy:Nat:=1099511627776
def rA(d sz bytes:Nat)(s x:T)(sh i:Bool):Q Du:=
 (jQ sz x).bind fun p=>
 if p.1=0 then(match s with| .nilsl| .sl .. | .isl .. => .ret (.val s [])|_=> .fail)else
 match s with
 | .nilsl=>if p.1*bytes≤roomy then oT d sh (.cells p.2 0 (i&& !sh)) (fun sp k g=> .isl sp k g 0 p.1 sz)else .fail
 | .sl cs len true=>if cs.length=len*sz&&(len+p.1)*bytes≤roomy then oT d sh (.cells (cs++p.2) 0 false) (fun sp k g=> .isl sp k g 0 (len+p.1) sz)else .fail
 | .isl sp k g off len r=>if r=sz&&off=0&&(len+p.1)*bytes≤roomy then .rd sp k fun e=>
     if e.g=g then match e.ob with
      | .cells cs wm false=>if len*sz=cs.length then .ret (.val (.isl sp k (g+1) 0 (len+p.1) sz) [(sp,k,⟨g+1,.cells (cs++p.2) wm false⟩)])
        else if sh&&i&&decide (len*sz<cs.length)&&decide (wm≤len*sz)then .ret (.val (.isl sp k (g+1) 0 (len+p.1) sz) [(sp,k,⟨g+1,.cells (cs.take (len*sz)++p.2) wm false⟩)])else .fail
      |_=> .fail
     else .fail
   else .fail
 |_=> .fail
def nz(kk:EK)(k:T):List T→Option (Option Nat)
 | []=>some none
 |x::xs=>match xV kk k x with
  |some true=>some (some 0)
  |some false=>(nz kk k xs).map fun r=>r.map (· +1)
  |none=>none
def rB(kk:EK)(k v:T)(ks r:List T):Option (List T×List T):=
 match nz kk k ks with
 |some (some i)=>some (ks.set i k,r.set i v)
 |some none=>some (ks++ [k],r++ [v])
 |none=>none
def HI:CK→T→Bool
 | .bool,.b _=>true
 | .int,.i .. =>true
 | .str,.s _=>true
 |_,_=>false
def qU:List CK→List T→Bool
 | [],[]=>true
 |k::ks,x::xs=>HI k x&&qU ks xs
 |_,_=>false
def isKey:EK→T→Bool
 | .one k,x=>HI k x
 | .flat ks,.agg xs=>qU ks xs
 |_,_=>false
def nX(kk:EK)(ks C:List T)(k z:T)(r:Bool):Option T:=
 if !isKey kk k then none else
 match nz kk k ks with
 |some (some i)=>C[i]?.map fun v=>if r then .tup [v,.b true]else v
 |some none=>some (if r then .tup [z,.b false]else z)
 |none=>none
def nD(r:Bool):T→List T→Option T
 |x,[]=>some x
 | .i k a,.i k' b::C=>if k=k' then nD r (.i k (if r then(if b>a then b else a)else(if b<a then b else a))) C else none
 |_,_=>none
def kG(ρ:iz→T)(i:Nat):Option iz→Option Nat
 |none=>some i
 |some x=>asNat (ρ x)
def B0(sz:Nat)(x:T)(l h:Nat):Q T:=
 match x with
 | .nilsl=>if l=0&&h=0 then .ret .nilsl else .fail
 | .sl cs len ex=>if l≤h&&h≤len&&cs.length=len*sz then .ret (.sl ((cs.drop (l*sz)).take ((h-l)*sz)) (h-l) (ex&&h=len))else .fail
 | .isl sp k g off len i=>if l≤h&&h≤len&&i=sz then .ret (if l=h then(if sp= .S∧h=0∧off=0 then .isl sp k g 0 0 sz else .sl [] 0 false)else .isl sp k g (off+l*sz) (h-l) sz)else .fail
 |_=> .fail
def tC:T→Option Nat
 | .nilsl=>some 0
 | .sl _ len _=>some len
 | .isl _ _ _ _ len _=>some len
 |_=>none
def val(v:Option T):Q Du:=match v with|some v=> .ret (.val v [])|none=> .fail
def jf(d:Nat)(ρ:iz→T):mO→Q Du
 | .mv x=> .ret (.val (ρ x) [])
 | .pick c a b=>match ρ c with| .b true=> .ret (.val (ρ a) [])| .b false=> .ret (.val (ρ b) [])|_=> .fail
 | .alloc z sh=>oT d sh (.cells z 0 true) (fun sp k g=> .ptr sp k g 0)
 | .box x sh=>if !noTup (ρ x)then .fail else if sh then(fz true iB (ρ x)).bind fun p=>if p.2.isEmpty&&noTup p.1 then oT d true (.cells (cellsOf p.1) 0 true) (fun sp k g=> .ptr sp k g 0)else .fail
     else oT d false (.cells (cellsOf (ρ x)) 0 true) (fun sp k g=> .ptr sp k g 0)
 | .build z ps=>if ps.all fun p=>(cellsOf (ρ p.2.2)).length=p.2.1&&noTup (ρ p.2.2)then val ((qG z (ps.map fun p=>(p.1,cellsOf (ρ p.2.2)))).map .agg)else .fail
 | .bsl z len ps=>(iZ (fz false iB) (ps.map fun p=>ρ p.2)).bind fun q=>
     if q.1.all fun v=>(cellsOf v).length=z.length&&noTup v then
      match qG (repl z len) ((ps.map fun p=>p.1*z.length).zip (q.1.map cellsOf))with
      |some cs=> .ret (.val (.sl cs len true) q.2)
      |none=> .fail
     else .fail
 | .ld x n I=>(HH (ρ x) n I).bind fun v=> .ret (.val v [])
 | .st x v n=>vS (ρ x) (ρ v) n
 | .nck x=>match ρ x with
   | .vp cs=> .ret (.val (.vp cs) [])
   | .ptr sp k g off=> .ret (.val (.ptr sp k g off) [])
   | .fn f a c=> .ret (.val (.fn f a c) [])
   |_=> .fail
 | .bin op x y=>val (Ev.bin op (ρ x) (ρ y))
 | .eq neg k x y=>val ((xV k (ρ x) (ρ y)).map fun r=> .b (r != neg))
 | .un op x=>val (Ev.un op (ρ x))
 | .cvi k x=>match ρ x with| .i _ n=> .ret (.val (.i k (wr k n)) [])|_=> .fail
 | .mkfn f first J=> .ret (.val (.fn f (first.map ρ) (J.map ρ)) [])
 | .mkmap sh=>oT d sh (.map [] [] false) (fun sp k g=> .mp sp k g)
 | .mksl z bytes x sh=>match asNat (ρ x)with
   |some n=>if n*bytes≤roomy&&n≤roomy then oT d sh (.cells (repl z n) 0 (nmZ z)) (fun sp k g=> .isl sp k g 0 n z.length)else .fail
   |none=> .fail
 | .slS x l h=>match ρ x with
   | .s C=>match kG ρ 0 l,kG ρ C.length h with
     |some l,some h=>if l≤h&&h≤C.length then .ret (.val (.s ((C.drop l).take (h-l))) [])else .fail
     |_,_=> .fail
   |_=> .fail
 | .slV sz x l h N=>match tC (ρ x)with
   |none=> .fail
   |some n=>match kG ρ 0 l,kG ρ n h,N with
    |some l,some h,none=>(B0 sz (ρ x) l h).bind fun v=> .ret (.val v [])
    |some l,some h,some m=>match asNat (ρ m),ρ x with
     |some 0,.nilsl=>if l=0&&h=0 then .ret (.val .nilsl [])else .fail
     |some 0,_=>if l=0&&h=0 then .ret (.val (.sl [] 0 true) [])else .fail
     |_,_=> .fail
    |_,_,_=> .fail
 | .fa x off=>match ρ x with
   | .vp cs=>if off≤cs.length then .ret (.val (.vp (cs.drop off)) [])else .fail
   | .ptr sp k g o=> .ret (.val (.ptr sp k g (o+off)) [])
   |_=> .fail
 | .fld x off n I=>match ρ x with| .agg cs=>val (part cs off n I)|_=> .fail
 | .ia x D sz=>match asNat (ρ D),ρ x with
   |some j,.sl cs len _=>if j<len&&(j+1)*sz≤cs.length then .ret (.val (.vp (cs.drop (j*sz))) [])else .fail
   |some j,.isl sp k g off len O=>if j<len&&O=sz then .ret (.val (.ptr sp k g (off+j*sz)) [])else .fail
   |_,_=> .fail
 | .iaA x D len sz=>match asNat (ρ D),ρ x with
   |some j,.vp cs=>if j<len&&(j+1)*sz≤cs.length then .ret (.val (.vp (cs.drop (j*sz))) [])else .fail
   |some j,.ptr sp k g off=>if j<len then .ret (.val (.ptr sp k g (off+j*sz)) [])else .fail
   |_,_=> .fail
 | .ixS x D=>match asNat (ρ D),ρ x with
   |some j,.s C=>match C[j]? with|some c=> .ret (.val (.i .u8 c) [])|none=> .fail
   |_,_=> .fail
 | .ixA x D len sz I=>match asNat (ρ D),ρ x with
   |some j,.agg cs=>if j<len then val (part cs (j*sz) sz I)else .fail
   |_,_=> .fail
 | .lk H m k z K=>match ρ m with
   | .nilmp=>if isKey H (ρ k)then .ret (.val (if K then .tup [z,.b false]else z) [])else .fail
   | .vm ks E=>val (nX H ks E (ρ k) z K)
   | .mp sp kk g=> .rd sp kk fun e=>if e.g=g then match e.ob with| .map ks E _=>val (nX H ks E (ρ k) z K)|_=> .fail else .fail
   |_=> .fail
 | .mu H m k v=>match ρ m with
   | .mp sp kk g=> .rd sp kk fun e=>if e.g=g&&isKey H (ρ k)then match e.ob with
       | .map ks E false=>(fz false iB (ρ v)).bind fun p=>match rB H (ρ k) p.1 ks E with
         |some q=>if pf p.2 sp kk then .fail else .ret (.val iY (p.2++ [(sp,kk,⟨g,.map q.1 q.2 false⟩)]))
         |none=> .fail
       |_=> .fail
     else .fail
   |_=> .fail
 | .ext x j=>match ρ x with| .tup E=>val E[j]? |_=> .fail
 | .callf _ _=> .fail
 | .callv _ _=> .fail
 | .lenS x=>match ρ x with| .s C=> .ret (.val (.i .i64 C.length) [])|_=> .fail
 | .lenV x=>val ((tC (ρ x)).map fun n=> .i .i64 n)
 | .lenM x=>match ρ x with
   | .nilmp=> .ret (.val (.i .i64 0) [])
   | .vm ks _=> .ret (.val (.i .i64 ks.length) [])
   | .mp sp kk g=> .rd sp kk fun e=>if e.g=g then match e.ob with| .map ks _ _=> .ret (.val (.i .i64 ks.length) [])|_=> .fail else .fail
   |_=> .fail
 | .lenC n=> .ret (.val (.i .i64 n) [])
 | .app sz bytes s x sh U=>rA d sz bytes (ρ s) (ρ x) sh U
 | .mm F args=>match args.map ρ with|x::rest=>val (nD F x rest)| []=> .fail
def jj(ρ:iz→T):mO→Option (Option (Nat×List T))
 | .callf f args=>some (some (f,args.map ρ))
 | .callv f args=>some (match ρ f with| .fn f a c=>some (f,a++args.map ρ++c)|_=>none)
 |_=>none
def Bd:mO→List iz
 | .mv x| .box x _| .ld x _ _| .nck x| .un _ x| .cvi _ x| .mksl _ _ x _| .fa x _| .fld x _ _ _| .ext x _| .lenS x| .lenV x| .lenM x=> [x]
 | .pick c a b=> [c,a,b]
 | .alloc .. | .mkmap _| .lenC _=> []
 | .build _ ps=>ps.map (·.2.2)
 | .bsl _ _ ps=>ps.map (·.2)
 | .st x v _| .bin _ x v| .eq _ _ x v| .ia x v _| .iaA x v _ _| .ixS x v| .ixA x v _ _ _| .lk _ x v _ _| .app _ _ x v _ _=> [x,v]
 | .mkfn _ a c=>a++c
 | .slS x l h=>x::(l.toList++h.toList)
 | .slV _ x l h m=>x::(l.toList++h.toList++m.toList)
 | .mu _ m k v=> [m,k,v]
 | .callf _ as| .mm _ as=>as
 | .callv f as=>f::as
def tmpsOf(xs:List iz):List Nat:=xs.filterMap fun| .t n=>some n| .c _=>none
def looks(a:be):List Nat:=tmpsOf (Bd a.op)++(match a.gd with|some g=> [g.1]|none=> [])
inductive Out where
 |nrm|ext (id:Nat)|ret
 deriving DecidableEq,Inhabited
abbrev rh:=Nat→List T→List gR→Option (T×List gR)
structure Env where
 fn:Nat→Option gU
 ext:Nat→Option (List T→Option T)
 wr:Nat→Option (List T→Option (List T×Option Nat))
def nE(fr:Fr)(n:Nat)(d:Option Nat)(v:T):Option Fr:=
 match d with
 |some d=>if d<n then some (kj fr d v)else none
 |none=>some fr
def lj:T→Nat→Option T
 | .tup i,j=>if j<100 then i[j]? else match i[j/100-1]? with
   |some (.agg cs)=>cs[j%100]?
   |_=>none
 | .agg cs,j=>cs[j]?
 | .any,_=>none
 |t,_=>some t
def iE:T→Nat→T→T
 | .tup i,j,x=>if j<100 then .tup (i.set j x)else match i[j/100-1]? with
   |some (.agg cs)=> .tup (i.set (j/100-1) (.agg (cs.set (j%100) x)))
   |_=> .tup (i.set (j/100-1) .any)
 | .agg cs,j,x=> .agg (cs.set j x)
 | .any,_,_=> .any
 |_,_,x=>x
def pU:T→Bool
 | .b _| .i .. | .s _| .nilsl| .nilptr| .nilmp| .nilfn=>true
 |_=>false
def sy:T→Bool
 | .tup i=>i.all fun| .agg cs=>cs.all pU|t=>pU t
 | .agg cs=>cs.all pU
 |t=>pU t
def rz(d j:Nat)(r:T)(st:St)(us:List Up):Option (T×St):=
 match lj r j with
 |some .nilsl=>some (r,if sy r then st else st.ups us)
 |some (.sl cs len _)=>
  if cs.all pU=true∧cs.length/len*len=cs.length then
   some (iE r j (.isl .L d (((if sy (iE r j .nilsl)then st else st.ups us).get .L d).g+1) 0 len (cs.length/len)),
    (if sy (iE r j .nilsl)then st else st.ups us).up (.L,d,⟨((if sy (iE r j .nilsl)then st else st.ups us).get .L d).g+1,.cells cs 0 false⟩))
  else none
 |_=>none
def VM(sp:Sp)(k g off:Nat):Option Nat→T
 |none=> .tup []
 |some n=> .isl sp k g off n 1
def vL(h:List T→Option (List T×Option Nat))(st:St):List T→Option (T×St)
 | [.nilsl]=>match h []with
   |some ([],none)=>some (.tup [],st)
   |some ([],some 0)=>some (.nilsl,st)
   |_=>none
 | [.isl sp k g off len 1]=>match st.get sp k with
   |⟨C,.cells cs wm false⟩=>
    if C=g∧wm≤off∧off+len≤cs.length then
     match h ((cs.drop off).take len)with
     |some (i,r)=>if i.length=len∧i.all single=true∧r.getD 0≤len then some (VM sp k g off r,st.up (sp,k,⟨C,.cells (splice cs off i) wm false⟩))else none
     |none=>none
    else none
   |_=>none
 |_=>none
def iU(E:Env)(i:rh)(d:Nat)(st:St)(f:Nat)(args:List T):Option (T×St):=
 match E.fn f,E.ext f with
 |some C,_=>
  match(iZ (fz C.eff iB) args).run st.get st.sh.length with
  |some q=>
   if C.eff then
    (i f q.1 (st.ups q.2).sh).map fun r=>(r.1,{st.ups q.2 with sh:=r.2})
   else match i f q.1 []with
    |some r=>(match C.own with
     |none=>some (r.1,if scalar r.1 then st else st.ups q.2)
     |some j=>rz d j r.1 st q.2)
    |none=>none
  |none=>none
 |none,some g=>
  match(iZ (fz false iB) args).run st.get st.sh.length with
  |some q=>(g q.1).map fun r=>(r,st)
  |none=>none
 |none,none=>match E.wr f with
  |some h=>vL h st args
  |none=>none
def iW(E:Env)(i:rh)(n:Nat)(o:be)(st:St):Option St:=
 let D:Option St:=
  match jj st.rho o.op with
  |some (some c)=>match iU E i (o.d.getD 0) st c.1 c.2 with
   |some r=>(nE st.fr n o.d r.1).map fun fr=>{r.2 with fr}
   |none=>none
  |some none=>none
  |none=>match(jf (o.d.getD 0) st.rho o.op).run st.get st.sh.length with
   |some (.val v ups)=>(nE st.fr n o.d v).map fun fr=>{st.ups ups with fr}
   |none=>none
 match o.gd with
 |none=>D
 |some (j,C)=>match an st.fr j with
  | .b x=>if x=C then D else(nE st.fr n o.d iY).map fun fr=>{st with fr}
  | .any=>none
  |_=>(nE st.fr n o.d iY).map fun fr=>{st with fr}
def gV(E:Env)(i:rh)(n:Nat):List be→St→Option St
 | [],st=>some st
 |o::os,st=>match iW E i n o st with
  |some r=>gV E i n os r
  |none=>none
def iter(f:St→Option (Out×St)):Nat→St→Option (Out×St)
 |0,_=>none
 |n+1,st=>match f st with
  |some (.nrm,i)=>iter f n i
  |r=>r
structure FP where
 all:Bool
 r:List (Sp×Nat)
 w:List (Sp×Nat)
 deriving Inhabited
def mS(xs i:List (Sp×Nat)):Bool:=xs.all fun x=> !i.contains x
def LZ(xs:List (Sp×Nat)):Bool:=xs.all fun x=>x.1== .L
def apart(x y:FP):Bool:=
 mS x.w y.r&&mS x.w y.w&&mS x.r y.w&&
 (!x.all||(!y.all&&LZ y.r&&LZ y.w))&&(!y.all||(LZ x.r&&LZ x.w))
def j6(us:List Up):List (Sp×Nat):=us.map fun u=>(u.1,u.2.1)
def nW:FP:=⟨false,[],[]⟩
def Dw(e:gR):Bool:=match e.ob with| .none=>false|_=>true
def yi(st:St)(us:List Up):Bool:=us.all fun u=>u.1== .L||Dw (st.get .S u.2.1)
def lO(E:Env)(i:rh)(d:Nat)(st:St)(f:Nat)(args:List T):Option FP:=
 match E.fn f,E.ext f with
 |some C,_=>
  let q:=iZ (fz C.eff iB) args
  match q.run st.get st.sh.length with
  |some p=>if !yi st p.2 then none else
   if C.eff then some ⟨true,q.log st.get st.sh.length,j6 p.2⟩else match i f p.1 []with
   |some r=>(match C.own with
    |none=>some ⟨false,q.log st.get st.sh.length,if scalar r.1 then []else j6 p.2⟩
    |some _=>some ⟨false,(.L,d)::q.log st.get st.sh.length,(.L,d)::j6 p.2⟩)
   |none=>none
  |none=>none
 |none,some _=>some ⟨false,(iZ (fz false iB) args).log st.get st.sh.length,[]⟩
 |none,none=>none
def jk(E:Env)(i:rh)(o:be)(st:St):Option FP:=
 let D:Option FP:=
  match jj st.rho o.op with
  |some (some c)=>lO E i (o.d.getD 0) st c.1 c.2
  |some none=>none
  |none=>
   let q:=jf (o.d.getD 0) st.rho o.op
   match q.run st.get st.sh.length with
   |some (.val _ r)=>if q.asks st.get st.sh.length||yi st r then some ⟨q.asks st.get st.sh.length,q.log st.get st.sh.length,j6 r⟩else none
   |none=>none
 match o.gd with
 |none=>D
 |some (j,C)=>match an st.fr j with
  | .b x=>if x=C then D else some nW
  |_=>some nW
def iK(E:Env)(r:rh)(n:Nat):List (List Nat×be)→List FP→St→Option St
 | [],_,st=>some st
 |(C,o)::os,D,st=>
  match jk E r o st with
  |none=>none
  |some fp=>
   if C.all fun i=>apart (iy ⟨true,[],[]⟩ D i) fp then
    match iW E r n o st with
    |some F=>iK E r n os (D++ [fp]) F
    |none=>none
   else none
def Be(os:List be):List Nat:=os.filterMap (·.d)
def kJ:gT→List Nat
 | .region ops=>Be ops
 | .draws ops=>Be (ops.map (·.2))
 | .seq a b=>kJ a++kJ b
 | .fork os _ b=>Be os++kJ b
 | .cond _ a b=>kJ a++kJ b
 | .block _ a=>kJ a
 | .loop a=>kJ a
 |_=> []
def zJ:List Nat→Fr→Fr
 | [],f=>f
 |k::ks,f=>kj (zJ ks f) k .any
def Dx:List Nat→hJ gR→hJ gR→hJ gR
 | [],l,_=>l
 |k::ks,l,i=>hJ.set lA (Dx ks l i) k ⟨max (hJ.get lA l k).g (hJ.get lA i k).g,.none⟩
def tD(ks:List Nat)(s t:St):St:=⟨zJ ks s.fr,Dx ks s.lh t.lh,s.sh⟩
def Dy(ks:List Nat)(s t:St):Prop:=s.sh=t.sh∧(∀k,k∉ks→an s.fr k=an t.fr k)∧ ∀k,k∉ks→hJ.get lA s.lh k=hJ.get lA t.lh k
open Classical in
noncomputable def OK(ks:List Nat):Option (Out×St)→Option (Out×St)→Option (Out×St)
 |some (o,s),some (o',t)=>if o=o'∧Dy ks s t then some (o,tD ks s t)else none
 |_,_=>none
noncomputable def mT(E:Env)(i:rh)(C n:Nat):gT→St→Option (Out×St)
 | .skip,st=>some (.nrm,st)
 | .region ops,st=>(gV E i n ops st).map fun D=>(.nrm,D)
 | .draws ops,st=>(iK E i n ops [] st).map fun D=>(.nrm,D)
 | .seq a b,st=>match mT E i C n a st with
   |some (.nrm,D)=>mT E i C n b D
   |r=>r
 | .fork os Fh b,st=>match gV E i n os st,gV E i n Fh st with
   |some F,some H=>OK (Be os++kJ b) (mT E i C n b F) (mT E i C n b H)
   |_,_=>none
 | .cond c a b,st=>match st.rho c with
   | .b true=>mT E i C n a st
   | .b false=>mT E i C n b st
   |_=>none
 | .block id a,st=>match mT E i C n a st with
   |some (.ext Rf,D)=>if Rf=id then some (.nrm,D)else some (.ext Rf,D)
   |r=>r
 | .loop a,st=>iter (mT E i C n a) C st
 | .exit id,st=>some (.ext id,st)
 | .ret,st=>some (.ret,st)
def JQ(st:St):qt→Option T
 | .tmp t=>some (an st.fr t)
 | .cell t n i=>(HH (an st.fr t) n i).run st.get st.sh.length
def nY(st:St):List qt→Option (List T)
 | []=>some []
 |r::i=>match JQ st r,nY st i with
  |some v,some C=>some (v::C)
  |_,_=>none
def answer(i:Bool)(vs:List T)(st:St):Option (T×List gR):=
 match(fz i iB (match vs with| [v]=>v|vs=> .tup vs)).run st.get st.sh.length with
 |some p=>some (p.1,(st.ups p.2).sh)
 |none=>none
def sA(j:Nat)(vs:List T)(st:St):Option (T×List gR):=
 match lj (match vs with| [v]=>v|vs=> .tup vs) j with
 |some .nilsl=>answer false vs st
 |some (.isl .L k g 0 len sz)=>
  (match(fz false iB (iE (match vs with| [v]=>v|vs=> .tup vs) j .nilsl)).run st.get st.sh.length with
  |some p=>(match(st.ups p.2).get .L k with
   |⟨i,.cells cs wm false⟩=>if i=g∧cs.length=len*sz∧len≠0∧(wm=0∨sy (iE p.1 j .nilsl)=true)then some (iE p.1 j (.sl cs len false),(st.ups p.2).sh)else none
   |_=>none)
  |none=>none)
 |_=>none
def uN(r:Option Nat)(i:Bool)(C:List T)(st:St):Option (T×List gR):=
 match r with
 |none=>answer i C st
 |some j=>if i then none else sA j C st
noncomputable def jY(E:Env):Nat→rh
 |0=>fun _ _ _=>none
 |m+1=>fun f args sh=>
  match E.fn f with
  |none=>none
  |some i=>
   if i.n<args.length then none else
   match mT E (jY E m) m i.n i.code {fr:=pe args,lh:= .nil,sh}with
   |some (.ext _,_)=>none
   |some (_,st)=>match nY st i.res with
    |some r=>uN i.own i.eff r st
    |none=>none
   |none=>none
end Go.Ev
namespace Go.Ev
open Go
def jT(b:ByteArray):List Nat:=b.data.toList.map UInt8.toNat
def xp:Value→Option T
 | .bool x=>some (.b x)
 | .int k n=>some (.i k n)
 | .string s=>some (.s (jT s))
 | .pointer none=>some .nilptr
 | .slice none 0 0=>some .nilsl
 | .map none=>some .nilmp
 | .nilFunc=>some .nilfn
 | .func (.func f) a c=>match a.toList,c.toList with
   | [],[]=>some (.fn f [] [])
   |_,_=>none
 |_=>none
def pg:List Value→Option (List T)
 | []=>some []
 |v::i=>match xp v,pg i with
  |some t,some ts=>some (t::ts)
  |_,_=>none
def Dz:Value→Option T
 | .agg cs=>(pg cs.toList).map .agg
 | .tuple cs=>(pg cs.toList).map .tup
 |v=>xp v
def lP:Operand→Option iz
 | .tmp t=>some (.t t)
 | .const v=>(Dz v).map .c
 | .func f=>some (.c (.fn f [] []))
 | .global _=>none
def Bf:List Operand→Option (List iz)
 | []=>some []
 |x::xs=>match lP x,Bf xs with
  |some y,some i=>some (y::i)
  |_,_=>none
def vU:Option Operand→Option (Option iz)
 |none=>some none
 |some x=>(lP x).map some
def tE(P:Program)(t:TypeId):Option T:=(P.info? t).bind fun i=>i.zero.bind Dz
def lH(P:Program)(t:TypeId):Option Nat:=(P.info? t).map (·.size)
def xW(P:Program)(t:TypeId):Option Bool:=(P.underlying t).map fun| .struct _| .array _ _=>true|_=>false
def Ft(P:Program)(t:TypeId):Option CK:=
 match P.underlying t with
 |some (.int _)=>some .int
 |some .string=>some .str
 |some .bool=>some .bool
 |_=>none
def pV(P:Program):Nat→List Field→Option (List CK)
 |_,[]=>some []
 |i,f::r=>if f.offset=i&&f.name != "_" &&(P.info? f.type).map (·.size)==some 1 then match Ft P f.type,pV P (i+1) r with
  |some k,some ks=>some (k::ks)
  |_,_=>none
  else none
def DA(P:Program)(t:TypeId):Option EK:=
 match P.underlying t with
 |some (.int _)=>some (.one .int)
 |some .string=>some (.one .str)
 |some .bool=>some (.one .bool)
 |some (.slice _)=>some .sl
 |some (.pointer _)=>some .ptr
 |some (.map _ _)=>some .map
 |some (.struct i)=>if !P.eqGuardType P.depth t&& !P.stoodInHeld t then(pV P 0 i.toList).map .flat else none
 |_=>none
def keyOf(P:Program)(t:TypeId):Option EK:=
 match DA P t with
 |some (.one k)=>some (.one k)
 |some (.flat ks)=>some (.flat ks)
 |_=>none
def placesOf(D:List (Nat×Nat)):List (Nat×Operand)→Option (List (Nat×Nat×iz))
 | []=>some []
 |(i,x)::C=>match D[i]?,lP x,placesOf D C with
  |some p,some y,some r=>some ((p.1,p.2,y)::r)
  |_,_,_=>none
def ri(sz:Nat):List (Nat×Operand)→Option (List (Nat×Nat×iz))
 | []=>some []
 |(i,x)::C=>match lP x,ri sz C with
  |some y,some r=>some ((i*sz,sz,y)::r)
  |_,_=>none
def xq:List (Nat×Operand)→Option (List (Nat×iz))
 | []=>some []
 |(i,x)::C=>match lP x,xq C with
  |some y,some r=>some ((i,y)::r)
  |_,_=>none
def HJ:Operand→Operand→Bool
 | .tmp a,.tmp b=>a==b
 | .const (.int .i64 a),.const (.int .i64 b)=>a==b
 |_,_=>false
def tF(P:Program)(sh:Nat)(c:Call):Option mO:=
 match c.callee with
 | .value (.func f)=>(Bf c.args.toList).map fun as=> .callf f as
 | .value x=>match lP x,Bf c.args.toList with
   |some y,some as=>some (.callv y as)
   |_,_=>none
 | .builtin .len=>match c.argTypes[0]?,c.args.toList with
   |some t,[x]=>match P.underlying t,lP x with
    |some .string,some y=>some (.lenS y)
    |some (.slice _),some y=>some (.lenV y)
    |some (.map _ _),some y=>some (.lenM y)
    |some (.array n _),some _=>some (.lenC n)
    |_,_=>none
   |_,_=>none
 | .builtin .append=>match c.argTypes.toList,c.args.toList with
   | [t,u],[x,y]=>match P.underlying t,P.underlying u,lP x,lP y with
     |some (.slice e),some r,some C,some D=>
      (match r with
      | .slice _| .string=>(match P.info? e with
        |some i=>(match i.zero with
         |some z=>if i.size=z.cells.size&&i.size != 0&&i.bytes != 0 then some (.app i.size i.bytes C D (sh==1||sh==3) (sh==2||sh==3))else none
         |none=>none)
        |none=>none)
      |_=>none)
     |_,_,_,_=>none
   |_,_=>none
 | .builtin .min=>(Bf c.args.toList).map fun as=> .mm false as
 | .builtin .max=>(Bf c.args.toList).map fun as=> .mm true as
 |_=>none
def jK(P:Program)(sh:Nat):Op→Option mO
 | .move x| .assign x=>(lP x).map .mv
 | .pick c a b=>match lP c,lP a,lP b with
   |some c,some a,some b=>some (.pick c a b)
   |_,_,_=>none
 | .alloc t=>match tE P t with
   |some z=>if noTup z then some (.alloc (cellsOf z) (sh==1))else none
   |none=>none
 | .box _ x=>(lP x).map fun y=> .box y (sh==1)
 | .build t ps=>match tE P t,P.underlying t with
   |some z,some (.struct D)=>(match D.toList.mapM (fun f=>(P.info? f.type).map fun i=>(f.offset,i.size))with
    |some J=>if noTup z then(placesOf J ps.toList).map fun r=> .build (cellsOf z) r else none
    |none=>none)
   |some z,some (.array _ e)=>(match lH P e with|some n=>if noTup z then(ri n ps.toList).map fun r=> .build (cellsOf z) r else none|none=>none)
   |_,_=>none
 | .buildSlice t len ps=>match P.underlying t with
   |some (.slice e)=>match tE P e,lH P e,xq ps.toList with
    |some z,some n,some r=>if noTup z&&n=(cellsOf z).length&&n != 0&&len*n≤16777216 then some (.bsl (cellsOf z) len r)else none
    |_,_,_=>none
   |_=>none
 | .load t x=>match lP x,lH P t,xW P t with
   |some y,some n,some E=>some (.ld y n E)
   |_,_,_=>none
 | .store t x v=>match lP x,lP v,lH P t with
   |some y,some u,some n=>some (.st y u n)
   |_,_,_=>none
 | .nilCheck x=>(lP x).map .nck
 | .binOp op t x y _=>match lP x,lP y with
   |some a,some b=>match op,Ft P t with
    | .eql,some .bool=>some (.eq false (.one .bool) a b)
    | .neq,some .bool=>some (.eq true (.one .bool) a b)
    |_,some _=>some (.bin op a b)
    | .eql,none=>(DA P t).map fun k=> .eq false k a b
    | .neq,none=>(DA P t).map fun k=> .eq true k a b
    |_,_=>none
   |_,_=>none
 | .unOp op _ x=>(lP x).map (.un op)
 | .convert s t x=>match P.underlying s,P.underlying t,lP x with
   |some (.int _),some (.int k),some y=>some (.cvi k y)
   |_,_,_=>none
 | .makeFunc (.func f) first F=>match Bf first.toList,Bf F.toList with
   |some a,some c=>some (.mkfn f a c)
   |_,_=>none
 | .makeMap _ none=>some (.mkmap (sh==1))
 | .makeSlice t l c=>match P.underlying t with
   |some (.slice e)=>match P.info? e,tE P e,lP l with
    |some i,some z,some y=>if noTup z&&HJ l c&&i.size=(cellsOf z).length&&i.size != 0 then some (.mksl (cellsOf z) i.bytes y (sh==1))else none
    |_,_,_=>none
   |_=>none
 | .slice t x l h m=>match P.underlying t,lP x,vU l,vU h,vU m with
   |some .string,some y,some l,some h,some none=>some (.slS y l h)
   |some (.slice e),some y,some l,some h,some m=>(match lH P e with|some n=>if n != 0&&(m.isNone||h.isSome)then some (.slV n y l h m)else none|none=>none)
   |_,_,_,_,_=>none
 | .fieldAddr s x f=>match P.underlying s,lP x with
   |some (.struct D),some y=>(match D[f]? with
    |some C=>(match lH P C.type with|some n=>if n != 0 then some (.fa y C.offset)else none|none=>none)
    |none=>none)
   |_,_=>none
 | .field s x f=>match P.underlying s,lP x with
   |some (.struct D),some y=>(match D[f]? with
    |some C=>(match lH P C.type,xW P C.type with|some n,some E=>some (.fld y C.offset n E)|_,_=>none)
    |none=>none)
   |_,_=>none
 | .indexAddr t x j=>match P.underlying t,lP x,lP j with
   |some (.slice e),some y,some j=>(match lH P e with|some n=>if n != 0 then some (.ia y j n)else none|none=>none)
   |some (.array len e),some y,some j=>(match lH P e with|some n=>if n != 0 then some (.iaA y j len n)else none|none=>none)
   |_,_,_=>none
 | .index t x j=>match P.underlying t,lP x,lP j with
   |some .string,some y,some j=>some (.ixS y j)
   |some (.array len e),some y,some j=>(match lH P e,xW P e with|some n,some E=>some (.ixA y j len n E)|_,_=>none)
   |_,_,_=>none
 | .lookup t m k K=>match P.underlying t,lP m,lP k with
   |some (.map H N),some m,some k=>(match keyOf P H,tE P N with|some I,some z=>some (.lk I m k z K)|_,_=>none)
   |_,_,_=>none
 | .mapUpdate t m k v=>match P.underlying t,lP m,lP k,lP v with
   |some (.map H _),some m,some k,some v=>(keyOf P H).map fun I=> .mu I m k v
   |_,_,_,_=>none
 | .extract x j=>(lP x).map fun y=> .ext y j
 | .call c=>tF P sh c
 |_=>none
def ahJ(hs:List Nat)(d:Option Nat):Nat:=
 match d with
 |some d=>if hs.contains d then(if hs.contains (d+100000)then 3 else 1)else if hs.contains (d+100000)then 2 else 0
 |none=>0
def af1:List Nat→Option Nat
 | []=>none
 |h::hs=>if h<1000000 then af1 hs else some (h-1000000)
def wv(P:Program)(hs:List Nat)(ops:Array Oper)(o:Oper):Option be:=
 match jK P (ahJ hs o.dst) o.op with
 |some op=>match o.guard with
  |none=>some ⟨o.dst,op,none⟩
  |some (j,i)=>match(ops[j]?).bind (·.dst)with
   |some d=>some ⟨o.dst,op,some (d,i)⟩
   |none=>none
 |none=>none
def kK(P:Program)(hs:List Nat)(ops:Array Oper):List Oper→Option (List be)
 | []=>some []
 |o::os=>match wv P hs ops o,kK P hs ops os with
  |some a,some as=>some (a::as)
  |_,_=>none
def quiet:mO→Bool
 | .mv _| .pick .. | .build .. | .nck _| .bin .. | .eq .. | .un .. | .cvi .. | .mkfn .. | .slS .. | .slV .. | .fa .. | .fld .. | .ia .. | .iaA .. | .ixS .. | .ixA .. | .ext .. | .lenS _| .lenV _| .lenC _| .mm .. =>true
 |_=>false
def jG(o:Oper):List Nat:=(o.after.toList.filter (Region.binds .any)).map (·.on)
def HK(i:List Nat)(ps:List Nat):Nat:=ps.foldl (fun m p=>m ||| 2 ^ p ||| iy 0 i p) 0
def rC:List (List Nat)→List Nat→List Nat
 | [],i=>i
 |ps::r,i=>rC r (i++ [HK i ps])
def zK:Nat→List (List Nat)→Bool
 |_,[]=>true
 |i,ps::r=>ps.all (· <i)&&zK (i+1) r
def mU(x y:be):Bool:=
 (match x.d with|some d=> !(looks y).contains d&& !(y.d==some d)|none=>true)&&(match y.d with|some d=> !(looks x).contains d|none=>true)
def DB(m:Nat)(as:List be):List (Nat×be):=(as.zipIdx.map fun p=>(p.2,p.1)).filter fun p=> !m.testBit p.1
def zL:List Nat→List be→List be→Bool
 |_,_,[]=>true
 | [],_,_=>false
 |m::C,i,a::r=>((DB m i).all fun p=>mU p.2 a)&&zL C (i++ [a]) r
def tG:List Nat→List be→List be→List (List Nat×be)
 |m::C,i,a::r=>((if quiet a.op then []else((DB m i).filter fun p=> !quiet p.2.op).map (·.1)),a)::tG C (i++ [a]) r
 |_,_,_=> []
def apW(i r:be):Bool:=match i,r with
 |⟨none,.st (.t x) (.c (.b true)) 1,none⟩,⟨none,.st (.t y) (.c (.b false)) 1,none⟩=>x==y
 |_,_=>false
def HL(ps:List (List Nat)):Bool:=match ps with
 | [[],r,C,i]=>r.contains 0&&C.contains 0&&r.all (· <1)&&C.all (· <1)&&i.contains 1&&i.contains 2&&i.all (· <3)
 |_=>false
def OL(P:Program)(hs:List Nat)(a:Code)(r i:gT):gT:=match a with
 | .region _ ops true=>(match kK P hs ops ops.toList with
   |some [E,C,D,F]=>if HL (ops.toList.map jG)&&apW C D then .fork [E,C,D,F] [E,D,C,F] i else .seq r i
   |_=> .seq r i)
 |_=> .seq r i
def nA(P:Program)(hs:List Nat):Code→Option gT
 | .skip=>some .skip
 | .region _ ops false=>(kK P hs ops ops.toList).map .region
 | .region _ ops true=>
   match kK P hs ops ops.toList with
   |some as=>
    let ps:=ops.toList.map jG
    if zK 0 ps&&zL (rC ps []) [] as then some (.draws (tG (rC ps []) [] as))else none
   |none=>none
 | .seq a b=>match nA P hs a,nA P hs b with
   |some i,some r=>some (OL P hs a i r)
   |_,_=>none
 | .cond c a b=>match lP c,nA P hs a,nA P hs b with
   |some c,some a,some b=>some (.cond c a b)
   |_,_,_=>none
 | .block id a=>(nA P hs a).map (.block id)
 | .loop a=>(nA P hs a).map .loop
 | .exit id=>some (.exit id)
 | .ret=>some .ret
 |_=>none
def uO(P:Program):List ResultVar→Option (List qt)
 | []=>some []
 | .tmp t::i=>(uO P i).map (.tmp t:: ·)
 | .cell a t::i=>match lH P t,xW P t,uO P i with
   |some n,some r,some i=>some (.cell a n r::i)
   |_,_,_=>none
def Ga(P:Program)(hs:List Nat)(r:Bool)(i:Func):Option gU:=
 if i.name== "runtime.NumGoroutine" then none else
 match i.body with
 |none=>none
 |some c=>match nA P hs c,uO P i.results.toList with
  |some c,some C=>some ⟨i.ntmps,c,C,r,af1 hs⟩
  |_,_=>none
end Go.Ev
namespace Go.Ev
open Go
structure JR where
 blk:Nat
 off:Nat
 ext:Nat
abbrev iJ:=Sp→Nat→Nat→JR
abbrev im:=Nat→Nat→Prop
mutual
def PRel(w:World)(M:im):T→Value→Prop
 | .b x,v=>v= .bool x
 | .i k n,v=>v= .int k n
 | .s l,v=> ∃F,v= .string F∧jT F=l
 | .nilsl,v=>v= .slice none 0 0
 | .sl cs len ex,v=> ∃r off D sp,v= .slice (some ⟨r,off,sp⟩) len D∧len≤D∧(ex=true→D=len)∧(sp=none∨D=0)∧iH w M r off cs
 | .nilptr,v=>v= .pointer none
 | .vp cs,v=> ∃r off,v= .pointer (some ⟨r,off,none⟩)∧iH w M r off cs
 | .nilmp,v=>v= .map none
 | .vm ks J,v=> ∃r E C,v= .map (some r)∧w.heap[r]? =some (.map E C)∧MapKept.Stamped E C∧(∀o,¬M r o)∧PList w M ks (E.toList.map (·.key))∧PList w M J (E.toList.map (·.val))
 | .nilfn,v=>v= .nilFunc
 | .fn f a c,v=> ∃H I,v= .func (.func f) H I∧PList w M a H.toList∧PList w M c I.toList
 | .agg cs,v=> ∃a,v= .agg a∧PList w M cs a.toList∧cs.all single=true
 | .tup cs,v=> ∃a,v= .tuple a∧PList w M cs a.toList
 | .any,_=>True
 | .isl ..,_=>False
 | .ptr ..,_=>False
 | .mp ..,_=>False
def PList(w:World)(M:im):List T→List Value→Prop
 | [],i=>i= []
 |t::ts,i=> ∃u us,i=u::us∧PRel w M t u∧PList w M ts us
def iH(w:World)(M:im)(i off:Nat):List T→Prop
 | []=>True
 |c::cs=>(∃v,w.cell? ⟨i,off,none⟩=some v∧ ¬M i off∧PRel w M c v∧single c=true)∧iH w M i (off+1) cs
end
mutual
def gW(β:iJ)(G:Sp→Nat→Nat)(w:World)(M:im):T→Value→Prop
 | .isl sp k g off len sz,v=>g≤G sp k∧ ∃r,v= .slice (some ⟨(β sp k g).blk,(β sp k g).off+off,none⟩) len r∧len≤r∧off+r*sz≤(β sp k g).ext
 | .ptr sp k g off,v=>g≤G sp k∧v= .pointer (some ⟨(β sp k g).blk,(β sp k g).off+off,none⟩)
 | .mp sp k g,v=>g≤G sp k∧v= .map (some (β sp k g).blk)
 | .fn f a c,v=> ∃C D,v= .func (.func f) C D∧gY β G w M a C.toList∧gY β G w M c D.toList
 | .agg cs,v=> ∃a,v= .agg a∧gY β G w M cs a.toList∧cs.all single=true
 | .tup cs,v=> ∃a,v= .tuple a∧gY β G w M cs a.toList
 | .any,_=>True
 | .b x,v=>v= .bool x
 | .i k n,v=>v= .int k n
 | .s l,v=> ∃E,v= .string E∧jT E=l
 | .nilsl,v=>v= .slice none 0 0
 | .sl cs len ex,v=>PRel w M (.sl cs len ex) v
 | .nilptr,v=>v= .pointer none
 | .vp cs,v=>PRel w M (.vp cs) v
 | .nilmp,v=>v= .map none
 | .vm ks F,v=>PRel w M (.vm ks F) v
 | .nilfn,v=>v= .nilFunc
def gY(β:iJ)(G:Sp→Nat→Nat)(w:World)(M:im):List T→List Value→Prop
 | [],i=>i= []
 |t::ts,i=> ∃u us,i=u::us∧gW β G w M t u∧gY β G w M ts us
end
structure kM (w:World) (M:im) (w':World) (M':im):Prop where
 cell: ∀b o v,w.cell? ⟨b,o,none⟩=some v→ ¬M b o→w'.cell? ⟨b,o,none⟩=some v
 map: ∀(b:Nat) es c,w.heap[b]? =some (.map es c)→(∀o,¬M b o)→w'.heap[b]? =some (.map es c)
 m: ∀b o,b<w.heap.size→M' b o→M b o
theorem zM{w:World}{b o:Nat}{v:Value}(h:w.cell? ⟨b,o,none⟩=some v):b<w.heap.size:=by
 grind [World.cell?]
theorem qV{w:World}{b:Nat}{o:Obj}(h:w.heap[b]? =some o):b<w.heap.size:=by
 grind
mutual
theorem PRel.mono{w w':World}{M M':im}(k:kM w M w' M'): ∀(t:T) (v:Value),PRel w M t v→PRel w' M' t v
 | .b x,v,h=>by grind [PRel]
 | .i _ n,v,h=>by grind [PRel]
 | .s l,v,h=>by grind [PRel]
 | .nilsl,v,h=>by grind [PRel]
 | .sl cs len ex,v,h=>by
   simp only[PRel]at h ⊢
   obtain⟨r,off,I,sp,C,D,E,J,H⟩:=h
   exact⟨r,off,I,sp,C,D,E,J,iH.mono k r off cs H⟩
 | .nilptr,v,h=>by grind [PRel]
 | .vp cs,v,h=>by
   simp only[PRel]at h ⊢
   obtain⟨r,off,C,H⟩:=h
   exact⟨r,off,C,iH.mono k r off cs H⟩
 | .nilmp,v,h=>by grind [PRel]
 | .vm ks K,v,h=>by
   simp only[PRel]at h ⊢
   obtain⟨r,N,F,C,D,O,E,H,J⟩:=h
   exact⟨r,N,F,C,k.map _ _ _ D E,O,fun o U=>E o (k.m _ _ (qV D) U),PList.mono k ks _ H,PList.mono k K _ J⟩
 | .nilfn,v,h=>by grind [PRel]
 | .fn f a c,v,h=>by
   simp only[PRel]at h ⊢
   obtain⟨V,W,C,D,E⟩:=h
   exact⟨V,W,C,PList.mono k a _ D,PList.mono k c _ E⟩
 | .agg cs,v,h=>by
   simp only[PRel]at h ⊢
   obtain⟨a,C,D,E⟩:=h
   exact⟨a,C,PList.mono k cs _ D,E⟩
 | .tup cs,v,h=>by
   simp only[PRel]at h ⊢
   obtain⟨a,C,D⟩:=h
   exact⟨a,C,PList.mono k cs _ D⟩
 | .any,v,h=>by simp only[PRel]
 | .isl ..,v,h=>by simp only[PRel]at h
 | .ptr ..,v,h=>by simp only[PRel]at h
 | .mp ..,v,h=>by simp only[PRel]at h
theorem PList.mono{w w':World}{M M':im}(k:kM w M w' M'): ∀(t:List T) (v:List Value),PList w M t v→PList w' M' t v
 | [],v,h=>by grind [PList]
 |t::ts,v,h=>by
  simp only[PList]at h ⊢
  obtain⟨u,us,i,r,C⟩:=h
  exact⟨u,us,i,PRel.mono k t u r,PList.mono k ts us C⟩
theorem iH.mono{w w':World}{M M':im}(k:kM w M w' M')(i:Nat): ∀(off:Nat) (t:List T),iH w M i off t→iH w' M' i off t
 |off,[],h=>by simp only[iH]
 |off,c::cs,h=>by
  simp only[iH]at h ⊢
  obtain⟨⟨v,r,C,D,E⟩,F⟩:=h
  exact⟨⟨v,k.cell _ _ _ r C,fun H=>C (k.m _ _ (zM r) H),PRel.mono k c v D,E⟩,iH.mono k i (off+1) cs F⟩
end
mutual
theorem gW.mono{β iM:iJ}{G G':Sp→Nat→Nat}{w w':World}{M M':im}(k:kM w M w' M')(Fu: ∀sp n g,g≤G sp n→iM sp n g=β sp n g)(D: ∀sp n,G sp n≤G' sp n):
  ∀(t:T) (v:Value),gW β G w M t v→gW iM G' w' M' t v
 | .isl sp n g off len sz,v,h=>by
   grind [gW]
 | .ptr sp n g off,v,h=>by
   grind [gW]
 | .mp sp n g,v,h=>by
   grind [gW]
 | .fn f a c,v,h=>by
   simp only[gW]at h ⊢
   obtain⟨F,H,r,C,E⟩:=h
   exact⟨F,H,r,gY.mono k Fu D a _ C,gY.mono k Fu D c _ E⟩
 | .agg cs,v,h=>by
   simp only[gW]at h ⊢
   obtain⟨a,r,C,E⟩:=h
   exact⟨a,r,gY.mono k Fu D cs _ C,E⟩
 | .tup cs,v,h=>by
   simp only[gW]at h ⊢
   obtain⟨a,r,C⟩:=h
   exact⟨a,r,gY.mono k Fu D cs _ C⟩
 | .any,v,h=>by simp only[gW]
 | .b x,v,h=>by grind [gW]
 | .i _ n,v,h=>by grind [gW]
 | .s l,v,h=>by grind [gW]
 | .nilsl,v,h=>by grind [gW]
 | .sl cs len ex,v,h=>by grind [gW,PRel.mono]
 | .nilptr,v,h=>by grind [gW]
 | .vp cs,v,h=>by grind [gW,PRel.mono]
 | .nilmp,v,h=>by grind [gW]
 | .vm ks I,v,h=>by grind [gW,PRel.mono]
 | .nilfn,v,h=>by grind [gW]
theorem gY.mono{β iM:iJ}{G G':Sp→Nat→Nat}{w w':World}{M M':im}(k:kM w M w' M')(Fu: ∀sp n g,g≤G sp n→iM sp n g=β sp n g)(i: ∀sp n,G sp n≤G' sp n):
  ∀(t:List T) (v:List Value),gY β G w M t v→gY iM G' w' M' t v
 | [],v,h=>by grind [gY]
 |t::ts,v,h=>by
  simp only[gY]at h ⊢
  obtain⟨u,us,r,C,D⟩:=h
  exact⟨u,us,r,gW.mono k Fu i t u C,gY.mono k Fu i ts us D⟩
end
mutual
theorem PRel.toV{w:World}{M:im}(β:iJ)(G:Sp→Nat→Nat): ∀(t:T) (v:Value),PRel w M t v→gW β G w M t v
 | .b x,v,h=>by grind [gW,PRel]
 | .i _ n,v,h=>by grind [gW,PRel]
 | .s l,v,h=>by grind [gW,PRel]
 | .nilsl,v,h=>by grind [gW,PRel]
 | .sl cs len ex,v,h=>by grind [gW]
 | .nilptr,v,h=>by grind [gW,PRel]
 | .vp cs,v,h=>by grind [gW]
 | .nilmp,v,h=>by grind [gW,PRel]
 | .vm ks H,v,h=>by grind [gW]
 | .nilfn,v,h=>by grind [gW,PRel]
 | .fn f a c,v,h=>by
   simp only[PRel]at h;simp only[gW]
   obtain⟨E,F,r,C,D⟩:=h
   exact⟨E,F,r,PList.toV β G a _ C,PList.toV β G c _ D⟩
 | .agg cs,v,h=>by
   simp only[PRel]at h;simp only[gW]
   obtain⟨a,r,C,D⟩:=h
   exact⟨a,r,PList.toV β G cs _ C,D⟩
 | .tup cs,v,h=>by
   simp only[PRel]at h;simp only[gW]
   obtain⟨a,r,C⟩:=h
   exact⟨a,r,PList.toV β G cs _ C⟩
 | .any,v,h=>by simp only[gW]
 | .isl ..,v,h=>by simp only[PRel]at h
 | .ptr ..,v,h=>by simp only[PRel]at h
 | .mp ..,v,h=>by simp only[PRel]at h
theorem PList.toV{w:World}{M:im}(β:iJ)(G:Sp→Nat→Nat): ∀(t:List T) (v:List Value),PList w M t v→gY β G w M t v
 | [],v,h=>by grind [gY,PList]
 |t::ts,v,h=>by
  simp only[PList]at h;simp only[gY]
  obtain⟨u,us,i,r,C⟩:=h
  exact⟨u,us,i,PRel.toV β G t u r,PList.toV β G ts us C⟩
end
theorem gY.length{β:iJ}{G:Sp→Nat→Nat}{w:World}{M:im}: ∀(t:List T) (v:List Value),gY β G w M t v→t.length=v.length
 | [],v,h=>by grind [gY]
 |t::ts,v,h=>by
  simp only[gY]at h
  obtain⟨u,us,rfl,_,i⟩:=h
  simp[gY.length ts us i]
theorem PList.length{w:World}{M:im}: ∀(t:List T) (v:List Value),PList w M t v→t.length=v.length
 | [],v,h=>by grind [PList]
 |t::ts,v,h=>by
  simp only[PList]at h
  obtain⟨u,us,rfl,_,i⟩:=h
  simp[PList.length ts us i]
def zN(β:iJ)(G:Sp→Nat→Nat)(w:World)(M:im)(ts:List T)(r:List Value):Prop:=
 ∀i G',(∀k g,g≤G .S k→i .S k g=β .S k g)→(∀k,G .S k≤G' .S k)→gY i G' w M ts r
def pW(sp:Sp)(bx:Bool)(β:iJ)(G:Sp→Nat→Nat)(w:World)(M:im)(ts:List T)(i:List Value):Prop:=
 match bx,sp with
 |false,_=>PList w M ts i
 |true,.L=>gY β G w M ts i
 |true,.S=>zN β G w M ts i
theorem zN.toV{β:iJ}{G:Sp→Nat→Nat}{w:World}{M:im}{ts:List T}{i:List Value}(h:zN β G w M ts i):gY β G w M ts i:=h β G (fun _ _ _=>rfl) (fun _=>Nat.le_refl _)
theorem zN.mono{β iM:iJ}{G G':Sp→Nat→Nat}{w w':World}{M M':im}{ts:List T}{i:List Value}(k:kM w M w' M')(Fu: ∀n g,g≤G .S n→iM .S n g=β .S n g)(r: ∀n,G .S n≤G' .S n)(h:zN β G w M ts i):zN iM G' w' M' ts i:=
 fun b g D E=>gY.mono k (fun _ _ _ _=>rfl) (fun _ _=>Nat.le_refl _) _ _ (h b g (fun n x C=>(D n x (Nat.le_trans C (r n))).trans (Fu n x C)) (fun n=>Nat.le_trans (r n) (E n)))
theorem pW.toV{sp:Sp}{bx:Bool}{β:iJ}{G:Sp→Nat→Nat}{w:World}{M:im}{ts:List T}{i:List Value}(h:pW sp bx β G w M ts i):gY β G w M ts i:=by
 cases bx
 ·exact PList.toV β G _ _ h
 ·cases sp
  ·exact h
  ·exact zN.toV h
theorem pW.ofP{sp:Sp}{bx:Bool}{β:iJ}{G:Sp→Nat→Nat}{w:World}{M:im}{ts:List T}{i:List Value}(h:PList w M ts i):pW sp bx β G w M ts i:=by
 cases bx
 ·exact h
 ·cases sp
  ·exact PList.toV β G _ _ h
  ·exact fun r G' _ _=>PList.toV r G' _ _ h
theorem pW.mono{sp:Sp}{bx:Bool}{β iM:iJ}{G G':Sp→Nat→Nat}{w w':World}{M M':im}{ts:List T}{i:List Value}(k:kM w M w' M')(Fu: ∀sp n g,g≤G sp n→iM sp n g=β sp n g)(r: ∀sp n,G sp n≤G' sp n)
  (h:pW sp bx β G w M ts i):pW sp bx iM G' w' M' ts i:=by
 cases bx
 ·exact PList.mono k _ _ h
 ·cases sp
  ·exact gY.mono k Fu r _ _ h
  ·exact zN.mono k (Fu .S) (r .S) h
abbrev St.gens(st:St)(sp:Sp)(k:Nat):Nat:=(st.get sp k).g
def live(e:gR):Prop:=match e.ob with| .none=>False|_=>True
def kQ(β:iJ)(G:Sp→Nat→Nat)(w:World)(M:im)(sp:Sp)(k:Nat)(e:gR):Prop:=
 match e.ob with
 | .none=>True
 | .cells cs wm bx=> ∃c el fz,w.heap[(β sp k e.g).blk]? =some (.cells c el fz)∧(β sp k e.g).off+(β sp k e.g).ext≤c.size∧cs.length≤(β sp k e.g).ext∧
     fz=(0,0)∧
     pW sp bx β G w M cs ((c.toList.drop (β sp k e.g).off).take cs.length)∧
     (∀j,wm≤j→j<(β sp k e.g).ext→M (β sp k e.g).blk ((β sp k e.g).off+j))∧cs.all single=true∧wm≤cs.length
 | .map ks C fz=> ∃r i,w.heap[(β sp k e.g).blk]? =some (.map r i)∧MapKept.Stamped r i∧PList w M ks (r.toList.map (·.key))∧PList w M C (r.toList.map (·.val))∧(fz=false→ ∀o,M (β sp k e.g).blk o)
structure lS where
 w:World
 M:im
 SB:Nat→Prop
structure iP (B:lS) (st:St) (w:World) (β:iJ) (M:im):Prop where
 obj: ∀sp k,kQ β st.gens w M sp k (st.get sp k)
 dist: ∀sp k kE k',live (st.get sp k)→live (st.get kE k')→(β sp k (st.gens sp k)).blk=(β kE k' (st.gens kE k')).blk→sp=kE∧k=k'
 mlt: ∀b o,M b o→b<w.heap.size
 lblk: ∀k,live (st.get .L k)→B.w.heap.size≤(β .L k (st.gens .L k)).blk
 sblk: ∀k,live (st.get .S k)→B.SB (β .S k (st.gens .S k)).blk∨B.w.heap.size≤(β .S k (st.gens .S k)).blk
 os:w.os=B.w.os
 tape:w.tape=B.w.tape
 output:w.output=B.w.output
 size:B.w.heap.size≤w.heap.size
 same: ∀b,b<B.w.heap.size→ ¬B.SB b→w.heap[b]? =B.w.heap[b]?
 keep:kM B.w B.M w M
 msup: ∀b o,b<B.w.heap.size→ ¬B.SB b→B.M b o→M b o
structure Tr (st:St) (w:World) (β:iJ) (M:im) (ja:St) (w':World) (iM:iJ) (M':im):Prop where
 keep:kM w M w' M'
 beta: ∀sp k g,g≤st.gens sp k→iM sp k g=β sp k g
 gens: ∀sp k,st.gens sp k≤ja.gens sp k
theorem kM.refl(w:World)(M:im):kM w M w M:=⟨fun _ _ _ h _=>h,fun _ _ _ h _=>h,fun _ _ _ h=>h⟩
theorem kM.trans{w w' r:World}{M M' M'':im}(a:kM w M w' M')(b:kM w' M' r M'')(hs:w.heap.size≤w'.heap.size):kM w M r M'':=
 ⟨fun x o v h i=>b.cell x o v (a.cell x o v h i) (fun C=>i (a.m _ _ (zM h) C)),
  fun x D c h i=>b.map x D c (a.map x D c h i) (fun o C=>i o (a.m _ _ (qV h) C)),
  fun x o h i=>a.m x o h (b.m x o (Nat.lt_of_lt_of_le h hs) i)⟩
theorem Tr.refl(st:St)(w:World)(β:iJ)(M:im):Tr st w β M st w β M:=⟨.refl w M,fun _ _ _ _=>rfl,fun _ _=>Nat.le_refl _⟩
theorem Tr.trans{st C i:St}{w w' r:World}{β iM ap0:iJ}{M M' M'':im}(a:Tr st w β M C w' iM M')(b:Tr C w' iM M' i r ap0 M'')(hs:w.heap.size≤w'.heap.size):
  Tr st w β M i r ap0 M'':=
 ⟨a.keep.trans b.keep hs,fun sp k g h=>(b.beta sp k g (Nat.le_trans h (a.gens sp k))).trans (a.beta sp k g h),fun sp k=>Nat.le_trans (a.gens sp k) (b.gens sp k)⟩
theorem Tr.val{st i:St}{w w':World}{β iM:iJ}{M M':im}(a:Tr st w β M i w' iM M'){t:T}{v:Value}(h:gW β st.gens w M t v):gW iM i.gens w' M' t v:=
 gW.mono a.keep a.beta a.gens t v h
structure ou (st:St) (a:Act) (w:World) (β:iJ) (M:im) (n:Nat):Prop where
 size:a.tmps.size=n
 defers:a.defers= []
 slot: ∀t,gW β st.gens w M (an st.fr t) (a.tmps.getD t undef)
end Go.Ev
namespace Go.Ev
open Go
theorem lY(st:St)(sp:Sp)(k:Nat)(e:gR)(i:Sp)(k':Nat):
  (st.up (sp,k,e)).get i k'=if i=sp∧k'=k then e else st.get i k':=by
 cases sp <;> cases i <;> simp[St.up,St.get,jr,jP,xo,hJ.get_set]
theorem lu(st:St)(sp:Sp)(k:Nat)(e:gR)(i:Sp)(k':Nat):
  (st.up (sp,k,e)).gens i k'=if i=sp∧k'=k then e.g else st.gens i k':=by
 unfold St.gens;rw[lY];split <;> rfl
theorem heap_alloc(w:World)(o:Obj)(b:Nat):(w.alloc o).heap[b]? =if b=w.heap.size then some o else w.heap[b]? :=by
 show(w.heap.push o)[b]? =_
 grind
theorem ov{w w':World}{b o:Nat}(h:w'.heap[b]? =w.heap[b]?):w'.cell? ⟨b,o,none⟩=w.cell? ⟨b,o,none⟩:=by
 unfold World.cell?;rw[h]
theorem kQ.mono{β iM:iJ}{G G':Sp→Nat→Nat}{w w':World}{M M':im}{sp:Sp}{n:Nat}{e:gR}(k:kM w M w' M')(Fu: ∀sp n g,g≤G sp n→iM sp n g=β sp n g)(U: ∀sp n,G sp n≤G' sp n)
  (I:e.g≤G sp n) (F:live e→w'.heap[(β sp n e.g).blk]? =w.heap[(β sp n e.g).blk]?) (H:live e→ ∀o,M (β sp n e.g).blk o→M' (β sp n e.g).blk o)
  (h:kQ β G w M sp n e):kQ iM G' w' M' sp n e:=by
 unfold kQ at h ⊢
 rw[Fu _ _ _ I]
 obtain⟨g,ob⟩:=e
 cases ob with
 |none=>trivial
 |cells cs wm bx=>
  obtain⟨c,el,fz,r,C,D,E,V,J,K⟩:=h
  refine⟨c,el,fz,(F trivial).trans r,C,D,E, ?_,fun j a b=>H trivial _ (J j a b),K⟩
  grind [pW.mono]
 |map ks W fz=>
  obtain⟨N,i,r,O,C,D,E⟩:=h
  exact⟨N,i,(F trivial).trans r,O,PList.mono k _ _ C,PList.mono k _ _ D,fun a o=>H trivial o (E a o)⟩
theorem iP.lt{B:lS}{st:St}{w:World}{β:iJ}{M:im}(h:iP B st w β M){sp:Sp}{k:Nat}(i:live (st.get sp k)):(β sp k (st.gens sp k)).blk<w.heap.size:=by
 have:=h.obj sp k
 unfold kQ at this
 unfold St.gens
 generalize st.get sp k=e at*
 obtain⟨g,ob⟩:=e
 cases ob with
 |none=>exact i.elim
 |cells cs wm bx=>grind
 |map ks r fz=>grind
theorem wx(w:World)(M:im)(o:Obj):kM w M (w.alloc o) M:=
 ⟨fun b off v h _=>by rw[ov (w:=w) (by rw[heap_alloc,if_neg (Nat.ne_of_lt (zM h))])];exact h,
  fun b i c h _=>by rw[heap_alloc,if_neg (Nat.ne_of_lt (qV h))];exact h,fun _ _ _ h=>h⟩
theorem uP(w:World)(M:im)(o:Obj):kM w M (w.alloc o) (fun b x=>M b x∨b=w.heap.size):=
 ⟨(wx w M o).cell,(wx w M o).map,fun _ _ i h=>h.resolve_right (Nat.ne_of_lt i)⟩
theorem ahK{B:lS}{st:St}{w:World}{β:iJ}{M:im}(h:iP B st w β M)(o:Obj):
  iP B st (w.alloc o) β M∧Tr st w β M st (w.alloc o) β M:=by
 have i:=wx w M o
 have hs:w.heap.size≤(w.alloc o).heap.size:=by show _≤(w.heap.push o).size;simp
 refine⟨⟨fun sp k=> ?_,h.dist,fun b x r=>Nat.lt_of_lt_of_le (h.mlt b x r) hs,h.lblk,h.sblk,h.os,h.tape,h.output,Nat.le_trans h.size hs,fun b C D=> ?_,h.keep.trans i h.size,h.msup⟩,i,fun _ _ _ _=>rfl,fun _ _=>Nat.le_refl _⟩
 ·exact kQ.mono i (fun _ _ _ _=>rfl) (fun _ _=>Nat.le_refl _) (Nat.le_refl _) (fun E=>by rw[heap_alloc,if_neg (Nat.ne_of_lt (h.lt E))]) (fun _ _ r=>r) (h.obj sp k)
 ·rw[heap_alloc,if_neg (by have:=h.size;omega)];exact h.same b C D
theorem HM{B:lS}{st:St}{w:World}{β:iJ}{M:im}(h:iP B st w β M)(n:Nat):
  iP B st {w with drawn:=n} β M∧Tr st w β M st {w with drawn:=n} β M:=by
 have i:kM w M {w with drawn:=n} M:=⟨fun _ _ _ h _=>h,fun _ _ _ h _=>h,fun _ _ _ h=>h⟩
 refine⟨⟨fun sp k=> ?_,h.dist,h.mlt,h.lblk,h.sblk,h.os,h.tape,h.output,h.size,h.same,h.keep.trans i h.size,h.msup⟩,i,fun _ _ _ _=>rfl,fun _ _=>Nat.le_refl _⟩
 exact kQ.mono i (fun _ _ _ _=>rfl) (fun _ _=>Nat.le_refl _) (Nat.le_refl _) (fun _=>rfl) (fun _ _ r=>r) (h.obj sp k)
def nM(β:iJ)(sp:Sp)(k g:Nat)(s:JR):iJ:=fun i k' r=>if i=sp∧k'=k∧r=g then s else β i k' r
theorem jv(β:iJ)(sp:Sp)(k g:Nat)(s:JR):nM β sp k g s sp k g=s:=by simp[nM]
theorem zO(β:iJ)(sp:Sp)(k g:Nat)(s:JR){i:Sp}{k' r:Nat}(h: ¬(i=sp∧k'=k∧r=g)):nM β sp k g s i k' r=β i k' r:=by grind [nM]
theorem VN{B:lS}{st:St}{w:World}{β:iJ}{M:im}(h:iP B st w β M)(sp:Sp)(k g:Nat)(hg:st.gens sp k<g)(o:Obj)(ext:Nat)(ob:Ob)
  (ho:kQ (nM β sp k g ⟨w.heap.size,0,ext⟩) (st.up (sp,k,⟨g,ob⟩)).gens (w.alloc o) (fun b x=>M b x∨b=w.heap.size) sp k ⟨g,ob⟩):
  iP B (st.up (sp,k,⟨g,ob⟩)) (w.alloc o) (nM β sp k g ⟨w.heap.size,0,ext⟩) (fun b x=>M b x∨b=w.heap.size)∧
  Tr st w β M (st.up (sp,k,⟨g,ob⟩)) (w.alloc o) (nM β sp k g ⟨w.heap.size,0,ext⟩) (fun b x=>M b x∨b=w.heap.size):=by
 have N:=uP w M o
 have hs:w.heap.size≤(w.alloc o).heap.size:=by show _≤(w.heap.push o).size;simp
 have J: ∀i k' O,O≤st.gens i k'→nM β sp k g ⟨w.heap.size,0,ext⟩ i k' O=β i k' O:=by
  grind [zO]
 have W: ∀i k',st.gens i k'≤(st.up (sp,k,⟨g,ob⟩)).gens i k':=by
  intro i k'
  rw[lu]
  grind
 have K: ∀i k',(nM β sp k g ⟨w.heap.size,0,ext⟩ i k' ((st.up (sp,k,⟨g,ob⟩)).gens i k'))=if i=sp∧k'=k then⟨w.heap.size,0,ext⟩else β i k' (st.gens i k'):=by
  grind [lu,jv]
 refine⟨⟨fun i k'=> ?_,fun U X V Y D E C=> ?_,fun b x F=> ?_,fun k' r=> ?_,fun k' r=> ?_,h.os,h.tape,h.output,Nat.le_trans h.size hs,fun b J Z=> ?_,h.keep.trans N h.size,fun b x h1 h2 h3=> .inl (h.msup b x h1 h2 h3)⟩,N,J,W⟩
 ·rw[lY]
  split
  ·grind
  ·exact kQ.mono N J W (Nat.le_refl _) (fun r=>by rw[heap_alloc,if_neg (Nat.ne_of_lt (h.lt r))]) (fun _ _ F=> .inl F) (h.obj i k')
 ·rw[K,K]at C
  rw[lY]at D E
  by_cases H:U=sp∧X=k <;> by_cases I:V=sp∧Y=k
  ·grind
  ·rw[if_pos H,if_neg I]at C;rw[if_neg I]at E
   exact absurd C.symm (Nat.ne_of_lt (h.lt E))
  ·rw[if_neg H,if_pos I]at C;rw[if_neg H]at D
   exact absurd C (Nat.ne_of_lt (h.lt D))
  ·rw[if_neg H,if_neg I]at C;rw[if_neg H]at D;rw[if_neg I]at E
   exact h.dist _ _ _ _ D E C
 ·rcases F with F|rfl
  ·exact Nat.lt_of_lt_of_le (h.mlt b x F) hs
  ·simp_all
 ·rw[K];rw[lY]at r
  split
  ·exact h.size
  ·rename_i e;rw[if_neg e]at r;exact h.lblk k' r
 ·rw[K];rw[lY]at r
  split
  ·exact .inr h.size
  ·rename_i e;rw[if_neg e]at r;exact h.sblk k' r
 ·rw[heap_alloc,if_neg (by have:=h.size;omega)];exact h.same b J Z
def setBlock(w:World)(b:Nat)(o:Obj):World:={w with heap:=w.heap.setIfInBounds b o}
theorem jV(w:World)(b:Nat)(o:Obj)(x:Nat):(setBlock w b o).heap[x]? =if x=b∧b<w.heap.size then some o else w.heap[x]? :=by
 grind [setBlock]
theorem kB(w:World)(b:Nat)(o:Obj):(setBlock w b o).heap.size=w.heap.size:=by simp[setBlock]
theorem OM{B:lS}{st:St}{w:World}{β:iJ}{M M':im}(h:iP B st w β M)(sp:Sp)(k g:Nat)(ob:Ob)(N:live (st.get sp k))(hg:st.gens sp k≤g)(o:Obj)
  (HN: ∀b x,M' b x→M b x) (r: ∀b x,b≠(β sp k (st.gens sp k)).blk→M b x→M' b x)
  (F:kM w M (setBlock w (β sp k (st.gens sp k)).blk o) M')
  (B1: ¬B.w.heap.size≤(β sp k (st.gens sp k)).blk→B.SB (β sp k (st.gens sp k)).blk)
  (ho:kQ (nM β sp k g (β sp k (st.gens sp k))) (st.up (sp,k,⟨g,ob⟩)).gens (setBlock w (β sp k (st.gens sp k)).blk o) M' sp k ⟨g,ob⟩):
  iP B (st.up (sp,k,⟨g,ob⟩)) (setBlock w (β sp k (st.gens sp k)).blk o) (nM β sp k g (β sp k (st.gens sp k))) M'∧
  Tr st w β M (st.up (sp,k,⟨g,ob⟩)) (setBlock w (β sp k (st.gens sp k)).blk o) (nM β sp k g (β sp k (st.gens sp k))) M':=by
 have C: ∀i k' H,H≤st.gens i k'→nM β sp k g (β sp k (st.gens sp k)) i k' H=β i k' H:=by
  grind [jv,Nat.le_antisymm,zO]
 have J: ∀i k',st.gens i k'≤(st.up (sp,k,⟨g,ob⟩)).gens i k':=by
  intro i k'
  rw[lu]
  grind
 have D: ∀i k',(nM β sp k g (β sp k (st.gens sp k)) i k' ((st.up (sp,k,⟨g,ob⟩)).gens i k'))=β i k' (st.gens i k'):=by
  grind [lu,jv]
 have Gp: ∀i k',live ((st.up (sp,k,⟨g,ob⟩)).get i k')→live (st.get i k'):=by
  grind [lY]
 refine⟨⟨fun i k'=> ?_,fun O k1 U k2 V W E=> ?_,fun b x I=> ?_,fun k' JS=> ?_,fun k' JS=> ?_,h.os,h.tape,h.output, ?_,fun b C X=> ?_,h.keep.trans F h.size,fun b x Y Z h3=> ?_⟩,F,C,J⟩
 ·by_cases e:i=sp∧k'=k
  ·grind [lY]
  ·rw[lY,if_neg e]
   have K:live (st.get i k')→(β i k' (st.gens i k')).blk≠(β sp k (st.gens sp k)).blk:=fun l E=>e (h.dist _ _ _ _ l N E)
   exact kQ.mono F C J (Nat.le_refl _) (fun l=>by rw[jV,if_neg (fun x=>K l x.1)]) (fun l x I=>r _ _ (K l) I) (h.obj i k')
 ·rw[D,D]at E;exact h.dist _ _ _ _ (Gp _ _ V) (Gp _ _ W) E
 ·rw[kB];exact h.mlt b x (HN b x I)
 ·rw[D];exact h.lblk k' (Gp _ _ JS)
 ·rw[D];exact h.sblk k' (Gp _ _ JS)
 ·rw[kB];exact h.size
 ·rw[jV,if_neg]
  ·exact h.same b C X
  grind
 ·refine r b x ?_ (h.msup b x Y Z h3)
  grind
theorem iP.base{B:lS}{st:St}{w:World}{β:iJ}{M:im}(h:iP B st w β M){sp:Sp}{k:Nat}(i:live (st.get sp k)):
  ¬B.w.heap.size≤(β sp k (st.gens sp k)).blk→B.SB (β sp k (st.gens sp k)).blk:=by
 intro r
 cases sp with
 |L=>exact absurd (h.lblk k i) r
 |S=>exact(h.sblk k i).resolve_right r
theorem pK{w:World}{b:Nat}{o:Obj}(h:w.heap[b]? =some o):setBlock w b o=w:=by
 unfold setBlock
 have:w.heap.setIfInBounds b o=w.heap:=by
  grind
 rw[this]
theorem tH(β:iJ)(sp:Sp)(k g:Nat):nM β sp k g (β sp k g)=β:=by
 grind [nM]
def Gq(M:im)(s:JR)(n:Nat):im:=fun b x=>M b x∧ ¬(b=s.blk∧s.off≤x∧x<s.off+n)
def ON(M:im)(i:Nat):im:=fun b x=>M b x∧b≠i
theorem kl{w:World}{M M':im}(h: ∀b x,M' b x→M b x):kM w M w M':=⟨fun _ _ _ h _=>h,fun _ _ _ h _=>h,fun b x _ i=>h b x i⟩
theorem DD{B:lS}{st:St}{w:World}{β:iJ}{M:im}(h:iP B st w β M){sp:Sp}{k g wm:Nat}{cs:List T}{bx:Bool}(C:st.get sp k=⟨g,.cells cs wm bx⟩):
  iP B (st.up (sp,k,⟨g,.cells cs cs.length bx⟩)) w β (Gq M (β sp k g) cs.length)∧
  Tr st w β M (st.up (sp,k,⟨g,.cells cs cs.length bx⟩)) w β (Gq M (β sp k g) cs.length):=by
 have r:st.gens sp k=g:=by unfold St.gens;rw[C]
 have I:live (st.get sp k):=by rw[C];trivial
 have D:=h.obj sp k
 rw[C]at D
 unfold kQ at D
 obtain⟨c,el,fz,E,O,U,V,W,X,J⟩:=D
 have HN: ∀b x,Gq M (β sp k g) cs.length b x→M b x:=fun _ _ F=>F.1
 have K:=kl (w:=w) HN
 have i:=OM (M':=Gq M (β sp k g) cs.length) h sp k g (.cells cs cs.length bx) I (Nat.le_of_eq r) (.cells c el fz) HN
  (fun b x Y F=>⟨F,fun H=>Y (by rw[r];exact H.1)⟩) (by rw[r,pK E];exact K) (h.base I)
 rw[r,pK E,tH]at i
 refine i ⟨c,el,fz,E,O,U,V, ?_,fun j a b=>⟨X j (Nat.le_trans J.2 a) b,fun H=>by have:=H.2.2;dsimp only at a b this;omega⟩,J.1,Nat.le_refl _⟩
 have Z: ∀N k',st.gens N k'≤(st.up (sp,k,⟨g,.cells cs cs.length bx⟩)).gens N k':=by
  simp_all[lu,Nat.le_of_eq,Nat.le_refl]
 exact pW.mono K (fun _ _ _ _=>rfl) Z W
end Go.Ev
namespace Go.Ev
open Go
theorem JT{B:lS}{st:St}{w:World}{β:iJ}{M:im}(h:iP B st w β M){sp:Sp}{k g:Nat}{ks C:List T}{f:Bool}(E:st.get sp k=⟨g,.map ks C f⟩):
  iP B (st.up (sp,k,⟨g,.map ks C true⟩)) w β (ON M (β sp k g).blk)∧
  Tr st w β M (st.up (sp,k,⟨g,.map ks C true⟩)) w β (ON M (β sp k g).blk):=by
 have D:st.gens sp k=g:=by show(st.get sp k).g=g;rw[E]
 have K:live (st.get sp k):=by rw[E];trivial
 have F:=h.obj sp k
 rw[E]at F
 unfold kQ at F
 obtain⟨N,i,H,U,V,W,X⟩:=F
 have HN: ∀b x,ON M (β sp k g).blk b x→M b x:=fun _ _ I=>I.1
 have J:=kl (w:=w) HN
 have r:=OM (M':=ON M (β sp k g).blk) h sp k g (.map ks C true) K (Nat.le_of_eq D) (.map N i) HN
  (fun b x O I=>⟨I,by rw[D]at O;exact O⟩) (by rw[D,pK H];exact J) (h.base K)
 rw[D,pK H,tH]at r
 exact r ⟨N,i,H,U,PList.mono J _ _ V,PList.mono J _ _ W,fun e=>by cases e⟩
theorem PList.get{w:World}{M:im}: ∀{ts:List T} {i:List Value},PList w M ts i→ ∀{j:Nat} {t:T},ts[j]? =some t→ ∃v,i[j]? =some v∧PRel w M t v
 | [],i,h,j,t,r=>by simp at r
 |x::xs,i,h,j,t,r=>by
  simp only[PList]at h
  obtain⟨u,us,rfl,D,C⟩:=h
  cases j with
  |zero=>grind
  |succ j=>simp at r ⊢; exact PList.get C r
theorem gY.get{β:iJ}{G:Sp→Nat→Nat}{w:World}{M:im}: ∀{ts:List T} {i:List Value},gY β G w M ts i→ ∀{j:Nat} {t:T},ts[j]? =some t→ ∃v,i[j]? =some v∧gW β G w M t v
 | [],i,h,j,t,r=>by simp at r
 |x::xs,i,h,j,t,r=>by
  simp only[gY]at h
  obtain⟨u,us,rfl,D,C⟩:=h
  cases j with
  |zero=>grind
  |succ j=>simp at r ⊢; exact gY.get C r
theorem gY.drop{β:iJ}{G:Sp→Nat→Nat}{w:World}{M:im}: ∀{ts:List T} {i:List Value} (n:Nat),gY β G w M ts i→gY β G w M (ts.drop n) (i.drop n)
 |ts,i,0,h=>by simpa using h
 | [],i,n+1,h=>by grind [gY]
 |x::xs,i,n+1,h=>by
  simp only[gY]at h
  obtain⟨u,us,rfl,C,r⟩:=h
  simpa using gY.drop n r
theorem gY.take{β:iJ}{G:Sp→Nat→Nat}{w:World}{M:im}: ∀{ts:List T} {i:List Value} (n:Nat),gY β G w M ts i→gY β G w M (ts.take n) (i.take n)
 |ts,i,0,h=>by simp[gY]
 | [],i,n+1,h=>by grind [gY]
 |x::xs,i,n+1,h=>by
  simp only[gY]at h
  obtain⟨u,us,rfl,r,C⟩:=h
  simp only[List.take_succ_cons,gY]
  exact⟨u,_,rfl,r,gY.take n C⟩
theorem PList.drop{w:World}{M:im}: ∀{ts:List T} {i:List Value} (n:Nat),PList w M ts i→PList w M (ts.drop n) (i.drop n)
 |ts,i,0,h=>by simpa using h
 | [],i,n+1,h=>by grind [PList]
 |x::xs,i,n+1,h=>by
  simp only[PList]at h
  obtain⟨u,us,rfl,C,r⟩:=h
  simpa using PList.drop n r
theorem PList.take{w:World}{M:im}: ∀{ts:List T} {i:List Value} (n:Nat),PList w M ts i→PList w M (ts.take n) (i.take n)
 |ts,i,0,h=>by simp[PList]
 | [],i,n+1,h=>by grind [PList]
 |x::xs,i,n+1,h=>by
  simp only[PList]at h
  obtain⟨u,us,rfl,r,C⟩:=h
  simp only[List.take_succ_cons,PList]
  exact⟨u,_,rfl,r,PList.take n C⟩
theorem PList.append{w:World}{M:im}: ∀{ts DE:List T} {i Bg:List Value},PList w M ts i→PList w M DE Bg→PList w M (ts++DE) (i++Bg)
 | [],DE,i,Bg,h,r=>by grind [PList]
 |x::xs,DE,i,Bg,h,r=>by
  simp only[PList]at h
  obtain⟨u,us,rfl,C,D⟩:=h
  simp only[List.cons_append,PList]
  exact⟨u,_,rfl,C,PList.append D r⟩
theorem gY.append{β:iJ}{G:Sp→Nat→Nat}{w:World}{M:im}: ∀{ts DE:List T} {i Bg:List Value},gY β G w M ts i→gY β G w M DE Bg→gY β G w M (ts++DE) (i++Bg)
 | [],DE,i,Bg,h,r=>by grind [gY]
 |x::xs,DE,i,Bg,h,r=>by
  simp only[gY]at h
  obtain⟨u,us,rfl,C,D⟩:=h
  simp only[List.cons_append,gY]
  exact⟨u,_,rfl,C,gY.append D r⟩
theorem iH.of{w:World}{M:im}{i:Nat}{c:Array Value}{el:TypeId}{fz:Nat×Nat}(D:w.heap[i]? =some (.cells c el fz)):
  ∀(ts:List T) (off:Nat),PList w M ts ((c.toList.drop off).take ts.length)→(∀x,off≤x→x<off+ts.length→ ¬M i x)→ts.all single=true→iH w M i off ts
 | [],off,_,_,_=>by simp only[iH]
 |t::ts,off,h,E,hs=>by
  simp only[PList,List.length_cons]at h
  obtain⟨u,us,r,F,H⟩:=h
  simp only[List.all_cons,Bool.and_eq_true]at hs
  have VO:w.cell? ⟨i,off,none⟩=some u:=by
   unfold World.cell?;rw[D]
   have:((c.toList.drop off).take (ts.length+1))[0]? =some u:=by rw[r];rfl
   grind
  have C:us=(c.toList.drop (off+1)).take ts.length:=by
   apply List.ext_getElem?
   intro j
   have:=congrArg (fun l=>l[j+1]?) r
   grind
  simp only[iH]
  exact⟨⟨u,VO,E off (Nat.le_refl _) (by simp),F,hs.1⟩,iH.of D ts (off+1) (C▸H) (fun x r F=>E x (by omega) (by simp;omega)) hs.2⟩
def OO(e:gR):gR:=
 match e.ob with
 | .cells cs _ bx=>⟨e.g,.cells cs cs.length bx⟩
 | .map ks i _=>⟨e.g,.map ks i true⟩
 | .none=>e
def Fz(st i:St):Prop:=i.fr=st.fr∧i.sh.length=st.sh.length∧ ∀sp k,i.get sp k=st.get sp k∨i.get sp k=OO (st.get sp k)
theorem Fz.refl(st:St):Fz st st:=⟨rfl,rfl,fun _ _=> .inl rfl⟩
theorem aau(e:gR):(OO e).g=e.g:=by grind [OO]
theorem Fz.gens{st i:St}(h:Fz st i):i.gens=st.gens:=by
 funext sp k
 rcases h.2.2 sp k with e|e
 ·grind
 ·grind [aau]
theorem wy(l:List gR)(k:Nat)(e:gR)(h:k<l.length):(jP l k e).length=l.length:=by
 unfold jP
 induction l generalizing k with
 |nil=>simp at h
 |cons x xs ih=>
  cases k with
  |zero=>simp[pd]
  |succ k=>grind [pd,List.length_cons]
theorem Gr{l:List gR}{k:Nat}(h:l.length≤k):jr l k=lA:=by
 unfold jr
 induction l generalizing k with
 |nil=>simp[iy]
 |cons x xs ih=>
  cases k with
  |zero=>simp at h
  |succ k=>grind [iy]
theorem OP{st:St}{k:Nat}(h:live (st.get .S k)):k<st.sh.length:=by
 rcases Nat.lt_or_ge k st.sh.length with h'|h'
 ·exact h'
 ·simp only[St.get,Gr h']at h;exact h.elim
theorem Fz.up{st i:St}(h:Fz st i){sp:Sp}{k:Nat}{e:gR}(r:st.get sp k=e)(C:live e):Fz st (i.up (sp,k,OO e)):=by
 refine⟨?_, ?_,fun D k'=> ?_⟩
 ·rw[←h.1];cases sp <;> rfl
 ·rw[←h.2.1]
  cases sp with
  |L=>rfl
  |S=>
   have E:k<i.sh.length:=by rw[h.2.1];exact OP (r▸C)
   simp[St.up,wy _ _ _ E]
 ·rw[lY]
  split
  ·grind
  ·exact h.2.2 D k'
def uQ(keep:Bool)(β:iJ)(G:Sp→Nat→Nat)(w:World)(M:im)(t:T)(v:Value):Prop:=
 if keep then∀i G',(∀k g,g≤G .S k→i .S k g=β .S k g)→(∀k,G .S k≤G' .S k)→gW i G' w M t v else PRel w M t v
def ow(keep:Bool)(β:iJ)(G:Sp→Nat→Nat)(w:World)(M:im)(t:List T)(v:List Value):Prop:=
 if keep then∀i G',(∀k g,g≤G .S k→i .S k g=β .S k g)→(∀k,G .S k≤G' .S k)→gY i G' w M t v else PList w M t v
theorem uQ.ofP{keep:Bool}{β:iJ}{G:Sp→Nat→Nat}{w:World}{M:im}{t:T}{v:Value}(h:PRel w M t v):uQ keep β G w M t v:=by
 cases keep
 ·exact h
 ·exact fun i G' _ _=>PRel.toV i G' t v h
theorem uQ.toV{keep:Bool}{β:iJ}{G:Sp→Nat→Nat}{w:World}{M:im}{t:T}{v:Value}(h:uQ keep β G w M t v):gW β G w M t v:=by
 cases keep
 ·exact PRel.toV β G t v h
 ·exact h β G (fun _ _ _=>rfl) (fun _=>Nat.le_refl _)
theorem ow.toV{keep:Bool}{β:iJ}{G:Sp→Nat→Nat}{w:World}{M:im}{t:List T}{v:List Value}(h:ow keep β G w M t v):gY β G w M t v:=by
 cases keep
 ·exact PList.toV β G t v h
 ·exact h β G (fun _ _ _=>rfl) (fun _=>Nat.le_refl _)
theorem uQ.mono{keep:Bool}{β:iJ}{G:Sp→Nat→Nat}{w w':World}{M M':im}{t:T}{v:Value}(k:kM w M w' M')(h:uQ keep β G w M t v):uQ keep β G w' M' t v:=by
 cases keep
 ·exact PRel.mono k t v h
 ·exact fun i G' a b=>gW.mono k (fun _ _ _ _=>rfl) (fun _ _=>Nat.le_refl _) t v (h i G' a b)
theorem ow.mono{keep:Bool}{β:iJ}{G:Sp→Nat→Nat}{w w':World}{M M':im}{t:List T}{v:List Value}(k:kM w M w' M')(h:ow keep β G w M t v):ow keep β G w' M' t v:=by
 cases keep
 ·exact PList.mono k t v h
 ·exact fun i G' a b=>gY.mono k (fun _ _ _ _=>rfl) (fun _ _=>Nat.le_refl _) t v (h i G' a b)
theorem ow.nil{keep:Bool}{β:iJ}{G:Sp→Nat→Nat}{w:World}{M:im}:ow keep β G w M [] []:=by
 cases keep
 ·exact(by simp[PList]:PList w M [] [])
 ·exact fun i G' _ _=>by simp[gY]
theorem ow.cons{keep:Bool}{β:iJ}{G:Sp→Nat→Nat}{w:World}{M:im}{t:T}{v:Value}{ts:List T}{i:List Value}(h:uQ keep β G w M t v)(r:ow keep β G w M ts i):ow keep β G w M (t::ts) (v::i):=by
 cases keep
 ·show PList w M (t::ts) (v::i)
  simp only[PList];exact⟨v,i,rfl,h,r⟩
 ·exact fun C G' a b=>by simp only[gY];exact⟨v,i,rfl,h C G' a b,r C G' a b⟩
theorem Q.run_bind{α γ:Type}(h:Sp→Nat→gR)(i:Nat): ∀(q:Q α) (f:α→Q γ),(q.bind f).run h i=(q.run h i).bind fun a=>(f a).run h i
 | .ret a,f=>by simp[Q.bind,Q.run]
 | .fail,f=>by simp[Q.bind,Q.run]
 | .rd sp k g,f=>by simp_all[Q.bind,Q.run,Q.run_bind]
 | .new g,f=>by simp_all[Q.bind,Q.run,Q.run_bind]
theorem kO(st:St)(a b:List Up):st.ups (a++b)=(st.ups a).ups b:=by
 induction a generalizing st with
 |nil=>rfl
 |cons x xs ih=>grind [St.ups]
def ap3(keep:Bool)(st:St)(q:Q (T×List Up))(t:T):Prop:=
 ∀(B:lS) (i:St) (w:World) (β:iJ) (M:im) (v:Value) (r:T) (us:List Up) (C:Nat),Fz st i→iP B i w β M→gW β st.gens w M t v→q.run st.get C=some (r,us)→
  ∃M',iP B (i.ups us) w β M'∧Fz st (i.ups us)∧(∀b x,M' b x→M b x)∧uQ keep β st.gens w M' r v∧(single t=true→single r=true)
def ap4(keep:Bool)(st:St)(q:Q (List T×List Up))(ts:List T):Prop:=
 ∀(B:lS) (i:St) (w:World) (β:iJ) (M:im) (r:List Value) (DE:List T) (us:List Up) (C:Nat),Fz st i→iP B i w β M→gY β st.gens w M ts r→q.run st.get C=some (DE,us)→
  ∃M',iP B (i.ups us) w β M'∧Fz st (i.ups us)∧(∀b x,M' b x→M b x)∧ow keep β st.gens w M' DE r∧(ts.all single=true→DE.all single=true)∧DE.length=ts.length
theorem pL{keep:Bool}{st:St}{f:T→Q (T×List Up)}(K: ∀t,ap3 keep st (f t) t): ∀ts,ap4 keep st (iZ f ts) ts
 | []=>by
   intro B D w β M U DE us r E h C i
   simp only[gY]at C;subst C
   simp[iZ,Q.run]at i
   obtain⟨rfl,rfl⟩:=i
   exact⟨M,h,E,fun _ _ h=>h,ow.nil,fun h=>h,rfl⟩
 |t::ts=>by
  intro B D w β M U DE us r E h C i
  simp only[gY]at C
  obtain⟨u,Bg,rfl,V,W⟩:=C
  simp only[iZ,Q.run_bind]at i
  cases F:(f t).run st.get r with
  |none=>simp[F]at i
  |some p=>
   obtain⟨X,JU⟩:=p
   simp only[F,Option.bind_some]at i
   cases H:(iZ f ts).run st.get r with
   |none=>simp[H]at i
   |some q=>
    obtain⟨I,J⟩:=q
    simp only[H,Option.bind_some,Q.run,Option.some.injEq,Prod.mk.injEq]at i
    obtain⟨rfl,rfl⟩:=i
    obtain⟨M1,a1,a2,N,Y,a5⟩:=K t B D w β M u X JU r E h V F
    have Z:=kl (w:=w) N
    obtain⟨M2,b1,b2,O,b4,b5,b6⟩:=pL K ts B (D.ups JU) w β M1 Bg I J r a2 a1 (gY.mono Z (fun _ _ _ _=>rfl) (fun _ _=>Nat.le_refl _) ts Bg W) H
    refine⟨M2,by rw[kO];exact b1,by rw[kO];exact b2,fun b x hm=>N b x (O b x hm),ow.cons (Y.mono (kl O)) b4, ?_,by simp[b6]⟩
    grind
theorem nN{cs:List T}(h:cs.all single=true)(a n:Nat):((cs.drop a).take n).all single=true:=by
 grind
theorem B2(keep:Bool)(st:St): ∀(n:Nat) (t:T),ap3 keep st (fz keep n t) t:=by
 intro n
 induction n generalizing keep with
 |zero=>intro t B E w β M v t' us X _ _ _ r;simp[fz,Q.run]at r
 |succ n ih=>
  intro t B E w β M v t' us X F h U r
  have plain:(t',us)=(t,[])→(PRel w M t v)→ ∃M',iP B (E.ups us) w β M'∧Fz st (E.ups us)∧(∀b x,M' b x→M b x)∧uQ keep β st.gens w M' t' v∧(single t=true→single t'=true):=by
   intro e hp
   simp only[Prod.mk.injEq]at e
   obtain⟨rfl,rfl⟩:=e
   exact⟨M,h,F,fun _ _ h=>h,uQ.ofP hp,fun h=>h⟩
  cases t with
  |b x=>grind [fz,Q.run,gW,PRel]
  |i k x=>grind [fz,Q.run,gW,PRel]
  |s x=>grind [fz,Q.run,gW,PRel]
  |nilsl=>grind [fz,Q.run,gW,PRel]
  |sl cs len ex=>grind [fz,Q.run,gW]
  |nilptr=>grind [fz,Q.run,gW,PRel]
  |vp cs=>grind [fz,Q.run,gW]
  |nilmp=>grind [fz,Q.run,gW,PRel]
  |vm ks vs=>grind [fz,Q.run,gW]
  |nilfn=>grind [fz,Q.run,gW,PRel]
  |any=>grind [fz,Q.run,PRel]
  |fn f a c=>
   simp only[gW]at U
   obtain⟨fa,fc,rfl,h1,h2⟩:=U
   simp only[fz,Q.run_bind]at r
   cases C:(iZ (fz keep n) a).run st.get X with
   |none=>simp[C]at r
   |some p=>
    obtain⟨a1,JU⟩:=p
    simp only[C,Option.bind_some]at r
    cases h4:(iZ (fz keep n) c).run st.get X with
    |none=>simp[h4]at r
    |some q=>
     obtain⟨c2,us2⟩:=q
     simp only[h4,Option.bind_some,Q.run,Option.some.injEq,Prod.mk.injEq]at r
     obtain⟨rfl,rfl⟩:=r
     obtain⟨M1,x1,Y,x3,Z,x5,_⟩:=pL (fun t=>ih keep t) a B E w β M _ a1 JU X F h h1 C
     have k1:=kl (w:=w) x3
     obtain⟨M2,y1,y2,y3,y4,y5,_⟩:=pL (fun t=>ih keep t) c B (E.ups JU) w β M1 _ c2 us2 X Y x1 (gY.mono k1 (fun _ _ _ _=>rfl) (fun _ _=>Nat.le_refl _) _ _ h2) h4
     refine⟨M2,by rw[kO];exact y1,by rw[kO];exact y2,fun b x H=>x3 b x (y3 b x H), ?_,fun _=>rfl⟩
     have D:=ow.mono (kl (w:=w) y3) Z
     cases keep
     ·show PRel w M2 (.fn f a1 c2) (.func (.func f) fa fc)
      simp only[PRel];exact⟨fa,fc,rfl,D,y4⟩
     ·exact fun iM G' p q=>by simp only[gW];exact⟨fa,fc,rfl,D iM G' p q,y4 iM G' p q⟩
  |agg cs=>
   simp only[gW]at U
   obtain⟨a,rfl,h1,h2⟩:=U
   simp only[fz,Q.run_bind]at r
   cases C:(iZ (fz keep n) cs).run st.get X with
   |none=>simp[C]at r
   |some p=>
    obtain⟨a1,JU⟩:=p
    simp only[C,Option.bind_some,Q.run,Option.some.injEq,Prod.mk.injEq]at r
    obtain⟨rfl,rfl⟩:=r
    obtain⟨M1,x1,Y,x3,Z,x5,_⟩:=pL (fun t=>ih keep t) cs B E w β M _ a1 JU X F h h1 C
    refine⟨M1,x1,Y,x3, ?_,fun h=>h⟩
    cases keep
    ·show PRel w M1 (.agg a1) (.agg a)
     simp only[PRel];exact⟨a,rfl,Z,x5 h2⟩
    ·exact fun iM G' p q=>by simp only[gW];exact⟨a,rfl,Z iM G' p q,x5 h2⟩
  |tup cs=>
   simp only[gW]at U
   obtain⟨a,rfl,h1⟩:=U
   simp only[fz,Q.run_bind]at r
   cases C:(iZ (fz keep n) cs).run st.get X with
   |none=>simp[C]at r
   |some p=>
    obtain⟨a1,JU⟩:=p
    simp only[C,Option.bind_some,Q.run,Option.some.injEq,Prod.mk.injEq]at r
    obtain⟨rfl,rfl⟩:=r
    obtain⟨M1,x1,Y,x3,Z,x5,_⟩:=pL (fun t=>ih keep t) cs B E w β M _ a1 JU X F h h1 C
    refine⟨M1,x1,Y,x3, ?_,fun h=>h⟩
    cases keep
    ·show PRel w M1 (.tup a1) (.tuple a)
     simp only[PRel];exact⟨a,rfl,Z⟩
    ·exact fun iM G' p q=>by simp only[gW];exact⟨a,rfl,Z iM G' p q⟩
  |isl sp k g off len sz=>
   simp only[fz]at r
   by_cases V:(keep&&sp== .S)=true
   ·simp only[V,if_true,Q.run,Option.some.injEq,Prod.mk.injEq]at r
    obtain⟨rfl,rfl⟩:=r
    simp only[Bool.and_eq_true,beq_iff_eq]at V
    obtain⟨rfl,rfl⟩:=V
    refine⟨M,h,F,fun _ _ h=>h,fun iM G' p q=> ?_,fun h=>h⟩
    grind [gW]
   ·rw[if_neg V]at r
    simp only[Q.run]at r
    split at r
    ·rename_i hg
     generalize I:st.get sp k=e at r hg
     obtain⟨W,ob⟩:=e
     dsimp only at hg;subst hg
     cases ob with
     |none=>simp[Q.run]at r
     |map _ _ _=>simp[Q.run]at r
     |cells cs wm bx=>
      cases bx with
      |true=>
       dsimp only at r
       split at r
       ·rename_i hle
        simp only[Q.run_bind]at r
        cases C:(iZ (fz false n) ((cs.drop off).take (len*sz))).run st.get X with
        |none=>simp[C]at r
        |some p=>
         obtain⟨c1,JU⟩:=p
         simp only[C,Option.bind_some,Q.run,Option.some.injEq,Prod.mk.injEq]at r
         obtain⟨rfl,rfl⟩:=r
         have gg:E.gens=st.gens:=F.gens
         have K: ∃Tm,E.get sp k=⟨W,.cells cs Tm true⟩:=by
          rcases F.2.2 sp k with x|x
          ·exact⟨wm,by rw[x,I]⟩
          ·exact⟨cs.length,by rw[x,I];rfl⟩
         obtain⟨wm0,K⟩:=K
         have N:=h.obj sp k
         rw[K]at N
         unfold kQ at N
         obtain⟨c,el,fzz,o1,o2,o3,o4,o5,o6,o7,o8⟩:=N
         dsimp only at o1 o2 o3 o4 o5 o6
         have o5':gY β st.gens w M cs ((c.toList.drop (β sp k W).off).take cs.length):=by
          rw[←gg]
          exact o5.toV
         have J:((cs.drop off).take (len*sz)).length=len*sz:=by simp;omega
         obtain⟨M1,x1,Y,x3,Z,x5,x6⟩:=pL (fun t=>ih false t) ((cs.drop off).take (len*sz)) B E w β M _ c1 JU X F h (gY.take (len*sz) (gY.drop off o5')) C
         have Fv: ∃Tm,(E.ups JU).get sp k=⟨W,.cells cs Tm true⟩:=by
          rcases Y.2.2 sp k with x|x
          ·exact⟨wm,by rw[x,I]⟩
          ·exact⟨cs.length,by rw[x,I];rfl⟩
         obtain⟨Tm,Fv⟩:=Fv
         obtain⟨r1,r2⟩:=DD x1 Fv
         have O:=Y.up I trivial
         rw[kO]
         refine⟨_,r1,O,fun b x H=>x3 b x H.1, ?_,fun _=>rfl⟩
         apply uQ.ofP
         simp only[gW]at U
         obtain⟨ZO,cap,rfl,JV,hv3⟩:=U
         simp only[PRel]
         refine⟨_,_,cap,none,rfl,JV,(fun e=>by cases e),.inl rfl, ?_⟩
         have D:PList w (Gq M1 (β sp k W) cs.length) c1 (((c.toList.drop (β sp k W).off).take cs.length).drop off |>.take (len*sz)):=PList.mono r2.keep _ _ Z
         refine iH.of o1 _ _ ?_ ?_ (x5 (nN o7 _ _))
         ·rw[x6,J]
          rw[List.drop_take,List.drop_drop,List.take_take]at D
          have e:min (len*sz) (cs.length-off)=len*sz:=by omega
          rw[e]at D
          exact D
         ·intro x h1 h2 H
          rw[x6,J]at h2
          exact H.2 ⟨rfl,by omega,by omega⟩
       ·simp[Q.run]at r
      |false=>
       dsimp only at r
       split at r
       ·rename_i hle
        simp only[Q.run,Option.some.injEq,Prod.mk.injEq]at r
        obtain⟨rfl,rfl⟩:=r
        have Fv: ∃Tm,E.get sp k=⟨W,.cells cs Tm false⟩:=by
         rcases F.2.2 sp k with x|x
         ·exact⟨wm,by rw[x,I]⟩
         ·exact⟨cs.length,by rw[x,I];rfl⟩
        obtain⟨Tm,Fv⟩:=Fv
        obtain⟨r1,r2⟩:=DD h Fv
        have O:=F.up I trivial
        refine⟨_,r1,O,fun b x H=>H.1, ?_,fun _=>rfl⟩
        apply uQ.ofP
        have N:=r1.obj sp k
        rw[lY,if_pos ⟨rfl,rfl⟩]at N
        unfold kQ at N
        obtain⟨c,el,fzz,o1,o2,o3,o4,o5,o6,o7,o8⟩:=N
        dsimp only at o1 o2 o3 o4 o5 o6
        simp only[gW]at U
        obtain⟨ZO,cap,rfl,JV,hv3⟩:=U
        simp only[PRel]
        refine⟨_,_,cap,none,rfl,JV,(fun e=>by cases e),.inl rfl, ?_⟩
        have J:((cs.drop off).take (len*sz)).length=len*sz:=by simp;omega
        refine iH.of o1 _ _ ?_ ?_ (nN o7 _ _)
        ·have:=PList.take (len*sz) (PList.drop off o5)
         rw[List.drop_take,List.drop_drop,List.take_take]at this
         rw[J]
         have e:min (len*sz) (cs.length-off)=len*sz:=by omega
         rw[e]at this
         exact this
        ·intro x h1 h2 H
         rw[J]at h2
         exact H.2 ⟨rfl,by omega,by omega⟩
       ·simp[Q.run]at r
    ·simp[Q.run]at r
  |ptr sp k g off=>
   simp only[fz]at r
   by_cases V:(keep&&sp== .S)=true
   ·simp only[V,if_true,Q.run,Option.some.injEq,Prod.mk.injEq]at r
    obtain⟨rfl,rfl⟩:=r
    simp only[Bool.and_eq_true,beq_iff_eq]at V
    obtain⟨rfl,rfl⟩:=V
    refine⟨M,h,F,fun _ _ h=>h,fun iM G' p q=> ?_,fun h=>h⟩
    grind [gW]
   ·rw[if_neg V]at r
    simp only[Q.run]at r
    split at r
    ·rename_i hg
     generalize I:st.get sp k=e at r hg
     obtain⟨W,ob⟩:=e
     dsimp only at hg;subst hg
     cases ob with
     |none=>simp[Q.run]at r
     |map _ _ _=>simp[Q.run]at r
     |cells cs wm bx=>
      dsimp only at r
      simp only[Q.run_bind]at r
      cases C:(iZ (fz false n) (cs.drop off)).run st.get X with
      |none=>simp[C]at r
      |some p=>
       obtain⟨c1,JU⟩:=p
       simp only[C,Option.bind_some,Q.run,Option.some.injEq,Prod.mk.injEq]at r
       obtain⟨rfl,rfl⟩:=r
       have gg:E.gens=st.gens:=F.gens
       have K: ∃Tm,E.get sp k=⟨W,.cells cs Tm bx⟩:=by
        rcases F.2.2 sp k with x|x
        ·exact⟨wm,by rw[x,I]⟩
        ·exact⟨cs.length,by rw[x,I];rfl⟩
       obtain⟨wm0,K⟩:=K
       have N:=h.obj sp k
       rw[K]at N
       unfold kQ at N
       obtain⟨c,el,fzz,o1,o2,o3,o4,o5,o6,o7,o8⟩:=N
       dsimp only at o1 o2 o3 o4 o5 o6
       have o5':gY β st.gens w M cs ((c.toList.drop (β sp k W).off).take cs.length):=by
        rw[←gg]
        exact o5.toV
       obtain⟨M1,x1,Y,x3,Z,x5,x6⟩:=pL (fun t=>ih false t) (cs.drop off) B E w β M _ c1 JU X F h (gY.drop off o5') C
       have Fv: ∃Tm,(E.ups JU).get sp k=⟨W,.cells cs Tm bx⟩:=by
        rcases Y.2.2 sp k with x|x
        ·exact⟨wm,by rw[x,I]⟩
        ·exact⟨cs.length,by rw[x,I];rfl⟩
       obtain⟨Tm,Fv⟩:=Fv
       obtain⟨r1,r2⟩:=DD x1 Fv
       have O:=Y.up I trivial
       rw[kO]
       refine⟨_,r1,O,fun b x H=>x3 b x H.1, ?_,fun _=>rfl⟩
       apply uQ.ofP
       simp only[gW]at U
       obtain⟨ZO,rfl⟩:=U
       simp only[PRel]
       refine⟨_,_,rfl, ?_⟩
       have D:PList w (Gq M1 (β sp k W) cs.length) c1 ((List.drop off ((c.toList.drop (β sp k W).off).take cs.length))):=PList.mono r2.keep _ _ Z
       refine iH.of o1 _ _ ?_ ?_ (x5 (by rw[List.all_eq_true]at o7 ⊢; exact fun x hx=>o7 x (List.mem_of_mem_drop hx)))
       ·rw[x6,List.length_drop]
        rw[List.drop_take,List.drop_drop]at D
        exact D
       ·intro x h1 h2 H
        rw[x6,List.length_drop]at h2
        exact H.2 ⟨rfl,by omega,by omega⟩
    ·simp[Q.run]at r
  |mp sp k g=>
   simp only[fz]at r
   by_cases V:(keep&&sp== .S)=true
   ·simp only[V,if_true,Q.run,Option.some.injEq,Prod.mk.injEq]at r
    obtain⟨rfl,rfl⟩:=r
    simp only[Bool.and_eq_true,beq_iff_eq]at V
    obtain⟨rfl,rfl⟩:=V
    refine⟨M,h,F,fun _ _ h=>h,fun iM G' p q=> ?_,fun h=>h⟩
    grind [gW]
   ·rw[if_neg V]at r
    simp only[Q.run]at r
    split at r
    ·rename_i hg
     generalize I:st.get sp k=e at r hg
     obtain⟨W,ob⟩:=e
     dsimp only at hg;subst hg
     cases ob with
     |none=>simp[Q.run]at r
     |cells _ _ _=>simp[Q.run]at r
     |map ks vs f=>
      simp only[Q.run,Option.some.injEq,Prod.mk.injEq]at r
      obtain⟨rfl,rfl⟩:=r
      have Fv: ∃f',E.get sp k=⟨W,.map ks vs f'⟩:=by
       rcases F.2.2 sp k with x|x
       ·grind
       ·exact⟨true,by rw[x,I];rfl⟩
      obtain⟨f',Fv⟩:=Fv
      obtain⟨r1,r2⟩:=JT h Fv
      have O:=F.up I trivial
      refine⟨_,r1,O,fun b x H=>H.1, ?_,fun _=>rfl⟩
      apply uQ.ofP
      have N:=r1.obj sp k
      rw[lY,if_pos ⟨rfl,rfl⟩]at N
      unfold kQ at N
      obtain⟨es,clock,o1,ost,o2,o3,o4⟩:=N
      simp only[gW]at U
      obtain⟨ZO,rfl⟩:=U
      simp only[PRel]
      exact⟨_,es,clock,rfl,o1,ost,fun o H=>H.2 rfl,o2,o3⟩
    ·simp[Q.run]at r
end Go.Ev
namespace Go.Ev
open Go
abbrev ol(d s n:Nat)(a:Bool):be:=⟨some d,.ld (.t s) n a,none⟩
abbrev ob(d:Nat)(o:BinOp)(x y:iz):be:=⟨some d,.bin o x y,none⟩
abbrev on(d s:Nat):be:=⟨some d,.lenV (.t s),none⟩
end Go.Ev
