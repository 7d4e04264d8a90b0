/- A tree evaluator over the model, proved against it (part A): where it answers, the call returns that answer. Conditions: none beyond its theorems' own. -/
import GoSem.Dispatch
import Derived.Orders
import Derived.LoopN
import Derived.Below
import Derived.MapKept
set_option linter.unusedSimpArgs false
set_option linter.unusedVariables false
namespace Go.Ev
open Go
inductive Sp where
 |L|S
 deriving DecidableEq,Inhabited
inductive T where
 |b (x:Bool)
 |i (k:IntKind) (n:Int)
 |s (l:List Nat)
 |nilsl
 |sl (cs:List T) (len:Nat) (ex:Bool)
 |isl (sp:Sp) (k g off len sz:Nat)
 |nilptr
 |vp (cs:List T)
 |ptr (sp:Sp) (k g off:Nat)
 |nilmp
 |vm (ks vs:List T)
 |mp (sp:Sp) (k g:Nat)
 |nilfn
 |fn (f:Nat) (first cap:List T)
 |agg (cs:List T)
 |tup (vs:List T)
 deriving Inhabited
inductive Ob where
 |none
 |cells (cs:List T) (wm:Nat) (bx:Bool)
 |map (ks vs:List T) (fz:Bool)
 deriving Inhabited
structure aA where
 g:Nat
 ob:Ob
 deriving Inhabited
def single:T→Bool
 | .agg _| .tup _=>false
 |_=>true
def noTup:T→Bool
 | .tup _=>false
 |_=>true
def gO:aA:=⟨0,.none⟩
def bm:T:= .tup []
def aV{α:Type}(d:α):List α→Nat→α
 | [],_=>d
 |x::_,0=>x
 |_::xs,n+1=>aV d xs n
def nk{α:Type}(d:α):List α→Nat→α→List α
 | [],0,v=> [v]
 | [],n+1,v=>d::nk d [] n v
 |_::xs,0,v=>v::xs
 |x::xs,n+1,v=>x::nk d xs n v
theorem oO{α:Type}(d:α)(v:α): ∀(l:List α) (n m:Nat),aV d (nk d l n v) m=if m=n then v else aV d l m
 | [],0,0=>by simp[nk,aV]
 | [],0,m+1=>by simp[nk,aV]
 | [],n+1,0=>by simp[nk,aV]
 | [],n+1,m+1=>by
   have:=oO d v [] n m
   simp[nk,aV]at this ⊢
   simpa[aV]using this
 |x::xs,0,0=>by simp[nk,aV]
 |x::xs,0,m+1=>by simp[nk,aV]
 |x::xs,n+1,0=>by simp[nk,aV]
 |x::xs,n+1,m+1=>by
  have:=oO d v xs n m
  simp[nk,aV]at this ⊢
  exact this
inductive aQ (α:Type) where
 |nil
 |nd (v:α) (l r:aQ α)
 deriving Inhabited
def aQ.get{α:Type}(d:α):aQ α→Nat→α
 | .nil,_=>d
 | .nd v l r,n=>match n with
   |0=>v
   |k+1=>bif Nat.beq (k%2) 0 then l.get d (k/2)else r.get d (k/2)
def aQ.put{α:Type}(d:α):Nat→aQ α→Nat→α→aQ α
 |0,t,_,_=>t
 |f+1,t,n,v=>match n with
  |0=>match t with
   | .nil=> .nd v .nil .nil
   | .nd _ l r=> .nd v l r
  |k+1=>match t with
   | .nil=>bif Nat.beq (k%2) 0 then .nd d (aQ.put d f .nil (k/2) v) .nil else .nd d .nil (aQ.put d f .nil (k/2) v)
   | .nd u l r=>bif Nat.beq (k%2) 0 then .nd u (aQ.put d f l (k/2) v) r else .nd u l (aQ.put d f r (k/2) v)
def aQ.set{α:Type}(d:α)(t:aQ α)(n:Nat)(v:α):aQ α:=aQ.put d (n+1) t n v
theorem aQ.get_nil{α:Type}(d:α)(n:Nat):aQ.get d .nil n=d:=by unfold aQ.get;rfl
theorem aQ.get_put{α:Type}(d:α)(v:α): ∀(f:Nat) (t:aQ α) (n m:Nat),n<f→aQ.get d (aQ.put d f t n v) m=if m=n then v else aQ.get d t m
 |0,t,n,m,h=>by omega
 |f+1,t,0,m,h=>by
  cases t with
  |nil=>
   cases m with
   |zero=>simp[aQ.put,aQ.get]
   |succ m=>simp[aQ.put,aQ.get]
  |nd u l r=>
   cases m with
   |zero=>simp[aQ.put,aQ.get]
   |succ m=>simp[aQ.put,aQ.get]
 |f+1,t,k+1,m,h=>by
  have hk:k/2<f:=by omega
  have ih:=fun t j=>aQ.get_put d v f t (k/2) j hk
  cases hb:Nat.beq (k%2) 0 with
  |true=>
   have hk2:k%2=0:=Nat.eq_of_beq_eq_true hb
   cases t with
   |nil=>
    cases m with
    |zero=>simp[aQ.put,aQ.get,hb]
    |succ m=>
     simp only[aQ.put,hb,cond_true,aQ.get]
     cases hm:Nat.beq (m%2) 0 with
     |true=>
      have A3:m%2=0:=Nat.eq_of_beq_eq_true hm
      simp only[cond_true,ih,aQ.get_nil]
      by_cases e:m=k
      ·subst e;simp
      ·rw[if_neg (by omega),if_neg (by omega)]
     |false=>
      have A3:m%2≠0:=fun e=>by rw[e]at hm;simp at hm
      simp only[cond_false,aQ.get_nil]
      rw[if_neg (by omega)]
   |nd u l r=>
    cases m with
    |zero=>simp[aQ.put,aQ.get,hb]
    |succ m=>
     simp only[aQ.put,hb,cond_true,aQ.get]
     cases hm:Nat.beq (m%2) 0 with
     |true=>
      have A3:m%2=0:=Nat.eq_of_beq_eq_true hm
      simp only[cond_true,ih]
      by_cases e:m=k
      ·subst e;simp
      ·rw[if_neg (by omega),if_neg (by omega)]
     |false=>
      have A3:m%2≠0:=fun e=>by rw[e]at hm;simp at hm
      simp only[cond_false]
      rw[if_neg (by omega)]
  |false=>
   have hk2:k%2≠0:=fun e=>by rw[e]at hb;simp at hb
   cases t with
   |nil=>
    cases m with
    |zero=>simp[aQ.put,aQ.get,hb]
    |succ m=>
     simp only[aQ.put,hb,cond_false,aQ.get]
     cases hm:Nat.beq (m%2) 0 with
     |true=>
      have A3:m%2=0:=Nat.eq_of_beq_eq_true hm
      simp only[cond_true,aQ.get_nil]
      rw[if_neg (by omega)]
     |false=>
      have A3:m%2≠0:=fun e=>by rw[e]at hm;simp at hm
      simp only[cond_false,ih,aQ.get_nil]
      by_cases e:m=k
      ·subst e;simp
      ·rw[if_neg (by omega),if_neg (by omega)]
   |nd u l r=>
    cases m with
    |zero=>simp[aQ.put,aQ.get,hb]
    |succ m=>
     simp only[aQ.put,hb,cond_false,aQ.get]
     cases hm:Nat.beq (m%2) 0 with
     |true=>
      have A3:m%2=0:=Nat.eq_of_beq_eq_true hm
      simp only[cond_true]
      rw[if_neg (by omega)]
     |false=>
      have A3:m%2≠0:=fun e=>by rw[e]at hm;simp at hm
      simp only[cond_false,ih]
      by_cases e:m=k
      ·subst e;simp
      ·rw[if_neg (by omega),if_neg (by omega)]
theorem aQ.get_set{α:Type}(d:α)(v:α)(t:aQ α)(n m:Nat):aQ.get d (aQ.set d t n v) m=if m=n then v else aQ.get d t m:=
 aQ.get_put d v (n+1) t n m (Nat.lt_succ_self n)
inductive Q (α:Type) where
 |ret (a:α)
 |fail
 |rd (sp:Sp) (k:Nat) (f:aA→Q α)
 |new (f:Nat→Q α)
def Q.bind{α β:Type}:Q α→(α→Q β)→Q β
 | .ret a,f=>f a
 | .fail,_=> .fail
 | .rd sp k g,f=> .rd sp k fun e=>(g e).bind f
 | .new g,f=> .new fun e=>(g e).bind f
def Q.run{α:Type}(h:Sp→Nat→aA)(nx:Nat):Q α→Option α
 | .ret a=>some a
 | .fail=>none
 | .rd sp k f=>(f (h sp k)).run h nx
 | .new f=>(f nx).run h nx
def Q.log{α:Type}(h:Sp→Nat→aA)(nx:Nat):Q α→List (Sp×Nat)
 | .ret _=> []
 | .fail=> []
 | .rd sp k f=>(sp,k)::(f (h sp k)).log h nx
 | .new f=>(f nx).log h nx
def Q.asks{α:Type}(h:Sp→Nat→aA)(nx:Nat):Q α→Bool
 | .ret _=>false
 | .fail=>false
 | .rd sp k f=>(f (h sp k)).asks h nx
 | .new _=>true
def Q.of{α:Type}:Option α→Q α
 |some a=> .ret a
 |none=> .fail
abbrev Up:=Sp×Nat×aA
inductive sL where
 |val (v:T) (ups:List Up)
 deriving Inhabited
def bl(f:T→Q (T×List Up)):List T→Q (List T×List Up)
 | []=> .ret ([],[])
 |c::cs=>(f c).bind fun p=>(bl f cs).bind fun q=> .ret (p.1::q.1,p.2++q.2)
def fz(keep:Bool):Nat→T→Q (T×List Up)
 |0,_=> .fail
 |n+1,t=>match t with
  | .isl sp k g off len sz=>if keep&&sp== .S then .ret (t,[])else .rd sp k fun e=>
    if e.g=g then match e.ob with
     | .cells cs _ false=>if off+len*sz≤cs.length then .ret (.sl ((cs.drop off).take (len*sz)) len false,[(sp,k,⟨g,.cells cs cs.length false⟩)])else .fail
     | .cells cs _ true=>if off+len*sz≤cs.length then(bl (fz false n) ((cs.drop off).take (len*sz))).bind fun q=> .ret (.sl q.1 len false,q.2++ [(sp,k,⟨g,.cells cs cs.length true⟩)])else .fail
     |_=> .fail
    else .fail
  | .mp sp k g=>if keep&&sp== .S then .ret (t,[])else .rd sp k fun e=>
    if e.g=g then match e.ob with
     | .map ks vs _=> .ret (.vm ks vs,[(sp,k,⟨g,.map ks vs true⟩)])
     |_=> .fail
    else .fail
  | .ptr sp k g off=>if keep&&sp== .S then .ret (t,[])else .rd sp k fun e=>
    if e.g=g then match e.ob with
     | .cells cs _ bx=>(bl (fz false n) (cs.drop off)).bind fun q=> .ret (.vp q.1,q.2++ [(sp,k,⟨g,.cells cs cs.length bx⟩)])
     |_=> .fail
    else .fail
  | .fn f a c=>(bl (fz keep n) a).bind fun p=>(bl (fz keep n) c).bind fun q=> .ret (.fn f p.1 q.1,p.2++q.2)
  | .agg cs=>(bl (fz keep n) cs).bind fun q=> .ret (.agg q.1,q.2)
  | .tup cs=>(bl (fz keep n) cs).bind fun q=> .ret (.tup q.1,q.2)
  |t=> .ret (t,[])
def aM:Nat:=8
def scalar:T→Bool
 | .b _| .i .. | .s _| .nilsl| .nilptr| .nilmp| .nilfn=>true
 | .tup vs=>vs.all fun| .b _| .i .. | .s _| .nilsl| .nilptr| .nilmp| .nilfn=>true|_=>false
 |_=>false
def lo:IntKind→Int
 | .i8=> -128| .i16=> -32768| .i32=> -2147483648| .i64=> -9223372036854775808|_=>0
def hi:IntKind→Int
 | .i8=>127| .i16=>32767| .i32=>2147483647| .i64=>9223372036854775807
 | .u8=>255| .u16=>65535| .u32=>4294967295| .u64=>18446744073709551615
def wr(k:IntKind)(n:Int):Int:=if lo k≤n∧n≤hi k then n else k.wrap n
def cg:List Nat→List Nat→Bool
 |_,[]=>false
 | [],_::_=>true
 |a::x,b::y=>a<b||(a==b&&cg x y)
def kh(op:BinOp)(k:IntKind)(a b:Int):Option T:=
 match op with
 | .add=>some (.i k (wr k (a+b)))
 | .sub=>some (.i k (wr k (a-b)))
 | .mul=>some (.i k (wr k (a*b)))
 | .quo=>if b=0 then none else some (.i k (wr k (a.tdiv b)))
 | .rem=>if b=0 then none else some (.i k (a.tmod b))
 | .eql=>some (.b (a==b))
 | .neq=>some (.b (a != b))
 | .lss=>some (.b (a<b))
 | .leq=>some (.b (a≤b))
 | .gtr=>some (.b (a>b))
 | .geq=>some (.b (a≥b))
 | .and=>some (.i k (k.wrap (BitVec.ofInt k.bits a &&& BitVec.ofInt k.bits b).toNat))
 | .or=>some (.i k (k.wrap (BitVec.ofInt k.bits a ||| BitVec.ofInt k.bits b).toNat))
 | .xor=>some (.i k (k.wrap (BitVec.ofInt k.bits a ^^^ BitVec.ofInt k.bits b).toNat))
 | .andNot=>some (.i k (k.wrap (BitVec.ofInt k.bits a &&& ~~~BitVec.ofInt k.bits b).toNat))
 |_=>none
def CE(op:BinOp)(a b:List Nat):Option T:=
 match op with
 | .add=>if a.length+b.length≤1099511627776 then some (.s (a++b))else none
 | .eql=>some (.b (a==b))
 | .neq=>some (.b (a != b))
 | .lss=>some (.b (cg a b))
 | .leq=>some (.b (cg a b||a==b))
 | .gtr=>some (.b !(cg a b||a==b))
 | .geq=>some (.b !(cg a b))
 |_=>none
def qZ(op:BinOp)(k:IntKind)(a b:Int):Option T:=
 if b<0 then none else
 match op with
 | .shl=>some (.i k (k.wrap (a*2 ^ (min b.toNat k.bits))))
 | .shr=>some (.i k (a.fdiv (2 ^ (min b.toNat k.bits))))
 |_=>none
inductive CK where
 |int|str|bool
 deriving DecidableEq,Inhabited
inductive EK where
 |one (k:CK)
 |flat (ks:List CK)
 |sl|ptr|map
 deriving Inhabited
def dJ:CK→T→T→Option Bool
 | .bool,.b x,.b y=>some (x==y)
 | .int,.i k x,.i k' y=>if k=k' then some (x==y)else none
 | .str,.s x,.s y=>some (x==y)
 |_,_,_=>none
def cJ:List CK→List T→List T→Option Bool
 | [],[],[]=>some true
 |k::ks,x::xs,y::ys=>match dJ k x y with
  |some true=>cJ ks xs ys
  |some false=>some false
  |none=>none
 |_,_,_=>none
def mO:EK→T→T→Option Bool
 | .one k,x,y=>dJ k x y
 | .flat ks,.agg xs,.agg ys=>cJ ks xs ys
 | .sl,.nilsl,.nilsl=>some true
 | .sl,.sl ..,.nilsl=>some false
 | .sl,.isl ..,.nilsl=>some false
 | .ptr,.nilptr,.nilptr=>some true
 | .ptr,.vp _,.nilptr=>some false
 | .ptr,.ptr ..,.nilptr=>some false
 | .map,.nilmp,.nilmp=>some true
 | .map,.vm ..,.nilmp=>some false
 | .map,.mp ..,.nilmp=>some false
 |_,_,_=>none
def bin(op:BinOp)(x y:T):Option T:=
 match op,x,y with
 | .shl,.i k a,.i _ b=>qZ .shl k a b
 | .shr,.i k a,.i _ b=>qZ .shr k a b
 |op,.i k a,.i k' b=>if k=k' then kh op k a b else none
 |op,.s a,.s b=>CE op a b
 |_,_,_=>none
def un(op:UnOp)(x:T):Option T:=
 match op,x with
 | .neg,.i k n=>some (.i k (wr k (0-n)))
 | .not,.b x=>some (.b !x)
 | .xor,.i k n=>kh .xor k (if k.signed then-1 else k.max) n
 |_,_=>none
inductive aZ where
 |t (n:Nat)
 |c (v:T)
 deriving Inhabited
inductive k7 where
 |mv (x:aZ)
 |pick (c a b:aZ)
 |alloc (z:List T) (sh:Bool)
 |box (x:aZ) (sh:Bool)
 |build (z:List T) (ps:List (Nat×Nat×aZ))
 |bsl (z:List T) (len:Nat) (ps:List (Nat×aZ))
 |ld (x:aZ) (n:Nat) (ag:Bool)
 |st (x v:aZ) (n:Nat)
 |nck (x:aZ)
 |bin (op:BinOp) (x y:aZ)
 |eq (neg:Bool) (k:EK) (x y:aZ)
 |un (op:UnOp) (x:aZ)
 |cvi (k:IntKind) (x:aZ)
 |mkfn (f:Nat) (first cap:List aZ)
 |mkmap (sh:Bool)
 |mksl (z:List T) (bytes:Nat) (x:aZ) (sh:Bool)
 |slS (x:aZ) (lo hi:Option aZ)
 |slV (sz:Nat) (x:aZ) (lo hi mx:Option aZ)
 |fa (x:aZ) (off:Nat)
 |fld (x:aZ) (off n:Nat) (ag:Bool)
 |ia (x ix:aZ) (sz:Nat)
 |iaA (x ix:aZ) (len sz:Nat)
 |ixS (x ix:aZ)
 |ixA (x ix:aZ) (len sz:Nat) (ag:Bool)
 |lk (kk:EK) (m k:aZ) (z:T) (ok:Bool)
 |mu (kk:EK) (m k v:aZ)
 |ext (x:aZ) (j:Nat)
 |callf (f:Nat) (args:List aZ)
 |callv (f:aZ) (args:List aZ)
 |lenS (x:aZ)
 |lenV (x:aZ)
 |lenM (x:aZ)
 |lenC (n:Nat)
 |app (sz bytes:Nat) (s x:aZ) (sh:Bool) (nm:Bool)
 |mm (isMax:Bool) (args:List aZ)
 deriving Inhabited
structure aJ where
 d:Option Nat
 op:k7
 gd:Option (Nat×Bool)
 deriving Inhabited
inductive ba where
 |skip
 |region (ops:List aJ)
 |draws (ops:List (List Nat×aJ))
 |seq (a b:ba)
 |cond (c:aZ) (a b:ba)
 |block (id:Nat) (a:ba)
 |loop (a:ba)
 |exit (id:Nat)
 |ret
 deriving Inhabited
inductive qo where
 |tmp (t:Nat)
 |cell (t n:Nat) (ag:Bool)
 deriving Inhabited
structure aC where
 n:Nat
 code:ba
 res:List qo
 eff:Bool
 own:Option Nat
 deriving Inhabited
abbrev Fr:=aQ T
structure St where
 fr:Fr
 lh:aQ aA
 sh:List aA
 deriving Inhabited
def an(l:Fr)(n:Nat):T:=aQ.get bm l n
def cS(l:Fr)(n:Nat)(v:T):Fr:=aQ.set bm l n v
theorem iH(l:Fr)(n:Nat)(v:T)(m:Nat):an (cS l n v) m=if m=n then v else an l m:=aQ.get_set bm v l n m
def mP:List T→Nat→Fr
 | [],_=> .nil
 |x::xs,k=>cS (mP xs (k+1)) k x
def gn(l:List T):Fr:=mP l 0
theorem pG: ∀(l:List T) (k m:Nat),an (mP l k) m=if m<k then bm else aV bm l (m-k)
 | [],k,m=>by simp[mP,an,aQ.get_nil,aV]
 |x::xs,k,m=>by
  rw[mP,iH,pG xs (k+1) m]
  by_cases h1:m=k
  ·subst h1;simp[aV]
  ·rw[if_neg h1]
   by_cases h2:m<k
   ·rw[if_pos (by omega),if_pos h2]
   ·rw[if_neg (by omega),if_neg h2]
    have:m-k=(m-(k+1))+1:=by omega
    rw[this];rfl
theorem tr(l:List T)(m:Nat):an (gn l) m=aV bm l m:=by
 unfold gn;rw[pG];simp
def ch(l:List aA)(n:Nat):aA:=aV gO l n
def fO(l:List aA)(n:Nat)(v:aA):List aA:=nk gO l n v
def St.get(st:St):Sp→Nat→aA
 | .L,k=>aQ.get gO st.lh k
 | .S,k=>ch st.sh k
def St.up(st:St):Up→St
 |(.L,k,e)=>{st with lh:=aQ.set gO st.lh k e}
 |(.S,k,e)=>{st with sh:=fO st.sh k e}
def St.ups(st:St):List Up→St
 | []=>st
 |u::us=>(st.up u).ups us
def St.rho(st:St):aZ→T
 | .t n=>an st.fr n
 | .c v=>v
def gP(d:Nat)(sh:Bool)(ob:Ob)(f:Sp→Nat→Nat→T):Q sL:=
 if sh then .new fun k=> .ret (.val (f .S k 1) [(.S,k,⟨1,ob⟩)])
 else .rd .L d fun e=> .ret (.val (f .L d (e.g+1)) [(.L,d,⟨e.g+1,ob⟩)])
def fP(us:List Up)(sp:Sp)(k:Nat):Bool:=us.any fun u=>u.1==sp&&u.2.1==k
def cellsOf:T→List T
 | .agg cs=>cs
 |t=> [t]
def asNat:T→Option Nat
 | .i _ n=>if 0≤n then some n.toNat else none
 |_=>none
def repl{α:Type}(z:List α):Nat→List α
 |0=> []
 |n+1=>z++repl z n
def splice{α:Type}:List α→Nat→List α→List α
 |cs,0,[]=>cs
 |_::cs,0,v::vs=>v::splice cs 0 vs
 |c::cs,off+1,vs=>c::splice cs off vs
 | [],_,_=> []
def aF{α:Type}:List α→List (Nat×List α)→Option (List α)
 |cs,[]=>some cs
 |cs,(off,vs)::rest=>if off+vs.length≤cs.length then aF (splice cs off vs) rest else none
def part(cs:List T)(off n:Nat)(ag:Bool):Option T:=
 if ag then(if off+n≤cs.length then some (.agg ((cs.drop off).take n))else none)
 else cs[off]?
def uO(x:T)(n:Nat)(ag:Bool):Q T:=
 match x with
 | .vp cs=> .of (part cs 0 n ag)
 | .ptr sp k g off=> .rd sp k fun e=>
   if e.g=g then match e.ob with
    | .cells cs _ _=> .of (part cs off n ag)
    |_=> .fail
   else .fail
 |_=> .fail
def jm(x v:T)(n:Nat):Q sL:=
 if(cellsOf v).length≠n|| !noTup v then .fail else
 match x with
 | .ptr sp k g off=> .rd sp k fun e=>
   if e.g=g then match e.ob with
    | .cells cs wm bx=>if wm≤off&&off+n≤cs.length then
        (if bx&&sp== .L then .ret (.val bm [(sp,k,⟨g,.cells (splice cs off (cellsOf v)) wm bx⟩)])
        else(fz (bx&&sp== .S) aM v).bind fun p=>if fP p.2 sp k|| !noTup p.1||(cellsOf p.1).length≠n then .fail else .ret (.val bm (p.2++ [(sp,k,⟨g,.cells (splice cs off (cellsOf p.1)) wm bx⟩)])))
      else .fail
    |_=> .fail
   else .fail
 |_=> .fail
def bL(sz:Nat):T→Q (Nat×List T)
 | .nilsl=> .ret (0,[])
 | .sl cs len _=>if cs.length=len*sz then .ret (len,cs)else .fail
 | .isl sp k g off len jt=>if jt=sz then .rd sp k fun e=>
     if e.g=g then match e.ob with
      | .cells cs _ false=>if off+len*sz≤cs.length then .ret (len,(cs.drop off).take (len*sz))else .fail
      |_=> .fail
     else .fail
   else .fail
 | .s l=>if sz=1 then .ret (l.length,l.map fun(n:Nat)=>T.i .u8 (n:Int))else .fail
 |_=> .fail
def roomy:Nat:=1099511627776
def iv(d sz bytes:Nat)(s x:T)(sh nm:Bool):Q sL:=
 (bL sz x).bind fun p=>
 if p.1=0 then(match s with| .nilsl| .sl .. | .isl .. => .ret (.val s [])|_=> .fail)else
 match s with
 | .nilsl=>if p.1*bytes≤roomy then gP d sh (.cells p.2 0 nm) (fun sp k g=> .isl sp k g 0 p.1 sz)else .fail
 | .sl cs len true=>if cs.length=len*sz&&(len+p.1)*bytes≤roomy then gP d sh (.cells (cs++p.2) 0 false) (fun sp k g=> .isl sp k g 0 (len+p.1) sz)else .fail
 | .isl sp k g off len jt=>if jt=sz&&off=0&&(len+p.1)*bytes≤roomy then .rd sp k fun e=>
     if e.g=g then match e.ob with
      | .cells cs wm false=>if len*sz=cs.length then .ret (.val (.isl sp k (g+1) 0 (len+p.1) sz) [(sp,k,⟨g+1,.cells (cs++p.2) wm false⟩)])else .fail
      |_=> .fail
     else .fail
   else .fail
 |_=> .fail
def dY(kk:EK)(k:T):List T→Option (Option Nat)
 | []=>some none
 |x::xs=>match mO kk k x with
  |some true=>some (some 0)
  |some false=>(dY kk k xs).map fun r=>r.map (· +1)
  |none=>none
def nl(kk:EK)(k v:T)(ks vs:List T):Option (List T×List T):=
 match dY kk k ks with
 |some (some i)=>some (ks.set i k,vs.set i v)
 |some none=>some (ks++ [k],vs++ [v])
 |none=>none
def uP:CK→T→Bool
 | .bool,.b _=>true
 | .int,.i .. =>true
 | .str,.s _=>true
 |_,_=>false
def iD:List CK→List T→Bool
 | [],[]=>true
 |k::ks,x::xs=>uP k x&&iD ks xs
 |_,_=>false
def isKey:EK→T→Bool
 | .one k,x=>uP k x
 | .flat ks,.agg xs=>iD ks xs
 |_,_=>false
def k8(kk:EK)(ks vs:List T)(k z:T)(ok:Bool):Option T:=
 if !isKey kk k then none else
 match dY kk k ks with
 |some (some i)=>vs[i]?.map fun v=>if ok then .tup [v,.b true]else v
 |some none=>some (if ok then .tup [z,.b false]else z)
 |none=>none
def bu(isMax:Bool):T→List T→Option T
 |x,[]=>some x
 | .i k a,.i k' b::rest=>if k=k' then bu isMax (.i k (if isMax then(if b>a then b else a)else(if b<a then b else a))) rest else none
 |_,_=>none
def bk(ρ:aZ→T)(IW:Nat):Option aZ→Option Nat
 |none=>some IW
 |some x=>asNat (ρ x)
def pH(sz:Nat)(x:T)(l h:Nat):Q T:=
 match x with
 | .nilsl=>if l=0&&h=0 then .ret .nilsl else .fail
 | .sl cs len ex=>if l≤h&&h≤len&&cs.length=len*sz then .ret (.sl ((cs.drop (l*sz)).take ((h-l)*sz)) (h-l) (ex&&h=len))else .fail
 | .isl sp k g off len jt=>if l≤h&&h≤len&&jt=sz then .ret (if l=h then .sl [] 0 false else .isl sp k g (off+l*sz) (h-l) sz)else .fail
 |_=> .fail
def jH:T→Option Nat
 | .nilsl=>some 0
 | .sl _ len _=>some len
 | .isl _ _ _ _ len _=>some len
 |_=>none
def val(v:Option T):Q sL:=match v with|some v=> .ret (.val v [])|none=> .fail
def bC(d:Nat)(ρ:aZ→T):k7→Q sL
 | .mv x=> .ret (.val (ρ x) [])
 | .pick c a b=>match ρ c with| .b true=> .ret (.val (ρ a) [])| .b false=> .ret (.val (ρ b) [])|_=> .fail
 | .alloc z sh=>gP d sh (.cells z 0 true) (fun sp k g=> .ptr sp k g 0)
 | .box x sh=>if !noTup (ρ x)then .fail else if sh then(fz true aM (ρ x)).bind fun p=>if p.2.isEmpty&&noTup p.1 then gP d true (.cells (cellsOf p.1) 0 true) (fun sp k g=> .ptr sp k g 0)else .fail
     else gP d false (.cells (cellsOf (ρ x)) 0 true) (fun sp k g=> .ptr sp k g 0)
 | .build z ps=>if ps.all fun p=>(cellsOf (ρ p.2.2)).length=p.2.1&&noTup (ρ p.2.2)then val ((aF z (ps.map fun p=>(p.1,cellsOf (ρ p.2.2)))).map .agg)else .fail
 | .bsl z len ps=>(bl (fz false aM) (ps.map fun p=>ρ p.2)).bind fun q=>
     if q.1.all fun v=>(cellsOf v).length=z.length&&noTup v then
      match aF (repl z len) ((ps.map fun p=>p.1*z.length).zip (q.1.map cellsOf))with
      |some cs=> .ret (.val (.sl cs len true) q.2)
      |none=> .fail
     else .fail
 | .ld x n ag=>(uO (ρ x) n ag).bind fun v=> .ret (.val v [])
 | .st x v n=>jm (ρ x) (ρ v) n
 | .nck x=>match ρ x with
   | .vp cs=> .ret (.val (.vp cs) [])
   | .ptr sp k g off=> .ret (.val (.ptr sp k g off) [])
   | .fn f a c=> .ret (.val (.fn f a c) [])
   |_=> .fail
 | .bin op x y=>val (Ev.bin op (ρ x) (ρ y))
 | .eq neg k x y=>val ((mO k (ρ x) (ρ y)).map fun r=> .b (r != neg))
 | .un op x=>val (Ev.un op (ρ x))
 | .cvi k x=>match ρ x with| .i _ n=> .ret (.val (.i k (wr k n)) [])|_=> .fail
 | .mkfn f first cap=> .ret (.val (.fn f (first.map ρ) (cap.map ρ)) [])
 | .mkmap sh=>gP d sh (.map [] [] false) (fun sp k g=> .mp sp k g)
 | .mksl z bytes x sh=>match asNat (ρ x)with
   |some n=>if n*bytes≤roomy&&n≤roomy then gP d sh (.cells (repl z n) 0 false) (fun sp k g=> .isl sp k g 0 n z.length)else .fail
   |none=> .fail
 | .slS x l h=>match ρ x with
   | .s bs=>match bk ρ 0 l,bk ρ bs.length h with
     |some l,some h=>if l≤h&&h≤bs.length then .ret (.val (.s ((bs.drop l).take (h-l))) [])else .fail
     |_,_=> .fail
   |_=> .fail
 | .slV sz x l h mx=>match jH (ρ x)with
   |none=> .fail
   |some n=>match bk ρ 0 l,bk ρ n h,mx with
    |some l,some h,none=>(pH sz (ρ x) l h).bind fun v=> .ret (.val v [])
    |some l,some h,some m=>match asNat (ρ m),ρ x with
     |some 0,.nilsl=>if l=0&&h=0 then .ret (.val .nilsl [])else .fail
     |some 0,_=>if l=0&&h=0 then .ret (.val (.sl [] 0 true) [])else .fail
     |_,_=> .fail
    |_,_,_=> .fail
 | .fa x off=>match ρ x with
   | .vp cs=>if off≤cs.length then .ret (.val (.vp (cs.drop off)) [])else .fail
   | .ptr sp k g o=> .ret (.val (.ptr sp k g (o+off)) [])
   |_=> .fail
 | .fld x off n ag=>match ρ x with| .agg cs=>val (part cs off n ag)|_=> .fail
 | .ia x ix sz=>match asNat (ρ ix),ρ x with
   |some j,.sl cs len _=>if j<len&&(j+1)*sz≤cs.length then .ret (.val (.vp (cs.drop (j*sz))) [])else .fail
   |some j,.isl sp k g off len jt=>if j<len&&jt=sz then .ret (.val (.ptr sp k g (off+j*sz)) [])else .fail
   |_,_=> .fail
 | .iaA x ix len sz=>match asNat (ρ ix),ρ x with
   |some j,.vp cs=>if j<len&&(j+1)*sz≤cs.length then .ret (.val (.vp (cs.drop (j*sz))) [])else .fail
   |some j,.ptr sp k g off=>if j<len then .ret (.val (.ptr sp k g (off+j*sz)) [])else .fail
   |_,_=> .fail
 | .ixS x ix=>match asNat (ρ ix),ρ x with
   |some j,.s bs=>match bs[j]? with|some c=> .ret (.val (.i .u8 c) [])|none=> .fail
   |_,_=> .fail
 | .ixA x ix len sz ag=>match asNat (ρ ix),ρ x with
   |some j,.agg cs=>if j<len then val (part cs (j*sz) sz ag)else .fail
   |_,_=> .fail
 | .lk ek m k z ok=>match ρ m with
   | .nilmp=>if isKey ek (ρ k)then .ret (.val (if ok then .tup [z,.b false]else z) [])else .fail
   | .vm ks vs=>val (k8 ek ks vs (ρ k) z ok)
   | .mp sp kk g=> .rd sp kk fun e=>if e.g=g then match e.ob with| .map ks vs _=>val (k8 ek ks vs (ρ k) z ok)|_=> .fail else .fail
   |_=> .fail
 | .mu ek m k v=>match ρ m with
   | .mp sp kk g=> .rd sp kk fun e=>if e.g=g&&isKey ek (ρ k)then match e.ob with
       | .map ks vs false=>(fz false aM (ρ v)).bind fun p=>match nl ek (ρ k) p.1 ks vs with
         |some q=>if fP p.2 sp kk then .fail else .ret (.val bm (p.2++ [(sp,kk,⟨g,.map q.1 q.2 false⟩)]))
         |none=> .fail
       |_=> .fail
     else .fail
   |_=> .fail
 | .ext x j=>match ρ x with| .tup vs=>val vs[j]? |_=> .fail
 | .callf _ _=> .fail
 | .callv _ _=> .fail
 | .lenS x=>match ρ x with| .s bs=> .ret (.val (.i .i64 bs.length) [])|_=> .fail
 | .lenV x=>val ((jH (ρ x)).map fun n=> .i .i64 n)
 | .lenM x=>match ρ x with
   | .nilmp=> .ret (.val (.i .i64 0) [])
   | .vm ks _=> .ret (.val (.i .i64 ks.length) [])
   | .mp sp kk g=> .rd sp kk fun e=>if e.g=g then match e.ob with| .map ks _ _=> .ret (.val (.i .i64 ks.length) [])|_=> .fail else .fail
   |_=> .fail
 | .lenC n=> .ret (.val (.i .i64 n) [])
 | .app sz bytes s x sh nm=>iv d sz bytes (ρ s) (ρ x) sh nm
 | .mm isMax args=>match args.map ρ with|x::rest=>val (bu isMax x rest)| []=> .fail
def bq(ρ:aZ→T):k7→Option (Option (Nat×List T))
 | .callf f args=>some (some (f,args.map ρ))
 | .callv f args=>some (match ρ f with| .fn f a c=>some (f,a++args.map ρ++c)|_=>none)
 |_=>none
def oP:k7→List aZ
 | .mv x| .box x _| .ld x _ _| .nck x| .un _ x| .cvi _ x| .mksl _ _ x _| .fa x _| .fld x _ _ _| .ext x _| .lenS x| .lenV x| .lenM x=> [x]
 | .pick c a b=> [c,a,b]
 | .alloc .. | .mkmap _| .lenC _=> []
 | .build _ ps=>ps.map (·.2.2)
 | .bsl _ _ ps=>ps.map (·.2)
 | .st x v _| .bin _ x v| .eq _ _ x v| .ia x v _| .iaA x v _ _| .ixS x v| .ixA x v _ _ _| .lk _ x v _ _| .app _ _ x v _ _=> [x,v]
 | .mkfn _ a c=>a++c
 | .slS x l h=>x::(l.toList++h.toList)
 | .slV _ x l h m=>x::(l.toList++h.toList++m.toList)
 | .mu _ m k v=> [m,k,v]
 | .callf _ as| .mm _ as=>as
 | .callv f as=>f::as
def tmpsOf(xs:List aZ):List Nat:=xs.filterMap fun| .t n=>some n| .c _=>none
def looks(a:aJ):List Nat:=tmpsOf (oP a.op)++(match a.gd with|some g=> [g.1]|none=> [])
inductive Out where
 |nrm|ext (id:Nat)|ret
 deriving DecidableEq,Inhabited
abbrev jk:=Nat→List T→List aA→Option (T×List aA)
structure Env where
 fn:Nat→Option aC
 ext:Nat→Option (List T→Option T)
 wr:Nat→Option (List T→Option (List T×Option Nat))
def eX(fr:Fr)(n:Nat)(d:Option Nat)(v:T):Option Fr:=
 match d with
 |some d=>if d<n then some (cS fr d v)else none
 |none=>some fr
def eB:T→Nat→Option T
 | .tup vs,j=>vs[j]?
 | .agg cs,j=>cs[j]?
 |t,_=>some t
def bh:T→Nat→T→T
 | .tup vs,j,x=> .tup (vs.set j x)
 | .agg cs,j,x=> .agg (cs.set j x)
 |_,_,x=>x
def q7:T→Bool
 | .b _| .i .. | .s _| .nilsl| .nilptr| .nilmp| .nilfn=>true
 |_=>false
def ig(d j:Nat)(r:T)(st:St)(us:List Up):Option (T×St):=
 match eB r j with
 |some .nilsl=>some (r,if scalar r then st else st.ups us)
 |some (.sl cs len _)=>
  if cs.all q7=true∧cs.length/len*len=cs.length then
   some (bh r j (.isl .L d (((if scalar (bh r j .nilsl)then st else st.ups us).get .L d).g+1) 0 len (cs.length/len)),
    (if scalar (bh r j .nilsl)then st else st.ups us).up (.L,d,⟨((if scalar (bh r j .nilsl)then st else st.ups us).get .L d).g+1,.cells cs 0 false⟩))
  else none
 |_=>none
def Fl(sp:Sp)(k g off:Nat):Option Nat→T
 |none=> .tup []
 |some n=> .isl sp k g off n 1
def kS(h:List T→Option (List T×Option Nat))(st:St):List T→Option (T×St)
 | [.nilsl]=>match h []with
   |some ([],none)=>some (.tup [],st)
   |some ([],some 0)=>some (.nilsl,st)
   |_=>none
 | [.isl sp k g off len 1]=>match st.get sp k with
   |⟨g',.cells cs wm false⟩=>
    if g'=g∧wm≤off∧off+len≤cs.length then
     match h ((cs.drop off).take len)with
     |some (ys,r)=>if ys.length=len∧ys.all single=true∧r.getD 0≤len then some (Fl sp k g off r,st.up (sp,k,⟨g',.cells (splice cs off ys) wm false⟩))else none
     |none=>none
    else none
   |_=>none
 |_=>none
def ar(E:Env)(call:jk)(d:Nat)(st:St)(f:Nat)(args:List T):Option (T×St):=
 match E.fn f,E.ext f with
 |some af,_=>
  match(bl (fz af.eff aM) args).run st.get st.sh.length with
  |some q=>
   if af.eff then
    (call f q.1 (st.ups q.2).sh).map fun r=>(r.1,{st.ups q.2 with sh:=r.2})
   else match call f q.1 []with
    |some r=>(match af.own with
     |none=>some (r.1,if scalar r.1 then st else st.ups q.2)
     |some j=>ig d j r.1 st q.2)
    |none=>none
  |none=>none
 |none,some g=>
  match(bl (fz false aM) args).run st.get st.sh.length with
  |some q=>(g q.1).map fun r=>(r,st)
  |none=>none
 |none,none=>match E.wr f with
  |some h=>kS h st args
  |none=>none
def bg(E:Env)(call:jk)(n:Nat)(o:aJ)(st:St):Option St:=
 let go:Option St:=
  match bq st.rho o.op with
  |some (some c)=>match ar E call (o.d.getD 0) st c.1 c.2 with
   |some r=>(eX st.fr n o.d r.1).map fun fr=>{r.2 with fr}
   |none=>none
  |some none=>none
  |none=>match(bC (o.d.getD 0) st.rho o.op).run st.get st.sh.length with
   |some (.val v ups)=>(eX st.fr n o.d v).map fun fr=>{st.ups ups with fr}
   |none=>none
 match o.gd with
 |none=>go
 |some (j,want)=>match an st.fr j with
  | .b x=>if x=want then go else(eX st.fr n o.d bm).map fun fr=>{st with fr}
  |_=>(eX st.fr n o.d bm).map fun fr=>{st with fr}
def aq(E:Env)(call:jk)(n:Nat):List aJ→St→Option St
 | [],st=>some st
 |o::os,st=>match bg E call n o st with
  |some bn=>aq E call n os bn
  |none=>none
def iter(f:St→Option (Out×St)):Nat→St→Option (Out×St)
 |0,_=>none
 |n+1,st=>match f st with
  |some (.nrm,bn)=>iter f n bn
  |r=>r
structure FP where
 all:Bool
 r:List (Sp×Nat)
 w:List (Sp×Nat)
 deriving Inhabited
def eY(xs ys:List (Sp×Nat)):Bool:=xs.all fun x=> !ys.contains x
def zh(xs:List (Sp×Nat)):Bool:=xs.all fun x=>x.1== .L
def apart(x y:FP):Bool:=
 eY x.w y.r&&eY x.w y.w&&eY x.r y.w&&
 (!x.all||(!y.all&&zh y.r&&zh y.w))&&(!y.all||(zh x.r&&zh x.w))
def cH(us:List Up):List (Sp×Nat):=us.map fun u=>(u.1,u.2.1)
def cG:FP:=⟨false,[],[]⟩
def q8(e:aA):Bool:=match e.ob with| .none=>false|_=>true
def lV(st:St)(us:List Up):Bool:=us.all fun u=>u.1== .L||q8 (st.get .S u.2.1)
def dy(E:Env)(call:jk)(d:Nat)(st:St)(f:Nat)(args:List T):Option FP:=
 match E.fn f,E.ext f with
 |some af,_=>
  let q:=bl (fz af.eff aM) args
  match q.run st.get st.sh.length with
  |some p=>if !lV st p.2 then none else
   if af.eff then some ⟨true,q.log st.get st.sh.length,cH p.2⟩else match call f p.1 []with
   |some r=>(match af.own with
    |none=>some ⟨false,q.log st.get st.sh.length,if scalar r.1 then []else cH p.2⟩
    |some _=>some ⟨false,(.L,d)::q.log st.get st.sh.length,(.L,d)::cH p.2⟩)
   |none=>none
  |none=>none
 |none,some _=>some ⟨false,(bl (fz false aM) args).log st.get st.sh.length,[]⟩
 |none,none=>none
def bD(E:Env)(call:jk)(o:aJ)(st:St):Option FP:=
 let go:Option FP:=
  match bq st.rho o.op with
  |some (some c)=>dy E call (o.d.getD 0) st c.1 c.2
  |some none=>none
  |none=>
   let q:=bC (o.d.getD 0) st.rho o.op
   match q.run st.get st.sh.length with
   |some (.val _ ups)=>if q.asks st.get st.sh.length||lV st ups then some ⟨q.asks st.get st.sh.length,q.log st.get st.sh.length,cH ups⟩else none
   |none=>none
 match o.gd with
 |none=>go
 |some (j,want)=>match an st.fr j with
  | .b x=>if x=want then go else some cG
  |_=>some cG
def aH(E:Env)(call:jk)(n:Nat):List (List Nat×aJ)→List FP→St→Option St
 | [],_,st=>some st
 |(uno,o)::os,bo,st=>
  match bD E call o st with
  |none=>none
  |some fp=>
   if uno.all fun i=>apart (aV ⟨true,[],[]⟩ bo i) fp then
    match bg E call n o st with
    |some bn=>aH E call n os (bo++ [fp]) bn
    |none=>none
   else none
def eZ(E:Env)(call:jk)(fl n:Nat):ba→St→Option (Out×St)
 | .skip,st=>some (.nrm,st)
 | .region ops,st=>(aq E call n ops st).map fun bn=>(.nrm,bn)
 | .draws ops,st=>(aH E call n ops [] st).map fun bn=>(.nrm,bn)
 | .seq a b,st=>match eZ E call fl n a st with
   |some (.nrm,bn)=>eZ E call fl n b bn
   |r=>r
 | .cond c a b,st=>match st.rho c with
   | .b true=>eZ E call fl n a st
   | .b false=>eZ E call fl n b st
   |_=>none
 | .block id a,st=>match eZ E call fl n a st with
   |some (.ext A4,bn)=>if A4=id then some (.nrm,bn)else some (.ext A4,bn)
   |r=>r
 | .loop a,st=>iter (eZ E call fl n a) fl st
 | .exit id,st=>some (.ext id,st)
 | .ret,st=>some (.ret,st)
def wM(st:St):qo→Option T
 | .tmp t=>some (an st.fr t)
 | .cell t n ag=>(uO (an st.fr t) n ag).run st.get st.sh.length
def eC(st:St):List qo→Option (List T)
 | []=>some []
 |r::rs=>match wM st r,eC st rs with
  |some v,some vs=>some (v::vs)
  |_,_=>none
def answer(eff:Bool)(vs:List T)(st:St):Option (T×List aA):=
 match(fz eff aM (match vs with| [v]=>v|vs=> .tup vs)).run st.get st.sh.length with
 |some p=>some (p.1,(st.ups p.2).sh)
 |none=>none
def ju(j:Nat)(vs:List T)(st:St):Option (T×List aA):=
 match eB (match vs with| [v]=>v|vs=> .tup vs) j with
 |some .nilsl=>answer false vs st
 |some (.isl .L k g 0 len sz)=>
  (match(fz false aM (bh (match vs with| [v]=>v|vs=> .tup vs) j .nilsl)).run st.get st.sh.length with
  |some p=>(match(st.ups p.2).get .L k with
   |⟨g',.cells cs wm false⟩=>if g'=g∧cs.length=len*sz∧len≠0∧(wm=0∨scalar (bh p.1 j .nilsl)=true)then some (bh p.1 j (.sl cs len false),(st.ups p.2).sh)else none
   |_=>none)
  |none=>none)
 |_=>none
def jv(own:Option Nat)(eff:Bool)(vs:List T)(st:St):Option (T×List aA):=
 match own with
 |none=>answer eff vs st
 |some j=>if eff then none else ju j vs st
def cm(E:Env):Nat→jk
 |0=>fun _ _ _=>none
 |m+1=>fun f args sh=>
  match E.fn f with
  |none=>none
  |some af=>
   if af.n<args.length then none else
   match eZ E (cm E m) m af.n af.code {fr:=gn args,lh:= .nil,sh}with
   |some (.ext _,_)=>none
   |some (_,st)=>match eC st af.res with
    |some vs=>jv af.own af.eff vs st
    |none=>none
   |none=>none
end Go.Ev
namespace Go.Ev
open Go
def cp(b:ByteArray):List Nat:=b.data.toList.map UInt8.toNat
def lW:Value→Option T
 | .bool x=>some (.b x)
 | .int k n=>some (.i k n)
 | .string s=>some (.s (cp s))
 | .pointer none=>some .nilptr
 | .slice none 0 0=>some .nilsl
 | .map none=>some .nilmp
 | .nilFunc=>some .nilfn
 | .func (.func f) a c=>match a.toList,c.toList with
   | [],[]=>some (.fn f [] [])
   |_,_=>none
 |_=>none
def gp:List Value→Option (List T)
 | []=>some []
 |v::vs=>match lW v,gp vs with
  |some t,some ts=>some (t::ts)
  |_,_=>none
def q9:Value→Option T
 | .agg cs=>(gp cs.toList).map .agg
 | .tuple cs=>(gp cs.toList).map .tup
 |v=>lW v
def dC:Operand→Option aZ
 | .tmp t=>some (.t t)
 | .const v=>(q9 v).map .c
 | .func f=>some (.c (.fn f [] []))
 | .global _=>none
def oQ:List Operand→Option (List aZ)
 | []=>some []
 |x::xs=>match dC x,oQ xs with
  |some y,some ys=>some (y::ys)
  |_,_=>none
def k9:Option Operand→Option (Option aZ)
 |none=>some none
 |some x=>(dC x).map some
def jT(P:Program)(t:TypeId):Option T:=(P.info? t).bind fun i=>i.zero.bind q9
def dt(P:Program)(t:TypeId):Option Nat:=(P.info? t).map (·.size)
def mr(P:Program)(t:TypeId):Option Bool:=(P.underlying t).map fun| .struct _| .array _ _=>true|_=>false
def qp(P:Program)(t:TypeId):Option CK:=
 match P.underlying t with
 |some (.int _)=>some .int
 |some .string=>some .str
 |some .bool=>some .bool
 |_=>none
def gQ(P:Program):Nat→List Field→Option (List CK)
 |_,[]=>some []
 |i,f::fs=>if f.offset=i&&f.name != "_" &&(P.info? f.type).map (·.size)==some 1 then match qp P f.type,gQ P (i+1) fs with
  |some k,some ks=>some (k::ks)
  |_,_=>none
  else none
def ra(P:Program)(t:TypeId):Option EK:=
 match P.underlying t with
 |some (.int _)=>some (.one .int)
 |some .string=>some (.one .str)
 |some .bool=>some (.one .bool)
 |some (.slice _)=>some .sl
 |some (.pointer _)=>some .ptr
 |some (.map _ _)=>some .map
 |some (.struct fs)=>if !P.eqGuardType P.depth t&& !P.stoodInHeld t then(gQ P 0 fs.toList).map .flat else none
 |_=>none
def keyOf(P:Program)(t:TypeId):Option EK:=
 match ra P t with
 |some (.one k)=>some (.one k)
 |some (.flat ks)=>some (.flat ks)
 |_=>none
def placesOf(fb:List (Nat×Nat)):List (Nat×Operand)→Option (List (Nat×Nat×aZ))
 | []=>some []
 |(i,x)::rest=>match fb[i]?,dC x,placesOf fb rest with
  |some p,some y,some r=>some ((p.1,p.2,y)::r)
  |_,_,_=>none
def iI(sz:Nat):List (Nat×Operand)→Option (List (Nat×Nat×aZ))
 | []=>some []
 |(i,x)::rest=>match dC x,iI sz rest with
  |some y,some r=>some ((i*sz,sz,y)::r)
  |_,_=>none
def lX:List (Nat×Operand)→Option (List (Nat×aZ))
 | []=>some []
 |(i,x)::rest=>match dC x,lX rest with
  |some y,some r=>some ((i,y)::r)
  |_,_=>none
def uQ:Operand→Operand→Bool
 | .tmp a,.tmp b=>a==b
 | .const (.int .i64 a),.const (.int .i64 b)=>a==b
 |_,_=>false
def jU(P:Program)(sh:Nat)(c:Call):Option k7:=
 match c.callee with
 | .value (.func f)=>(oQ c.args.toList).map fun as=> .callf f as
 | .value x=>match dC x,oQ c.args.toList with
   |some y,some as=>some (.callv y as)
   |_,_=>none
 | .builtin .len=>match c.argTypes[0]?,c.args.toList with
   |some t,[x]=>match P.underlying t,dC x with
    |some .string,some y=>some (.lenS y)
    |some (.slice _),some y=>some (.lenV y)
    |some (.map _ _),some y=>some (.lenM y)
    |some (.array n _),some _=>some (.lenC n)
    |_,_=>none
   |_,_=>none
 | .builtin .append=>match c.argTypes.toList,c.args.toList with
   | [t,u],[x,y]=>match P.underlying t,P.underlying u,dC x,dC y with
     |some (.slice e),some ud,some x',some y'=>
      (match ud with
      | .slice _| .string=>(match P.info? e with
        |some i=>(match i.zero with
         |some z=>if i.size=z.cells.size&&i.size != 0&&i.bytes != 0 then some (.app i.size i.bytes x' y' (sh==1) (sh==2))else none
         |none=>none)
        |none=>none)
      |_=>none)
     |_,_,_,_=>none
   |_,_=>none
 | .builtin .min=>(oQ c.args.toList).map fun as=> .mm false as
 | .builtin .max=>(oQ c.args.toList).map fun as=> .mm true as
 |_=>none
def cj(P:Program)(sh:Nat):Op→Option k7
 | .move x| .assign x=>(dC x).map .mv
 | .pick c a b=>match dC c,dC a,dC b with
   |some c,some a,some b=>some (.pick c a b)
   |_,_,_=>none
 | .alloc t=>match jT P t with
   |some z=>if noTup z then some (.alloc (cellsOf z) (sh==1))else none
   |none=>none
 | .box _ x=>(dC x).map fun y=> .box y (sh==1)
 | .build t ps=>match jT P t,P.underlying t with
   |some z,some (.struct fs)=>(match fs.toList.mapM (fun f=>(P.info? f.type).map fun i=>(f.offset,i.size))with
    |some fb=>if noTup z then(placesOf fb ps.toList).map fun r=> .build (cellsOf z) r else none
    |none=>none)
   |some z,some (.array _ e)=>(match dt P e with|some n=>if noTup z then(iI n ps.toList).map fun r=> .build (cellsOf z) r else none|none=>none)
   |_,_=>none
 | .buildSlice t len ps=>match P.underlying t with
   |some (.slice e)=>match jT P e,dt P e,lX ps.toList with
    |some z,some n,some r=>if noTup z&&n=(cellsOf z).length&&n != 0&&len*n≤16777216 then some (.bsl (cellsOf z) len r)else none
    |_,_,_=>none
   |_=>none
 | .load t x=>match dC x,dt P t,mr P t with
   |some y,some n,some ag=>some (.ld y n ag)
   |_,_,_=>none
 | .store t x v=>match dC x,dC v,dt P t with
   |some y,some u,some n=>some (.st y u n)
   |_,_,_=>none
 | .nilCheck x=>(dC x).map .nck
 | .binOp op t x y _=>match dC x,dC y with
   |some a,some b=>match op,qp P t with
    | .eql,some .bool=>some (.eq false (.one .bool) a b)
    | .neq,some .bool=>some (.eq true (.one .bool) a b)
    |_,some _=>some (.bin op a b)
    | .eql,none=>(ra P t).map fun k=> .eq false k a b
    | .neq,none=>(ra P t).map fun k=> .eq true k a b
    |_,_=>none
   |_,_=>none
 | .unOp op _ x=>(dC x).map (.un op)
 | .convert s t x=>match P.underlying s,P.underlying t,dC x with
   |some (.int _),some (.int k),some y=>some (.cvi k y)
   |_,_,_=>none
 | .makeFunc (.func f) first cap=>match oQ first.toList,oQ cap.toList with
   |some a,some c=>some (.mkfn f a c)
   |_,_=>none
 | .makeMap _ none=>some (.mkmap (sh==1))
 | .makeSlice t l c=>match P.underlying t with
   |some (.slice e)=>match P.info? e,jT P e,dC l with
    |some i,some z,some y=>if noTup z&&uQ l c&&i.size=(cellsOf z).length&&i.size != 0 then some (.mksl (cellsOf z) i.bytes y (sh==1))else none
    |_,_,_=>none
   |_=>none
 | .slice t x l h m=>match P.underlying t,dC x,k9 l,k9 h,k9 m with
   |some .string,some y,some l,some h,some none=>some (.slS y l h)
   |some (.slice e),some y,some l,some h,some m=>(match dt P e with|some n=>if n != 0&&(m.isNone||h.isSome)then some (.slV n y l h m)else none|none=>none)
   |_,_,_,_,_=>none
 | .fieldAddr s x f=>match P.underlying s,dC x with
   |some (.struct fs),some y=>(match fs[f]? with
    |some fd=>(match dt P fd.type with|some n=>if n != 0 then some (.fa y fd.offset)else none|none=>none)
    |none=>none)
   |_,_=>none
 | .field s x f=>match P.underlying s,dC x with
   |some (.struct fs),some y=>(match fs[f]? with
    |some fd=>(match dt P fd.type,mr P fd.type with|some n,some ag=>some (.fld y fd.offset n ag)|_,_=>none)
    |none=>none)
   |_,_=>none
 | .indexAddr t x j=>match P.underlying t,dC x,dC j with
   |some (.slice e),some y,some j=>(match dt P e with|some n=>if n != 0 then some (.ia y j n)else none|none=>none)
   |some (.array len e),some y,some j=>(match dt P e with|some n=>if n != 0 then some (.iaA y j len n)else none|none=>none)
   |_,_,_=>none
 | .index t x j=>match P.underlying t,dC x,dC j with
   |some .string,some y,some j=>some (.ixS y j)
   |some (.array len e),some y,some j=>(match dt P e,mr P e with|some n,some ag=>some (.ixA y j len n ag)|_,_=>none)
   |_,_,_=>none
 | .lookup t m k ok=>match P.underlying t,dC m,dC k with
   |some (.map kt et),some m,some k=>(match keyOf P kt,jT P et with|some ek,some z=>some (.lk ek m k z ok)|_,_=>none)
   |_,_,_=>none
 | .mapUpdate t m k v=>match P.underlying t,dC m,dC k,dC v with
   |some (.map kt _),some m,some k,some v=>(keyOf P kt).map fun ek=> .mu ek m k v
   |_,_,_,_=>none
 | .extract x j=>(dC x).map fun y=> .ext y j
 | .call c=>jU P sh c
 |_=>none
def OQ(hs:List Nat)(d:Option Nat):Nat:=
 match d with
 |some d=>if hs.contains d then 1 else if hs.contains (d+100000)then 2 else 0
 |none=>0
def Np:List Nat→Option Nat
 | []=>none
 |h::hs=>if h<1000000 then Np hs else some (h-1000000)
def nn(P:Program)(hs:List Nat)(ops:Array Oper)(o:Oper):Option aJ:=
 match cj P (OQ hs o.dst) o.op with
 |some op=>match o.guard with
  |none=>some ⟨o.dst,op,none⟩
  |some (j,want)=>match(ops[j]?).bind (·.dst)with
   |some d=>some ⟨o.dst,op,some (d,want)⟩
   |none=>none
 |none=>none
def dK(P:Program)(hs:List Nat)(ops:Array Oper):List Oper→Option (List aJ)
 | []=>some []
 |o::os=>match nn P hs ops o,dK P hs ops os with
  |some a,some as=>some (a::as)
  |_,_=>none
def quiet:k7→Bool
 | .mv _| .pick .. | .build .. | .nck _| .bin .. | .eq .. | .un .. | .cvi .. | .mkfn .. | .slS .. | .slV .. | .fa .. | .fld .. | .ia .. | .iaA .. | .ixS .. | .ixA .. | .ext .. | .lenS _| .lenV _| .lenC _| .mm .. =>true
 |_=>false
def cY(o:Oper):List Nat:=(o.after.toList.filter (Region.binds .any)).map (·.on)
def rb(acc:List Nat)(ps:List Nat):Nat:=ps.foldl (fun m p=>m ||| 2 ^ p ||| aV 0 acc p) 0
def iQ:List (List Nat)→List Nat→List Nat
 | [],acc=>acc
 |ps::rest,acc=>iQ rest (acc++ [rb acc ps])
def np:Nat→List (List Nat)→Bool
 |_,[]=>true
 |i,ps::rest=>ps.all (· <i)&&np (i+1) rest
def dU(x y:aJ):Bool:=
 (match x.d with|some d=> !(looks y).contains d&& !(y.d==some d)|none=>true)&&(match y.d with|some d=> !(looks x).contains d|none=>true)
def re(m:Nat)(as:List aJ):List (Nat×aJ):=(as.zipIdx.map fun p=>(p.2,p.1)).filter fun p=> !m.testBit p.1
def nq:List Nat→List aJ→List aJ→Bool
 |_,_,[]=>true
 | [],_,_=>false
 |m::ms,before,a::rest=>((re m before).all fun p=>dU p.2 a)&&nq ms (before++ [a]) rest
def jV:List Nat→List aJ→List aJ→List (List Nat×aJ)
 |m::ms,before,a::rest=>((if quiet a.op then []else((re m before).filter fun p=> !quiet p.2.op).map (·.1)),a)::jV ms (before++ [a]) rest
 |_,_,_=> []
def eU(P:Program)(hs:List Nat):Code→Option ba
 | .skip=>some .skip
 | .region _ ops false=>(dK P hs ops ops.toList).map .region
 | .region _ ops true=>
   match dK P hs ops ops.toList with
   |some as=>
    let ps:=ops.toList.map cY
    if np 0 ps&&nq (iQ ps []) [] as then some (.draws (jV (iQ ps []) [] as))else none
   |none=>none
 | .seq a b=>match eU P hs a,eU P hs b with
   |some a,some b=>some (.seq a b)
   |_,_=>none
 | .cond c a b=>match dC c,eU P hs a,eU P hs b with
   |some c,some a,some b=>some (.cond c a b)
   |_,_,_=>none
 | .block id a=>(eU P hs a).map (.block id)
 | .loop a=>(eU P hs a).map .loop
 | .exit id=>some (.exit id)
 | .ret=>some .ret
 |_=>none
def ki(P:Program):List ResultVar→Option (List qo)
 | []=>some []
 | .tmp t::rs=>(ki P rs).map (.tmp t:: ·)
 | .cell a t::rs=>match dt P t,mr P t,ki P rs with
   |some n,some ag,some rs=>some (.cell a n ag::rs)
   |_,_,_=>none
def wN(P:Program)(hs:List Nat)(eff:Bool)(fn:Func):Option aC:=
 if fn.name== "runtime.NumGoroutine" then none else
 match fn.body with
 |none=>none
 |some c=>match eU P hs c,ki P fn.results.toList with
  |some c,some rs=>some ⟨fn.ntmps,c,rs,eff,Np hs⟩
  |_,_=>none
end Go.Ev
namespace Go.Ev
open Go
structure wO where
 blk:Nat
 off:Nat
 ext:Nat
abbrev aS:=Sp→Nat→Nat→wO
abbrev aI:=Nat→Nat→Prop
mutual
def PRel(w:World)(M:aI):T→Value→Prop
 | .b x,v=>v= .bool x
 | .i k n,v=>v= .int k n
 | .s l,v=> ∃bs,v= .string bs∧cp bs=l
 | .nilsl,v=>v= .slice none 0 0
 | .sl cs len ex,v=> ∃blk off cap sp,v= .slice (some ⟨blk,off,sp⟩) len cap∧len≤cap∧(ex=true→cap=len)∧(sp=none∨cap=0)∧aP w M blk off cs
 | .nilptr,v=>v= .pointer none
 | .vp cs,v=> ∃blk off,v= .pointer (some ⟨blk,off,none⟩)∧aP w M blk off cs
 | .nilmp,v=>v= .map none
 | .vm ks vs,v=> ∃blk es clock,v= .map (some blk)∧w.heap[blk]? =some (.map es clock)∧MapKept.Stamped es clock∧(∀o,¬M blk o)∧PList w M ks (es.toList.map (·.key))∧PList w M vs (es.toList.map (·.val))
 | .nilfn,v=>v= .nilFunc
 | .fn f a c,v=> ∃fa fc,v= .func (.func f) fa fc∧PList w M a fa.toList∧PList w M c fc.toList
 | .agg cs,v=> ∃a,v= .agg a∧PList w M cs a.toList∧cs.all single=true
 | .tup cs,v=> ∃a,v= .tuple a∧PList w M cs a.toList
 | .isl ..,_=>False
 | .ptr ..,_=>False
 | .mp ..,_=>False
def PList(w:World)(M:aI):List T→List Value→Prop
 | [],vs=>vs= []
 |t::ts,vs=> ∃u us,vs=u::us∧PRel w M t u∧PList w M ts us
def aP(w:World)(M:aI)(blk off:Nat):List T→Prop
 | []=>True
 |c::cs=>(∃v,w.cell? ⟨blk,off,none⟩=some v∧ ¬M blk off∧PRel w M c v∧single c=true)∧aP w M blk (off+1) cs
end
mutual
def au(β:aS)(G:Sp→Nat→Nat)(w:World)(M:aI):T→Value→Prop
 | .isl sp k g off len sz,v=>g≤G sp k∧ ∃cap,v= .slice (some ⟨(β sp k g).blk,(β sp k g).off+off,none⟩) len cap∧len≤cap∧off+cap*sz≤(β sp k g).ext
 | .ptr sp k g off,v=>g≤G sp k∧v= .pointer (some ⟨(β sp k g).blk,(β sp k g).off+off,none⟩)
 | .mp sp k g,v=>g≤G sp k∧v= .map (some (β sp k g).blk)
 | .fn f a c,v=> ∃fa fc,v= .func (.func f) fa fc∧av β G w M a fa.toList∧av β G w M c fc.toList
 | .agg cs,v=> ∃a,v= .agg a∧av β G w M cs a.toList∧cs.all single=true
 | .tup cs,v=> ∃a,v= .tuple a∧av β G w M cs a.toList
 | .b x,v=>v= .bool x
 | .i k n,v=>v= .int k n
 | .s l,v=> ∃bs,v= .string bs∧cp bs=l
 | .nilsl,v=>v= .slice none 0 0
 | .sl cs len ex,v=>PRel w M (.sl cs len ex) v
 | .nilptr,v=>v= .pointer none
 | .vp cs,v=>PRel w M (.vp cs) v
 | .nilmp,v=>v= .map none
 | .vm ks vs,v=>PRel w M (.vm ks vs) v
 | .nilfn,v=>v= .nilFunc
def av(β:aS)(G:Sp→Nat→Nat)(w:World)(M:aI):List T→List Value→Prop
 | [],vs=>vs= []
 |t::ts,vs=> ∃u us,vs=u::us∧au β G w M t u∧av β G w M ts us
end
structure c9 (w:World) (M:aI) (w':World) (M':aI):Prop where
 cell: ∀b o v,w.cell? ⟨b,o,none⟩=some v→ ¬M b o→w'.cell? ⟨b,o,none⟩=some v
 map: ∀(b:Nat) es c,w.heap[b]? =some (.map es c)→(∀o,¬M b o)→w'.heap[b]? =some (.map es c)
 m: ∀b o,b<w.heap.size→M' b o→M b o
theorem ns{w:World}{b o:Nat}{v:Value}(h:w.cell? ⟨b,o,none⟩=some v):b<w.heap.size:=by
 unfold World.cell? at h
 by_cases hb:b<w.heap.size
 ·exact hb
 ·simp[Array.getElem?_eq_none (Nat.le_of_not_lt hb)]at h
theorem eN{w:World}{b:Nat}{o:Obj}(h:w.heap[b]? =some o):b<w.heap.size:=by
 by_cases hb:b<w.heap.size
 ·exact hb
 ·simp[Array.getElem?_eq_none (Nat.le_of_not_lt hb)]at h
mutual
theorem PRel.mono{w w':World}{M M':aI}(k:c9 w M w' M'): ∀(t:T) (v:Value),PRel w M t v→PRel w' M' t v
 | .b x,v,h=>by simpa only[PRel]using h
 | .i _ n,v,h=>by simpa only[PRel]using h
 | .s l,v,h=>by simpa only[PRel]using h
 | .nilsl,v,h=>by simpa only[PRel]using h
 | .sl cs len ex,v,h=>by
   simp only[PRel]at h ⊢
   obtain⟨blk,off,cap,sp,h1,h2,h3,h5,h4⟩:=h
   exact⟨blk,off,cap,sp,h1,h2,h3,h5,aP.mono k blk off cs h4⟩
 | .nilptr,v,h=>by simpa only[PRel]using h
 | .vp cs,v,h=>by
   simp only[PRel]at h ⊢
   obtain⟨blk,off,h1,h4⟩:=h
   exact⟨blk,off,h1,aP.mono k blk off cs h4⟩
 | .nilmp,v,h=>by simpa only[PRel]using h
 | .vm ks vs,v,h=>by
   simp only[PRel]at h ⊢
   obtain⟨blk,es,clock,h1,h2,pI,h3,h4,h5⟩:=h
   exact⟨blk,es,clock,h1,k.map _ _ _ h2 h3,pI,fun o ho=>h3 o (k.m _ _ (eN h2) ho),PList.mono k ks _ h4,PList.mono k vs _ h5⟩
 | .nilfn,v,h=>by simpa only[PRel]using h
 | .fn f a c,v,h=>by
   simp only[PRel]at h ⊢
   obtain⟨fa,fc,h1,h2,h3⟩:=h
   exact⟨fa,fc,h1,PList.mono k a _ h2,PList.mono k c _ h3⟩
 | .agg cs,v,h=>by
   simp only[PRel]at h ⊢
   obtain⟨a,h1,h2,h3⟩:=h
   exact⟨a,h1,PList.mono k cs _ h2,h3⟩
 | .tup cs,v,h=>by
   simp only[PRel]at h ⊢
   obtain⟨a,h1,h2⟩:=h
   exact⟨a,h1,PList.mono k cs _ h2⟩
 | .isl ..,v,h=>by simp only[PRel]at h
 | .ptr ..,v,h=>by simp only[PRel]at h
 | .mp ..,v,h=>by simp only[PRel]at h
theorem PList.mono{w w':World}{M M':aI}(k:c9 w M w' M'): ∀(t:List T) (v:List Value),PList w M t v→PList w' M' t v
 | [],v,h=>by simpa only[PList]using h
 |t::ts,v,h=>by
  simp only[PList]at h ⊢
  obtain⟨u,us,h1,h2,h3⟩:=h
  exact⟨u,us,h1,PRel.mono k t u h2,PList.mono k ts us h3⟩
theorem aP.mono{w w':World}{M M':aI}(k:c9 w M w' M')(blk:Nat): ∀(off:Nat) (t:List T),aP w M blk off t→aP w' M' blk off t
 |off,[],h=>by simp only[aP]
 |off,c::cs,h=>by
  simp only[aP]at h ⊢
  obtain⟨⟨v,h1,h2,h3,h5⟩,h4⟩:=h
  exact⟨⟨v,k.cell _ _ _ h1 h2,fun hm=>h2 (k.m _ _ (ns h1) hm),PRel.mono k c v h3,h5⟩,aP.mono k blk (off+1) cs h4⟩
end
mutual
theorem au.mono{β be:aS}{G G':Sp→Nat→Nat}{w w':World}{M M':aI}(k:c9 w M w' M')(pJ: ∀sp n g,g≤G sp n→be sp n g=β sp n g)(hG: ∀sp n,G sp n≤G' sp n):
  ∀(t:T) (v:Value),au β G w M t v→au be G' w' M' t v
 | .isl sp n g off len sz,v,h=>by
   simp only[au]at h ⊢
   obtain⟨h1,h2⟩:=h
   rw[pJ _ _ _ h1]
   exact⟨Nat.le_trans h1 (hG _ _),h2⟩
 | .ptr sp n g off,v,h=>by
   simp only[au]at h ⊢
   obtain⟨h1,h2⟩:=h
   rw[pJ _ _ _ h1]
   exact⟨Nat.le_trans h1 (hG _ _),h2⟩
 | .mp sp n g,v,h=>by
   simp only[au]at h ⊢
   obtain⟨h1,h2⟩:=h
   rw[pJ _ _ _ h1]
   exact⟨Nat.le_trans h1 (hG _ _),h2⟩
 | .fn f a c,v,h=>by
   simp only[au]at h ⊢
   obtain⟨fa,fc,h1,h2,h3⟩:=h
   exact⟨fa,fc,h1,av.mono k pJ hG a _ h2,av.mono k pJ hG c _ h3⟩
 | .agg cs,v,h=>by
   simp only[au]at h ⊢
   obtain⟨a,h1,h2,h3⟩:=h
   exact⟨a,h1,av.mono k pJ hG cs _ h2,h3⟩
 | .tup cs,v,h=>by
   simp only[au]at h ⊢
   obtain⟨a,h1,h2⟩:=h
   exact⟨a,h1,av.mono k pJ hG cs _ h2⟩
 | .b x,v,h=>by simpa only[au]using h
 | .i _ n,v,h=>by simpa only[au]using h
 | .s l,v,h=>by simpa only[au]using h
 | .nilsl,v,h=>by simpa only[au]using h
 | .sl cs len ex,v,h=>by simp only[au]at h ⊢; exact PRel.mono k _ _ h
 | .nilptr,v,h=>by simpa only[au]using h
 | .vp cs,v,h=>by simp only[au]at h ⊢; exact PRel.mono k _ _ h
 | .nilmp,v,h=>by simpa only[au]using h
 | .vm ks vs,v,h=>by simp only[au]at h ⊢; exact PRel.mono k _ _ h
 | .nilfn,v,h=>by simpa only[au]using h
theorem av.mono{β be:aS}{G G':Sp→Nat→Nat}{w w':World}{M M':aI}(k:c9 w M w' M')(pJ: ∀sp n g,g≤G sp n→be sp n g=β sp n g)(hG: ∀sp n,G sp n≤G' sp n):
  ∀(t:List T) (v:List Value),av β G w M t v→av be G' w' M' t v
 | [],v,h=>by simpa only[av]using h
 |t::ts,v,h=>by
  simp only[av]at h ⊢
  obtain⟨u,us,h1,h2,h3⟩:=h
  exact⟨u,us,h1,au.mono k pJ hG t u h2,av.mono k pJ hG ts us h3⟩
end
mutual
theorem PRel.toV{w:World}{M:aI}(β:aS)(G:Sp→Nat→Nat): ∀(t:T) (v:Value),PRel w M t v→au β G w M t v
 | .b x,v,h=>by simpa only[au,PRel]using h
 | .i _ n,v,h=>by simpa only[au,PRel]using h
 | .s l,v,h=>by simpa only[au,PRel]using h
 | .nilsl,v,h=>by simpa only[au,PRel]using h
 | .sl cs len ex,v,h=>by simp only[au];exact h
 | .nilptr,v,h=>by simpa only[au,PRel]using h
 | .vp cs,v,h=>by simp only[au];exact h
 | .nilmp,v,h=>by simpa only[au,PRel]using h
 | .vm ks vs,v,h=>by simp only[au];exact h
 | .nilfn,v,h=>by simpa only[au,PRel]using h
 | .fn f a c,v,h=>by
   simp only[PRel]at h;simp only[au]
   obtain⟨fa,fc,h1,h2,h3⟩:=h
   exact⟨fa,fc,h1,PList.toV β G a _ h2,PList.toV β G c _ h3⟩
 | .agg cs,v,h=>by
   simp only[PRel]at h;simp only[au]
   obtain⟨a,h1,h2,h3⟩:=h
   exact⟨a,h1,PList.toV β G cs _ h2,h3⟩
 | .tup cs,v,h=>by
   simp only[PRel]at h;simp only[au]
   obtain⟨a,h1,h2⟩:=h
   exact⟨a,h1,PList.toV β G cs _ h2⟩
 | .isl ..,v,h=>by simp only[PRel]at h
 | .ptr ..,v,h=>by simp only[PRel]at h
 | .mp ..,v,h=>by simp only[PRel]at h
theorem PList.toV{w:World}{M:aI}(β:aS)(G:Sp→Nat→Nat): ∀(t:List T) (v:List Value),PList w M t v→av β G w M t v
 | [],v,h=>by simpa only[av,PList]using h
 |t::ts,v,h=>by
  simp only[PList]at h;simp only[av]
  obtain⟨u,us,h1,h2,h3⟩:=h
  exact⟨u,us,h1,PRel.toV β G t u h2,PList.toV β G ts us h3⟩
end
theorem av.length{β:aS}{G:Sp→Nat→Nat}{w:World}{M:aI}: ∀(t:List T) (v:List Value),av β G w M t v→t.length=v.length
 | [],v,h=>by simp only[av]at h;simp[h]
 |t::ts,v,h=>by
  simp only[av]at h
  obtain⟨u,us,rfl,_,h3⟩:=h
  simp[av.length ts us h3]
theorem PList.length{w:World}{M:aI}: ∀(t:List T) (v:List Value),PList w M t v→t.length=v.length
 | [],v,h=>by simp only[PList]at h;simp[h]
 |t::ts,v,h=>by
  simp only[PList]at h
  obtain⟨u,us,rfl,_,h3⟩:=h
  simp[PList.length ts us h3]
def nu(β:aS)(G:Sp→Nat→Nat)(w:World)(M:aI)(ts:List T)(vs:List Value):Prop:=
 ∀be G',(∀k g,g≤G .S k→be .S k g=β .S k g)→(∀k,G .S k≤G' .S k)→av be G' w M ts vs
def gR(sp:Sp)(bx:Bool)(β:aS)(G:Sp→Nat→Nat)(w:World)(M:aI)(ts:List T)(vs:List Value):Prop:=
 match bx,sp with
 |false,_=>PList w M ts vs
 |true,.L=>av β G w M ts vs
 |true,.S=>nu β G w M ts vs
theorem nu.toV{β:aS}{G:Sp→Nat→Nat}{w:World}{M:aI}{ts:List T}{vs:List Value}(h:nu β G w M ts vs):av β G w M ts vs:=h β G (fun _ _ _=>rfl) (fun _=>Nat.le_refl _)
theorem nu.mono{β be:aS}{G G':Sp→Nat→Nat}{w w':World}{M M':aI}{ts:List T}{vs:List Value}(k:c9 w M w' M')(pJ: ∀n g,g≤G .S n→be .S n g=β .S n g)(hG: ∀n,G .S n≤G' .S n)(h:nu β G w M ts vs):nu be G' w' M' ts vs:=
 fun b g h1 h2=>av.mono k (fun _ _ _ _=>rfl) (fun _ _=>Nat.le_refl _) _ _ (h b g (fun n x hx=>(h1 n x (Nat.le_trans hx (hG n))).trans (pJ n x hx)) (fun n=>Nat.le_trans (hG n) (h2 n)))
theorem gR.toV{sp:Sp}{bx:Bool}{β:aS}{G:Sp→Nat→Nat}{w:World}{M:aI}{ts:List T}{vs:List Value}(h:gR sp bx β G w M ts vs):av β G w M ts vs:=by
 cases bx
 ·exact PList.toV β G _ _ h
 ·cases sp
  ·exact h
  ·exact nu.toV h
theorem gR.ofP{sp:Sp}{bx:Bool}{β:aS}{G:Sp→Nat→Nat}{w:World}{M:aI}{ts:List T}{vs:List Value}(h:PList w M ts vs):gR sp bx β G w M ts vs:=by
 cases bx
 ·exact h
 ·cases sp
  ·exact PList.toV β G _ _ h
  ·exact fun be G' _ _=>PList.toV be G' _ _ h
theorem gR.mono{sp:Sp}{bx:Bool}{β be:aS}{G G':Sp→Nat→Nat}{w w':World}{M M':aI}{ts:List T}{vs:List Value}(k:c9 w M w' M')(pJ: ∀sp n g,g≤G sp n→be sp n g=β sp n g)(hG: ∀sp n,G sp n≤G' sp n)
  (h:gR sp bx β G w M ts vs):gR sp bx be G' w' M' ts vs:=by
 cases bx
 ·exact PList.mono k _ _ h
 ·cases sp
  ·exact av.mono k pJ hG _ _ h
  ·exact nu.mono k (pJ .S) (hG .S) h
abbrev St.gens(st:St)(sp:Sp)(k:Nat):Nat:=(st.get sp k).g
def live(e:aA):Prop:=match e.ob with| .none=>False|_=>True
def dg(β:aS)(G:Sp→Nat→Nat)(w:World)(M:aI)(sp:Sp)(k:Nat)(e:aA):Prop:=
 match e.ob with
 | .none=>True
 | .cells cs wm bx=> ∃c el fz,w.heap[(β sp k e.g).blk]? =some (.cells c el fz)∧(β sp k e.g).off+(β sp k e.g).ext≤c.size∧cs.length≤(β sp k e.g).ext∧
     fz=(0,0)∧
     gR sp bx β G w M cs ((c.toList.drop (β sp k e.g).off).take cs.length)∧
     (∀j,wm≤j→j<(β sp k e.g).ext→M (β sp k e.g).blk ((β sp k e.g).off+j))∧cs.all single=true∧wm≤cs.length
 | .map ks vs fz=> ∃es clock,w.heap[(β sp k e.g).blk]? =some (.map es clock)∧MapKept.Stamped es clock∧PList w M ks (es.toList.map (·.key))∧PList w M vs (es.toList.map (·.val))∧(fz=false→ ∀o,M (β sp k e.g).blk o)
structure dP where
 w:World
 M:aI
 SB:Nat→Prop
structure bf (B:dP) (st:St) (w:World) (β:aS) (M:aI):Prop where
 obj: ∀sp k,dg β st.gens w M sp k (st.get sp k)
 dist: ∀sp k cu k',live (st.get sp k)→live (st.get cu k')→(β sp k (st.gens sp k)).blk=(β cu k' (st.gens cu k')).blk→sp=cu∧k=k'
 mlt: ∀b o,M b o→b<w.heap.size
 lblk: ∀k,live (st.get .L k)→B.w.heap.size≤(β .L k (st.gens .L k)).blk
 sblk: ∀k,live (st.get .S k)→B.SB (β .S k (st.gens .S k)).blk∨B.w.heap.size≤(β .S k (st.gens .S k)).blk
 os:w.os=B.w.os
 tape:w.tape=B.w.tape
 output:w.output=B.w.output
 size:B.w.heap.size≤w.heap.size
 same: ∀b,b<B.w.heap.size→ ¬B.SB b→w.heap[b]? =B.w.heap[b]?
 keep:c9 B.w B.M w M
 msup: ∀b o,b<B.w.heap.size→ ¬B.SB b→B.M b o→M b o
structure Tr (st:St) (w:World) (β:aS) (M:aI) (bn:St) (w':World) (be:aS) (M':aI):Prop where
 keep:c9 w M w' M'
 beta: ∀sp k g,g≤st.gens sp k→be sp k g=β sp k g
 gens: ∀sp k,st.gens sp k≤bn.gens sp k
theorem c9.refl(w:World)(M:aI):c9 w M w M:=⟨fun _ _ _ h _=>h,fun _ _ _ h _=>h,fun _ _ _ h=>h⟩
theorem c9.trans{w w' SR:World}{M M' SU:aI}(a:c9 w M w' M')(b:c9 w' M' SR SU)(hs:w.heap.size≤w'.heap.size):c9 w M SR SU:=
 ⟨fun x o v h hm=>b.cell x o v (a.cell x o v h hm) (fun h'=>hm (a.m _ _ (ns h) h')),
  fun x es c h hm=>b.map x es c (a.map x es c h hm) (fun o h'=>hm o (a.m _ _ (eN h) h')),
  fun x o h hm=>a.m x o h (b.m x o (Nat.lt_of_lt_of_le h hs) hm)⟩
theorem Tr.refl(st:St)(w:World)(β:aS)(M:aI):Tr st w β M st w β M:=⟨.refl w M,fun _ _ _ _=>rfl,fun _ _=>Nat.le_refl _⟩
theorem Tr.trans{st bn SV:St}{w w' SR:World}{β be SW:aS}{M M' SU:aI}(a:Tr st w β M bn w' be M')(b:Tr bn w' be M' SV SR SW SU)(hs:w.heap.size≤w'.heap.size):
  Tr st w β M SV SR SW SU:=
 ⟨a.keep.trans b.keep hs,fun sp k g h=>(b.beta sp k g (Nat.le_trans h (a.gens sp k))).trans (a.beta sp k g h),fun sp k=>Nat.le_trans (a.gens sp k) (b.gens sp k)⟩
theorem Tr.val{st bn:St}{w w':World}{β be:aS}{M M':aI}(a:Tr st w β M bn w' be M'){t:T}{v:Value}(h:au β st.gens w M t v):au be bn.gens w' M' t v:=
 au.mono a.keep a.beta a.gens t v h
structure jI (st:St) (a:Act) (w:World) (β:aS) (M:aI) (n:Nat):Prop where
 size:a.tmps.size=n
 defers:a.defers= []
 slot: ∀t,au β st.gens w M (an st.fr t) (a.tmps.getD t undef)
end Go.Ev
namespace Go.Ev
open Go
theorem dz(st:St)(sp:Sp)(k:Nat)(e:aA)(cu:Sp)(k':Nat):
  (st.up (sp,k,e)).get cu k'=if cu=sp∧k'=k then e else st.get cu k':=by
 cases sp <;> cases cu <;> simp[St.up,St.get,ch,fO,oO,aQ.get_set]
theorem du(st:St)(sp:Sp)(k:Nat)(e:aA)(cu:Sp)(k':Nat):
  (st.up (sp,k,e)).gens cu k'=if cu=sp∧k'=k then e.g else st.gens cu k':=by
 unfold St.gens;rw[dz];split <;> rfl
theorem heap_alloc(w:World)(o:Obj)(b:Nat):(w.alloc o).heap[b]? =if b=w.heap.size then some o else w.heap[b]? :=by
 show(w.heap.push o)[b]? =_
 rw[Array.getElem?_push]
theorem fQ{w w':World}{b o:Nat}(h:w'.heap[b]? =w.heap[b]?):w'.cell? ⟨b,o,none⟩=w.cell? ⟨b,o,none⟩:=by
 unfold World.cell?;rw[h]
theorem dg.mono{β be:aS}{G G':Sp→Nat→Nat}{w w':World}{M M':aI}{sp:Sp}{n:Nat}{e:aA}(k:c9 w M w' M')(pJ: ∀sp n g,g≤G sp n→be sp n g=β sp n g)(hG: ∀sp n,G sp n≤G' sp n)
  (hg:e.g≤G sp n) (hb:live e→w'.heap[(β sp n e.g).blk]? =w.heap[(β sp n e.g).blk]?) (hM:live e→ ∀o,M (β sp n e.g).blk o→M' (β sp n e.g).blk o)
  (h:dg β G w M sp n e):dg be G' w' M' sp n e:=by
 unfold dg at h ⊢
 rw[pJ _ _ _ hg]
 obtain⟨g,ob⟩:=e
 cases ob with
 |none=>trivial
 |cells cs wm bx=>
  obtain⟨c,el,fz,h1,h2,h3,h4,h5,h6,h7⟩:=h
  refine⟨c,el,fz,(hb trivial).trans h1,h2,h3,h4, ?_,fun j a b=>hM trivial _ (h6 j a b),h7⟩
  exact gR.mono k pJ hG h5
 |map ks vs fz=>
  obtain⟨es,clock,h1,pI,h2,h3,h4⟩:=h
  exact⟨es,clock,(hb trivial).trans h1,pI,PList.mono k _ _ h2,PList.mono k _ _ h3,fun a o=>hM trivial o (h4 a o)⟩
theorem bf.lt{B:dP}{st:St}{w:World}{β:aS}{M:aI}(h:bf B st w β M){sp:Sp}{k:Nat}(hl:live (st.get sp k)):(β sp k (st.gens sp k)).blk<w.heap.size:=by
 have:=h.obj sp k
 unfold dg at this
 unfold St.gens
 generalize st.get sp k=e at*
 obtain⟨g,ob⟩:=e
 cases ob with
 |none=>exact hl.elim
 |cells cs wm bx=>obtain⟨c,el,fz,h1,_⟩:=this;exact eN h1
 |map ks vs fz=>obtain⟨es,clock,h1,_⟩:=this;exact eN h1
theorem lB(w:World)(M:aI)(o:Obj):c9 w M (w.alloc o) M:=
 ⟨fun b off v h _=>by rw[fQ (w:=w) (by rw[heap_alloc,if_neg (Nat.ne_of_lt (ns h))])];exact h,
  fun b es c h _=>by rw[heap_alloc,if_neg (Nat.ne_of_lt (eN h))];exact h,fun _ _ _ h=>h⟩
theorem kj(w:World)(M:aI)(o:Obj):c9 w M (w.alloc o) (fun b x=>M b x∨b=w.heap.size):=
 ⟨(lB w M o).cell,(lB w M o).map,fun _ _ hb h=>h.resolve_right (Nat.ne_of_lt hb)⟩
theorem OR{B:dP}{st:St}{w:World}{β:aS}{M:aI}(h:bf B st w β M)(o:Obj):
  bf B st (w.alloc o) β M∧Tr st w β M st (w.alloc o) β M:=by
 have hk:=lB w M o
 have hs:w.heap.size≤(w.alloc o).heap.size:=by show _≤(w.heap.push o).size;simp
 refine⟨⟨fun sp k=> ?_,h.dist,fun b x hm=>Nat.lt_of_lt_of_le (h.mlt b x hm) hs,h.lblk,h.sblk,h.os,h.tape,h.output,Nat.le_trans h.size hs,fun b hb hn=> ?_,h.keep.trans hk h.size,h.msup⟩,hk,fun _ _ _ _=>rfl,fun _ _=>Nat.le_refl _⟩
 ·exact dg.mono hk (fun _ _ _ _=>rfl) (fun _ _=>Nat.le_refl _) (Nat.le_refl _) (fun hl=>by rw[heap_alloc,if_neg (Nat.ne_of_lt (h.lt hl))]) (fun _ _ hm=>hm) (h.obj sp k)
 ·rw[heap_alloc,if_neg (by have:=h.size;omega)];exact h.same b hb hn
theorem A5{B:dP}{st:St}{w:World}{β:aS}{M:aI}(h:bf B st w β M)(n:Nat):
  bf B st {w with drawn:=n} β M∧Tr st w β M st {w with drawn:=n} β M:=by
 have hk:c9 w M {w with drawn:=n} M:=⟨fun _ _ _ h _=>h,fun _ _ _ h _=>h,fun _ _ _ h=>h⟩
 refine⟨⟨fun sp k=> ?_,h.dist,h.mlt,h.lblk,h.sblk,h.os,h.tape,h.output,h.size,h.same,h.keep.trans hk h.size,h.msup⟩,hk,fun _ _ _ _=>rfl,fun _ _=>Nat.le_refl _⟩
 exact dg.mono hk (fun _ _ _ _=>rfl) (fun _ _=>Nat.le_refl _) (Nat.le_refl _) (fun _=>rfl) (fun _ _ hm=>hm) (h.obj sp k)
def fg(β:aS)(sp:Sp)(k g:Nat)(s:wO):aS:=fun cu k' g'=>if cu=sp∧k'=k∧g'=g then s else β cu k' g'
theorem bN(β:aS)(sp:Sp)(k g:Nat)(s:wO):fg β sp k g s sp k g=s:=by simp[fg]
theorem nv(β:aS)(sp:Sp)(k g:Nat)(s:wO){cu:Sp}{k' g':Nat}(h: ¬(cu=sp∧k'=k∧g'=g)):fg β sp k g s cu k' g'=β cu k' g':=by simp only[fg,if_neg h]
theorem Fo{B:dP}{st:St}{w:World}{β:aS}{M:aI}(h:bf B st w β M)(sp:Sp)(k g:Nat)(hg:st.gens sp k<g)(o:Obj)(ext:Nat)(ob:Ob)
  (ho:dg (fg β sp k g ⟨w.heap.size,0,ext⟩) (st.up (sp,k,⟨g,ob⟩)).gens (w.alloc o) (fun b x=>M b x∨b=w.heap.size) sp k ⟨g,ob⟩):
  bf B (st.up (sp,k,⟨g,ob⟩)) (w.alloc o) (fg β sp k g ⟨w.heap.size,0,ext⟩) (fun b x=>M b x∨b=w.heap.size)∧
  Tr st w β M (st.up (sp,k,⟨g,ob⟩)) (w.alloc o) (fg β sp k g ⟨w.heap.size,0,ext⟩) (fun b x=>M b x∨b=w.heap.size):=by
 have hk:=kj w M o
 have hs:w.heap.size≤(w.alloc o).heap.size:=by show _≤(w.heap.push o).size;simp
 have hb: ∀cu k' g',g'≤st.gens cu k'→fg β sp k g ⟨w.heap.size,0,ext⟩ cu k' g'=β cu k' g':=by
  intro cu k' g' hle
  refine nv _ _ _ _ _ ?_
  rintro⟨rfl,rfl,rfl⟩
  omega
 have hG: ∀cu k',st.gens cu k'≤(st.up (sp,k,⟨g,ob⟩)).gens cu k':=by
  intro cu k'
  rw[du]
  split
  ·rename_i e;obtain⟨rfl,rfl⟩:=e;exact Nat.le_of_lt hg
  ·exact Nat.le_refl _
 have jw: ∀cu k',(fg β sp k g ⟨w.heap.size,0,ext⟩ cu k' ((st.up (sp,k,⟨g,ob⟩)).gens cu k'))=if cu=sp∧k'=k then⟨w.heap.size,0,ext⟩else β cu k' (st.gens cu k'):=by
  intro cu k'
  rw[du]
  split
  ·rename_i e;obtain⟨rfl,rfl⟩:=e;exact bN _ _ _ _ _
  ·exact hb _ _ _ (Nat.le_refl _)
 refine⟨⟨fun cu k'=> ?_,fun VR k1 VS k2 l1 l2 he=> ?_,fun b x hm=> ?_,fun k' hl=> ?_,fun k' hl=> ?_,h.os,h.tape,h.output,Nat.le_trans h.size hs,fun b hb hn=> ?_,h.keep.trans hk h.size,fun b x h1 h2 h3=> .inl (h.msup b x h1 h2 h3)⟩,hk,hb,hG⟩
 ·rw[dz]
  split
  ·rename_i e;obtain⟨rfl,rfl⟩:=e;exact ho
  ·exact dg.mono hk hb hG (Nat.le_refl _) (fun hl=>by rw[heap_alloc,if_neg (Nat.ne_of_lt (h.lt hl))]) (fun _ _ hm=> .inl hm) (h.obj cu k')
 ·rw[jw,jw]at he
  rw[dz]at l1 l2
  by_cases e1:VR=sp∧k1=k <;> by_cases e2:VS=sp∧k2=k
  ·exact⟨e1.1.trans e2.1.symm,e1.2.trans e2.2.symm⟩
  ·rw[if_pos e1,if_neg e2]at he;rw[if_neg e2]at l2
   exact absurd he.symm (Nat.ne_of_lt (h.lt l2))
  ·rw[if_neg e1,if_pos e2]at he;rw[if_neg e1]at l1
   exact absurd he (Nat.ne_of_lt (h.lt l1))
  ·rw[if_neg e1,if_neg e2]at he;rw[if_neg e1]at l1;rw[if_neg e2]at l2
   exact h.dist _ _ _ _ l1 l2 he
 ·rcases hm with hm|rfl
  ·exact Nat.lt_of_lt_of_le (h.mlt b x hm) hs
  ·show _<(w.heap.push o).size;simp
 ·rw[jw];rw[dz]at hl
  split
  ·exact h.size
  ·rename_i e;rw[if_neg e]at hl;exact h.lblk k' hl
 ·rw[jw];rw[dz]at hl
  split
  ·exact .inr h.size
  ·rename_i e;rw[if_neg e]at hl;exact h.sblk k' hl
 ·rw[heap_alloc,if_neg (by have:=h.size;omega)];exact h.same b hb hn
def setBlock(w:World)(b:Nat)(o:Obj):World:={w with heap:=w.heap.setIfInBounds b o}
theorem cw(w:World)(b:Nat)(o:Obj)(x:Nat):(setBlock w b o).heap[x]? =if x=b∧b<w.heap.size then some o else w.heap[x]? :=by
 unfold setBlock
 simp only[Array.getElem?_setIfInBounds]
 by_cases hx:b=x
 ·subst hx
  by_cases hb:b<w.heap.size
  ·simp[hb]
  ·simp[hb]
 ·rw[if_neg hx,if_neg (fun h=>hx h.1.symm)]
theorem dc(w:World)(b:Nat)(o:Obj):(setBlock w b o).heap.size=w.heap.size:=by simp[setBlock]
theorem A6{B:dP}{st:St}{w:World}{β:aS}{M M':aI}(h:bf B st w β M)(sp:Sp)(k g:Nat)(ob:Ob)(hl:live (st.get sp k))(hg:st.gens sp k≤g)(o:Obj)
  (uR: ∀b x,M' b x→M b x) (SX: ∀b x,b≠(β sp k (st.gens sp k)).blk→M b x→M' b x)
  (hk:c9 w M (setBlock w (β sp k (st.gens sp k)).blk o) M')
  (mE: ¬B.w.heap.size≤(β sp k (st.gens sp k)).blk→B.SB (β sp k (st.gens sp k)).blk)
  (ho:dg (fg β sp k g (β sp k (st.gens sp k))) (st.up (sp,k,⟨g,ob⟩)).gens (setBlock w (β sp k (st.gens sp k)).blk o) M' sp k ⟨g,ob⟩):
  bf B (st.up (sp,k,⟨g,ob⟩)) (setBlock w (β sp k (st.gens sp k)).blk o) (fg β sp k g (β sp k (st.gens sp k))) M'∧
  Tr st w β M (st.up (sp,k,⟨g,ob⟩)) (setBlock w (β sp k (st.gens sp k)).blk o) (fg β sp k g (β sp k (st.gens sp k))) M':=by
 have hb: ∀cu k' g',g'≤st.gens cu k'→fg β sp k g (β sp k (st.gens sp k)) cu k' g'=β cu k' g':=by
  intro cu k' g' hle
  by_cases e:cu=sp∧k'=k∧g'=g
  ·obtain⟨rfl,rfl,rfl⟩:=e
   rw[bN,Nat.le_antisymm hle hg]
  ·exact nv _ _ _ _ _ e
 have hG: ∀cu k',st.gens cu k'≤(st.up (sp,k,⟨g,ob⟩)).gens cu k':=by
  intro cu k'
  rw[du]
  split
  ·rename_i e;obtain⟨rfl,rfl⟩:=e;exact hg
  ·exact Nat.le_refl _
 have jw: ∀cu k',(fg β sp k g (β sp k (st.gens sp k)) cu k' ((st.up (sp,k,⟨g,ob⟩)).gens cu k'))=β cu k' (st.gens cu k'):=by
  intro cu k'
  rw[du]
  split
  ·rename_i e;obtain⟨rfl,rfl⟩:=e;exact bN _ _ _ _ _
  ·exact hb _ _ _ (Nat.le_refl _)
 have tu: ∀cu k',live ((st.up (sp,k,⟨g,ob⟩)).get cu k')→live (st.get cu k'):=by
  intro cu k' IX
  rw[dz]at IX
  split at IX
  ·rename_i e;obtain⟨rfl,rfl⟩:=e;exact hl
  ·exact IX
 refine⟨⟨fun cu k'=> ?_,fun VR k1 VS k2 l1 l2 he=> ?_,fun b x hm=> ?_,fun k' IX=> ?_,fun k' IX=> ?_,h.os,h.tape,h.output, ?_,fun b hb hn=> ?_,h.keep.trans hk h.size,fun b x h1 h2 h3=> ?_⟩,hk,hb,hG⟩
 ·by_cases e:cu=sp∧k'=k
  ·obtain⟨rfl,rfl⟩:=e;rw[dz,if_pos ⟨rfl,rfl⟩];exact ho
  ·rw[dz,if_neg e]
   have dr:live (st.get cu k')→(β cu k' (st.gens cu k')).blk≠(β sp k (st.gens sp k)).blk:=fun l he=>e (h.dist _ _ _ _ l hl he)
   exact dg.mono hk hb hG (Nat.le_refl _) (fun l=>by rw[cw,if_neg (fun x=>dr l x.1)]) (fun l x hm=>SX _ _ (dr l) hm) (h.obj cu k')
 ·rw[jw,jw]at he;exact h.dist _ _ _ _ (tu _ _ l1) (tu _ _ l2) he
 ·rw[dc];exact h.mlt b x (uR b x hm)
 ·rw[jw];exact h.lblk k' (tu _ _ IX)
 ·rw[jw];exact h.sblk k' (tu _ _ IX)
 ·rw[dc];exact h.size
 ·rw[cw,if_neg]
  ·exact h.same b hb hn
  ·rintro⟨rfl,_⟩
   exact hn (mE (by omega))
 ·refine SX b x ?_ (h.msup b x h1 h2 h3)
  rintro rfl
  exact h2 (mE (by omega))
theorem bf.base{B:dP}{st:St}{w:World}{β:aS}{M:aI}(h:bf B st w β M){sp:Sp}{k:Nat}(hl:live (st.get sp k)):
  ¬B.w.heap.size≤(β sp k (st.gens sp k)).blk→B.SB (β sp k (st.gens sp k)).blk:=by
 intro hn
 cases sp with
 |L=>exact absurd (h.lblk k hl) hn
 |S=>exact(h.sblk k hl).resolve_right hn
theorem gE{w:World}{b:Nat}{o:Obj}(h:w.heap[b]? =some o):setBlock w b o=w:=by
 unfold setBlock
 have:w.heap.setIfInBounds b o=w.heap:=by
  apply Array.ext_getElem?
  intro i
  rw[Array.getElem?_setIfInBounds]
  split
  ·rename_i e;subst e;rw[if_pos (eN h),h]
  ·rfl
 rw[this]
theorem jW(β:aS)(sp:Sp)(k g:Nat):fg β sp k g (β sp k g)=β:=by
 funext a b c;unfold fg;split
 ·rename_i e;obtain⟨rfl,rfl,rfl⟩:=e;rfl
 ·rfl
def tw(M:aI)(s:wO)(n:Nat):aI:=fun b x=>M b x∧ ¬(b=s.blk∧s.off≤x∧x<s.off+n)
def A7(M:aI)(blk:Nat):aI:=fun b x=>M b x∧b≠blk
theorem cM{w:World}{M M':aI}(h: ∀b x,M' b x→M b x):c9 w M w M':=⟨fun _ _ _ h _=>h,fun _ _ _ h _=>h,fun b x _ hm=>h b x hm⟩
theorem rf{B:dP}{st:St}{w:World}{β:aS}{M:aI}(h:bf B st w β M){sp:Sp}{k g wm:Nat}{cs:List T}{bx:Bool}(he:st.get sp k=⟨g,.cells cs wm bx⟩):
  bf B (st.up (sp,k,⟨g,.cells cs cs.length bx⟩)) w β (tw M (β sp k g) cs.length)∧
  Tr st w β M (st.up (sp,k,⟨g,.cells cs cs.length bx⟩)) w β (tw M (β sp k g) cs.length):=by
 have hg:st.gens sp k=g:=by unfold St.gens;rw[he]
 have hl:live (st.get sp k):=by rw[he];trivial
 have ho:=h.obj sp k
 rw[he]at ho
 unfold dg at ho
 obtain⟨c,el,fz,h1,h2,h3,h4,h5,h6,h7⟩:=ho
 have uR: ∀b x,tw M (β sp k g) cs.length b x→M b x:=fun _ _ hm=>hm.1
 have hk:=cM (w:=w) uR
 have key:=A6 (M':=tw M (β sp k g) cs.length) h sp k g (.cells cs cs.length bx) hl (Nat.le_of_eq hg) (.cells c el fz) uR
  (fun b x hb hm=>⟨hm,fun hc=>hb (by rw[hg];exact hc.1)⟩) (by rw[hg,gE h1];exact hk) (h.base hl)
 rw[hg,gE h1,jW]at key
 refine key ⟨c,el,fz,h1,h2,h3,h4, ?_,fun j a b=>⟨h6 j (Nat.le_trans h7.2 a) b,fun hc=>by have:=hc.2.2;dsimp only at a b this;omega⟩,h7.1,Nat.le_refl _⟩
 have hG: ∀cu k',st.gens cu k'≤(st.up (sp,k,⟨g,.cells cs cs.length bx⟩)).gens cu k':=by
  intro cu k';rw[du];split
  ·rename_i e;obtain⟨rfl,rfl⟩:=e;exact Nat.le_of_eq hg
  ·exact Nat.le_refl _
 exact gR.mono hk (fun _ _ _ _=>rfl) hG h5
end Go.Ev
namespace Go.Ev
open Go
theorem wP{B:dP}{st:St}{w:World}{β:aS}{M:aI}(h:bf B st w β M){sp:Sp}{k g:Nat}{ks vs:List T}{f:Bool}(he:st.get sp k=⟨g,.map ks vs f⟩):
  bf B (st.up (sp,k,⟨g,.map ks vs true⟩)) w β (A7 M (β sp k g).blk)∧
  Tr st w β M (st.up (sp,k,⟨g,.map ks vs true⟩)) w β (A7 M (β sp k g).blk):=by
 have hg:st.gens sp k=g:=by show(st.get sp k).g=g;rw[he]
 have hl:live (st.get sp k):=by rw[he];trivial
 have ho:=h.obj sp k
 rw[he]at ho
 unfold dg at ho
 obtain⟨es,clock,h1,pI,h2,h3,h4⟩:=ho
 have uR: ∀b x,A7 M (β sp k g).blk b x→M b x:=fun _ _ hm=>hm.1
 have hk:=cM (w:=w) uR
 have key:=A6 (M':=A7 M (β sp k g).blk) h sp k g (.map ks vs true) hl (Nat.le_of_eq hg) (.map es clock) uR
  (fun b x hb hm=>⟨hm,by rw[hg]at hb;exact hb⟩) (by rw[hg,gE h1];exact hk) (h.base hl)
 rw[hg,gE h1,jW]at key
 exact key ⟨es,clock,h1,pI,PList.mono hk _ _ h2,PList.mono hk _ _ h3,fun e=>by cases e⟩
theorem PList.get{w:World}{M:aI}: ∀{ts:List T} {vs:List Value},PList w M ts vs→ ∀{j:Nat} {t:T},ts[j]? =some t→ ∃v,vs[j]? =some v∧PRel w M t v
 | [],vs,h,j,t,ht=>by simp at ht
 |x::xs,vs,h,j,t,ht=>by
  simp only[PList]at h
  obtain⟨u,us,rfl,h2,h3⟩:=h
  cases j with
  |zero=>simp at ht;subst ht;exact⟨u,by simp,h2⟩
  |succ j=>simp at ht ⊢; exact PList.get h3 ht
theorem av.get{β:aS}{G:Sp→Nat→Nat}{w:World}{M:aI}: ∀{ts:List T} {vs:List Value},av β G w M ts vs→ ∀{j:Nat} {t:T},ts[j]? =some t→ ∃v,vs[j]? =some v∧au β G w M t v
 | [],vs,h,j,t,ht=>by simp at ht
 |x::xs,vs,h,j,t,ht=>by
  simp only[av]at h
  obtain⟨u,us,rfl,h2,h3⟩:=h
  cases j with
  |zero=>simp at ht;subst ht;exact⟨u,by simp,h2⟩
  |succ j=>simp at ht ⊢; exact av.get h3 ht
theorem av.drop{β:aS}{G:Sp→Nat→Nat}{w:World}{M:aI}: ∀{ts:List T} {vs:List Value} (n:Nat),av β G w M ts vs→av β G w M (ts.drop n) (vs.drop n)
 |ts,vs,0,h=>by simpa using h
 | [],vs,n+1,h=>by simp only[av]at h;subst h;simp[av]
 |x::xs,vs,n+1,h=>by
  simp only[av]at h
  obtain⟨u,us,rfl,h2,h3⟩:=h
  simpa using av.drop n h3
theorem av.take{β:aS}{G:Sp→Nat→Nat}{w:World}{M:aI}: ∀{ts:List T} {vs:List Value} (n:Nat),av β G w M ts vs→av β G w M (ts.take n) (vs.take n)
 |ts,vs,0,h=>by simp[av]
 | [],vs,n+1,h=>by simp only[av]at h;subst h;simp[av]
 |x::xs,vs,n+1,h=>by
  simp only[av]at h
  obtain⟨u,us,rfl,h2,h3⟩:=h
  simp only[List.take_succ_cons,av]
  exact⟨u,_,rfl,h2,av.take n h3⟩
theorem PList.drop{w:World}{M:aI}: ∀{ts:List T} {vs:List Value} (n:Nat),PList w M ts vs→PList w M (ts.drop n) (vs.drop n)
 |ts,vs,0,h=>by simpa using h
 | [],vs,n+1,h=>by simp only[PList]at h;subst h;simp[PList]
 |x::xs,vs,n+1,h=>by
  simp only[PList]at h
  obtain⟨u,us,rfl,h2,h3⟩:=h
  simpa using PList.drop n h3
theorem PList.take{w:World}{M:aI}: ∀{ts:List T} {vs:List Value} (n:Nat),PList w M ts vs→PList w M (ts.take n) (vs.take n)
 |ts,vs,0,h=>by simp[PList]
 | [],vs,n+1,h=>by simp only[PList]at h;subst h;simp[PList]
 |x::xs,vs,n+1,h=>by
  simp only[PList]at h
  obtain⟨u,us,rfl,h2,h3⟩:=h
  simp only[List.take_succ_cons,PList]
  exact⟨u,_,rfl,h2,PList.take n h3⟩
theorem PList.append{w:World}{M:aI}: ∀{ts rh:List T} {vs kl:List Value},PList w M ts vs→PList w M rh kl→PList w M (ts++rh) (vs++kl)
 | [],rh,vs,kl,h,h'=>by simp only[PList]at h;subst h;simpa using h'
 |x::xs,rh,vs,kl,h,h'=>by
  simp only[PList]at h
  obtain⟨u,us,rfl,h2,h3⟩:=h
  simp only[List.cons_append,PList]
  exact⟨u,_,rfl,h2,PList.append h3 h'⟩
theorem av.append{β:aS}{G:Sp→Nat→Nat}{w:World}{M:aI}: ∀{ts rh:List T} {vs kl:List Value},av β G w M ts vs→av β G w M rh kl→av β G w M (ts++rh) (vs++kl)
 | [],rh,vs,kl,h,h'=>by simp only[av]at h;subst h;simpa using h'
 |x::xs,rh,vs,kl,h,h'=>by
  simp only[av]at h
  obtain⟨u,us,rfl,h2,h3⟩:=h
  simp only[List.cons_append,av]
  exact⟨u,_,rfl,h2,av.append h3 h'⟩
theorem aP.of{w:World}{M:aI}{blk:Nat}{c:Array Value}{el:TypeId}{fz:Nat×Nat}(hb:w.heap[blk]? =some (.cells c el fz)):
  ∀(ts:List T) (off:Nat),PList w M ts ((c.toList.drop off).take ts.length)→(∀x,off≤x→x<off+ts.length→ ¬M blk x)→ts.all single=true→aP w M blk off ts
 | [],off,_,_,_=>by simp only[aP]
 |t::ts,off,h,hm,hs=>by
  simp only[PList,List.length_cons]at h
  obtain⟨u,us,h1,h2,h3⟩:=h
  simp only[List.all_cons,Bool.and_eq_true]at hs
  have Fp:w.cell? ⟨blk,off,none⟩=some u:=by
   unfold World.cell?;rw[hb]
   have:((c.toList.drop off).take (ts.length+1))[0]? =some u:=by rw[h1];rfl
   rw[List.getElem?_take,if_pos (by omega),List.getElem?_drop]at this
   simpa using this
  have IY:us=(c.toList.drop (off+1)).take ts.length:=by
   apply List.ext_getElem?
   intro j
   have:=congrArg (fun l=>l[j+1]?) h1
   simp only[List.getElem?_cons_succ]at this
   rw[←this,List.getElem?_take,List.getElem?_take,List.getElem?_drop,List.getElem?_drop]
   have e:off+(j+1)=off+1+j:=by omega
   rw[e]
   by_cases hj:j<ts.length
   ·rw[if_pos hj,if_pos (by omega)]
   ·rw[if_neg hj,if_neg (by omega)]
  simp only[aP]
  exact⟨⟨u,Fp,hm off (Nat.le_refl _) (by simp),h2,hs.1⟩,aP.of hb ts (off+1) (IY▸h3) (fun x h1 h2=>hm x (by omega) (by simp;omega)) hs.2⟩
def A8(e:aA):aA:=
 match e.ob with
 | .cells cs _ bx=>⟨e.g,.cells cs cs.length bx⟩
 | .map ks vs _=>⟨e.g,.map ks vs true⟩
 | .none=>e
def Fz(st bn:St):Prop:=bn.fr=st.fr∧bn.sh.length=st.sh.length∧ ∀sp k,bn.get sp k=st.get sp k∨bn.get sp k=A8 (st.get sp k)
theorem Fz.refl(st:St):Fz st st:=⟨rfl,rfl,fun _ _=> .inl rfl⟩
theorem IZ(e:aA):(A8 e).g=e.g:=by unfold A8;split <;> rfl
theorem Fz.gens{st bn:St}(h:Fz st bn):bn.gens=st.gens:=by
 funext sp k
 rcases h.2.2 sp k with e|e
 ·show(bn.get sp k).g=_;rw[e]
 ·show(bn.get sp k).g=_;rw[e,IZ]
theorem pK(l:List aA)(k:Nat)(e:aA)(h:k<l.length):(fO l k e).length=l.length:=by
 unfold fO
 induction l generalizing k with
 |nil=>simp at h
 |cons x xs ih=>
  cases k with
  |zero=>simp[nk]
  |succ k=>simp only[nk,List.length_cons];rw[ih k (by simpa using h)]
theorem tz{l:List aA}{k:Nat}(h:l.length≤k):ch l k=gO:=by
 unfold ch
 induction l generalizing k with
 |nil=>simp[aV]
 |cons x xs ih=>
  cases k with
  |zero=>simp at h
  |succ k=>simp only[aV];exact ih (by simpa using h)
theorem A9{st:St}{k:Nat}(h:live (st.get .S k)):k<st.sh.length:=by
 rcases Nat.lt_or_ge k st.sh.length with h'|h'
 ·exact h'
 ·simp only[St.get,tz h']at h;exact h.elim
theorem Fz.up{st bn:St}(h:Fz st bn){sp:Sp}{k:Nat}{e:aA}(he:st.get sp k=e)(hl:live e):Fz st (bn.up (sp,k,A8 e)):=by
 refine⟨?_, ?_,fun cu k'=> ?_⟩
 ·rw[←h.1];cases sp <;> rfl
 ·rw[←h.2.1]
  cases sp with
  |L=>rfl
  |S=>
   have hk:k<bn.sh.length:=by rw[h.2.1];exact A9 (he▸hl)
   simp[St.up,pK _ _ _ hk]
 ·rw[dz]
  split
  ·rename_i x;obtain⟨rfl,rfl⟩:=x;right;rw[he]
  ·exact h.2.2 cu k'
def ko(keep:Bool)(β:aS)(G:Sp→Nat→Nat)(w:World)(M:aI)(t:T)(v:Value):Prop:=
 if keep then∀be G',(∀k g,g≤G .S k→be .S k g=β .S k g)→(∀k,G .S k≤G' .S k)→au be G' w M t v else PRel w M t v
def fR(keep:Bool)(β:aS)(G:Sp→Nat→Nat)(w:World)(M:aI)(t:List T)(v:List Value):Prop:=
 if keep then∀be G',(∀k g,g≤G .S k→be .S k g=β .S k g)→(∀k,G .S k≤G' .S k)→av be G' w M t v else PList w M t v
theorem ko.ofP{keep:Bool}{β:aS}{G:Sp→Nat→Nat}{w:World}{M:aI}{t:T}{v:Value}(h:PRel w M t v):ko keep β G w M t v:=by
 cases keep
 ·exact h
 ·exact fun be G' _ _=>PRel.toV be G' t v h
theorem ko.toV{keep:Bool}{β:aS}{G:Sp→Nat→Nat}{w:World}{M:aI}{t:T}{v:Value}(h:ko keep β G w M t v):au β G w M t v:=by
 cases keep
 ·exact PRel.toV β G t v h
 ·exact h β G (fun _ _ _=>rfl) (fun _=>Nat.le_refl _)
theorem fR.toV{keep:Bool}{β:aS}{G:Sp→Nat→Nat}{w:World}{M:aI}{t:List T}{v:List Value}(h:fR keep β G w M t v):av β G w M t v:=by
 cases keep
 ·exact PList.toV β G t v h
 ·exact h β G (fun _ _ _=>rfl) (fun _=>Nat.le_refl _)
theorem ko.mono{keep:Bool}{β:aS}{G:Sp→Nat→Nat}{w w':World}{M M':aI}{t:T}{v:Value}(k:c9 w M w' M')(h:ko keep β G w M t v):ko keep β G w' M' t v:=by
 cases keep
 ·exact PRel.mono k t v h
 ·exact fun be G' a b=>au.mono k (fun _ _ _ _=>rfl) (fun _ _=>Nat.le_refl _) t v (h be G' a b)
theorem fR.mono{keep:Bool}{β:aS}{G:Sp→Nat→Nat}{w w':World}{M M':aI}{t:List T}{v:List Value}(k:c9 w M w' M')(h:fR keep β G w M t v):fR keep β G w' M' t v:=by
 cases keep
 ·exact PList.mono k t v h
 ·exact fun be G' a b=>av.mono k (fun _ _ _ _=>rfl) (fun _ _=>Nat.le_refl _) t v (h be G' a b)
theorem fR.nil{keep:Bool}{β:aS}{G:Sp→Nat→Nat}{w:World}{M:aI}:fR keep β G w M [] []:=by
 cases keep
 ·exact(by simp[PList]:PList w M [] [])
 ·exact fun be G' _ _=>by simp[av]
theorem fR.cons{keep:Bool}{β:aS}{G:Sp→Nat→Nat}{w:World}{M:aI}{t:T}{v:Value}{ts:List T}{vs:List Value}(h:ko keep β G w M t v)(h':fR keep β G w M ts vs):fR keep β G w M (t::ts) (v::vs):=by
 cases keep
 ·show PList w M (t::ts) (v::vs)
  simp only[PList];exact⟨v,vs,rfl,h,h'⟩
 ·exact fun be G' a b=>by simp only[av];exact⟨v,vs,rfl,h be G' a b,h' be G' a b⟩
theorem Q.run_bind{α γ:Type}(h:Sp→Nat→aA)(nx:Nat): ∀(q:Q α) (f:α→Q γ),(q.bind f).run h nx=(q.run h nx).bind fun a=>(f a).run h nx
 | .ret a,f=>by simp[Q.bind,Q.run]
 | .fail,f=>by simp[Q.bind,Q.run]
 | .rd sp k g,f=>by simp only[Q.bind,Q.run];exact Q.run_bind h nx (g (h sp k)) f
 | .new g,f=>by simp only[Q.bind,Q.run];exact Q.run_bind h nx (g nx) f
theorem cV(st:St)(a b:List Up):st.ups (a++b)=(st.ups a).ups b:=by
 induction a generalizing st with
 |nil=>rfl
 |cons x xs ih=>simp only[List.cons_append,St.ups];exact ih _
def SY(keep:Bool)(st:St)(q:Q (T×List Up))(t:T):Prop:=
 ∀(B:dP) (dF:St) (w:World) (β:aS) (M:aI) (v:Value) (t':T) (us:List Up) (nx:Nat),Fz st dF→bf B dF w β M→au β st.gens w M t v→q.run st.get nx=some (t',us)→
  ∃M',bf B (dF.ups us) w β M'∧Fz st (dF.ups us)∧(∀b x,M' b x→M b x)∧ko keep β st.gens w M' t' v∧(single t=true→single t'=true)
def SZ(keep:Bool)(st:St)(q:Q (List T×List Up))(ts:List T):Prop:=
 ∀(B:dP) (dF:St) (w:World) (β:aS) (M:aI) (vs:List Value) (rh:List T) (us:List Up) (nx:Nat),Fz st dF→bf B dF w β M→av β st.gens w M ts vs→q.run st.get nx=some (rh,us)→
  ∃M',bf B (dF.ups us) w β M'∧Fz st (dF.ups us)∧(∀b x,M' b x→M b x)∧fR keep β st.gens w M' rh vs∧(ts.all single=true→rh.all single=true)∧rh.length=ts.length
theorem gF{keep:Bool}{st:St}{f:T→Q (T×List Up)}(hf: ∀t,SY keep st (f t) t): ∀ts,SZ keep st (bl f ts) ts
 | []=>by
   intro B dF w β M vs rh us nx hz h hv hr
   simp only[av]at hv;subst hv
   simp[bl,Q.run]at hr
   obtain⟨rfl,rfl⟩:=hr
   exact⟨M,h,hz,fun _ _ h=>h,fR.nil,fun h=>h,rfl⟩
 |t::ts=>by
  intro B dF w β M vs rh us nx hz h hv hr
  simp only[av]at hv
  obtain⟨u,kl,rfl,h1,h2⟩:=hv
  simp only[bl,Q.run_bind]at hr
  cases h3:(f t).run st.get nx with
  |none=>simp[h3]at hr
  |some p=>
   obtain⟨t1,zi⟩:=p
   simp only[h3,Option.bind_some]at hr
   cases h4:(bl f ts).run st.get nx with
   |none=>simp[h4]at hr
   |some q=>
    obtain⟨ts2,Ym⟩:=q
    simp only[h4,Option.bind_some,Q.run,Option.some.injEq,Prod.mk.injEq]at hr
    obtain⟨rfl,rfl⟩:=hr
    obtain⟨M1,a1,a2,a3,a4,a5⟩:=hf t B dF w β M u t1 zi nx hz h h1 h3
    have k1:=cM (w:=w) a3
    obtain⟨M2,b1,b2,b3,b4,b5,b6⟩:=gF hf ts B (dF.ups zi) w β M1 kl ts2 Ym nx a2 a1 (av.mono k1 (fun _ _ _ _=>rfl) (fun _ _=>Nat.le_refl _) ts kl h2) h4
    refine⟨M2,by rw[cV];exact b1,by rw[cV];exact b2,fun b x hm=>a3 b x (b3 b x hm),fR.cons (a4.mono (cM b3)) b4, ?_,by simp[b6]⟩
    simp only[List.all_cons,Bool.and_eq_true]
    exact fun h=>⟨a5 h.1,b5 h.2⟩
theorem fh{cs:List T}(h:cs.all single=true)(a n:Nat):((cs.drop a).take n).all single=true:=by
 rw[List.all_eq_true]at h ⊢
 exact fun x hx=>h x (List.mem_of_mem_drop (List.mem_of_mem_take hx))
theorem pL(keep:Bool)(st:St): ∀(n:Nat) (t:T),SY keep st (fz keep n t) t:=by
 intro n
 induction n generalizing keep with
 |zero=>intro t B dF w β M v t' us nx _ _ _ hr;simp[fz,Q.run]at hr
 |succ n ih=>
  intro t B dF w β M v t' us nx hz h hv hr
  have plain:(t',us)=(t,[])→(PRel w M t v)→ ∃M',bf B (dF.ups us) w β M'∧Fz st (dF.ups us)∧(∀b x,M' b x→M b x)∧ko keep β st.gens w M' t' v∧(single t=true→single t'=true):=by
   intro e hp
   simp only[Prod.mk.injEq]at e
   obtain⟨rfl,rfl⟩:=e
   exact⟨M,h,hz,fun _ _ h=>h,ko.ofP hp,fun h=>h⟩
  cases t with
  |b x=>simp[fz,Q.run]at hr;exact plain (by simp[hr]) (by simpa only[au,PRel]using hv)
  |i k x=>simp[fz,Q.run]at hr;exact plain (by simp[hr]) (by simpa only[au,PRel]using hv)
  |s x=>simp[fz,Q.run]at hr;exact plain (by simp[hr]) (by simpa only[au,PRel]using hv)
  |nilsl=>simp[fz,Q.run]at hr;exact plain (by simp[hr]) (by simpa only[au,PRel]using hv)
  |sl cs len ex=>simp[fz,Q.run]at hr;exact plain (by simp[hr]) (by simpa only[au]using hv)
  |nilptr=>simp[fz,Q.run]at hr;exact plain (by simp[hr]) (by simpa only[au,PRel]using hv)
  |vp cs=>simp[fz,Q.run]at hr;exact plain (by simp[hr]) (by simpa only[au]using hv)
  |nilmp=>simp[fz,Q.run]at hr;exact plain (by simp[hr]) (by simpa only[au,PRel]using hv)
  |vm ks vs=>simp[fz,Q.run]at hr;exact plain (by simp[hr]) (by simpa only[au]using hv)
  |nilfn=>simp[fz,Q.run]at hr;exact plain (by simp[hr]) (by simpa only[au,PRel]using hv)
  |fn f a c=>
   simp only[au]at hv
   obtain⟨fa,fc,rfl,h1,h2⟩:=hv
   simp only[fz,Q.run_bind]at hr
   cases h3:(bl (fz keep n) a).run st.get nx with
   |none=>simp[h3]at hr
   |some p=>
    obtain⟨a1,zi⟩:=p
    simp only[h3,Option.bind_some]at hr
    cases h4:(bl (fz keep n) c).run st.get nx with
    |none=>simp[h4]at hr
    |some q=>
     obtain⟨c2,Ym⟩:=q
     simp only[h4,Option.bind_some,Q.run,Option.some.injEq,Prod.mk.injEq]at hr
     obtain⟨rfl,rfl⟩:=hr
     obtain⟨M1,x1,x2,x3,x4,x5,_⟩:=gF (fun t=>ih keep t) a B dF w β M _ a1 zi nx hz h h1 h3
     have k1:=cM (w:=w) x3
     obtain⟨M2,y1,y2,y3,y4,y5,_⟩:=gF (fun t=>ih keep t) c B (dF.ups zi) w β M1 _ c2 Ym nx x2 x1 (av.mono k1 (fun _ _ _ _=>rfl) (fun _ _=>Nat.le_refl _) _ _ h2) h4
     refine⟨M2,by rw[cV];exact y1,by rw[cV];exact y2,fun b x hm=>x3 b x (y3 b x hm), ?_,fun _=>rfl⟩
     have I0:=fR.mono (cM (w:=w) y3) x4
     cases keep
     ·show PRel w M2 (.fn f a1 c2) (.func (.func f) fa fc)
      simp only[PRel];exact⟨fa,fc,rfl,I0,y4⟩
     ·exact fun be G' p q=>by simp only[au];exact⟨fa,fc,rfl,I0 be G' p q,y4 be G' p q⟩
  |agg cs=>
   simp only[au]at hv
   obtain⟨a,rfl,h1,h2⟩:=hv
   simp only[fz,Q.run_bind]at hr
   cases h3:(bl (fz keep n) cs).run st.get nx with
   |none=>simp[h3]at hr
   |some p=>
    obtain⟨a1,zi⟩:=p
    simp only[h3,Option.bind_some,Q.run,Option.some.injEq,Prod.mk.injEq]at hr
    obtain⟨rfl,rfl⟩:=hr
    obtain⟨M1,x1,x2,x3,x4,x5,_⟩:=gF (fun t=>ih keep t) cs B dF w β M _ a1 zi nx hz h h1 h3
    refine⟨M1,x1,x2,x3, ?_,fun h=>h⟩
    cases keep
    ·show PRel w M1 (.agg a1) (.agg a)
     simp only[PRel];exact⟨a,rfl,x4,x5 h2⟩
    ·exact fun be G' p q=>by simp only[au];exact⟨a,rfl,x4 be G' p q,x5 h2⟩
  |tup cs=>
   simp only[au]at hv
   obtain⟨a,rfl,h1⟩:=hv
   simp only[fz,Q.run_bind]at hr
   cases h3:(bl (fz keep n) cs).run st.get nx with
   |none=>simp[h3]at hr
   |some p=>
    obtain⟨a1,zi⟩:=p
    simp only[h3,Option.bind_some,Q.run,Option.some.injEq,Prod.mk.injEq]at hr
    obtain⟨rfl,rfl⟩:=hr
    obtain⟨M1,x1,x2,x3,x4,x5,_⟩:=gF (fun t=>ih keep t) cs B dF w β M _ a1 zi nx hz h h1 h3
    refine⟨M1,x1,x2,x3, ?_,fun h=>h⟩
    cases keep
    ·show PRel w M1 (.tup a1) (.tuple a)
     simp only[PRel];exact⟨a,rfl,x4⟩
    ·exact fun be G' p q=>by simp only[au];exact⟨a,rfl,x4 be G' p q⟩
  |isl sp k g off len sz=>
   simp only[fz]at hr
   by_cases hk:(keep&&sp== .S)=true
   ·simp only[hk,if_true,Q.run,Option.some.injEq,Prod.mk.injEq]at hr
    obtain⟨rfl,rfl⟩:=hr
    simp only[Bool.and_eq_true,beq_iff_eq]at hk
    obtain⟨rfl,rfl⟩:=hk
    refine⟨M,h,hz,fun _ _ h=>h,fun be G' p q=> ?_,fun h=>h⟩
    simp only[au]at hv ⊢
    rw[p k g hv.1]
    exact⟨Nat.le_trans hv.1 (q k),hv.2⟩
   ·rw[if_neg hk]at hr
    simp only[Q.run]at hr
    split at hr
    ·rename_i hg
     generalize he:st.get sp k=e at hr hg
     obtain⟨ge,ob⟩:=e
     dsimp only at hg;subst hg
     cases ob with
     |none=>simp[Q.run]at hr
     |map _ _ _=>simp[Q.run]at hr
     |cells cs wm bx=>
      cases bx with
      |true=>
       dsimp only at hr
       split at hr
       ·rename_i hle
        simp only[Q.run_bind]at hr
        cases h3:(bl (fz false n) ((cs.drop off).take (len*sz))).run st.get nx with
        |none=>simp[h3]at hr
        |some p=>
         obtain⟨c1,zi⟩:=p
         simp only[h3,Option.bind_some,Q.run,Option.some.injEq,Prod.mk.injEq]at hr
         obtain⟨rfl,rfl⟩:=hr
         have gg:dF.gens=st.gens:=hz.gens
         have lp: ∃CF,dF.get sp k=⟨ge,.cells cs CF true⟩:=by
          rcases hz.2.2 sp k with x|x
          ·exact⟨wm,by rw[x,he]⟩
          ·exact⟨cs.length,by rw[x,he];rfl⟩
         obtain⟨wm0,lp⟩:=lp
         have ho:=h.obj sp k
         rw[lp]at ho
         unfold dg at ho
         obtain⟨c,el,Yn,o1,o2,o3,o4,o5,o6,o7,o8⟩:=ho
         dsimp only at o1 o2 o3 o4 o5 o6
         have Yo:av β st.gens w M cs ((c.toList.drop (β sp k ge).off).take cs.length):=by
          rw[←gg]
          exact o5.toV
         have hlen:((cs.drop off).take (len*sz)).length=len*sz:=by simp;omega
         obtain⟨M1,x1,x2,x3,x4,x5,x6⟩:=gF (fun t=>ih false t) ((cs.drop off).take (len*sz)) B dF w β M _ c1 zi nx hz h (av.take (len*sz) (av.drop off Yo)) h3
         have gG: ∃CF,(dF.ups zi).get sp k=⟨ge,.cells cs CF true⟩:=by
          rcases x2.2.2 sp k with x|x
          ·exact⟨wm,by rw[x,he]⟩
          ·exact⟨cs.length,by rw[x,he];rfl⟩
         obtain⟨CF,gG⟩:=gG
         obtain⟨r1,r2⟩:=rf x1 gG
         have OS:=x2.up he trivial
         rw[cV]
         refine⟨_,r1,OS,fun b x hm=>x3 b x hm.1, ?_,fun _=>rfl⟩
         apply ko.ofP
         simp only[au]at hv
         obtain⟨Yp,cap,rfl,S0,Yq⟩:=hv
         simp only[PRel]
         refine⟨_,_,cap,none,rfl,S0,(fun e=>by cases e),.inl rfl, ?_⟩
         have I0:PList w (tw M1 (β sp k ge) cs.length) c1 (((c.toList.drop (β sp k ge).off).take cs.length).drop off |>.take (len*sz)):=PList.mono r2.keep _ _ x4
         refine aP.of o1 _ _ ?_ ?_ (x5 (fh o7 _ _))
         ·rw[x6,hlen]
          rw[List.drop_take,List.drop_drop,List.take_take]at I0
          have e:min (len*sz) (cs.length-off)=len*sz:=by omega
          rw[e]at I0
          exact I0
         ·intro x h1 h2 hm
          rw[x6,hlen]at h2
          exact hm.2 ⟨rfl,by omega,by omega⟩
       ·simp[Q.run]at hr
      |false=>
       dsimp only at hr
       split at hr
       ·rename_i hle
        simp only[Q.run,Option.some.injEq,Prod.mk.injEq]at hr
        obtain⟨rfl,rfl⟩:=hr
        have gG: ∃CF,dF.get sp k=⟨ge,.cells cs CF false⟩:=by
         rcases hz.2.2 sp k with x|x
         ·exact⟨wm,by rw[x,he]⟩
         ·exact⟨cs.length,by rw[x,he];rfl⟩
        obtain⟨CF,gG⟩:=gG
        obtain⟨r1,r2⟩:=rf h gG
        have OS:=hz.up he trivial
        refine⟨_,r1,OS,fun b x hm=>hm.1, ?_,fun _=>rfl⟩
        apply ko.ofP
        have ho:=r1.obj sp k
        rw[dz,if_pos ⟨rfl,rfl⟩]at ho
        unfold dg at ho
        obtain⟨c,el,Yn,o1,o2,o3,o4,o5,o6,o7,o8⟩:=ho
        dsimp only at o1 o2 o3 o4 o5 o6
        simp only[au]at hv
        obtain⟨Yp,cap,rfl,S0,Yq⟩:=hv
        simp only[PRel]
        refine⟨_,_,cap,none,rfl,S0,(fun e=>by cases e),.inl rfl, ?_⟩
        have hlen:((cs.drop off).take (len*sz)).length=len*sz:=by simp;omega
        refine aP.of o1 _ _ ?_ ?_ (fh o7 _ _)
        ·have:=PList.take (len*sz) (PList.drop off o5)
         rw[List.drop_take,List.drop_drop,List.take_take]at this
         rw[hlen]
         have e:min (len*sz) (cs.length-off)=len*sz:=by omega
         rw[e]at this
         exact this
        ·intro x h1 h2 hm
         rw[hlen]at h2
         exact hm.2 ⟨rfl,by omega,by omega⟩
       ·simp[Q.run]at hr
    ·simp[Q.run]at hr
  |ptr sp k g off=>
   simp only[fz]at hr
   by_cases hk:(keep&&sp== .S)=true
   ·simp only[hk,if_true,Q.run,Option.some.injEq,Prod.mk.injEq]at hr
    obtain⟨rfl,rfl⟩:=hr
    simp only[Bool.and_eq_true,beq_iff_eq]at hk
    obtain⟨rfl,rfl⟩:=hk
    refine⟨M,h,hz,fun _ _ h=>h,fun be G' p q=> ?_,fun h=>h⟩
    simp only[au]at hv ⊢
    rw[p k g hv.1]
    exact⟨Nat.le_trans hv.1 (q k),hv.2⟩
   ·rw[if_neg hk]at hr
    simp only[Q.run]at hr
    split at hr
    ·rename_i hg
     generalize he:st.get sp k=e at hr hg
     obtain⟨ge,ob⟩:=e
     dsimp only at hg;subst hg
     cases ob with
     |none=>simp[Q.run]at hr
     |map _ _ _=>simp[Q.run]at hr
     |cells cs wm bx=>
      dsimp only at hr
      simp only[Q.run_bind]at hr
      cases h3:(bl (fz false n) (cs.drop off)).run st.get nx with
      |none=>simp[h3]at hr
      |some p=>
       obtain⟨c1,zi⟩:=p
       simp only[h3,Option.bind_some,Q.run,Option.some.injEq,Prod.mk.injEq]at hr
       obtain⟨rfl,rfl⟩:=hr
       have gg:dF.gens=st.gens:=hz.gens
       have lp: ∃CF,dF.get sp k=⟨ge,.cells cs CF bx⟩:=by
        rcases hz.2.2 sp k with x|x
        ·exact⟨wm,by rw[x,he]⟩
        ·exact⟨cs.length,by rw[x,he];rfl⟩
       obtain⟨wm0,lp⟩:=lp
       have ho:=h.obj sp k
       rw[lp]at ho
       unfold dg at ho
       obtain⟨c,el,Yn,o1,o2,o3,o4,o5,o6,o7,o8⟩:=ho
       dsimp only at o1 o2 o3 o4 o5 o6
       have Yo:av β st.gens w M cs ((c.toList.drop (β sp k ge).off).take cs.length):=by
        rw[←gg]
        exact o5.toV
       obtain⟨M1,x1,x2,x3,x4,x5,x6⟩:=gF (fun t=>ih false t) (cs.drop off) B dF w β M _ c1 zi nx hz h (av.drop off Yo) h3
       have gG: ∃CF,(dF.ups zi).get sp k=⟨ge,.cells cs CF bx⟩:=by
        rcases x2.2.2 sp k with x|x
        ·exact⟨wm,by rw[x,he]⟩
        ·exact⟨cs.length,by rw[x,he];rfl⟩
       obtain⟨CF,gG⟩:=gG
       obtain⟨r1,r2⟩:=rf x1 gG
       have OS:=x2.up he trivial
       rw[cV]
       refine⟨_,r1,OS,fun b x hm=>x3 b x hm.1, ?_,fun _=>rfl⟩
       apply ko.ofP
       simp only[au]at hv
       obtain⟨Yp,rfl⟩:=hv
       simp only[PRel]
       refine⟨_,_,rfl, ?_⟩
       have I0:PList w (tw M1 (β sp k ge) cs.length) c1 ((List.drop off ((c.toList.drop (β sp k ge).off).take cs.length))):=PList.mono r2.keep _ _ x4
       refine aP.of o1 _ _ ?_ ?_ (x5 (by rw[List.all_eq_true]at o7 ⊢; exact fun x hx=>o7 x (List.mem_of_mem_drop hx)))
       ·rw[x6,List.length_drop]
        rw[List.drop_take,List.drop_drop]at I0
        exact I0
       ·intro x h1 h2 hm
        rw[x6,List.length_drop]at h2
        exact hm.2 ⟨rfl,by omega,by omega⟩
    ·simp[Q.run]at hr
  |mp sp k g=>
   simp only[fz]at hr
   by_cases hk:(keep&&sp== .S)=true
   ·simp only[hk,if_true,Q.run,Option.some.injEq,Prod.mk.injEq]at hr
    obtain⟨rfl,rfl⟩:=hr
    simp only[Bool.and_eq_true,beq_iff_eq]at hk
    obtain⟨rfl,rfl⟩:=hk
    refine⟨M,h,hz,fun _ _ h=>h,fun be G' p q=> ?_,fun h=>h⟩
    simp only[au]at hv ⊢
    rw[p k g hv.1]
    exact⟨Nat.le_trans hv.1 (q k),hv.2⟩
   ·rw[if_neg hk]at hr
    simp only[Q.run]at hr
    split at hr
    ·rename_i hg
     generalize he:st.get sp k=e at hr hg
     obtain⟨ge,ob⟩:=e
     dsimp only at hg;subst hg
     cases ob with
     |none=>simp[Q.run]at hr
     |cells _ _ _=>simp[Q.run]at hr
     |map ks vs f=>
      simp only[Q.run,Option.some.injEq,Prod.mk.injEq]at hr
      obtain⟨rfl,rfl⟩:=hr
      have gG: ∃f',dF.get sp k=⟨ge,.map ks vs f'⟩:=by
       rcases hz.2.2 sp k with x|x
       ·exact⟨f,by rw[x,he]⟩
       ·exact⟨true,by rw[x,he];rfl⟩
      obtain⟨f',gG⟩:=gG
      obtain⟨r1,r2⟩:=wP h gG
      have OS:=hz.up he trivial
      refine⟨_,r1,OS,fun b x hm=>hm.1, ?_,fun _=>rfl⟩
      apply ko.ofP
      have ho:=r1.obj sp k
      rw[dz,if_pos ⟨rfl,rfl⟩]at ho
      unfold dg at ho
      obtain⟨es,clock,o1,ost,o2,o3,o4⟩:=ho
      simp only[au]at hv
      obtain⟨Yp,rfl⟩:=hv
      simp only[PRel]
      exact⟨_,es,clock,rfl,o1,ost,fun o hm=>hm.2 rfl,o2,o3⟩
    ·simp[Q.run]at hr
end Go.Ev
namespace Go.Ev
open Go
abbrev om(d s:Nat):aJ:=⟨some d,.mv (.t s),none⟩
abbrev ol(d s n:Nat)(a:Bool):aJ:=⟨some d,.ld (.t s) n a,none⟩
abbrev oa(d s o:Nat):aJ:=⟨some d,.fa (.t s) o,none⟩
abbrev oe(d s j:Nat):aJ:=⟨some d,.ext (.t s) j,none⟩
abbrev oi(d s j n:Nat):aJ:=⟨some d,.ia (.t s) (.t j) n,none⟩
abbrev ot(x v n:Nat):aJ:=⟨none,.st (.t x) (.t v) n,none⟩
abbrev ob(d:Nat)(o:BinOp)(x y:aZ):aJ:=⟨some d,.bin o x y,none⟩
abbrev oc(d f:Nat)(a:List aZ):aJ:=⟨some d,.callf f a,none⟩
abbrev on(d s:Nat):aJ:=⟨some d,.lenV (.t s),none⟩
end Go.Ev
