/- A tree evaluator over the model, proved against it (part A): where it answers, the call returns that answer. Conditions: none beyond its theorems' own. -/
import GoSem.Dispatch
import Derived.Orders
import Derived.LoopN
import Derived.Below
import Derived.MapKept
set_option linter.unusedSimpArgs false
set_option linter.unusedVariables false
namespace Go.Ev
open Go
inductive Sp where
 |L|S
 deriving DecidableEq,Inhabited
inductive T where
 |b (x:Bool)
 |i (k:IntKind) (n:Int)
 |s (l:List Nat)
 |nilsl
 |sl (cs:List T) (len:Nat) (ex:Bool)
 |isl (sp:Sp) (k g off len sz:Nat)
 |nilptr
 |vp (cs:List T)
 |ptr (sp:Sp) (k g off:Nat)
 |nilmp
 |vm (ks vs:List T)
 |mp (sp:Sp) (k g:Nat)
 |nilfn
 |fn (f:Nat) (first cap:List T)
 |agg (cs:List T)
 |tup (vs:List T)
 |any
 deriving Inhabited
inductive Ob where
 |none
 |cells (cs:List T) (wm:Nat) (bx:Bool)
 |map (ks vs:List T) (fz:Bool)
 deriving Inhabited
structure fg where
 g:Nat
 ob:Ob
 deriving Inhabited
def single:T→Bool
 | .agg _| .tup _| .any=>false
 |_=>true
def noTup:T→Bool
 | .tup _| .any=>false
 |_=>true
def jq:fg:=⟨0,.none⟩
def gf:T:= .tup []
def fU{α:Type}(d:α):List α→Nat→α
 | [],_=>d
 |x::_,0=>x
 |_::xs,n+1=>fU d xs n
def oc{α:Type}(d:α):List α→Nat→α→List α
 | [],0,v=> [v]
 | [],n+1,v=>d::oc d [] n v
 |_::xs,0,v=>v::xs
 |x::xs,n+1,v=>x::oc d xs n v
theorem uj{α:Type}(d:α)(v:α): ∀(l:List α) (n m:Nat),fU d (oc d l n v) m=if m=n then v else fU d l m
 | [],0,0=>by simp[oc,fU]
 | [],0,m+1=>by simp[oc,fU]
 | [],n+1,0=>by simp[oc,fU]
 | [],n+1,m+1=>by
   have:=uj d v [] n m
   simp[oc,fU]at this ⊢
   simpa[fU]using this
 |x::xs,0,0=>by simp[oc,fU]
 |x::xs,0,m+1=>by simp[oc,fU]
 |x::xs,n+1,0=>by simp[oc,fU]
 |x::xs,n+1,m+1=>by
  have:=uj d v xs n m
  simp[oc,fU]at this ⊢
  exact this
inductive fC (α:Type) where
 |nil
 |nd (v:α) (l r:fC α)
 deriving Inhabited
def fC.get{α:Type}(d:α):fC α→Nat→α
 | .nil,_=>d
 | .nd v l r,n=>match n with
   |0=>v
   |k+1=>bif Nat.beq (k%2) 0 then l.get d (k/2)else r.get d (k/2)
def fC.put{α:Type}(d:α):Nat→fC α→Nat→α→fC α
 |0,t,_,_=>t
 |f+1,t,n,v=>match n with
  |0=>match t with
   | .nil=> .nd v .nil .nil
   | .nd _ l r=> .nd v l r
  |k+1=>match t with
   | .nil=>bif Nat.beq (k%2) 0 then .nd d (fC.put d f .nil (k/2) v) .nil else .nd d .nil (fC.put d f .nil (k/2) v)
   | .nd u l r=>bif Nat.beq (k%2) 0 then .nd u (fC.put d f l (k/2) v) r else .nd u l (fC.put d f r (k/2) v)
def fC.set{α:Type}(d:α)(t:fC α)(n:Nat)(v:α):fC α:=fC.put d (n+1) t n v
theorem fC.get_nil{α:Type}(d:α)(n:Nat):fC.get d .nil n=d:=by unfold fC.get;rfl
theorem fC.get_put{α:Type}(d:α)(v:α): ∀(f:Nat) (t:fC α) (n m:Nat),n<f→fC.get d (fC.put d f t n v) m=if m=n then v else fC.get d t m
 |0,t,n,m,h=>by omega
 |f+1,t,0,m,h=>by
  cases t with
  |nil=>
   cases m with
   |zero=>simp[fC.put,fC.get]
   |succ m=>simp[fC.put,fC.get]
  |nd u l r=>
   cases m with
   |zero=>simp[fC.put,fC.get]
   |succ m=>simp[fC.put,fC.get]
 |f+1,t,k+1,m,h=>by
  have hk:k/2<f:=by omega
  have ih:=fun t j=>fC.get_put d v f t (k/2) j hk
  cases hb:Nat.beq (k%2) 0 with
  |true=>
   have hk2:k%2=0:=Nat.eq_of_beq_eq_true hb
   cases t with
   |nil=>
    cases m with
    |zero=>simp[fC.put,fC.get,hb]
    |succ m=>
     simp only[fC.put,hb,cond_true,fC.get]
     cases hm:Nat.beq (m%2) 0 with
     |true=>
      have Nu:m%2=0:=Nat.eq_of_beq_eq_true hm
      simp only[cond_true,ih,fC.get_nil]
      by_cases e:m=k
      ·subst e;simp
      ·rw[if_neg (by omega),if_neg (by omega)]
     |false=>
      have Nu:m%2≠0:=fun e=>by rw[e]at hm;simp at hm
      simp only[cond_false,fC.get_nil]
      rw[if_neg (by omega)]
   |nd u l r=>
    cases m with
    |zero=>simp[fC.put,fC.get,hb]
    |succ m=>
     simp only[fC.put,hb,cond_true,fC.get]
     cases hm:Nat.beq (m%2) 0 with
     |true=>
      have Nu:m%2=0:=Nat.eq_of_beq_eq_true hm
      simp only[cond_true,ih]
      by_cases e:m=k
      ·subst e;simp
      ·rw[if_neg (by omega),if_neg (by omega)]
     |false=>
      have Nu:m%2≠0:=fun e=>by rw[e]at hm;simp at hm
      simp only[cond_false]
      rw[if_neg (by omega)]
  |false=>
   have hk2:k%2≠0:=fun e=>by rw[e]at hb;simp at hb
   cases t with
   |nil=>
    cases m with
    |zero=>simp[fC.put,fC.get,hb]
    |succ m=>
     simp only[fC.put,hb,cond_false,fC.get]
     cases hm:Nat.beq (m%2) 0 with
     |true=>
      have Nu:m%2=0:=Nat.eq_of_beq_eq_true hm
      simp only[cond_true,fC.get_nil]
      rw[if_neg (by omega)]
     |false=>
      have Nu:m%2≠0:=fun e=>by rw[e]at hm;simp at hm
      simp only[cond_false,ih,fC.get_nil]
      by_cases e:m=k
      ·subst e;simp
      ·rw[if_neg (by omega),if_neg (by omega)]
   |nd u l r=>
    cases m with
    |zero=>simp[fC.put,fC.get,hb]
    |succ m=>
     simp only[fC.put,hb,cond_false,fC.get]
     cases hm:Nat.beq (m%2) 0 with
     |true=>
      have Nu:m%2=0:=Nat.eq_of_beq_eq_true hm
      simp only[cond_true]
      rw[if_neg (by omega)]
     |false=>
      have Nu:m%2≠0:=fun e=>by rw[e]at hm;simp at hm
      simp only[cond_false,ih]
      by_cases e:m=k
      ·subst e;simp
      ·rw[if_neg (by omega),if_neg (by omega)]
theorem fC.get_set{α:Type}(d:α)(v:α)(t:fC α)(n m:Nat):fC.get d (fC.set d t n v) m=if m=n then v else fC.get d t m:=
 fC.get_put d v (n+1) t n m (Nat.lt_succ_self n)
inductive Q (α:Type) where
 |ret (a:α)
 |fail
 |rd (sp:Sp) (k:Nat) (f:fg→Q α)
 |new (f:Nat→Q α)
def Q.bind{α β:Type}:Q α→(α→Q β)→Q β
 | .ret a,f=>f a
 | .fail,_=> .fail
 | .rd sp k g,f=> .rd sp k fun e=>(g e).bind f
 | .new g,f=> .new fun e=>(g e).bind f
def Q.run{α:Type}(h:Sp→Nat→fg)(nx:Nat):Q α→Option α
 | .ret a=>some a
 | .fail=>none
 | .rd sp k f=>(f (h sp k)).run h nx
 | .new f=>(f nx).run h nx
def Q.log{α:Type}(h:Sp→Nat→fg)(nx:Nat):Q α→List (Sp×Nat)
 | .ret _=> []
 | .fail=> []
 | .rd sp k f=>(sp,k)::(f (h sp k)).log h nx
 | .new f=>(f nx).log h nx
def Q.asks{α:Type}(h:Sp→Nat→fg)(nx:Nat):Q α→Bool
 | .ret _=>false
 | .fail=>false
 | .rd sp k f=>(f (h sp k)).asks h nx
 | .new _=>true
def Q.of{α:Type}:Option α→Q α
 |some a=> .ret a
 |none=> .fail
abbrev Up:=Sp×Nat×fg
inductive zl where
 |val (v:T) (ups:List Up)
 deriving Inhabited
def gk(f:T→Q (T×List Up)):List T→Q (List T×List Up)
 | []=> .ret ([],[])
 |c::cs=>(f c).bind fun p=>(gk f cs).bind fun q=> .ret (p.1::q.1,p.2++q.2)
def fz(keep:Bool):Nat→T→Q (T×List Up)
 |0,_=> .fail
 |n+1,t=>match t with
  | .isl sp k g off len sz=>if keep&&sp== .S then .ret (t,[])else .rd sp k fun e=>
    if e.g=g then match e.ob with
     | .cells cs _ false=>if off+len*sz≤cs.length then .ret (.sl ((cs.drop off).take (len*sz)) len false,[(sp,k,⟨g,.cells cs cs.length false⟩)])else .fail
     | .cells cs _ true=>if off+len*sz≤cs.length then(gk (fz false n) ((cs.drop off).take (len*sz))).bind fun q=> .ret (.sl q.1 len false,q.2++ [(sp,k,⟨g,.cells cs cs.length true⟩)])else .fail
     |_=> .fail
    else .fail
  | .mp sp k g=>if keep&&sp== .S then .ret (t,[])else .rd sp k fun e=>
    if e.g=g then match e.ob with
     | .map ks vs _=> .ret (.vm ks vs,[(sp,k,⟨g,.map ks vs true⟩)])
     |_=> .fail
    else .fail
  | .ptr sp k g off=>if keep&&sp== .S then .ret (t,[])else .rd sp k fun e=>
    if e.g=g then match e.ob with
     | .cells cs _ bx=>(gk (fz false n) (cs.drop off)).bind fun q=> .ret (.vp q.1,q.2++ [(sp,k,⟨g,.cells cs cs.length bx⟩)])
     |_=> .fail
    else .fail
  | .fn f a c=>(gk (fz keep n) a).bind fun p=>(gk (fz keep n) c).bind fun q=> .ret (.fn f p.1 q.1,p.2++q.2)
  | .agg cs=>(gk (fz keep n) cs).bind fun q=> .ret (.agg q.1,q.2)
  | .tup cs=>(gk (fz keep n) cs).bind fun q=> .ret (.tup q.1,q.2)
  |t=> .ret (t,[])
def fJ:Nat:=8
def scalar:T→Bool
 | .b _| .i .. | .s _| .nilsl| .nilptr| .nilmp| .nilfn=>true
 | .tup vs=>vs.all fun| .b _| .i .. | .s _| .nilsl| .nilptr| .nilmp| .nilfn=>true|_=>false
 |_=>false
def lo:IntKind→Int
 | .i8=> -128| .i16=> -32768| .i32=> -2147483648| .i64=> -9223372036854775808|_=>0
def hi:IntKind→Int
 | .i8=>127| .i16=>32767| .i32=>2147483647| .i64=>9223372036854775807
 | .u8=>255| .u16=>65535| .u32=>4294967295| .u64=>18446744073709551615
def wr(k:IntKind)(n:Int):Int:=if lo k≤n∧n≤hi k then n else k.wrap n
def gS:List Nat→List Nat→Bool
 |_,[]=>false
 | [],_::_=>true
 |a::x,b::y=>a<b||(a==b&&gS x y)
def tA(op:BinOp)(k:IntKind)(a b:Int):Option T:=
 match op with
 | .add=>some (.i k (wr k (a+b)))
 | .sub=>some (.i k (wr k (a-b)))
 | .mul=>some (.i k (wr k (a*b)))
 | .quo=>if b=0 then none else some (.i k (wr k (a.tdiv b)))
 | .rem=>if b=0 then none else some (.i k (a.tmod b))
 | .eql=>some (.b (a==b))
 | .neq=>some (.b (a != b))
 | .lss=>some (.b (a<b))
 | .leq=>some (.b (a≤b))
 | .gtr=>some (.b (a>b))
 | .geq=>some (.b (a≥b))
 | .and=>some (.i k (k.wrap (BitVec.ofInt k.bits a &&& BitVec.ofInt k.bits b).toNat))
 | .or=>some (.i k (k.wrap (BitVec.ofInt k.bits a ||| BitVec.ofInt k.bits b).toNat))
 | .xor=>some (.i k (k.wrap (BitVec.ofInt k.bits a ^^^ BitVec.ofInt k.bits b).toNat))
 | .andNot=>some (.i k (k.wrap (BitVec.ofInt k.bits a &&& ~~~BitVec.ofInt k.bits b).toNat))
 |_=>none
def LU(op:BinOp)(a b:List Nat):Option T:=
 match op with
 | .add=>if a.length+b.length≤1099511627776 then some (.s (a++b))else none
 | .eql=>some (.b (a==b))
 | .neq=>some (.b (a != b))
 | .lss=>some (.b (gS a b))
 | .leq=>some (.b (gS a b||a==b))
 | .gtr=>some (.b !(gS a b||a==b))
 | .geq=>some (.b !(gS a b))
 |_=>none
def Aa(op:BinOp)(k:IntKind)(a b:Int):Option T:=
 if b<0 then none else
 match op with
 | .shl=>some (.i k (k.wrap (a*2 ^ (min b.toNat k.bits))))
 | .shr=>some (.i k (a.fdiv (2 ^ (min b.toNat k.bits))))
 |_=>none
inductive CK where
 |int|str|bool
 deriving DecidableEq,Inhabited
inductive EK where
 |one (k:CK)
 |flat (ks:List CK)
 |sl|ptr|map
 deriving Inhabited
def jD:CK→T→T→Option Bool
 | .bool,.b x,.b y=>some (x==y)
 | .int,.i k x,.i k' y=>if k=k' then some (x==y)else none
 | .str,.s x,.s y=>some (x==y)
 |_,_,_=>none
def iq:List CK→List T→List T→Option Bool
 | [],[],[]=>some true
 |k::ks,x::xs,y::ys=>match jD k x y with
  |some true=>iq ks xs ys
  |some false=>some false
  |none=>none
 |_,_,_=>none
def tB:EK→T→T→Option Bool
 | .one k,x,y=>jD k x y
 | .flat ks,.agg xs,.agg ys=>iq ks xs ys
 | .sl,.nilsl,.nilsl=>some true
 | .sl,.sl ..,.nilsl=>some false
 | .sl,.isl ..,.nilsl=>some false
 | .ptr,.nilptr,.nilptr=>some true
 | .ptr,.vp _,.nilptr=>some false
 | .ptr,.ptr ..,.nilptr=>some false
 | .map,.nilmp,.nilmp=>some true
 | .map,.vm ..,.nilmp=>some false
 | .map,.mp ..,.nilmp=>some false
 |_,_,_=>none
def bin(op:BinOp)(x y:T):Option T:=
 match op,x,y with
 | .shl,.i k a,.i _ b=>Aa .shl k a b
 | .shr,.i k a,.i _ b=>Aa .shr k a b
 |op,.i k a,.i k' b=>if k=k' then tA op k a b else none
 |op,.s a,.s b=>LU op a b
 |_,_,_=>none
def un(op:UnOp)(x:T):Option T:=
 match op,x with
 | .neg,.i k n=>some (.i k (wr k (0-n)))
 | .not,.b x=>some (.b !x)
 | .xor,.i k n=>tA .xor k (if k.signed then-1 else k.max) n
 |_,_=>none
inductive fM where
 |t (n:Nat)
 |c (v:T)
 deriving Inhabited
inductive kG where
 |mv (x:fM)
 |pick (c a b:fM)
 |alloc (z:List T) (sh:Bool)
 |box (x:fM) (sh:Bool)
 |build (z:List T) (ps:List (Nat×Nat×fM))
 |bsl (z:List T) (len:Nat) (ps:List (Nat×fM))
 |ld (x:fM) (n:Nat) (ag:Bool)
 |st (x v:fM) (n:Nat)
 |nck (x:fM)
 |bin (op:BinOp) (x y:fM)
 |eq (neg:Bool) (k:EK) (x y:fM)
 |un (op:UnOp) (x:fM)
 |cvi (k:IntKind) (x:fM)
 |mkfn (f:Nat) (first cap:List fM)
 |mkmap (sh:Bool)
 |mksl (z:List T) (bytes:Nat) (x:fM) (sh:Bool)
 |slS (x:fM) (lo hi:Option fM)
 |slV (sz:Nat) (x:fM) (lo hi mx:Option fM)
 |fa (x:fM) (off:Nat)
 |fld (x:fM) (off n:Nat) (ag:Bool)
 |ia (x ix:fM) (sz:Nat)
 |iaA (x ix:fM) (len sz:Nat)
 |ixS (x ix:fM)
 |ixA (x ix:fM) (len sz:Nat) (ag:Bool)
 |lk (kk:EK) (m k:fM) (z:T) (ok:Bool)
 |mu (kk:EK) (m k v:fM)
 |ext (x:fM) (j:Nat)
 |callf (f:Nat) (args:List fM)
 |callv (f:fM) (args:List fM)
 |lenS (x:fM)
 |lenV (x:fM)
 |lenM (x:fM)
 |lenC (n:Nat)
 |app (sz bytes:Nat) (s x:fM) (sh:Bool) (nm:Bool)
 |mm (isMax:Bool) (args:List fM)
 deriving Inhabited
structure fe where
 d:Option Nat
 op:kG
 gd:Option (Nat×Bool)
 deriving Inhabited
inductive fm where
 |skip
 |region (ops:List fe)
 |draws (ops:List (List Nat×fe))
 |seq (a b:fm)
 |fork (os BP:List fe) (b:fm)
 |cond (c:fM) (a b:fm)
 |block (id:Nat) (a:fm)
 |loop (a:fm)
 |exit (id:Nat)
 |ret
 deriving Inhabited
inductive rF where
 |tmp (t:Nat)
 |cell (t n:Nat) (ag:Bool)
 deriving Inhabited
structure fv where
 n:Nat
 code:fm
 res:List rF
 eff:Bool
 own:Option Nat
 deriving Inhabited
abbrev Fr:=fC T
structure St where
 fr:Fr
 lh:fC fg
 sh:List fg
 deriving Inhabited
def an(l:Fr)(n:Nat):T:=fC.get gf l n
def iG(l:Fr)(n:Nat)(v:T):Fr:=fC.set gf l n v
theorem od(l:Fr)(n:Nat)(v:T)(m:Nat):an (iG l n v) m=if m=n then v else an l m:=fC.get_set gf v l n m
def vu:List T→Nat→Fr
 | [],_=> .nil
 |x::xs,k=>iG (vu xs (k+1)) k x
def pG(l:List T):Fr:=vu l 0
theorem yp: ∀(l:List T) (k m:Nat),an (vu l k) m=if m<k then gf else fU gf l (m-k)
 | [],k,m=>by simp[vu,an,fC.get_nil,fU]
 |x::xs,k,m=>by
  rw[vu,od,yp xs (k+1) m]
  by_cases h1:m=k
  ·subst h1;simp[fU]
  ·rw[if_neg h1]
   by_cases h2:m<k
   ·rw[if_pos (by omega),if_pos h2]
   ·rw[if_neg (by omega),if_neg h2]
    have:m-k=(m-(k+1))+1:=by omega
    rw[this];rfl
theorem Cu(l:List T)(m:Nat):an (pG l) m=fU gf l m:=by
 unfold pG;rw[yp];simp
def gC(l:List fg)(n:Nat):fg:=fU jq l n
def il(l:List fg)(n:Nat)(v:fg):List fg:=oc jq l n v
def St.get(st:St):Sp→Nat→fg
 | .L,k=>fC.get jq st.lh k
 | .S,k=>gC st.sh k
def St.up(st:St):Up→St
 |(.L,k,e)=>{st with lh:=fC.set jq st.lh k e}
 |(.S,k,e)=>{st with sh:=il st.sh k e}
def St.ups(st:St):List Up→St
 | []=>st
 |u::us=>(st.up u).ups us
def St.rho(st:St):fM→T
 | .t n=>an st.fr n
 | .c v=>v
def nP(d:Nat)(sh:Bool)(ob:Ob)(f:Sp→Nat→Nat→T):Q zl:=
 if sh then .new fun k=> .ret (.val (f .S k 1) [(.S,k,⟨1,ob⟩)])
 else .rd .L d fun e=> .ret (.val (f .L d (e.g+1)) [(.L,d,⟨e.g+1,ob⟩)])
def mM(us:List Up)(sp:Sp)(k:Nat):Bool:=us.any fun u=>u.1==sp&&u.2.1==k
def cellsOf:T→List T
 | .agg cs=>cs
 |t=> [t]
def asNat:T→Option Nat
 | .i _ n=>if 0≤n then some n.toNat else none
 |_=>none
def repl{α:Type}(z:List α):Nat→List α
 |0=> []
 |n+1=>z++repl z n
def splice{α:Type}:List α→Nat→List α→List α
 |cs,0,[]=>cs
 |_::cs,0,v::vs=>v::splice cs 0 vs
 |c::cs,off+1,vs=>c::splice cs off vs
 | [],_,_=> []
def px{α:Type}:List α→List (Nat×List α)→Option (List α)
 |cs,[]=>some cs
 |cs,(off,vs)::rest=>if off+vs.length≤cs.length then px (splice cs off vs) rest else none
def part(cs:List T)(off n:Nat)(ag:Bool):Option T:=
 if ag then(if off+n≤cs.length then some (.agg ((cs.drop off).take n))else none)
 else cs[off]?
def DF(x:T)(n:Nat)(ag:Bool):Q T:=
 match x with
 | .vp cs=> .of (part cs 0 n ag)
 | .ptr sp k g off=> .rd sp k fun e=>
   if e.g=g then match e.ob with
    | .cells cs _ _=> .of (part cs off n ag)
    |_=> .fail
   else .fail
 |_=> .fail
def sr(x v:T)(n:Nat):Q zl:=
 if(cellsOf v).length≠n|| !noTup v then .fail else
 match x with
 | .ptr sp k g off=> .rd sp k fun e=>
   if e.g=g then match e.ob with
    | .cells cs wm bx=>if wm≤off&&off+n≤cs.length then
        (if bx&&sp== .L then .ret (.val gf [(sp,k,⟨g,.cells (splice cs off (cellsOf v)) wm bx⟩)])
        else(fz (bx&&sp== .S) fJ v).bind fun p=>if mM p.2 sp k|| !noTup p.1||(cellsOf p.1).length≠n then .fail else .ret (.val gf (p.2++ [(sp,k,⟨g,.cells (splice cs off (cellsOf p.1)) wm bx⟩)])))
      else .fail
    |_=> .fail
   else .fail
 |_=> .fail
def gU(sz:Nat):T→Q (Nat×List T)
 | .nilsl=> .ret (0,[])
 | .sl cs len _=>if cs.length=len*sz then .ret (len,cs)else .fail
 | .isl sp k g off len pn=>if pn=sz then .rd sp k fun e=>
     if e.g=g then match e.ob with
      | .cells cs _ false=>if off+len*sz≤cs.length then .ret (len,(cs.drop off).take (len*sz))else .fail
      |_=> .fail
     else .fail
   else .fail
 | .s l=>if sz=1 then .ret (l.length,l.map fun(n:Nat)=>T.i .u8 (n:Int))else .fail
 |_=> .fail
def roomy:Nat:=1099511627776
def qe(d sz bytes:Nat)(s x:T)(sh nm:Bool):Q zl:=
 (gU sz x).bind fun p=>
 if p.1=0 then(match s with| .nilsl| .sl .. | .isl .. => .ret (.val s [])|_=> .fail)else
 match s with
 | .nilsl=>if p.1*bytes≤roomy then nP d sh (.cells p.2 0 nm) (fun sp k g=> .isl sp k g 0 p.1 sz)else .fail
 | .sl cs len true=>if cs.length=len*sz&&(len+p.1)*bytes≤roomy then nP d sh (.cells (cs++p.2) 0 false) (fun sp k g=> .isl sp k g 0 (len+p.1) sz)else .fail
 | .isl sp k g off len pn=>if pn=sz&&off=0&&(len+p.1)*bytes≤roomy then .rd sp k fun e=>
     if e.g=g then match e.ob with
      | .cells cs wm false=>if len*sz=cs.length then .ret (.val (.isl sp k (g+1) 0 (len+p.1) sz) [(sp,k,⟨g+1,.cells (cs++p.2) wm false⟩)])else .fail
      |_=> .fail
     else .fail
   else .fail
 |_=> .fail
def kB(kk:EK)(k:T):List T→Option (Option Nat)
 | []=>some none
 |x::xs=>match tB kk k x with
  |some true=>some (some 0)
  |some false=>(kB kk k xs).map fun r=>r.map (· +1)
  |none=>none
def pH(kk:EK)(k v:T)(ks vs:List T):Option (List T×List T):=
 match kB kk k ks with
 |some (some i)=>some (ks.set i k,vs.set i v)
 |some none=>some (ks++ [k],vs++ [v])
 |none=>none
def DG:CK→T→Bool
 | .bool,.b _=>true
 | .int,.i .. =>true
 | .str,.s _=>true
 |_,_=>false
def pI:List CK→List T→Bool
 | [],[]=>true
 |k::ks,x::xs=>DG k x&&pI ks xs
 |_,_=>false
def isKey:EK→T→Bool
 | .one k,x=>DG k x
 | .flat ks,.agg xs=>pI ks xs
 |_,_=>false
def mX(kk:EK)(ks vs:List T)(k z:T)(ok:Bool):Option T:=
 if !isKey kk k then none else
 match kB kk k ks with
 |some (some i)=>vs[i]?.map fun v=>if ok then .tup [v,.b true]else v
 |some none=>some (if ok then .tup [z,.b false]else z)
 |none=>none
def mN(isMax:Bool):T→List T→Option T
 |x,[]=>some x
 | .i k a,.i k' b::rest=>if k=k' then mN isMax (.i k (if isMax then(if b>a then b else a)else(if b<a then b else a))) rest else none
 |_,_=>none
def iS(ρ:fM→T)(Tk:Nat):Option fM→Option Nat
 |none=>some Tk
 |some x=>asNat (ρ x)
def yq(sz:Nat)(x:T)(l h:Nat):Q T:=
 match x with
 | .nilsl=>if l=0&&h=0 then .ret .nilsl else .fail
 | .sl cs len ex=>if l≤h&&h≤len&&cs.length=len*sz then .ret (.sl ((cs.drop (l*sz)).take ((h-l)*sz)) (h-l) (ex&&h=len))else .fail
 | .isl sp k g off len pn=>if l≤h&&h≤len&&pn=sz then .ret (if l=h then .sl [] 0 false else .isl sp k g (off+l*sz) (h-l) sz)else .fail
 |_=> .fail
def qH:T→Option Nat
 | .nilsl=>some 0
 | .sl _ len _=>some len
 | .isl _ _ _ _ len _=>some len
 |_=>none
def val(v:Option T):Q zl:=match v with|some v=> .ret (.val v [])|none=> .fail
def gA(d:Nat)(ρ:fM→T):kG→Q zl
 | .mv x=> .ret (.val (ρ x) [])
 | .pick c a b=>match ρ c with| .b true=> .ret (.val (ρ a) [])| .b false=> .ret (.val (ρ b) [])|_=> .fail
 | .alloc z sh=>nP d sh (.cells z 0 true) (fun sp k g=> .ptr sp k g 0)
 | .box x sh=>if !noTup (ρ x)then .fail else if sh then(fz true fJ (ρ x)).bind fun p=>if p.2.isEmpty&&noTup p.1 then nP d true (.cells (cellsOf p.1) 0 true) (fun sp k g=> .ptr sp k g 0)else .fail
     else nP d false (.cells (cellsOf (ρ x)) 0 true) (fun sp k g=> .ptr sp k g 0)
 | .build z ps=>if ps.all fun p=>(cellsOf (ρ p.2.2)).length=p.2.1&&noTup (ρ p.2.2)then val ((px z (ps.map fun p=>(p.1,cellsOf (ρ p.2.2)))).map .agg)else .fail
 | .bsl z len ps=>(gk (fz false fJ) (ps.map fun p=>ρ p.2)).bind fun q=>
     if q.1.all fun v=>(cellsOf v).length=z.length&&noTup v then
      match px (repl z len) ((ps.map fun p=>p.1*z.length).zip (q.1.map cellsOf))with
      |some cs=> .ret (.val (.sl cs len true) q.2)
      |none=> .fail
     else .fail
 | .ld x n ag=>(DF (ρ x) n ag).bind fun v=> .ret (.val v [])
 | .st x v n=>sr (ρ x) (ρ v) n
 | .nck x=>match ρ x with
   | .vp cs=> .ret (.val (.vp cs) [])
   | .ptr sp k g off=> .ret (.val (.ptr sp k g off) [])
   | .fn f a c=> .ret (.val (.fn f a c) [])
   |_=> .fail
 | .bin op x y=>val (Ev.bin op (ρ x) (ρ y))
 | .eq neg k x y=>val ((tB k (ρ x) (ρ y)).map fun r=> .b (r != neg))
 | .un op x=>val (Ev.un op (ρ x))
 | .cvi k x=>match ρ x with| .i _ n=> .ret (.val (.i k (wr k n)) [])|_=> .fail
 | .mkfn f first cap=> .ret (.val (.fn f (first.map ρ) (cap.map ρ)) [])
 | .mkmap sh=>nP d sh (.map [] [] false) (fun sp k g=> .mp sp k g)
 | .mksl z bytes x sh=>match asNat (ρ x)with
   |some n=>if n*bytes≤roomy&&n≤roomy then nP d sh (.cells (repl z n) 0 false) (fun sp k g=> .isl sp k g 0 n z.length)else .fail
   |none=> .fail
 | .slS x l h=>match ρ x with
   | .s bs=>match iS ρ 0 l,iS ρ bs.length h with
     |some l,some h=>if l≤h&&h≤bs.length then .ret (.val (.s ((bs.drop l).take (h-l))) [])else .fail
     |_,_=> .fail
   |_=> .fail
 | .slV sz x l h mx=>match qH (ρ x)with
   |none=> .fail
   |some n=>match iS ρ 0 l,iS ρ n h,mx with
    |some l,some h,none=>(yq sz (ρ x) l h).bind fun v=> .ret (.val v [])
    |some l,some h,some m=>match asNat (ρ m),ρ x with
     |some 0,.nilsl=>if l=0&&h=0 then .ret (.val .nilsl [])else .fail
     |some 0,_=>if l=0&&h=0 then .ret (.val (.sl [] 0 true) [])else .fail
     |_,_=> .fail
    |_,_,_=> .fail
 | .fa x off=>match ρ x with
   | .vp cs=>if off≤cs.length then .ret (.val (.vp (cs.drop off)) [])else .fail
   | .ptr sp k g o=> .ret (.val (.ptr sp k g (o+off)) [])
   |_=> .fail
 | .fld x off n ag=>match ρ x with| .agg cs=>val (part cs off n ag)|_=> .fail
 | .ia x ix sz=>match asNat (ρ ix),ρ x with
   |some j,.sl cs len _=>if j<len&&(j+1)*sz≤cs.length then .ret (.val (.vp (cs.drop (j*sz))) [])else .fail
   |some j,.isl sp k g off len pn=>if j<len&&pn=sz then .ret (.val (.ptr sp k g (off+j*sz)) [])else .fail
   |_,_=> .fail
 | .iaA x ix len sz=>match asNat (ρ ix),ρ x with
   |some j,.vp cs=>if j<len&&(j+1)*sz≤cs.length then .ret (.val (.vp (cs.drop (j*sz))) [])else .fail
   |some j,.ptr sp k g off=>if j<len then .ret (.val (.ptr sp k g (off+j*sz)) [])else .fail
   |_,_=> .fail
 | .ixS x ix=>match asNat (ρ ix),ρ x with
   |some j,.s bs=>match bs[j]? with|some c=> .ret (.val (.i .u8 c) [])|none=> .fail
   |_,_=> .fail
 | .ixA x ix len sz ag=>match asNat (ρ ix),ρ x with
   |some j,.agg cs=>if j<len then val (part cs (j*sz) sz ag)else .fail
   |_,_=> .fail
 | .lk ek m k z ok=>match ρ m with
   | .nilmp=>if isKey ek (ρ k)then .ret (.val (if ok then .tup [z,.b false]else z) [])else .fail
   | .vm ks vs=>val (mX ek ks vs (ρ k) z ok)
   | .mp sp kk g=> .rd sp kk fun e=>if e.g=g then match e.ob with| .map ks vs _=>val (mX ek ks vs (ρ k) z ok)|_=> .fail else .fail
   |_=> .fail
 | .mu ek m k v=>match ρ m with
   | .mp sp kk g=> .rd sp kk fun e=>if e.g=g&&isKey ek (ρ k)then match e.ob with
       | .map ks vs false=>(fz false fJ (ρ v)).bind fun p=>match pH ek (ρ k) p.1 ks vs with
         |some q=>if mM p.2 sp kk then .fail else .ret (.val gf (p.2++ [(sp,kk,⟨g,.map q.1 q.2 false⟩)]))
         |none=> .fail
       |_=> .fail
     else .fail
   |_=> .fail
 | .ext x j=>match ρ x with| .tup vs=>val vs[j]? |_=> .fail
 | .callf _ _=> .fail
 | .callv _ _=> .fail
 | .lenS x=>match ρ x with| .s bs=> .ret (.val (.i .i64 bs.length) [])|_=> .fail
 | .lenV x=>val ((qH (ρ x)).map fun n=> .i .i64 n)
 | .lenM x=>match ρ x with
   | .nilmp=> .ret (.val (.i .i64 0) [])
   | .vm ks _=> .ret (.val (.i .i64 ks.length) [])
   | .mp sp kk g=> .rd sp kk fun e=>if e.g=g then match e.ob with| .map ks _ _=> .ret (.val (.i .i64 ks.length) [])|_=> .fail else .fail
   |_=> .fail
 | .lenC n=> .ret (.val (.i .i64 n) [])
 | .app sz bytes s x sh nm=>qe d sz bytes (ρ s) (ρ x) sh nm
 | .mm isMax args=>match args.map ρ with|x::rest=>val (mN isMax x rest)| []=> .fail
def gD(ρ:fM→T):kG→Option (Option (Nat×List T))
 | .callf f args=>some (some (f,args.map ρ))
 | .callv f args=>some (match ρ f with| .fn f a c=>some (f,a++args.map ρ++c)|_=>none)
 |_=>none
def xF:kG→List fM
 | .mv x| .box x _| .ld x _ _| .nck x| .un _ x| .cvi _ x| .mksl _ _ x _| .fa x _| .fld x _ _ _| .ext x _| .lenS x| .lenV x| .lenM x=> [x]
 | .pick c a b=> [c,a,b]
 | .alloc .. | .mkmap _| .lenC _=> []
 | .build _ ps=>ps.map (·.2.2)
 | .bsl _ _ ps=>ps.map (·.2)
 | .st x v _| .bin _ x v| .eq _ _ x v| .ia x v _| .iaA x v _ _| .ixS x v| .ixA x v _ _ _| .lk _ x v _ _| .app _ _ x v _ _=> [x,v]
 | .mkfn _ a c=>a++c
 | .slS x l h=>x::(l.toList++h.toList)
 | .slV _ x l h m=>x::(l.toList++h.toList++m.toList)
 | .mu _ m k v=> [m,k,v]
 | .callf _ as| .mm _ as=>as
 | .callv f as=>f::as
def tmpsOf(xs:List fM):List Nat:=xs.filterMap fun| .t n=>some n| .c _=>none
def looks(a:fe):List Nat:=tmpsOf (xF a.op)++(match a.gd with|some g=> [g.1]|none=> [])
inductive Out where
 |nrm|ext (id:Nat)|ret
 deriving DecidableEq,Inhabited
abbrev qz:=Nat→List T→List fg→Option (T×List fg)
structure Env where
 fn:Nat→Option fv
 ext:Nat→Option (List T→Option T)
 wr:Nat→Option (List T→Option (List T×Option Nat))
def lR(fr:Fr)(n:Nat)(d:Option Nat)(v:T):Option Fr:=
 match d with
 |some d=>if d<n then some (iG fr d v)else none
 |none=>some fr
def kK:T→Nat→Option T
 | .tup vs,j=>vs[j]?
 | .agg cs,j=>cs[j]?
 | .any,_=>none
 |t,_=>some t
def gb:T→Nat→T→T
 | .tup vs,j,x=> .tup (vs.set j x)
 | .agg cs,j,x=> .agg (cs.set j x)
 | .any,_,_=> .any
 |_,_,x=>x
def FB:T→Bool
 | .b _| .i .. | .s _| .nilsl| .nilptr| .nilmp| .nilfn=>true
 |_=>false
def vv(d j:Nat)(r:T)(st:St)(us:List Up):Option (T×St):=
 match kK r j with
 |some .nilsl=>some (r,if scalar r then st else st.ups us)
 |some (.sl cs len _)=>
  if cs.all FB=true∧cs.length/len*len=cs.length then
   some (gb r j (.isl .L d (((if scalar (gb r j .nilsl)then st else st.ups us).get .L d).g+1) 0 len (cs.length/len)),
    (if scalar (gb r j .nilsl)then st else st.ups us).up (.L,d,⟨((if scalar (gb r j .nilsl)then st else st.ups us).get .L d).g+1,.cells cs 0 false⟩))
  else none
 |_=>none
def Zr(sp:Sp)(k g off:Nat):Option Nat→T
 |none=> .tup []
 |some n=> .isl sp k g off n 1
def OV(h:List T→Option (List T×Option Nat))(st:St):List T→Option (T×St)
 | [.nilsl]=>match h []with
   |some ([],none)=>some (.tup [],st)
   |some ([],some 0)=>some (.nilsl,st)
   |_=>none
 | [.isl sp k g off len 1]=>match st.get sp k with
   |⟨g',.cells cs wm false⟩=>
    if g'=g∧wm≤off∧off+len≤cs.length then
     match h ((cs.drop off).take len)with
     |some (ys,r)=>if ys.length=len∧ys.all single=true∧r.getD 0≤len then some (Zr sp k g off r,st.up (sp,k,⟨g',.cells (splice cs off ys) wm false⟩))else none
     |none=>none
    else none
   |_=>none
 |_=>none
def gq(E:Env)(call:qz)(d:Nat)(st:St)(f:Nat)(args:List T):Option (T×St):=
 match E.fn f,E.ext f with
 |some af,_=>
  match(gk (fz af.eff fJ) args).run st.get st.sh.length with
  |some q=>
   if af.eff then
    (call f q.1 (st.ups q.2).sh).map fun r=>(r.1,{st.ups q.2 with sh:=r.2})
   else match call f q.1 []with
    |some r=>(match af.own with
     |none=>some (r.1,if scalar r.1 then st else st.ups q.2)
     |some j=>vv d j r.1 st q.2)
    |none=>none
  |none=>none
 |none,some g=>
  match(gk (fz false fJ) args).run st.get st.sh.length with
  |some q=>(g q.1).map fun r=>(r,st)
  |none=>none
 |none,none=>match E.wr f with
  |some h=>OV h st args
  |none=>none
def gh(E:Env)(call:qz)(n:Nat)(o:fe)(st:St):Option St:=
 let go:Option St:=
  match gD st.rho o.op with
  |some (some c)=>match gq E call (o.d.getD 0) st c.1 c.2 with
   |some r=>(lR st.fr n o.d r.1).map fun fr=>{r.2 with fr}
   |none=>none
  |some none=>none
  |none=>match(gA (o.d.getD 0) st.rho o.op).run st.get st.sh.length with
   |some (.val v ups)=>(lR st.fr n o.d v).map fun fr=>{st.ups ups with fr}
   |none=>none
 match o.gd with
 |none=>go
 |some (j,want)=>match an st.fr j with
  | .b x=>if x=want then go else(lR st.fr n o.d gf).map fun fr=>{st with fr}
  | .any=>none
  |_=>(lR st.fr n o.d gf).map fun fr=>{st with fr}
def fi(E:Env)(call:qz)(n:Nat):List fe→St→Option St
 | [],st=>some st
 |o::os,st=>match gh E call n o st with
  |some gj=>fi E call n os gj
  |none=>none
def iter(f:St→Option (Out×St)):Nat→St→Option (Out×St)
 |0,_=>none
 |n+1,st=>match f st with
  |some (.nrm,gj)=>iter f n gj
  |r=>r
structure FP where
 all:Bool
 r:List (Sp×Nat)
 w:List (Sp×Nat)
 deriving Inhabited
def lq(xs ys:List (Sp×Nat)):Bool:=xs.all fun x=> !ys.contains x
def Hz(xs:List (Sp×Nat)):Bool:=xs.all fun x=>x.1== .L
def apart(x y:FP):Bool:=
 lq x.w y.r&&lq x.w y.w&&lq x.r y.w&&
 (!x.all||(!y.all&&Hz y.r&&Hz y.w))&&(!y.all||(Hz x.r&&Hz x.w))
def iB(us:List Up):List (Sp×Nat):=us.map fun u=>(u.1,u.2.1)
def mL:FP:=⟨false,[],[]⟩
def Ab(e:fg):Bool:=match e.ob with| .none=>false|_=>true
def uk(st:St)(us:List Up):Bool:=us.all fun u=>u.1== .L||Ab (st.get .S u.2.1)
def jJ(E:Env)(call:qz)(d:Nat)(st:St)(f:Nat)(args:List T):Option FP:=
 match E.fn f,E.ext f with
 |some af,_=>
  let q:=gk (fz af.eff fJ) args
  match q.run st.get st.sh.length with
  |some p=>if !uk st p.2 then none else
   if af.eff then some ⟨true,q.log st.get st.sh.length,iB p.2⟩else match call f p.1 []with
   |some r=>(match af.own with
    |none=>some ⟨false,q.log st.get st.sh.length,if scalar r.1 then []else iB p.2⟩
    |some _=>some ⟨false,(.L,d)::q.log st.get st.sh.length,(.L,d)::iB p.2⟩)
   |none=>none
  |none=>none
 |none,some _=>some ⟨false,(gk (fz false fJ) args).log st.get st.sh.length,[]⟩
 |none,none=>none
def gK(E:Env)(call:qz)(o:fe)(st:St):Option FP:=
 let go:Option FP:=
  match gD st.rho o.op with
  |some (some c)=>jJ E call (o.d.getD 0) st c.1 c.2
  |some none=>none
  |none=>
   let q:=gA (o.d.getD 0) st.rho o.op
   match q.run st.get st.sh.length with
   |some (.val _ ups)=>if q.asks st.get st.sh.length||uk st ups then some ⟨q.asks st.get st.sh.length,q.log st.get st.sh.length,iB ups⟩else none
   |none=>none
 match o.gd with
 |none=>go
 |some (j,want)=>match an st.fr j with
  | .b x=>if x=want then go else some mL
  |_=>some mL
def fN(E:Env)(call:qz)(n:Nat):List (List Nat×fe)→List FP→St→Option St
 | [],_,st=>some st
 |(uno,o)::os,g8,st=>
  match gK E call o st with
  |none=>none
  |some fp=>
   if uno.all fun i=>apart (fU ⟨true,[],[]⟩ g8 i) fp then
    match gh E call n o st with
    |some gj=>fN E call n os (g8++ [fp]) gj
    |none=>none
   else none
def xG(os:List fe):List Nat:=os.filterMap (·.d)
def gY:fm→List Nat
 | .region ops=>xG ops
 | .draws ops=>xG (ops.map (·.2))
 | .seq a b=>gY a++gY b
 | .fork os _ b=>xG os++gY b
 | .cond _ a b=>gY a++gY b
 | .block _ a=>gY a
 | .loop a=>gY a
 |_=> []
def v5:List Nat→Fr→Fr
 | [],f=>f
 |k::ks,f=>iG (v5 ks f) k .any
def Ac:List Nat→fC fg→fC fg→fC fg
 | [],l,_=>l
 |k::ks,l,l'=>fC.set jq (Ac ks l l') k ⟨max (fC.get jq l k).g (fC.get jq l' k).g,.none⟩
def rH(ks:List Nat)(s t:St):St:=⟨v5 ks s.fr,Ac ks s.lh t.lh,s.sh⟩
def Ad(ks:List Nat)(s t:St):Prop:=s.sh=t.sh∧(∀k,k∉ks→an s.fr k=an t.fr k)∧ ∀k,k∉ks→fC.get jq s.lh k=fC.get jq t.lh k
open Classical in
noncomputable def JS(ks:List Nat):Option (Out×St)→Option (Out×St)→Option (Out×St)
 |some (o,s),some (o',t)=>if o=o'∧Ad ks s t then some (o,rH ks s t)else none
 |_,_=>none
noncomputable def la(E:Env)(call:qz)(fl n:Nat):fm→St→Option (Out×St)
 | .skip,st=>some (.nrm,st)
 | .region ops,st=>(fi E call n ops st).map fun gj=>(.nrm,gj)
 | .draws ops,st=>(fN E call n ops [] st).map fun gj=>(.nrm,gj)
 | .seq a b,st=>match la E call fl n a st with
   |some (.nrm,gj)=>la E call fl n b gj
   |r=>r
 | .fork os BP b,st=>match fi E call n os st,fi E call n BP st with
   |some s1,some s2=>JS (xG os++gY b) (la E call fl n b s1) (la E call fl n b s2)
   |_,_=>none
 | .cond c a b,st=>match st.rho c with
   | .b true=>la E call fl n a st
   | .b false=>la E call fl n b st
   |_=>none
 | .block id a,st=>match la E call fl n a st with
   |some (.ext JT,gj)=>if JT=id then some (.nrm,gj)else some (.ext JT,gj)
   |r=>r
 | .loop a,st=>iter (la E call fl n a) fl st
 | .exit id,st=>some (.ext id,st)
 | .ret,st=>some (.ret,st)
def FC(st:St):rF→Option T
 | .tmp t=>some (an st.fr t)
 | .cell t n ag=>(DF (an st.fr t) n ag).run st.get st.sh.length
def nk(st:St):List rF→Option (List T)
 | []=>some []
 |r::rs=>match FC st r,nk st rs with
  |some v,some vs=>some (v::vs)
  |_,_=>none
def answer(eff:Bool)(vs:List T)(st:St):Option (T×List fg):=
 match(fz eff fJ (match vs with| [v]=>v|vs=> .tup vs)).run st.get st.sh.length with
 |some p=>some (p.1,(st.ups p.2).sh)
 |none=>none
def zp(j:Nat)(vs:List T)(st:St):Option (T×List fg):=
 match kK (match vs with| [v]=>v|vs=> .tup vs) j with
 |some .nilsl=>answer false vs st
 |some (.isl .L k g 0 len sz)=>
  (match(fz false fJ (gb (match vs with| [v]=>v|vs=> .tup vs) j .nilsl)).run st.get st.sh.length with
  |some p=>(match(st.ups p.2).get .L k with
   |⟨g',.cells cs wm false⟩=>if g'=g∧cs.length=len*sz∧len≠0∧(wm=0∨scalar (gb p.1 j .nilsl)=true)then some (gb p.1 j (.sl cs len false),(st.ups p.2).sh)else none
   |_=>none)
  |none=>none)
 |_=>none
def um(own:Option Nat)(eff:Bool)(vs:List T)(st:St):Option (T×List fg):=
 match own with
 |none=>answer eff vs st
 |some j=>if eff then none else zp j vs st
noncomputable def iw(E:Env):Nat→qz
 |0=>fun _ _ _=>none
 |m+1=>fun f args sh=>
  match E.fn f with
  |none=>none
  |some af=>
   if af.n<args.length then none else
   match la E (iw E m) m af.n af.code {fr:=pG args,lh:= .nil,sh}with
   |some (.ext _,_)=>none
   |some (_,st)=>match nk st af.res with
    |some vs=>um af.own af.eff vs st
    |none=>none
   |none=>none
end Go.Ev
namespace Go.Ev
open Go
def ga(b:ByteArray):List Nat:=b.data.toList.map UInt8.toNat
def uo:Value→Option T
 | .bool x=>some (.b x)
 | .int k n=>some (.i k n)
 | .string s=>some (.s (ga s))
 | .pointer none=>some .nilptr
 | .slice none 0 0=>some .nilsl
 | .map none=>some .nilmp
 | .nilFunc=>some .nilfn
 | .func (.func f) a c=>match a.toList,c.toList with
   | [],[]=>some (.fn f [] [])
   |_,_=>none
 |_=>none
def oe:List Value→Option (List T)
 | []=>some []
 |v::vs=>match uo v,oe vs with
  |some t,some ts=>some (t::ts)
  |_,_=>none
def Ae:Value→Option T
 | .agg cs=>(oe cs.toList).map .agg
 | .tuple cs=>(oe cs.toList).map .tup
 |v=>uo v
def jO:Operand→Option fM
 | .tmp t=>some (.t t)
 | .const v=>(Ae v).map .c
 | .func f=>some (.c (.fn f [] []))
 | .global _=>none
def xH:List Operand→Option (List fM)
 | []=>some []
 |x::xs=>match jO x,xH xs with
  |some y,some ys=>some (y::ys)
  |_,_=>none
def ti:Option Operand→Option (Option fM)
 |none=>some none
 |some x=>(jO x).map some
def rI(P:Program)(t:TypeId):Option T:=(P.info? t).bind fun i=>i.zero.bind Ae
def jG(P:Program)(t:TypeId):Option Nat:=(P.info? t).map (·.size)
def uK(P:Program)(t:TypeId):Option Bool:=(P.underlying t).map fun| .struct _| .array _ _=>true|_=>false
def yW(P:Program)(t:TypeId):Option CK:=
 match P.underlying t with
 |some (.int _)=>some .int
 |some .string=>some .str
 |some .bool=>some .bool
 |_=>none
def oH(P:Program):Nat→List Field→Option (List CK)
 |_,[]=>some []
 |i,f::fs=>if f.offset=i&&f.name != "_" &&(P.info? f.type).map (·.size)==some 1 then match yW P f.type,oH P (i+1) fs with
  |some k,some ks=>some (k::ks)
  |_,_=>none
  else none
def Af(P:Program)(t:TypeId):Option EK:=
 match P.underlying t with
 |some (.int _)=>some (.one .int)
 |some .string=>some (.one .str)
 |some .bool=>some (.one .bool)
 |some (.slice _)=>some .sl
 |some (.pointer _)=>some .ptr
 |some (.map _ _)=>some .map
 |some (.struct fs)=>if !P.eqGuardType P.depth t&& !P.stoodInHeld t then(oH P 0 fs.toList).map .flat else none
 |_=>none
def keyOf(P:Program)(t:TypeId):Option EK:=
 match Af P t with
 |some (.one k)=>some (.one k)
 |some (.flat ks)=>some (.flat ks)
 |_=>none
def placesOf(lS:List (Nat×Nat)):List (Nat×Operand)→Option (List (Nat×Nat×fM))
 | []=>some []
 |(i,x)::rest=>match lS[i]?,jO x,placesOf lS rest with
  |some p,some y,some r=>some ((p.1,p.2,y)::r)
  |_,_,_=>none
def pT(sz:Nat):List (Nat×Operand)→Option (List (Nat×Nat×fM))
 | []=>some []
 |(i,x)::rest=>match jO x,pT sz rest with
  |some y,some r=>some ((i*sz,sz,y)::r)
  |_,_=>none
def uq:List (Nat×Operand)→Option (List (Nat×fM))
 | []=>some []
 |(i,x)::rest=>match jO x,uq rest with
  |some y,some r=>some ((i,y)::r)
  |_,_=>none
def DH:Operand→Operand→Bool
 | .tmp a,.tmp b=>a==b
 | .const (.int .i64 a),.const (.int .i64 b)=>a==b
 |_,_=>false
def rJ(P:Program)(sh:Nat)(c:Call):Option kG:=
 match c.callee with
 | .value (.func f)=>(xH c.args.toList).map fun as=> .callf f as
 | .value x=>match jO x,xH c.args.toList with
   |some y,some as=>some (.callv y as)
   |_,_=>none
 | .builtin .len=>match c.argTypes[0]?,c.args.toList with
   |some t,[x]=>match P.underlying t,jO x with
    |some .string,some y=>some (.lenS y)
    |some (.slice _),some y=>some (.lenV y)
    |some (.map _ _),some y=>some (.lenM y)
    |some (.array n _),some _=>some (.lenC n)
    |_,_=>none
   |_,_=>none
 | .builtin .append=>match c.argTypes.toList,c.args.toList with
   | [t,u],[x,y]=>match P.underlying t,P.underlying u,jO x,jO y with
     |some (.slice e),some ud,some x',some y'=>
      (match ud with
      | .slice _| .string=>(match P.info? e with
        |some i=>(match i.zero with
         |some z=>if i.size=z.cells.size&&i.size != 0&&i.bytes != 0 then some (.app i.size i.bytes x' y' (sh==1) (sh==2))else none
         |none=>none)
        |none=>none)
      |_=>none)
     |_,_,_,_=>none
   |_,_=>none
 | .builtin .min=>(xH c.args.toList).map fun as=> .mm false as
 | .builtin .max=>(xH c.args.toList).map fun as=> .mm true as
 |_=>none
def ij(P:Program)(sh:Nat):Op→Option kG
 | .move x| .assign x=>(jO x).map .mv
 | .pick c a b=>match jO c,jO a,jO b with
   |some c,some a,some b=>some (.pick c a b)
   |_,_,_=>none
 | .alloc t=>match rI P t with
   |some z=>if noTup z then some (.alloc (cellsOf z) (sh==1))else none
   |none=>none
 | .box _ x=>(jO x).map fun y=> .box y (sh==1)
 | .build t ps=>match rI P t,P.underlying t with
   |some z,some (.struct fs)=>(match fs.toList.mapM (fun f=>(P.info? f.type).map fun i=>(f.offset,i.size))with
    |some lS=>if noTup z then(placesOf lS ps.toList).map fun r=> .build (cellsOf z) r else none
    |none=>none)
   |some z,some (.array _ e)=>(match jG P e with|some n=>if noTup z then(pT n ps.toList).map fun r=> .build (cellsOf z) r else none|none=>none)
   |_,_=>none
 | .buildSlice t len ps=>match P.underlying t with
   |some (.slice e)=>match rI P e,jG P e,uq ps.toList with
    |some z,some n,some r=>if noTup z&&n=(cellsOf z).length&&n != 0&&len*n≤16777216 then some (.bsl (cellsOf z) len r)else none
    |_,_,_=>none
   |_=>none
 | .load t x=>match jO x,jG P t,uK P t with
   |some y,some n,some ag=>some (.ld y n ag)
   |_,_,_=>none
 | .store t x v=>match jO x,jO v,jG P t with
   |some y,some u,some n=>some (.st y u n)
   |_,_,_=>none
 | .nilCheck x=>(jO x).map .nck
 | .binOp op t x y _=>match jO x,jO y with
   |some a,some b=>match op,yW P t with
    | .eql,some .bool=>some (.eq false (.one .bool) a b)
    | .neq,some .bool=>some (.eq true (.one .bool) a b)
    |_,some _=>some (.bin op a b)
    | .eql,none=>(Af P t).map fun k=> .eq false k a b
    | .neq,none=>(Af P t).map fun k=> .eq true k a b
    |_,_=>none
   |_,_=>none
 | .unOp op _ x=>(jO x).map (.un op)
 | .convert s t x=>match P.underlying s,P.underlying t,jO x with
   |some (.int _),some (.int k),some y=>some (.cvi k y)
   |_,_,_=>none
 | .makeFunc (.func f) first cap=>match xH first.toList,xH cap.toList with
   |some a,some c=>some (.mkfn f a c)
   |_,_=>none
 | .makeMap _ none=>some (.mkmap (sh==1))
 | .makeSlice t l c=>match P.underlying t with
   |some (.slice e)=>match P.info? e,rI P e,jO l with
    |some i,some z,some y=>if noTup z&&DH l c&&i.size=(cellsOf z).length&&i.size != 0 then some (.mksl (cellsOf z) i.bytes y (sh==1))else none
    |_,_,_=>none
   |_=>none
 | .slice t x l h m=>match P.underlying t,jO x,ti l,ti h,ti m with
   |some .string,some y,some l,some h,some none=>some (.slS y l h)
   |some (.slice e),some y,some l,some h,some m=>(match jG P e with|some n=>if n != 0&&(m.isNone||h.isSome)then some (.slV n y l h m)else none|none=>none)
   |_,_,_,_,_=>none
 | .fieldAddr s x f=>match P.underlying s,jO x with
   |some (.struct fs),some y=>(match fs[f]? with
    |some fd=>(match jG P fd.type with|some n=>if n != 0 then some (.fa y fd.offset)else none|none=>none)
    |none=>none)
   |_,_=>none
 | .field s x f=>match P.underlying s,jO x with
   |some (.struct fs),some y=>(match fs[f]? with
    |some fd=>(match jG P fd.type,uK P fd.type with|some n,some ag=>some (.fld y fd.offset n ag)|_,_=>none)
    |none=>none)
   |_,_=>none
 | .indexAddr t x j=>match P.underlying t,jO x,jO j with
   |some (.slice e),some y,some j=>(match jG P e with|some n=>if n != 0 then some (.ia y j n)else none|none=>none)
   |some (.array len e),some y,some j=>(match jG P e with|some n=>if n != 0 then some (.iaA y j len n)else none|none=>none)
   |_,_,_=>none
 | .index t x j=>match P.underlying t,jO x,jO j with
   |some .string,some y,some j=>some (.ixS y j)
   |some (.array len e),some y,some j=>(match jG P e,uK P e with|some n,some ag=>some (.ixA y j len n ag)|_,_=>none)
   |_,_,_=>none
 | .lookup t m k ok=>match P.underlying t,jO m,jO k with
   |some (.map kt et),some m,some k=>(match keyOf P kt,rI P et with|some ek,some z=>some (.lk ek m k z ok)|_,_=>none)
   |_,_,_=>none
 | .mapUpdate t m k v=>match P.underlying t,jO m,jO k,jO v with
   |some (.map kt _),some m,some k,some v=>(keyOf P kt).map fun ek=> .mu ek m k v
   |_,_,_,_=>none
 | .extract x j=>(jO x).map fun y=> .ext y j
 | .call c=>rJ P sh c
 |_=>none
def Zs(hs:List Nat)(d:Option Nat):Nat:=
 match d with
 |some d=>if hs.contains d then 1 else if hs.contains (d+100000)then 2 else 0
 |none=>0
def XW:List Nat→Option Nat
 | []=>none
 |h::hs=>if h<1000000 then XW hs else some (h-1000000)
def tC(P:Program)(hs:List Nat)(ops:Array Oper)(o:Oper):Option fe:=
 match ij P (Zs hs o.dst) o.op with
 |some op=>match o.guard with
  |none=>some ⟨o.dst,op,none⟩
  |some (j,want)=>match(ops[j]?).bind (·.dst)with
   |some d=>some ⟨o.dst,op,some (d,want)⟩
   |none=>none
 |none=>none
def iU(P:Program)(hs:List Nat)(ops:Array Oper):List Oper→Option (List fe)
 | []=>some []
 |o::os=>match tC P hs ops o,iU P hs ops os with
  |some a,some as=>some (a::as)
  |_,_=>none
def quiet:kG→Bool
 | .mv _| .pick .. | .build .. | .nck _| .bin .. | .eq .. | .un .. | .cvi .. | .mkfn .. | .slS .. | .slV .. | .fa .. | .fld .. | .ia .. | .iaA .. | .ixS .. | .ixA .. | .ext .. | .lenS _| .lenV _| .lenC _| .mm .. =>true
 |_=>false
def gR(o:Oper):List Nat:=(o.after.toList.filter (Region.binds .any)).map (·.on)
def Ag(acc:List Nat)(ps:List Nat):Nat:=ps.foldl (fun m p=>m ||| 2 ^ p ||| fU 0 acc p) 0
def qf:List (List Nat)→List Nat→List Nat
 | [],acc=>acc
 |ps::rest,acc=>qf rest (acc++ [Ag acc ps])
def wa:Nat→List (List Nat)→Bool
 |_,[]=>true
 |i,ps::rest=>ps.all (· <i)&&wa (i+1) rest
def kq(x y:fe):Bool:=
 (match x.d with|some d=> !(looks y).contains d&& !(y.d==some d)|none=>true)&&(match y.d with|some d=> !(looks x).contains d|none=>true)
def Ah(m:Nat)(as:List fe):List (Nat×fe):=(as.zipIdx.map fun p=>(p.2,p.1)).filter fun p=> !m.testBit p.1
def wb:List Nat→List fe→List fe→Bool
 |_,_,[]=>true
 | [],_,_=>false
 |m::ms,before,a::rest=>((Ah m before).all fun p=>kq p.2 a)&&wb ms (before++ [a]) rest
def rL:List Nat→List fe→List fe→List (List Nat×fe)
 |m::ms,before,a::rest=>((if quiet a.op then []else((Ah m before).filter fun p=> !quiet p.2.op).map (·.1)),a)::rL ms (before++ [a]) rest
 |_,_,_=> []
def agj(o1 o2:fe):Bool:=match o1,o2 with
 |⟨none,.st (.t x) (.c (.b true)) 1,none⟩,⟨none,.st (.t y) (.c (.b false)) 1,none⟩=>x==y
 |_,_=>false
def DI(ps:List (List Nat)):Bool:=match ps with
 | [[],p1,p2,p3]=>p1.contains 0&&p2.contains 0&&p1.all (· <1)&&p2.all (· <1)&&p3.contains 1&&p3.contains 2&&p3.all (· <3)
 |_=>false
def JU(P:Program)(hs:List Nat)(a:Code)(a' b':fm):fm:=match a with
 | .region _ ops true=>(match iU P hs ops ops.toList with
   |some [o0,o1,o2,o3]=>if DI (ops.toList.map gR)&&agj o1 o2 then .fork [o0,o1,o2,o3] [o0,o2,o1,o3] b' else .seq a' b'
   |_=> .seq a' b')
 |_=> .seq a' b'
def lL(P:Program)(hs:List Nat):Code→Option fm
 | .skip=>some .skip
 | .region _ ops false=>(iU P hs ops ops.toList).map .region
 | .region _ ops true=>
   match iU P hs ops ops.toList with
   |some as=>
    let ps:=ops.toList.map gR
    if wa 0 ps&&wb (qf ps []) [] as then some (.draws (rL (qf ps []) [] as))else none
   |none=>none
 | .seq a b=>match lL P hs a,lL P hs b with
   |some a',some b'=>some (JU P hs a a' b')
   |_,_=>none
 | .cond c a b=>match jO c,lL P hs a,lL P hs b with
   |some c,some a,some b=>some (.cond c a b)
   |_,_,_=>none
 | .block id a=>(lL P hs a).map (.block id)
 | .loop a=>(lL P hs a).map .loop
 | .exit id=>some (.exit id)
 | .ret=>some .ret
 |_=>none
def su(P:Program):List ResultVar→Option (List rF)
 | []=>some []
 | .tmp t::rs=>(su P rs).map (.tmp t:: ·)
 | .cell a t::rs=>match jG P t,uK P t,su P rs with
   |some n,some ag,some rs=>some (.cell a n ag::rs)
   |_,_,_=>none
def FD(P:Program)(hs:List Nat)(eff:Bool)(fn:Func):Option fv:=
 if fn.name== "runtime.NumGoroutine" then none else
 match fn.body with
 |none=>none
 |some c=>match lL P hs c,su P fn.results.toList with
  |some c,some rs=>some ⟨fn.ntmps,c,rs,eff,XW hs⟩
  |_,_=>none
end Go.Ev
namespace Go.Ev
open Go
structure FE where
 blk:Nat
 off:Nat
 ext:Nat
abbrev fS:=Sp→Nat→Nat→FE
abbrev fE:=Nat→Nat→Prop
mutual
def PRel(w:World)(M:fE):T→Value→Prop
 | .b x,v=>v= .bool x
 | .i k n,v=>v= .int k n
 | .s l,v=> ∃bs,v= .string bs∧ga bs=l
 | .nilsl,v=>v= .slice none 0 0
 | .sl cs len ex,v=> ∃blk off cap sp,v= .slice (some ⟨blk,off,sp⟩) len cap∧len≤cap∧(ex=true→cap=len)∧(sp=none∨cap=0)∧fI w M blk off cs
 | .nilptr,v=>v= .pointer none
 | .vp cs,v=> ∃blk off,v= .pointer (some ⟨blk,off,none⟩)∧fI w M blk off cs
 | .nilmp,v=>v= .map none
 | .vm ks vs,v=> ∃blk es clock,v= .map (some blk)∧w.heap[blk]? =some (.map es clock)∧MapKept.Stamped es clock∧(∀o,¬M blk o)∧PList w M ks (es.toList.map (·.key))∧PList w M vs (es.toList.map (·.val))
 | .nilfn,v=>v= .nilFunc
 | .fn f a c,v=> ∃fa fc,v= .func (.func f) fa fc∧PList w M a fa.toList∧PList w M c fc.toList
 | .agg cs,v=> ∃a,v= .agg a∧PList w M cs a.toList∧cs.all single=true
 | .tup cs,v=> ∃a,v= .tuple a∧PList w M cs a.toList
 | .any,_=>True
 | .isl ..,_=>False
 | .ptr ..,_=>False
 | .mp ..,_=>False
def PList(w:World)(M:fE):List T→List Value→Prop
 | [],vs=>vs= []
 |t::ts,vs=> ∃u us,vs=u::us∧PRel w M t u∧PList w M ts us
def fI(w:World)(M:fE)(blk off:Nat):List T→Prop
 | []=>True
 |c::cs=>(∃v,w.cell? ⟨blk,off,none⟩=some v∧ ¬M blk off∧PRel w M c v∧single c=true)∧fI w M blk (off+1) cs
end
mutual
def fk(β:fS)(G:Sp→Nat→Nat)(w:World)(M:fE):T→Value→Prop
 | .isl sp k g off len sz,v=>g≤G sp k∧ ∃cap,v= .slice (some ⟨(β sp k g).blk,(β sp k g).off+off,none⟩) len cap∧len≤cap∧off+cap*sz≤(β sp k g).ext
 | .ptr sp k g off,v=>g≤G sp k∧v= .pointer (some ⟨(β sp k g).blk,(β sp k g).off+off,none⟩)
 | .mp sp k g,v=>g≤G sp k∧v= .map (some (β sp k g).blk)
 | .fn f a c,v=> ∃fa fc,v= .func (.func f) fa fc∧fo β G w M a fa.toList∧fo β G w M c fc.toList
 | .agg cs,v=> ∃a,v= .agg a∧fo β G w M cs a.toList∧cs.all single=true
 | .tup cs,v=> ∃a,v= .tuple a∧fo β G w M cs a.toList
 | .any,_=>True
 | .b x,v=>v= .bool x
 | .i k n,v=>v= .int k n
 | .s l,v=> ∃bs,v= .string bs∧ga bs=l
 | .nilsl,v=>v= .slice none 0 0
 | .sl cs len ex,v=>PRel w M (.sl cs len ex) v
 | .nilptr,v=>v= .pointer none
 | .vp cs,v=>PRel w M (.vp cs) v
 | .nilmp,v=>v= .map none
 | .vm ks vs,v=>PRel w M (.vm ks vs) v
 | .nilfn,v=>v= .nilFunc
def fo(β:fS)(G:Sp→Nat→Nat)(w:World)(M:fE):List T→List Value→Prop
 | [],vs=>vs= []
 |t::ts,vs=> ∃u us,vs=u::us∧fk β G w M t u∧fo β G w M ts us
end
structure iW (w:World) (M:fE) (w':World) (M':fE):Prop where
 cell: ∀b o v,w.cell? ⟨b,o,none⟩=some v→ ¬M b o→w'.cell? ⟨b,o,none⟩=some v
 map: ∀(b:Nat) es c,w.heap[b]? =some (.map es c)→(∀o,¬M b o)→w'.heap[b]? =some (.map es c)
 m: ∀b o,b<w.heap.size→M' b o→M b o
theorem wc{w:World}{b o:Nat}{v:Value}(h:w.cell? ⟨b,o,none⟩=some v):b<w.heap.size:=by
 unfold World.cell? at h
 by_cases hb:b<w.heap.size
 ·exact hb
 ·simp[Array.getElem?_eq_none (Nat.le_of_not_lt hb)]at h
theorem mH{w:World}{b:Nat}{o:Obj}(h:w.heap[b]? =some o):b<w.heap.size:=by
 by_cases hb:b<w.heap.size
 ·exact hb
 ·simp[Array.getElem?_eq_none (Nat.le_of_not_lt hb)]at h
mutual
theorem PRel.mono{w w':World}{M M':fE}(k:iW w M w' M'): ∀(t:T) (v:Value),PRel w M t v→PRel w' M' t v
 | .b x,v,h=>by simpa only[PRel]using h
 | .i _ n,v,h=>by simpa only[PRel]using h
 | .s l,v,h=>by simpa only[PRel]using h
 | .nilsl,v,h=>by simpa only[PRel]using h
 | .sl cs len ex,v,h=>by
   simp only[PRel]at h ⊢
   obtain⟨blk,off,cap,sp,h1,h2,h3,h5,h4⟩:=h
   exact⟨blk,off,cap,sp,h1,h2,h3,h5,fI.mono k blk off cs h4⟩
 | .nilptr,v,h=>by simpa only[PRel]using h
 | .vp cs,v,h=>by
   simp only[PRel]at h ⊢
   obtain⟨blk,off,h1,h4⟩:=h
   exact⟨blk,off,h1,fI.mono k blk off cs h4⟩
 | .nilmp,v,h=>by simpa only[PRel]using h
 | .vm ks vs,v,h=>by
   simp only[PRel]at h ⊢
   obtain⟨blk,es,clock,h1,h2,lX,h3,h4,h5⟩:=h
   exact⟨blk,es,clock,h1,k.map _ _ _ h2 h3,lX,fun o ho=>h3 o (k.m _ _ (mH h2) ho),PList.mono k ks _ h4,PList.mono k vs _ h5⟩
 | .nilfn,v,h=>by simpa only[PRel]using h
 | .fn f a c,v,h=>by
   simp only[PRel]at h ⊢
   obtain⟨fa,fc,h1,h2,h3⟩:=h
   exact⟨fa,fc,h1,PList.mono k a _ h2,PList.mono k c _ h3⟩
 | .agg cs,v,h=>by
   simp only[PRel]at h ⊢
   obtain⟨a,h1,h2,h3⟩:=h
   exact⟨a,h1,PList.mono k cs _ h2,h3⟩
 | .tup cs,v,h=>by
   simp only[PRel]at h ⊢
   obtain⟨a,h1,h2⟩:=h
   exact⟨a,h1,PList.mono k cs _ h2⟩
 | .any,v,h=>by simp only[PRel]
 | .isl ..,v,h=>by simp only[PRel]at h
 | .ptr ..,v,h=>by simp only[PRel]at h
 | .mp ..,v,h=>by simp only[PRel]at h
theorem PList.mono{w w':World}{M M':fE}(k:iW w M w' M'): ∀(t:List T) (v:List Value),PList w M t v→PList w' M' t v
 | [],v,h=>by simpa only[PList]using h
 |t::ts,v,h=>by
  simp only[PList]at h ⊢
  obtain⟨u,us,h1,h2,h3⟩:=h
  exact⟨u,us,h1,PRel.mono k t u h2,PList.mono k ts us h3⟩
theorem fI.mono{w w':World}{M M':fE}(k:iW w M w' M')(blk:Nat): ∀(off:Nat) (t:List T),fI w M blk off t→fI w' M' blk off t
 |off,[],h=>by simp only[fI]
 |off,c::cs,h=>by
  simp only[fI]at h ⊢
  obtain⟨⟨v,h1,h2,h3,h5⟩,h4⟩:=h
  exact⟨⟨v,k.cell _ _ _ h1 h2,fun hm=>h2 (k.m _ _ (wc h1) hm),PRel.mono k c v h3,h5⟩,fI.mono k blk (off+1) cs h4⟩
end
mutual
theorem fk.mono{β fW:fS}{G G':Sp→Nat→Nat}{w w':World}{M M':fE}(k:iW w M w' M')(yt: ∀sp n g,g≤G sp n→fW sp n g=β sp n g)(hG: ∀sp n,G sp n≤G' sp n):
  ∀(t:T) (v:Value),fk β G w M t v→fk fW G' w' M' t v
 | .isl sp n g off len sz,v,h=>by
   simp only[fk]at h ⊢
   obtain⟨h1,h2⟩:=h
   rw[yt _ _ _ h1]
   exact⟨Nat.le_trans h1 (hG _ _),h2⟩
 | .ptr sp n g off,v,h=>by
   simp only[fk]at h ⊢
   obtain⟨h1,h2⟩:=h
   rw[yt _ _ _ h1]
   exact⟨Nat.le_trans h1 (hG _ _),h2⟩
 | .mp sp n g,v,h=>by
   simp only[fk]at h ⊢
   obtain⟨h1,h2⟩:=h
   rw[yt _ _ _ h1]
   exact⟨Nat.le_trans h1 (hG _ _),h2⟩
 | .fn f a c,v,h=>by
   simp only[fk]at h ⊢
   obtain⟨fa,fc,h1,h2,h3⟩:=h
   exact⟨fa,fc,h1,fo.mono k yt hG a _ h2,fo.mono k yt hG c _ h3⟩
 | .agg cs,v,h=>by
   simp only[fk]at h ⊢
   obtain⟨a,h1,h2,h3⟩:=h
   exact⟨a,h1,fo.mono k yt hG cs _ h2,h3⟩
 | .tup cs,v,h=>by
   simp only[fk]at h ⊢
   obtain⟨a,h1,h2⟩:=h
   exact⟨a,h1,fo.mono k yt hG cs _ h2⟩
 | .any,v,h=>by simp only[fk]
 | .b x,v,h=>by simpa only[fk]using h
 | .i _ n,v,h=>by simpa only[fk]using h
 | .s l,v,h=>by simpa only[fk]using h
 | .nilsl,v,h=>by simpa only[fk]using h
 | .sl cs len ex,v,h=>by simp only[fk]at h ⊢; exact PRel.mono k _ _ h
 | .nilptr,v,h=>by simpa only[fk]using h
 | .vp cs,v,h=>by simp only[fk]at h ⊢; exact PRel.mono k _ _ h
 | .nilmp,v,h=>by simpa only[fk]using h
 | .vm ks vs,v,h=>by simp only[fk]at h ⊢; exact PRel.mono k _ _ h
 | .nilfn,v,h=>by simpa only[fk]using h
theorem fo.mono{β fW:fS}{G G':Sp→Nat→Nat}{w w':World}{M M':fE}(k:iW w M w' M')(yt: ∀sp n g,g≤G sp n→fW sp n g=β sp n g)(hG: ∀sp n,G sp n≤G' sp n):
  ∀(t:List T) (v:List Value),fo β G w M t v→fo fW G' w' M' t v
 | [],v,h=>by simpa only[fo]using h
 |t::ts,v,h=>by
  simp only[fo]at h ⊢
  obtain⟨u,us,h1,h2,h3⟩:=h
  exact⟨u,us,h1,fk.mono k yt hG t u h2,fo.mono k yt hG ts us h3⟩
end
mutual
theorem PRel.toV{w:World}{M:fE}(β:fS)(G:Sp→Nat→Nat): ∀(t:T) (v:Value),PRel w M t v→fk β G w M t v
 | .b x,v,h=>by simpa only[fk,PRel]using h
 | .i _ n,v,h=>by simpa only[fk,PRel]using h
 | .s l,v,h=>by simpa only[fk,PRel]using h
 | .nilsl,v,h=>by simpa only[fk,PRel]using h
 | .sl cs len ex,v,h=>by simp only[fk];exact h
 | .nilptr,v,h=>by simpa only[fk,PRel]using h
 | .vp cs,v,h=>by simp only[fk];exact h
 | .nilmp,v,h=>by simpa only[fk,PRel]using h
 | .vm ks vs,v,h=>by simp only[fk];exact h
 | .nilfn,v,h=>by simpa only[fk,PRel]using h
 | .fn f a c,v,h=>by
   simp only[PRel]at h;simp only[fk]
   obtain⟨fa,fc,h1,h2,h3⟩:=h
   exact⟨fa,fc,h1,PList.toV β G a _ h2,PList.toV β G c _ h3⟩
 | .agg cs,v,h=>by
   simp only[PRel]at h;simp only[fk]
   obtain⟨a,h1,h2,h3⟩:=h
   exact⟨a,h1,PList.toV β G cs _ h2,h3⟩
 | .tup cs,v,h=>by
   simp only[PRel]at h;simp only[fk]
   obtain⟨a,h1,h2⟩:=h
   exact⟨a,h1,PList.toV β G cs _ h2⟩
 | .any,v,h=>by simp only[fk]
 | .isl ..,v,h=>by simp only[PRel]at h
 | .ptr ..,v,h=>by simp only[PRel]at h
 | .mp ..,v,h=>by simp only[PRel]at h
theorem PList.toV{w:World}{M:fE}(β:fS)(G:Sp→Nat→Nat): ∀(t:List T) (v:List Value),PList w M t v→fo β G w M t v
 | [],v,h=>by simpa only[fo,PList]using h
 |t::ts,v,h=>by
  simp only[PList]at h;simp only[fo]
  obtain⟨u,us,h1,h2,h3⟩:=h
  exact⟨u,us,h1,PRel.toV β G t u h2,PList.toV β G ts us h3⟩
end
theorem fo.length{β:fS}{G:Sp→Nat→Nat}{w:World}{M:fE}: ∀(t:List T) (v:List Value),fo β G w M t v→t.length=v.length
 | [],v,h=>by simp only[fo]at h;simp[h]
 |t::ts,v,h=>by
  simp only[fo]at h
  obtain⟨u,us,rfl,_,h3⟩:=h
  simp[fo.length ts us h3]
theorem PList.length{w:World}{M:fE}: ∀(t:List T) (v:List Value),PList w M t v→t.length=v.length
 | [],v,h=>by simp only[PList]at h;simp[h]
 |t::ts,v,h=>by
  simp only[PList]at h
  obtain⟨u,us,rfl,_,h3⟩:=h
  simp[PList.length ts us h3]
def we(β:fS)(G:Sp→Nat→Nat)(w:World)(M:fE)(ts:List T)(vs:List Value):Prop:=
 ∀fW G',(∀k g,g≤G .S k→fW .S k g=β .S k g)→(∀k,G .S k≤G' .S k)→fo fW G' w M ts vs
def oI(sp:Sp)(bx:Bool)(β:fS)(G:Sp→Nat→Nat)(w:World)(M:fE)(ts:List T)(vs:List Value):Prop:=
 match bx,sp with
 |false,_=>PList w M ts vs
 |true,.L=>fo β G w M ts vs
 |true,.S=>we β G w M ts vs
theorem we.toV{β:fS}{G:Sp→Nat→Nat}{w:World}{M:fE}{ts:List T}{vs:List Value}(h:we β G w M ts vs):fo β G w M ts vs:=h β G (fun _ _ _=>rfl) (fun _=>Nat.le_refl _)
theorem we.mono{β fW:fS}{G G':Sp→Nat→Nat}{w w':World}{M M':fE}{ts:List T}{vs:List Value}(k:iW w M w' M')(yt: ∀n g,g≤G .S n→fW .S n g=β .S n g)(hG: ∀n,G .S n≤G' .S n)(h:we β G w M ts vs):we fW G' w' M' ts vs:=
 fun b g h1 h2=>fo.mono k (fun _ _ _ _=>rfl) (fun _ _=>Nat.le_refl _) _ _ (h b g (fun n x hx=>(h1 n x (Nat.le_trans hx (hG n))).trans (yt n x hx)) (fun n=>Nat.le_trans (hG n) (h2 n)))
theorem oI.toV{sp:Sp}{bx:Bool}{β:fS}{G:Sp→Nat→Nat}{w:World}{M:fE}{ts:List T}{vs:List Value}(h:oI sp bx β G w M ts vs):fo β G w M ts vs:=by
 cases bx
 ·exact PList.toV β G _ _ h
 ·cases sp
  ·exact h
  ·exact we.toV h
theorem oI.ofP{sp:Sp}{bx:Bool}{β:fS}{G:Sp→Nat→Nat}{w:World}{M:fE}{ts:List T}{vs:List Value}(h:PList w M ts vs):oI sp bx β G w M ts vs:=by
 cases bx
 ·exact h
 ·cases sp
  ·exact PList.toV β G _ _ h
  ·exact fun fW G' _ _=>PList.toV fW G' _ _ h
theorem oI.mono{sp:Sp}{bx:Bool}{β fW:fS}{G G':Sp→Nat→Nat}{w w':World}{M M':fE}{ts:List T}{vs:List Value}(k:iW w M w' M')(yt: ∀sp n g,g≤G sp n→fW sp n g=β sp n g)(hG: ∀sp n,G sp n≤G' sp n)
  (h:oI sp bx β G w M ts vs):oI sp bx fW G' w' M' ts vs:=by
 cases bx
 ·exact PList.mono k _ _ h
 ·cases sp
  ·exact fo.mono k yt hG _ _ h
  ·exact we.mono k (yt .S) (hG .S) h
abbrev St.gens(st:St)(sp:Sp)(k:Nat):Nat:=(st.get sp k).g
def live(e:fg):Prop:=match e.ob with| .none=>False|_=>True
def jf(β:fS)(G:Sp→Nat→Nat)(w:World)(M:fE)(sp:Sp)(k:Nat)(e:fg):Prop:=
 match e.ob with
 | .none=>True
 | .cells cs wm bx=> ∃c el fz,w.heap[(β sp k e.g).blk]? =some (.cells c el fz)∧(β sp k e.g).off+(β sp k e.g).ext≤c.size∧cs.length≤(β sp k e.g).ext∧
     fz=(0,0)∧
     oI sp bx β G w M cs ((c.toList.drop (β sp k e.g).off).take cs.length)∧
     (∀j,wm≤j→j<(β sp k e.g).ext→M (β sp k e.g).blk ((β sp k e.g).off+j))∧cs.all single=true∧wm≤cs.length
 | .map ks vs fz=> ∃es clock,w.heap[(β sp k e.g).blk]? =some (.map es clock)∧MapKept.Stamped es clock∧PList w M ks (es.toList.map (·.key))∧PList w M vs (es.toList.map (·.val))∧(fz=false→ ∀o,M (β sp k e.g).blk o)
structure jR where
 w:World
 M:fE
 SB:Nat→Prop
structure fY (B:jR) (st:St) (w:World) (β:fS) (M:fE):Prop where
 obj: ∀sp k,jf β st.gens w M sp k (st.get sp k)
 dist: ∀sp k iy k',live (st.get sp k)→live (st.get iy k')→(β sp k (st.gens sp k)).blk=(β iy k' (st.gens iy k')).blk→sp=iy∧k=k'
 mlt: ∀b o,M b o→b<w.heap.size
 lblk: ∀k,live (st.get .L k)→B.w.heap.size≤(β .L k (st.gens .L k)).blk
 sblk: ∀k,live (st.get .S k)→B.SB (β .S k (st.gens .S k)).blk∨B.w.heap.size≤(β .S k (st.gens .S k)).blk
 os:w.os=B.w.os
 tape:w.tape=B.w.tape
 output:w.output=B.w.output
 size:B.w.heap.size≤w.heap.size
 same: ∀b,b<B.w.heap.size→ ¬B.SB b→w.heap[b]? =B.w.heap[b]?
 keep:iW B.w B.M w M
 msup: ∀b o,b<B.w.heap.size→ ¬B.SB b→B.M b o→M b o
structure Tr (st:St) (w:World) (β:fS) (M:fE) (gj:St) (w':World) (fW:fS) (M':fE):Prop where
 keep:iW w M w' M'
 beta: ∀sp k g,g≤st.gens sp k→fW sp k g=β sp k g
 gens: ∀sp k,st.gens sp k≤gj.gens sp k
theorem iW.refl(w:World)(M:fE):iW w M w M:=⟨fun _ _ _ h _=>h,fun _ _ _ h _=>h,fun _ _ _ h=>h⟩
theorem iW.trans{w w' w'':World}{M M' M'':fE}(a:iW w M w' M')(b:iW w' M' w'' M'')(hs:w.heap.size≤w'.heap.size):iW w M w'' M'':=
 ⟨fun x o v h hm=>b.cell x o v (a.cell x o v h hm) (fun h'=>hm (a.m _ _ (wc h) h')),
  fun x es c h hm=>b.map x es c (a.map x es c h hm) (fun o h'=>hm o (a.m _ _ (mH h) h')),
  fun x o h hm=>a.m x o h (b.m x o (Nat.lt_of_lt_of_le h hs) hm)⟩
theorem Tr.refl(st:St)(w:World)(β:fS)(M:fE):Tr st w β M st w β M:=⟨.refl w M,fun _ _ _ _=>rfl,fun _ _=>Nat.le_refl _⟩
theorem Tr.trans{st gj agm:St}{w w' w'':World}{β fW agn:fS}{M M' M'':fE}(a:Tr st w β M gj w' fW M')(b:Tr gj w' fW M' agm w'' agn M'')(hs:w.heap.size≤w'.heap.size):
  Tr st w β M agm w'' agn M'':=
 ⟨a.keep.trans b.keep hs,fun sp k g h=>(b.beta sp k g (Nat.le_trans h (a.gens sp k))).trans (a.beta sp k g h),fun sp k=>Nat.le_trans (a.gens sp k) (b.gens sp k)⟩
theorem Tr.val{st gj:St}{w w':World}{β fW:fS}{M M':fE}(a:Tr st w β M gj w' fW M'){t:T}{v:Value}(h:fk β st.gens w M t v):fk fW gj.gens w' M' t v:=
 fk.mono a.keep a.beta a.gens t v h
structure nl (st:St) (a:Act) (w:World) (β:fS) (M:fE) (n:Nat):Prop where
 size:a.tmps.size=n
 defers:a.defers= []
 slot: ∀t,fk β st.gens w M (an st.fr t) (a.tmps.getD t undef)
end Go.Ev
namespace Go.Ev
open Go
theorem jK(st:St)(sp:Sp)(k:Nat)(e:fg)(iy:Sp)(k':Nat):
  (st.up (sp,k,e)).get iy k'=if iy=sp∧k'=k then e else st.get iy k':=by
 cases sp <;> cases iy <;> simp[St.up,St.get,gC,il,uj,fC.get_set]
theorem jH(st:St)(sp:Sp)(k:Nat)(e:fg)(iy:Sp)(k':Nat):
  (st.up (sp,k,e)).gens iy k'=if iy=sp∧k'=k then e.g else st.gens iy k':=by
 unfold St.gens;rw[jK];split <;> rfl
theorem heap_alloc(w:World)(o:Obj)(b:Nat):(w.alloc o).heap[b]? =if b=w.heap.size then some o else w.heap[b]? :=by
 show(w.heap.push o)[b]? =_
 rw[Array.getElem?_push]
theorem nn{w w':World}{b o:Nat}(h:w'.heap[b]? =w.heap[b]?):w'.cell? ⟨b,o,none⟩=w.cell? ⟨b,o,none⟩:=by
 unfold World.cell?;rw[h]
theorem jf.mono{β fW:fS}{G G':Sp→Nat→Nat}{w w':World}{M M':fE}{sp:Sp}{n:Nat}{e:fg}(k:iW w M w' M')(yt: ∀sp n g,g≤G sp n→fW sp n g=β sp n g)(hG: ∀sp n,G sp n≤G' sp n)
  (hg:e.g≤G sp n) (hb:live e→w'.heap[(β sp n e.g).blk]? =w.heap[(β sp n e.g).blk]?) (hM:live e→ ∀o,M (β sp n e.g).blk o→M' (β sp n e.g).blk o)
  (h:jf β G w M sp n e):jf fW G' w' M' sp n e:=by
 unfold jf at h ⊢
 rw[yt _ _ _ hg]
 obtain⟨g,ob⟩:=e
 cases ob with
 |none=>trivial
 |cells cs wm bx=>
  obtain⟨c,el,fz,h1,h2,h3,h4,h5,h6,h7⟩:=h
  refine⟨c,el,fz,(hb trivial).trans h1,h2,h3,h4, ?_,fun j a b=>hM trivial _ (h6 j a b),h7⟩
  exact oI.mono k yt hG h5
 |map ks vs fz=>
  obtain⟨es,clock,h1,lX,h2,h3,h4⟩:=h
  exact⟨es,clock,(hb trivial).trans h1,lX,PList.mono k _ _ h2,PList.mono k _ _ h3,fun a o=>hM trivial o (h4 a o)⟩
theorem fY.lt{B:jR}{st:St}{w:World}{β:fS}{M:fE}(h:fY B st w β M){sp:Sp}{k:Nat}(hl:live (st.get sp k)):(β sp k (st.gens sp k)).blk<w.heap.size:=by
 have:=h.obj sp k
 unfold jf at this
 unfold St.gens
 generalize st.get sp k=e at*
 obtain⟨g,ob⟩:=e
 cases ob with
 |none=>exact hl.elim
 |cells cs wm bx=>obtain⟨c,el,fz,h1,_⟩:=this;exact mH h1
 |map ks vs fz=>obtain⟨es,clock,h1,_⟩:=this;exact mH h1
theorem tD(w:World)(M:fE)(o:Obj):iW w M (w.alloc o) M:=
 ⟨fun b off v h _=>by rw[nn (w:=w) (by rw[heap_alloc,if_neg (Nat.ne_of_lt (wc h))])];exact h,
  fun b es c h _=>by rw[heap_alloc,if_neg (Nat.ne_of_lt (mH h))];exact h,fun _ _ _ h=>h⟩
theorem sv(w:World)(M:fE)(o:Obj):iW w M (w.alloc o) (fun b x=>M b x∨b=w.heap.size):=
 ⟨(tD w M o).cell,(tD w M o).map,fun _ _ hb h=>h.resolve_right (Nat.ne_of_lt hb)⟩
theorem Zt{B:jR}{st:St}{w:World}{β:fS}{M:fE}(h:fY B st w β M)(o:Obj):
  fY B st (w.alloc o) β M∧Tr st w β M st (w.alloc o) β M:=by
 have hk:=tD w M o
 have hs:w.heap.size≤(w.alloc o).heap.size:=by show _≤(w.heap.push o).size;simp
 refine⟨⟨fun sp k=> ?_,h.dist,fun b x hm=>Nat.lt_of_lt_of_le (h.mlt b x hm) hs,h.lblk,h.sblk,h.os,h.tape,h.output,Nat.le_trans h.size hs,fun b hb hn=> ?_,h.keep.trans hk h.size,h.msup⟩,hk,fun _ _ _ _=>rfl,fun _ _=>Nat.le_refl _⟩
 ·exact jf.mono hk (fun _ _ _ _=>rfl) (fun _ _=>Nat.le_refl _) (Nat.le_refl _) (fun hl=>by rw[heap_alloc,if_neg (Nat.ne_of_lt (h.lt hl))]) (fun _ _ hm=>hm) (h.obj sp k)
 ·rw[heap_alloc,if_neg (by have:=h.size;omega)];exact h.same b hb hn
theorem DJ{B:jR}{st:St}{w:World}{β:fS}{M:fE}(h:fY B st w β M)(n:Nat):
  fY B st {w with drawn:=n} β M∧Tr st w β M st {w with drawn:=n} β M:=by
 have hk:iW w M {w with drawn:=n} M:=⟨fun _ _ _ h _=>h,fun _ _ _ h _=>h,fun _ _ _ h=>h⟩
 refine⟨⟨fun sp k=> ?_,h.dist,h.mlt,h.lblk,h.sblk,h.os,h.tape,h.output,h.size,h.same,h.keep.trans hk h.size,h.msup⟩,hk,fun _ _ _ _=>rfl,fun _ _=>Nat.le_refl _⟩
 exact jf.mono hk (fun _ _ _ _=>rfl) (fun _ _=>Nat.le_refl _) (Nat.le_refl _) (fun _=>rfl) (fun _ _ hm=>hm) (h.obj sp k)
def l6(β:fS)(sp:Sp)(k g:Nat)(s:FE):fS:=fun iy k' g'=>if iy=sp∧k'=k∧g'=g then s else β iy k' g'
theorem gX(β:fS)(sp:Sp)(k g:Nat)(s:FE):l6 β sp k g s sp k g=s:=by simp[l6]
theorem wg(β:fS)(sp:Sp)(k g:Nat)(s:FE){iy:Sp}{k' g':Nat}(h: ¬(iy=sp∧k'=k∧g'=g)):l6 β sp k g s iy k' g'=β iy k' g':=by simp only[l6,if_neg h]
theorem OW{B:jR}{st:St}{w:World}{β:fS}{M:fE}(h:fY B st w β M)(sp:Sp)(k g:Nat)(hg:st.gens sp k<g)(o:Obj)(ext:Nat)(ob:Ob)
  (ho:jf (l6 β sp k g ⟨w.heap.size,0,ext⟩) (st.up (sp,k,⟨g,ob⟩)).gens (w.alloc o) (fun b x=>M b x∨b=w.heap.size) sp k ⟨g,ob⟩):
  fY B (st.up (sp,k,⟨g,ob⟩)) (w.alloc o) (l6 β sp k g ⟨w.heap.size,0,ext⟩) (fun b x=>M b x∨b=w.heap.size)∧
  Tr st w β M (st.up (sp,k,⟨g,ob⟩)) (w.alloc o) (l6 β sp k g ⟨w.heap.size,0,ext⟩) (fun b x=>M b x∨b=w.heap.size):=by
 have hk:=sv w M o
 have hs:w.heap.size≤(w.alloc o).heap.size:=by show _≤(w.heap.push o).size;simp
 have hb: ∀iy k' g',g'≤st.gens iy k'→l6 β sp k g ⟨w.heap.size,0,ext⟩ iy k' g'=β iy k' g':=by
  intro iy k' g' hle
  refine wg _ _ _ _ _ ?_
  rintro⟨rfl,rfl,rfl⟩
  omega
 have hG: ∀iy k',st.gens iy k'≤(st.up (sp,k,⟨g,ob⟩)).gens iy k':=by
  intro iy k'
  rw[jH]
  split
  ·rename_i e;obtain⟨rfl,rfl⟩:=e;exact Nat.le_of_lt hg
  ·exact Nat.le_refl _
 have qL: ∀iy k',(l6 β sp k g ⟨w.heap.size,0,ext⟩ iy k' ((st.up (sp,k,⟨g,ob⟩)).gens iy k'))=if iy=sp∧k'=k then⟨w.heap.size,0,ext⟩else β iy k' (st.gens iy k'):=by
  intro iy k'
  rw[jH]
  split
  ·rename_i e;obtain⟨rfl,rfl⟩:=e;exact gX _ _ _ _ _
  ·exact hb _ _ _ (Nat.le_refl _)
 refine⟨⟨fun iy k'=> ?_,fun sp1 k1 sp2 k2 l1 l2 he=> ?_,fun b x hm=> ?_,fun k' hl=> ?_,fun k' hl=> ?_,h.os,h.tape,h.output,Nat.le_trans h.size hs,fun b hb hn=> ?_,h.keep.trans hk h.size,fun b x h1 h2 h3=> .inl (h.msup b x h1 h2 h3)⟩,hk,hb,hG⟩
 ·rw[jK]
  split
  ·rename_i e;obtain⟨rfl,rfl⟩:=e;exact ho
  ·exact jf.mono hk hb hG (Nat.le_refl _) (fun hl=>by rw[heap_alloc,if_neg (Nat.ne_of_lt (h.lt hl))]) (fun _ _ hm=> .inl hm) (h.obj iy k')
 ·rw[qL,qL]at he
  rw[jK]at l1 l2
  by_cases e1:sp1=sp∧k1=k <;> by_cases e2:sp2=sp∧k2=k
  ·exact⟨e1.1.trans e2.1.symm,e1.2.trans e2.2.symm⟩
  ·rw[if_pos e1,if_neg e2]at he;rw[if_neg e2]at l2
   exact absurd he.symm (Nat.ne_of_lt (h.lt l2))
  ·rw[if_neg e1,if_pos e2]at he;rw[if_neg e1]at l1
   exact absurd he (Nat.ne_of_lt (h.lt l1))
  ·rw[if_neg e1,if_neg e2]at he;rw[if_neg e1]at l1;rw[if_neg e2]at l2
   exact h.dist _ _ _ _ l1 l2 he
 ·rcases hm with hm|rfl
  ·exact Nat.lt_of_lt_of_le (h.mlt b x hm) hs
  ·show _<(w.heap.push o).size;simp
 ·rw[qL];rw[jK]at hl
  split
  ·exact h.size
  ·rename_i e;rw[if_neg e]at hl;exact h.lblk k' hl
 ·rw[qL];rw[jK]at hl
  split
  ·exact .inr h.size
  ·rename_i e;rw[if_neg e]at hl;exact h.sblk k' hl
 ·rw[heap_alloc,if_neg (by have:=h.size;omega)];exact h.same b hb hn
def setBlock(w:World)(b:Nat)(o:Obj):World:={w with heap:=w.heap.setIfInBounds b o}
theorem iO(w:World)(b:Nat)(o:Obj)(x:Nat):(setBlock w b o).heap[x]? =if x=b∧b<w.heap.size then some o else w.heap[x]? :=by
 unfold setBlock
 simp only[Array.getElem?_setIfInBounds]
 by_cases hx:b=x
 ·subst hx
  by_cases hb:b<w.heap.size
  ·simp[hb]
  ·simp[hb]
 ·rw[if_neg hx,if_neg (fun h=>hx h.1.symm)]
theorem jL(w:World)(b:Nat)(o:Obj):(setBlock w b o).heap.size=w.heap.size:=by simp[setBlock]
theorem JV{B:jR}{st:St}{w:World}{β:fS}{M M':fE}(h:fY B st w β M)(sp:Sp)(k g:Nat)(ob:Ob)(hl:live (st.get sp k))(hg:st.gens sp k≤g)(o:Obj)
  (Ai: ∀b x,M' b x→M b x) (ago: ∀b x,b≠(β sp k (st.gens sp k)).blk→M b x→M' b x)
  (hk:iW w M (setBlock w (β sp k (st.gens sp k)).blk o) M')
  (mR: ¬B.w.heap.size≤(β sp k (st.gens sp k)).blk→B.SB (β sp k (st.gens sp k)).blk)
  (ho:jf (l6 β sp k g (β sp k (st.gens sp k))) (st.up (sp,k,⟨g,ob⟩)).gens (setBlock w (β sp k (st.gens sp k)).blk o) M' sp k ⟨g,ob⟩):
  fY B (st.up (sp,k,⟨g,ob⟩)) (setBlock w (β sp k (st.gens sp k)).blk o) (l6 β sp k g (β sp k (st.gens sp k))) M'∧
  Tr st w β M (st.up (sp,k,⟨g,ob⟩)) (setBlock w (β sp k (st.gens sp k)).blk o) (l6 β sp k g (β sp k (st.gens sp k))) M':=by
 have hb: ∀iy k' g',g'≤st.gens iy k'→l6 β sp k g (β sp k (st.gens sp k)) iy k' g'=β iy k' g':=by
  intro iy k' g' hle
  by_cases e:iy=sp∧k'=k∧g'=g
  ·obtain⟨rfl,rfl,rfl⟩:=e
   rw[gX,Nat.le_antisymm hle hg]
  ·exact wg _ _ _ _ _ e
 have hG: ∀iy k',st.gens iy k'≤(st.up (sp,k,⟨g,ob⟩)).gens iy k':=by
  intro iy k'
  rw[jH]
  split
  ·rename_i e;obtain⟨rfl,rfl⟩:=e;exact hg
  ·exact Nat.le_refl _
 have qL: ∀iy k',(l6 β sp k g (β sp k (st.gens sp k)) iy k' ((st.up (sp,k,⟨g,ob⟩)).gens iy k'))=β iy k' (st.gens iy k'):=by
  intro iy k'
  rw[jH]
  split
  ·rename_i e;obtain⟨rfl,rfl⟩:=e;exact gX _ _ _ _ _
  ·exact hb _ _ _ (Nat.le_refl _)
 have Cv: ∀iy k',live ((st.up (sp,k,⟨g,ob⟩)).get iy k')→live (st.get iy k'):=by
  intro iy k' BW
  rw[jK]at BW
  split at BW
  ·rename_i e;obtain⟨rfl,rfl⟩:=e;exact hl
  ·exact BW
 refine⟨⟨fun iy k'=> ?_,fun sp1 k1 sp2 k2 l1 l2 he=> ?_,fun b x hm=> ?_,fun k' BW=> ?_,fun k' BW=> ?_,h.os,h.tape,h.output, ?_,fun b hb hn=> ?_,h.keep.trans hk h.size,fun b x h1 h2 h3=> ?_⟩,hk,hb,hG⟩
 ·by_cases e:iy=sp∧k'=k
  ·obtain⟨rfl,rfl⟩:=e;rw[jK,if_pos ⟨rfl,rfl⟩];exact ho
  ·rw[jK,if_neg e]
   have jC:live (st.get iy k')→(β iy k' (st.gens iy k')).blk≠(β sp k (st.gens sp k)).blk:=fun l he=>e (h.dist _ _ _ _ l hl he)
   exact jf.mono hk hb hG (Nat.le_refl _) (fun l=>by rw[iO,if_neg (fun x=>jC l x.1)]) (fun l x hm=>ago _ _ (jC l) hm) (h.obj iy k')
 ·rw[qL,qL]at he;exact h.dist _ _ _ _ (Cv _ _ l1) (Cv _ _ l2) he
 ·rw[jL];exact h.mlt b x (Ai b x hm)
 ·rw[qL];exact h.lblk k' (Cv _ _ BW)
 ·rw[qL];exact h.sblk k' (Cv _ _ BW)
 ·rw[jL];exact h.size
 ·rw[iO,if_neg]
  ·exact h.same b hb hn
  ·rintro⟨rfl,_⟩
   exact hn (mR (by omega))
 ·refine ago b x ?_ (h.msup b x h1 h2 h3)
  rintro rfl
  exact h2 (mR (by omega))
theorem fY.base{B:jR}{st:St}{w:World}{β:fS}{M:fE}(h:fY B st w β M){sp:Sp}{k:Nat}(hl:live (st.get sp k)):
  ¬B.w.heap.size≤(β sp k (st.gens sp k)).blk→B.SB (β sp k (st.gens sp k)).blk:=by
 intro hn
 cases sp with
 |L=>exact absurd (h.lblk k hl) hn
 |S=>exact(h.sblk k hl).resolve_right hn
theorem ov{w:World}{b:Nat}{o:Obj}(h:w.heap[b]? =some o):setBlock w b o=w:=by
 unfold setBlock
 have:w.heap.setIfInBounds b o=w.heap:=by
  apply Array.ext_getElem?
  intro i
  rw[Array.getElem?_setIfInBounds]
  split
  ·rename_i e;subst e;rw[if_pos (mH h),h]
  ·rfl
 rw[this]
theorem rM(β:fS)(sp:Sp)(k g:Nat):l6 β sp k g (β sp k g)=β:=by
 funext a b c;unfold l6;split
 ·rename_i e;obtain⟨rfl,rfl,rfl⟩:=e;rfl
 ·rfl
def Cw(M:fE)(s:FE)(n:Nat):fE:=fun b x=>M b x∧ ¬(b=s.blk∧s.off≤x∧x<s.off+n)
def JW(M:fE)(blk:Nat):fE:=fun b x=>M b x∧b≠blk
theorem iL{w:World}{M M':fE}(h: ∀b x,M' b x→M b x):iW w M w M':=⟨fun _ _ _ h _=>h,fun _ _ _ h _=>h,fun b x _ hm=>h b x hm⟩
theorem Aj{B:jR}{st:St}{w:World}{β:fS}{M:fE}(h:fY B st w β M){sp:Sp}{k g wm:Nat}{cs:List T}{bx:Bool}(he:st.get sp k=⟨g,.cells cs wm bx⟩):
  fY B (st.up (sp,k,⟨g,.cells cs cs.length bx⟩)) w β (Cw M (β sp k g) cs.length)∧
  Tr st w β M (st.up (sp,k,⟨g,.cells cs cs.length bx⟩)) w β (Cw M (β sp k g) cs.length):=by
 have hg:st.gens sp k=g:=by unfold St.gens;rw[he]
 have hl:live (st.get sp k):=by rw[he];trivial
 have ho:=h.obj sp k
 rw[he]at ho
 unfold jf at ho
 obtain⟨c,el,fz,h1,h2,h3,h4,h5,h6,h7⟩:=ho
 have Ai: ∀b x,Cw M (β sp k g) cs.length b x→M b x:=fun _ _ hm=>hm.1
 have hk:=iL (w:=w) Ai
 have key:=JV (M':=Cw M (β sp k g) cs.length) h sp k g (.cells cs cs.length bx) hl (Nat.le_of_eq hg) (.cells c el fz) Ai
  (fun b x hb hm=>⟨hm,fun hc=>hb (by rw[hg];exact hc.1)⟩) (by rw[hg,ov h1];exact hk) (h.base hl)
 rw[hg,ov h1,rM]at key
 refine key ⟨c,el,fz,h1,h2,h3,h4, ?_,fun j a b=>⟨h6 j (Nat.le_trans h7.2 a) b,fun hc=>by have:=hc.2.2;dsimp only at a b this;omega⟩,h7.1,Nat.le_refl _⟩
 have hG: ∀iy k',st.gens iy k'≤(st.up (sp,k,⟨g,.cells cs cs.length bx⟩)).gens iy k':=by
  intro iy k';rw[jH];split
  ·rename_i e;obtain⟨rfl,rfl⟩:=e;exact Nat.le_of_eq hg
  ·exact Nat.le_refl _
 exact oI.mono hk (fun _ _ _ _=>rfl) hG h5
end Go.Ev
namespace Go.Ev
open Go
theorem FF{B:jR}{st:St}{w:World}{β:fS}{M:fE}(h:fY B st w β M){sp:Sp}{k g:Nat}{ks vs:List T}{f:Bool}(he:st.get sp k=⟨g,.map ks vs f⟩):
  fY B (st.up (sp,k,⟨g,.map ks vs true⟩)) w β (JW M (β sp k g).blk)∧
  Tr st w β M (st.up (sp,k,⟨g,.map ks vs true⟩)) w β (JW M (β sp k g).blk):=by
 have hg:st.gens sp k=g:=by show(st.get sp k).g=g;rw[he]
 have hl:live (st.get sp k):=by rw[he];trivial
 have ho:=h.obj sp k
 rw[he]at ho
 unfold jf at ho
 obtain⟨es,clock,h1,lX,h2,h3,h4⟩:=ho
 have Ai: ∀b x,JW M (β sp k g).blk b x→M b x:=fun _ _ hm=>hm.1
 have hk:=iL (w:=w) Ai
 have key:=JV (M':=JW M (β sp k g).blk) h sp k g (.map ks vs true) hl (Nat.le_of_eq hg) (.map es clock) Ai
  (fun b x hb hm=>⟨hm,by rw[hg]at hb;exact hb⟩) (by rw[hg,ov h1];exact hk) (h.base hl)
 rw[hg,ov h1,rM]at key
 exact key ⟨es,clock,h1,lX,PList.mono hk _ _ h2,PList.mono hk _ _ h3,fun e=>by cases e⟩
theorem PList.get{w:World}{M:fE}: ∀{ts:List T} {vs:List Value},PList w M ts vs→ ∀{j:Nat} {t:T},ts[j]? =some t→ ∃v,vs[j]? =some v∧PRel w M t v
 | [],vs,h,j,t,ht=>by simp at ht
 |x::xs,vs,h,j,t,ht=>by
  simp only[PList]at h
  obtain⟨u,us,rfl,h2,h3⟩:=h
  cases j with
  |zero=>simp at ht;subst ht;exact⟨u,by simp,h2⟩
  |succ j=>simp at ht ⊢; exact PList.get h3 ht
theorem fo.get{β:fS}{G:Sp→Nat→Nat}{w:World}{M:fE}: ∀{ts:List T} {vs:List Value},fo β G w M ts vs→ ∀{j:Nat} {t:T},ts[j]? =some t→ ∃v,vs[j]? =some v∧fk β G w M t v
 | [],vs,h,j,t,ht=>by simp at ht
 |x::xs,vs,h,j,t,ht=>by
  simp only[fo]at h
  obtain⟨u,us,rfl,h2,h3⟩:=h
  cases j with
  |zero=>simp at ht;subst ht;exact⟨u,by simp,h2⟩
  |succ j=>simp at ht ⊢; exact fo.get h3 ht
theorem fo.drop{β:fS}{G:Sp→Nat→Nat}{w:World}{M:fE}: ∀{ts:List T} {vs:List Value} (n:Nat),fo β G w M ts vs→fo β G w M (ts.drop n) (vs.drop n)
 |ts,vs,0,h=>by simpa using h
 | [],vs,n+1,h=>by simp only[fo]at h;subst h;simp[fo]
 |x::xs,vs,n+1,h=>by
  simp only[fo]at h
  obtain⟨u,us,rfl,h2,h3⟩:=h
  simpa using fo.drop n h3
theorem fo.take{β:fS}{G:Sp→Nat→Nat}{w:World}{M:fE}: ∀{ts:List T} {vs:List Value} (n:Nat),fo β G w M ts vs→fo β G w M (ts.take n) (vs.take n)
 |ts,vs,0,h=>by simp[fo]
 | [],vs,n+1,h=>by simp only[fo]at h;subst h;simp[fo]
 |x::xs,vs,n+1,h=>by
  simp only[fo]at h
  obtain⟨u,us,rfl,h2,h3⟩:=h
  simp only[List.take_succ_cons,fo]
  exact⟨u,_,rfl,h2,fo.take n h3⟩
theorem PList.drop{w:World}{M:fE}: ∀{ts:List T} {vs:List Value} (n:Nat),PList w M ts vs→PList w M (ts.drop n) (vs.drop n)
 |ts,vs,0,h=>by simpa using h
 | [],vs,n+1,h=>by simp only[PList]at h;subst h;simp[PList]
 |x::xs,vs,n+1,h=>by
  simp only[PList]at h
  obtain⟨u,us,rfl,h2,h3⟩:=h
  simpa using PList.drop n h3
theorem PList.take{w:World}{M:fE}: ∀{ts:List T} {vs:List Value} (n:Nat),PList w M ts vs→PList w M (ts.take n) (vs.take n)
 |ts,vs,0,h=>by simp[PList]
 | [],vs,n+1,h=>by simp only[PList]at h;subst h;simp[PList]
 |x::xs,vs,n+1,h=>by
  simp only[PList]at h
  obtain⟨u,us,rfl,h2,h3⟩:=h
  simp only[List.take_succ_cons,PList]
  exact⟨u,_,rfl,h2,PList.take n h3⟩
theorem PList.append{w:World}{M:fE}: ∀{ts Ak:List T} {vs uL:List Value},PList w M ts vs→PList w M Ak uL→PList w M (ts++Ak) (vs++uL)
 | [],Ak,vs,uL,h,h'=>by simp only[PList]at h;subst h;simpa using h'
 |x::xs,Ak,vs,uL,h,h'=>by
  simp only[PList]at h
  obtain⟨u,us,rfl,h2,h3⟩:=h
  simp only[List.cons_append,PList]
  exact⟨u,_,rfl,h2,PList.append h3 h'⟩
theorem fo.append{β:fS}{G:Sp→Nat→Nat}{w:World}{M:fE}: ∀{ts Ak:List T} {vs uL:List Value},fo β G w M ts vs→fo β G w M Ak uL→fo β G w M (ts++Ak) (vs++uL)
 | [],Ak,vs,uL,h,h'=>by simp only[fo]at h;subst h;simpa using h'
 |x::xs,Ak,vs,uL,h,h'=>by
  simp only[fo]at h
  obtain⟨u,us,rfl,h2,h3⟩:=h
  simp only[List.cons_append,fo]
  exact⟨u,_,rfl,h2,fo.append h3 h'⟩
theorem fI.of{w:World}{M:fE}{blk:Nat}{c:Array Value}{el:TypeId}{fz:Nat×Nat}(hb:w.heap[blk]? =some (.cells c el fz)):
  ∀(ts:List T) (off:Nat),PList w M ts ((c.toList.drop off).take ts.length)→(∀x,off≤x→x<off+ts.length→ ¬M blk x)→ts.all single=true→fI w M blk off ts
 | [],off,_,_,_=>by simp only[fI]
 |t::ts,off,h,hm,hs=>by
  simp only[PList,List.length_cons]at h
  obtain⟨u,us,h1,h2,h3⟩:=h
  simp only[List.all_cons,Bool.and_eq_true]at hs
  have OX:w.cell? ⟨blk,off,none⟩=some u:=by
   unfold World.cell?;rw[hb]
   have:((c.toList.drop off).take (ts.length+1))[0]? =some u:=by rw[h1];rfl
   rw[List.getElem?_take,if_pos (by omega),List.getElem?_drop]at this
   simpa using this
  have hus:us=(c.toList.drop (off+1)).take ts.length:=by
   apply List.ext_getElem?
   intro j
   have:=congrArg (fun l=>l[j+1]?) h1
   simp only[List.getElem?_cons_succ]at this
   rw[←this,List.getElem?_take,List.getElem?_take,List.getElem?_drop,List.getElem?_drop]
   have e:off+(j+1)=off+1+j:=by omega
   rw[e]
   by_cases hj:j<ts.length
   ·rw[if_pos hj,if_pos (by omega)]
   ·rw[if_neg hj,if_neg (by omega)]
  simp only[fI]
  exact⟨⟨u,OX,hm off (Nat.le_refl _) (by simp),h2,hs.1⟩,fI.of hb ts (off+1) (hus▸h3) (fun x h1 h2=>hm x (by omega) (by simp;omega)) hs.2⟩
def JX(e:fg):fg:=
 match e.ob with
 | .cells cs _ bx=>⟨e.g,.cells cs cs.length bx⟩
 | .map ks vs _=>⟨e.g,.map ks vs true⟩
 | .none=>e
def Fz(st gj:St):Prop:=gj.fr=st.fr∧gj.sh.length=st.sh.length∧ ∀sp k,gj.get sp k=st.get sp k∨gj.get sp k=JX (st.get sp k)
theorem Fz.refl(st:St):Fz st st:=⟨rfl,rfl,fun _ _=> .inl rfl⟩
theorem Tl(e:fg):(JX e).g=e.g:=by unfold JX;split <;> rfl
theorem Fz.gens{st gj:St}(h:Fz st gj):gj.gens=st.gens:=by
 funext sp k
 rcases h.2.2 sp k with e|e
 ·show(gj.get sp k).g=_;rw[e]
 ·show(gj.get sp k).g=_;rw[e,Tl]
theorem tE(l:List fg)(k:Nat)(e:fg)(h:k<l.length):(il l k e).length=l.length:=by
 unfold il
 induction l generalizing k with
 |nil=>simp at h
 |cons x xs ih=>
  cases k with
  |zero=>simp[oc]
  |succ k=>simp only[oc,List.length_cons];rw[ih k (by simpa using h)]
theorem Cx{l:List fg}{k:Nat}(h:l.length≤k):gC l k=jq:=by
 unfold gC
 induction l generalizing k with
 |nil=>simp[fU]
 |cons x xs ih=>
  cases k with
  |zero=>simp at h
  |succ k=>simp only[fU];exact ih (by simpa using h)
theorem JY{st:St}{k:Nat}(h:live (st.get .S k)):k<st.sh.length:=by
 rcases Nat.lt_or_ge k st.sh.length with h'|h'
 ·exact h'
 ·simp only[St.get,Cx h']at h;exact h.elim
theorem Fz.up{st gj:St}(h:Fz st gj){sp:Sp}{k:Nat}{e:fg}(he:st.get sp k=e)(hl:live e):Fz st (gj.up (sp,k,JX e)):=by
 refine⟨?_, ?_,fun iy k'=> ?_⟩
 ·rw[←h.1];cases sp <;> rfl
 ·rw[←h.2.1]
  cases sp with
  |L=>rfl
  |S=>
   have hk:k<gj.sh.length:=by rw[h.2.1];exact JY (he▸hl)
   simp[St.up,tE _ _ _ hk]
 ·rw[jK]
  split
  ·rename_i x;obtain⟨rfl,rfl⟩:=x;right;rw[he]
  ·exact h.2.2 iy k'
def sw(keep:Bool)(β:fS)(G:Sp→Nat→Nat)(w:World)(M:fE)(t:T)(v:Value):Prop:=
 if keep then∀fW G',(∀k g,g≤G .S k→fW .S k g=β .S k g)→(∀k,G .S k≤G' .S k)→fk fW G' w M t v else PRel w M t v
def np(keep:Bool)(β:fS)(G:Sp→Nat→Nat)(w:World)(M:fE)(t:List T)(v:List Value):Prop:=
 if keep then∀fW G',(∀k g,g≤G .S k→fW .S k g=β .S k g)→(∀k,G .S k≤G' .S k)→fo fW G' w M t v else PList w M t v
theorem sw.ofP{keep:Bool}{β:fS}{G:Sp→Nat→Nat}{w:World}{M:fE}{t:T}{v:Value}(h:PRel w M t v):sw keep β G w M t v:=by
 cases keep
 ·exact h
 ·exact fun fW G' _ _=>PRel.toV fW G' t v h
theorem sw.toV{keep:Bool}{β:fS}{G:Sp→Nat→Nat}{w:World}{M:fE}{t:T}{v:Value}(h:sw keep β G w M t v):fk β G w M t v:=by
 cases keep
 ·exact PRel.toV β G t v h
 ·exact h β G (fun _ _ _=>rfl) (fun _=>Nat.le_refl _)
theorem np.toV{keep:Bool}{β:fS}{G:Sp→Nat→Nat}{w:World}{M:fE}{t:List T}{v:List Value}(h:np keep β G w M t v):fo β G w M t v:=by
 cases keep
 ·exact PList.toV β G t v h
 ·exact h β G (fun _ _ _=>rfl) (fun _=>Nat.le_refl _)
theorem sw.mono{keep:Bool}{β:fS}{G:Sp→Nat→Nat}{w w':World}{M M':fE}{t:T}{v:Value}(k:iW w M w' M')(h:sw keep β G w M t v):sw keep β G w' M' t v:=by
 cases keep
 ·exact PRel.mono k t v h
 ·exact fun fW G' a b=>fk.mono k (fun _ _ _ _=>rfl) (fun _ _=>Nat.le_refl _) t v (h fW G' a b)
theorem np.mono{keep:Bool}{β:fS}{G:Sp→Nat→Nat}{w w':World}{M M':fE}{t:List T}{v:List Value}(k:iW w M w' M')(h:np keep β G w M t v):np keep β G w' M' t v:=by
 cases keep
 ·exact PList.mono k t v h
 ·exact fun fW G' a b=>fo.mono k (fun _ _ _ _=>rfl) (fun _ _=>Nat.le_refl _) t v (h fW G' a b)
theorem np.nil{keep:Bool}{β:fS}{G:Sp→Nat→Nat}{w:World}{M:fE}:np keep β G w M [] []:=by
 cases keep
 ·exact(by simp[PList]:PList w M [] [])
 ·exact fun fW G' _ _=>by simp[fo]
theorem np.cons{keep:Bool}{β:fS}{G:Sp→Nat→Nat}{w:World}{M:fE}{t:T}{v:Value}{ts:List T}{vs:List Value}(h:sw keep β G w M t v)(h':np keep β G w M ts vs):np keep β G w M (t::ts) (v::vs):=by
 cases keep
 ·show PList w M (t::ts) (v::vs)
  simp only[PList];exact⟨v,vs,rfl,h,h'⟩
 ·exact fun fW G' a b=>by simp only[fo];exact⟨v,vs,rfl,h fW G' a b,h' fW G' a b⟩
theorem Q.run_bind{α γ:Type}(h:Sp→Nat→fg)(nx:Nat): ∀(q:Q α) (f:α→Q γ),(q.bind f).run h nx=(q.run h nx).bind fun a=>(f a).run h nx
 | .ret a,f=>by simp[Q.bind,Q.run]
 | .fail,f=>by simp[Q.bind,Q.run]
 | .rd sp k g,f=>by simp only[Q.bind,Q.run];exact Q.run_bind h nx (g (h sp k)) f
 | .new g,f=>by simp only[Q.bind,Q.run];exact Q.run_bind h nx (g nx) f
theorem iY(st:St)(a b:List Up):st.ups (a++b)=(st.ups a).ups b:=by
 induction a generalizing st with
 |nil=>rfl
 |cons x xs ih=>simp only[List.cons_append,St.ups];exact ih _
def agq(keep:Bool)(st:St)(q:Q (T×List Up))(t:T):Prop:=
 ∀(B:jR) (jS:St) (w:World) (β:fS) (M:fE) (v:Value) (t':T) (us:List Up) (nx:Nat),Fz st jS→fY B jS w β M→fk β st.gens w M t v→q.run st.get nx=some (t',us)→
  ∃M',fY B (jS.ups us) w β M'∧Fz st (jS.ups us)∧(∀b x,M' b x→M b x)∧sw keep β st.gens w M' t' v∧(single t=true→single t'=true)
def agr(keep:Bool)(st:St)(q:Q (List T×List Up))(ts:List T):Prop:=
 ∀(B:jR) (jS:St) (w:World) (β:fS) (M:fE) (vs:List Value) (Ak:List T) (us:List Up) (nx:Nat),Fz st jS→fY B jS w β M→fo β st.gens w M ts vs→q.run st.get nx=some (Ak,us)→
  ∃M',fY B (jS.ups us) w β M'∧Fz st (jS.ups us)∧(∀b x,M' b x→M b x)∧np keep β st.gens w M' Ak vs∧(ts.all single=true→Ak.all single=true)∧Ak.length=ts.length
theorem ow{keep:Bool}{st:St}{f:T→Q (T×List Up)}(hf: ∀t,agq keep st (f t) t): ∀ts,agr keep st (gk f ts) ts
 | []=>by
   intro B jS w β M vs Ak us nx hz h hv hr
   simp only[fo]at hv;subst hv
   simp[gk,Q.run]at hr
   obtain⟨rfl,rfl⟩:=hr
   exact⟨M,h,hz,fun _ _ h=>h,np.nil,fun h=>h,rfl⟩
 |t::ts=>by
  intro B jS w β M vs Ak us nx hz h hv hr
  simp only[fo]at hv
  obtain⟨u,uL,rfl,h1,h2⟩:=hv
  simp only[gk,Q.run_bind]at hr
  cases h3:(f t).run st.get nx with
  |none=>simp[h3]at hr
  |some p=>
   obtain⟨t1,FG⟩:=p
   simp only[h3,Option.bind_some]at hr
   cases h4:(gk f ts).run st.get nx with
   |none=>simp[h4]at hr
   |some q=>
    obtain⟨ts2,us2⟩:=q
    simp only[h4,Option.bind_some,Q.run,Option.some.injEq,Prod.mk.injEq]at hr
    obtain⟨rfl,rfl⟩:=hr
    obtain⟨M1,a1,a2,a3,a4,a5⟩:=hf t B jS w β M u t1 FG nx hz h h1 h3
    have k1:=iL (w:=w) a3
    obtain⟨M2,b1,b2,b3,b4,b5,b6⟩:=ow hf ts B (jS.ups FG) w β M1 uL ts2 us2 nx a2 a1 (fo.mono k1 (fun _ _ _ _=>rfl) (fun _ _=>Nat.le_refl _) ts uL h2) h4
    refine⟨M2,by rw[iY];exact b1,by rw[iY];exact b2,fun b x hm=>a3 b x (b3 b x hm),np.cons (a4.mono (iL b3)) b4, ?_,by simp[b6]⟩
    simp only[List.all_cons,Bool.and_eq_true]
    exact fun h=>⟨a5 h.1,b5 h.2⟩
theorem ma{cs:List T}(h:cs.all single=true)(a n:Nat):((cs.drop a).take n).all single=true:=by
 rw[List.all_eq_true]at h ⊢
 exact fun x hx=>h x (List.mem_of_mem_drop (List.mem_of_mem_take hx))
theorem yu(keep:Bool)(st:St): ∀(n:Nat) (t:T),agq keep st (fz keep n t) t:=by
 intro n
 induction n generalizing keep with
 |zero=>intro t B jS w β M v t' us nx _ _ _ hr;simp[fz,Q.run]at hr
 |succ n ih=>
  intro t B jS w β M v t' us nx hz h hv hr
  have plain:(t',us)=(t,[])→(PRel w M t v)→ ∃M',fY B (jS.ups us) w β M'∧Fz st (jS.ups us)∧(∀b x,M' b x→M b x)∧sw keep β st.gens w M' t' v∧(single t=true→single t'=true):=by
   intro e hp
   simp only[Prod.mk.injEq]at e
   obtain⟨rfl,rfl⟩:=e
   exact⟨M,h,hz,fun _ _ h=>h,sw.ofP hp,fun h=>h⟩
  cases t with
  |b x=>simp[fz,Q.run]at hr;exact plain (by simp[hr]) (by simpa only[fk,PRel]using hv)
  |i k x=>simp[fz,Q.run]at hr;exact plain (by simp[hr]) (by simpa only[fk,PRel]using hv)
  |s x=>simp[fz,Q.run]at hr;exact plain (by simp[hr]) (by simpa only[fk,PRel]using hv)
  |nilsl=>simp[fz,Q.run]at hr;exact plain (by simp[hr]) (by simpa only[fk,PRel]using hv)
  |sl cs len ex=>simp[fz,Q.run]at hr;exact plain (by simp[hr]) (by simpa only[fk]using hv)
  |nilptr=>simp[fz,Q.run]at hr;exact plain (by simp[hr]) (by simpa only[fk,PRel]using hv)
  |vp cs=>simp[fz,Q.run]at hr;exact plain (by simp[hr]) (by simpa only[fk]using hv)
  |nilmp=>simp[fz,Q.run]at hr;exact plain (by simp[hr]) (by simpa only[fk,PRel]using hv)
  |vm ks vs=>simp[fz,Q.run]at hr;exact plain (by simp[hr]) (by simpa only[fk]using hv)
  |nilfn=>simp[fz,Q.run]at hr;exact plain (by simp[hr]) (by simpa only[fk,PRel]using hv)
  |any=>simp[fz,Q.run]at hr;exact plain (by simp[hr]) (by simp only[PRel])
  |fn f a c=>
   simp only[fk]at hv
   obtain⟨fa,fc,rfl,h1,h2⟩:=hv
   simp only[fz,Q.run_bind]at hr
   cases h3:(gk (fz keep n) a).run st.get nx with
   |none=>simp[h3]at hr
   |some p=>
    obtain⟨a1,FG⟩:=p
    simp only[h3,Option.bind_some]at hr
    cases h4:(gk (fz keep n) c).run st.get nx with
    |none=>simp[h4]at hr
    |some q=>
     obtain⟨c2,us2⟩:=q
     simp only[h4,Option.bind_some,Q.run,Option.some.injEq,Prod.mk.injEq]at hr
     obtain⟨rfl,rfl⟩:=hr
     obtain⟨M1,x1,x2,x3,x4,x5,_⟩:=ow (fun t=>ih keep t) a B jS w β M _ a1 FG nx hz h h1 h3
     have k1:=iL (w:=w) x3
     obtain⟨M2,y1,y2,y3,y4,y5,_⟩:=ow (fun t=>ih keep t) c B (jS.ups FG) w β M1 _ c2 us2 nx x2 x1 (fo.mono k1 (fun _ _ _ _=>rfl) (fun _ _=>Nat.le_refl _) _ _ h2) h4
     refine⟨M2,by rw[iY];exact y1,by rw[iY];exact y2,fun b x hm=>x3 b x (y3 b x hm), ?_,fun _=>rfl⟩
     have Tm:=np.mono (iL (w:=w) y3) x4
     cases keep
     ·show PRel w M2 (.fn f a1 c2) (.func (.func f) fa fc)
      simp only[PRel];exact⟨fa,fc,rfl,Tm,y4⟩
     ·exact fun fW G' p q=>by simp only[fk];exact⟨fa,fc,rfl,Tm fW G' p q,y4 fW G' p q⟩
  |agg cs=>
   simp only[fk]at hv
   obtain⟨a,rfl,h1,h2⟩:=hv
   simp only[fz,Q.run_bind]at hr
   cases h3:(gk (fz keep n) cs).run st.get nx with
   |none=>simp[h3]at hr
   |some p=>
    obtain⟨a1,FG⟩:=p
    simp only[h3,Option.bind_some,Q.run,Option.some.injEq,Prod.mk.injEq]at hr
    obtain⟨rfl,rfl⟩:=hr
    obtain⟨M1,x1,x2,x3,x4,x5,_⟩:=ow (fun t=>ih keep t) cs B jS w β M _ a1 FG nx hz h h1 h3
    refine⟨M1,x1,x2,x3, ?_,fun h=>h⟩
    cases keep
    ·show PRel w M1 (.agg a1) (.agg a)
     simp only[PRel];exact⟨a,rfl,x4,x5 h2⟩
    ·exact fun fW G' p q=>by simp only[fk];exact⟨a,rfl,x4 fW G' p q,x5 h2⟩
  |tup cs=>
   simp only[fk]at hv
   obtain⟨a,rfl,h1⟩:=hv
   simp only[fz,Q.run_bind]at hr
   cases h3:(gk (fz keep n) cs).run st.get nx with
   |none=>simp[h3]at hr
   |some p=>
    obtain⟨a1,FG⟩:=p
    simp only[h3,Option.bind_some,Q.run,Option.some.injEq,Prod.mk.injEq]at hr
    obtain⟨rfl,rfl⟩:=hr
    obtain⟨M1,x1,x2,x3,x4,x5,_⟩:=ow (fun t=>ih keep t) cs B jS w β M _ a1 FG nx hz h h1 h3
    refine⟨M1,x1,x2,x3, ?_,fun h=>h⟩
    cases keep
    ·show PRel w M1 (.tup a1) (.tuple a)
     simp only[PRel];exact⟨a,rfl,x4⟩
    ·exact fun fW G' p q=>by simp only[fk];exact⟨a,rfl,x4 fW G' p q⟩
  |isl sp k g off len sz=>
   simp only[fz]at hr
   by_cases hk:(keep&&sp== .S)=true
   ·simp only[hk,if_true,Q.run,Option.some.injEq,Prod.mk.injEq]at hr
    obtain⟨rfl,rfl⟩:=hr
    simp only[Bool.and_eq_true,beq_iff_eq]at hk
    obtain⟨rfl,rfl⟩:=hk
    refine⟨M,h,hz,fun _ _ h=>h,fun fW G' p q=> ?_,fun h=>h⟩
    simp only[fk]at hv ⊢
    rw[p k g hv.1]
    exact⟨Nat.le_trans hv.1 (q k),hv.2⟩
   ·rw[if_neg hk]at hr
    simp only[Q.run]at hr
    split at hr
    ·rename_i hg
     generalize he:st.get sp k=e at hr hg
     obtain⟨ge,ob⟩:=e
     dsimp only at hg;subst hg
     cases ob with
     |none=>simp[Q.run]at hr
     |map _ _ _=>simp[Q.run]at hr
     |cells cs wm bx=>
      cases bx with
      |true=>
       dsimp only at hr
       split at hr
       ·rename_i hle
        simp only[Q.run_bind]at hr
        cases h3:(gk (fz false n) ((cs.drop off).take (len*sz))).run st.get nx with
        |none=>simp[h3]at hr
        |some p=>
         obtain⟨c1,FG⟩:=p
         simp only[h3,Option.bind_some,Q.run,Option.some.injEq,Prod.mk.injEq]at hr
         obtain⟨rfl,rfl⟩:=hr
         have gg:jS.gens=st.gens:=hz.gens
         have Tn: ∃Nv,jS.get sp k=⟨ge,.cells cs Nv true⟩:=by
          rcases hz.2.2 sp k with x|x
          ·exact⟨wm,by rw[x,he]⟩
          ·exact⟨cs.length,by rw[x,he];rfl⟩
         obtain⟨wm0,Tn⟩:=Tn
         have ho:=h.obj sp k
         rw[Tn]at ho
         unfold jf at ho
         obtain⟨c,el,fzz,o1,o2,o3,o4,o5,o6,o7,o8⟩:=ho
         dsimp only at o1 o2 o3 o4 o5 o6
         have o5':fo β st.gens w M cs ((c.toList.drop (β sp k ge).off).take cs.length):=by
          rw[←gg]
          exact o5.toV
         have hlen:((cs.drop off).take (len*sz)).length=len*sz:=by simp;omega
         obtain⟨M1,x1,x2,x3,x4,x5,x6⟩:=ow (fun t=>ih false t) ((cs.drop off).take (len*sz)) B jS w β M _ c1 FG nx hz h (fo.take (len*sz) (fo.drop off o5')) h3
         have Al: ∃Nv,(jS.ups FG).get sp k=⟨ge,.cells cs Nv true⟩:=by
          rcases x2.2.2 sp k with x|x
          ·exact⟨wm,by rw[x,he]⟩
          ·exact⟨cs.length,by rw[x,he];rfl⟩
         obtain⟨Nv,Al⟩:=Al
         obtain⟨r1,r2⟩:=Aj x1 Al
         have Zu:=x2.up he trivial
         rw[iY]
         refine⟨_,r1,Zu,fun b x hm=>x3 b x hm.1, ?_,fun _=>rfl⟩
         apply sw.ofP
         simp only[fk]at hv
         obtain⟨SD,cap,rfl,JZ,hv3⟩:=hv
         simp only[PRel]
         refine⟨_,_,cap,none,rfl,JZ,(fun e=>by cases e),.inl rfl, ?_⟩
         have Tm:PList w (Cw M1 (β sp k ge) cs.length) c1 (((c.toList.drop (β sp k ge).off).take cs.length).drop off |>.take (len*sz)):=PList.mono r2.keep _ _ x4
         refine fI.of o1 _ _ ?_ ?_ (x5 (ma o7 _ _))
         ·rw[x6,hlen]
          rw[List.drop_take,List.drop_drop,List.take_take]at Tm
          have e:min (len*sz) (cs.length-off)=len*sz:=by omega
          rw[e]at Tm
          exact Tm
         ·intro x h1 h2 hm
          rw[x6,hlen]at h2
          exact hm.2 ⟨rfl,by omega,by omega⟩
       ·simp[Q.run]at hr
      |false=>
       dsimp only at hr
       split at hr
       ·rename_i hle
        simp only[Q.run,Option.some.injEq,Prod.mk.injEq]at hr
        obtain⟨rfl,rfl⟩:=hr
        have Al: ∃Nv,jS.get sp k=⟨ge,.cells cs Nv false⟩:=by
         rcases hz.2.2 sp k with x|x
         ·exact⟨wm,by rw[x,he]⟩
         ·exact⟨cs.length,by rw[x,he];rfl⟩
        obtain⟨Nv,Al⟩:=Al
        obtain⟨r1,r2⟩:=Aj h Al
        have Zu:=hz.up he trivial
        refine⟨_,r1,Zu,fun b x hm=>hm.1, ?_,fun _=>rfl⟩
        apply sw.ofP
        have ho:=r1.obj sp k
        rw[jK,if_pos ⟨rfl,rfl⟩]at ho
        unfold jf at ho
        obtain⟨c,el,fzz,o1,o2,o3,o4,o5,o6,o7,o8⟩:=ho
        dsimp only at o1 o2 o3 o4 o5 o6
        simp only[fk]at hv
        obtain⟨SD,cap,rfl,JZ,hv3⟩:=hv
        simp only[PRel]
        refine⟨_,_,cap,none,rfl,JZ,(fun e=>by cases e),.inl rfl, ?_⟩
        have hlen:((cs.drop off).take (len*sz)).length=len*sz:=by simp;omega
        refine fI.of o1 _ _ ?_ ?_ (ma o7 _ _)
        ·have:=PList.take (len*sz) (PList.drop off o5)
         rw[List.drop_take,List.drop_drop,List.take_take]at this
         rw[hlen]
         have e:min (len*sz) (cs.length-off)=len*sz:=by omega
         rw[e]at this
         exact this
        ·intro x h1 h2 hm
         rw[hlen]at h2
         exact hm.2 ⟨rfl,by omega,by omega⟩
       ·simp[Q.run]at hr
    ·simp[Q.run]at hr
  |ptr sp k g off=>
   simp only[fz]at hr
   by_cases hk:(keep&&sp== .S)=true
   ·simp only[hk,if_true,Q.run,Option.some.injEq,Prod.mk.injEq]at hr
    obtain⟨rfl,rfl⟩:=hr
    simp only[Bool.and_eq_true,beq_iff_eq]at hk
    obtain⟨rfl,rfl⟩:=hk
    refine⟨M,h,hz,fun _ _ h=>h,fun fW G' p q=> ?_,fun h=>h⟩
    simp only[fk]at hv ⊢
    rw[p k g hv.1]
    exact⟨Nat.le_trans hv.1 (q k),hv.2⟩
   ·rw[if_neg hk]at hr
    simp only[Q.run]at hr
    split at hr
    ·rename_i hg
     generalize he:st.get sp k=e at hr hg
     obtain⟨ge,ob⟩:=e
     dsimp only at hg;subst hg
     cases ob with
     |none=>simp[Q.run]at hr
     |map _ _ _=>simp[Q.run]at hr
     |cells cs wm bx=>
      dsimp only at hr
      simp only[Q.run_bind]at hr
      cases h3:(gk (fz false n) (cs.drop off)).run st.get nx with
      |none=>simp[h3]at hr
      |some p=>
       obtain⟨c1,FG⟩:=p
       simp only[h3,Option.bind_some,Q.run,Option.some.injEq,Prod.mk.injEq]at hr
       obtain⟨rfl,rfl⟩:=hr
       have gg:jS.gens=st.gens:=hz.gens
       have Tn: ∃Nv,jS.get sp k=⟨ge,.cells cs Nv bx⟩:=by
        rcases hz.2.2 sp k with x|x
        ·exact⟨wm,by rw[x,he]⟩
        ·exact⟨cs.length,by rw[x,he];rfl⟩
       obtain⟨wm0,Tn⟩:=Tn
       have ho:=h.obj sp k
       rw[Tn]at ho
       unfold jf at ho
       obtain⟨c,el,fzz,o1,o2,o3,o4,o5,o6,o7,o8⟩:=ho
       dsimp only at o1 o2 o3 o4 o5 o6
       have o5':fo β st.gens w M cs ((c.toList.drop (β sp k ge).off).take cs.length):=by
        rw[←gg]
        exact o5.toV
       obtain⟨M1,x1,x2,x3,x4,x5,x6⟩:=ow (fun t=>ih false t) (cs.drop off) B jS w β M _ c1 FG nx hz h (fo.drop off o5') h3
       have Al: ∃Nv,(jS.ups FG).get sp k=⟨ge,.cells cs Nv bx⟩:=by
        rcases x2.2.2 sp k with x|x
        ·exact⟨wm,by rw[x,he]⟩
        ·exact⟨cs.length,by rw[x,he];rfl⟩
       obtain⟨Nv,Al⟩:=Al
       obtain⟨r1,r2⟩:=Aj x1 Al
       have Zu:=x2.up he trivial
       rw[iY]
       refine⟨_,r1,Zu,fun b x hm=>x3 b x hm.1, ?_,fun _=>rfl⟩
       apply sw.ofP
       simp only[fk]at hv
       obtain⟨SD,rfl⟩:=hv
       simp only[PRel]
       refine⟨_,_,rfl, ?_⟩
       have Tm:PList w (Cw M1 (β sp k ge) cs.length) c1 ((List.drop off ((c.toList.drop (β sp k ge).off).take cs.length))):=PList.mono r2.keep _ _ x4
       refine fI.of o1 _ _ ?_ ?_ (x5 (by rw[List.all_eq_true]at o7 ⊢; exact fun x hx=>o7 x (List.mem_of_mem_drop hx)))
       ·rw[x6,List.length_drop]
        rw[List.drop_take,List.drop_drop]at Tm
        exact Tm
       ·intro x h1 h2 hm
        rw[x6,List.length_drop]at h2
        exact hm.2 ⟨rfl,by omega,by omega⟩
    ·simp[Q.run]at hr
  |mp sp k g=>
   simp only[fz]at hr
   by_cases hk:(keep&&sp== .S)=true
   ·simp only[hk,if_true,Q.run,Option.some.injEq,Prod.mk.injEq]at hr
    obtain⟨rfl,rfl⟩:=hr
    simp only[Bool.and_eq_true,beq_iff_eq]at hk
    obtain⟨rfl,rfl⟩:=hk
    refine⟨M,h,hz,fun _ _ h=>h,fun fW G' p q=> ?_,fun h=>h⟩
    simp only[fk]at hv ⊢
    rw[p k g hv.1]
    exact⟨Nat.le_trans hv.1 (q k),hv.2⟩
   ·rw[if_neg hk]at hr
    simp only[Q.run]at hr
    split at hr
    ·rename_i hg
     generalize he:st.get sp k=e at hr hg
     obtain⟨ge,ob⟩:=e
     dsimp only at hg;subst hg
     cases ob with
     |none=>simp[Q.run]at hr
     |cells _ _ _=>simp[Q.run]at hr
     |map ks vs f=>
      simp only[Q.run,Option.some.injEq,Prod.mk.injEq]at hr
      obtain⟨rfl,rfl⟩:=hr
      have Al: ∃f',jS.get sp k=⟨ge,.map ks vs f'⟩:=by
       rcases hz.2.2 sp k with x|x
       ·exact⟨f,by rw[x,he]⟩
       ·exact⟨true,by rw[x,he];rfl⟩
      obtain⟨f',Al⟩:=Al
      obtain⟨r1,r2⟩:=FF h Al
      have Zu:=hz.up he trivial
      refine⟨_,r1,Zu,fun b x hm=>hm.1, ?_,fun _=>rfl⟩
      apply sw.ofP
      have ho:=r1.obj sp k
      rw[jK,if_pos ⟨rfl,rfl⟩]at ho
      unfold jf at ho
      obtain⟨es,clock,o1,ost,o2,o3,o4⟩:=ho
      simp only[fk]at hv
      obtain⟨SD,rfl⟩:=hv
      simp only[PRel]
      exact⟨_,es,clock,rfl,o1,ost,fun o hm=>hm.2 rfl,o2,o3⟩
    ·simp[Q.run]at hr
end Go.Ev
namespace Go.Ev
open Go
abbrev ol(d s n:Nat)(a:Bool):fe:=⟨some d,.ld (.t s) n a,none⟩
abbrev ob(d:Nat)(o:BinOp)(x y:fM):fe:=⟨some d,.bin o x y,none⟩
abbrev on(d s:Nat):fe:=⟨some d,.lenV (.t s),none⟩
end Go.Ev
