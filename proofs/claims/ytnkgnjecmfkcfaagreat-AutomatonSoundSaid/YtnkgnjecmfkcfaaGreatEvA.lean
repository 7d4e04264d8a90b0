/- A tree evaluator over the model, proved against it (part A): where it answers, the call returns that answer. Conditions: none beyond its theorems' own. -/
import GoSem.Dispatch
import Derived.Orders
import Derived.LoopN
import Derived.Below
import Derived.MapKept
set_option linter.all false
namespace Go.Ev
open Go
theorem yv{p:Prop}(h:p:=by simp):p:=h
theorem zz{p:Prop}(h:p:=by decide):p:=h
theorem zV{p:Prop}(h:p:=by omega):p:=h
inductive Sp where
 |L|S
 deriving DecidableEq,Inhabited
inductive T where
 |b (x:Bool)
 |i (k:IntKind) (n:Int)
 |s (l:List Nat)
 |nilsl
 |sl (cs:List T) (len:Nat) (ex:Bool)
 |isl (sp:Sp) (k g off len sz:Nat)
 |nilptr
 |vp (cs:List T)
 |ptr (sp:Sp) (k g off:Nat)
 |nilmp
 |vm (ks vs:List T)
 |mp (sp:Sp) (k g:Nat)
 |nilfn
 |fn (f:Nat) (first cap:List T)
 |agg (cs:List T)
 |tup (vs:List T)
 |any
 deriving Inhabited
inductive Ob where
 |none
 |cells (cs:List T) (wm:Nat) (bx:Bool)
 |map (ks vs:List T) (fz:Bool)
 deriving Inhabited
structure ah where
 g:Nat
 ob:Ob
 deriving Inhabited
def single:T→Bool
 | .agg _| .tup _| .any=>false
 |_=>true
def noTup:T→Bool
 | .tup _| .any=>false
 |_=>true
def eS:ah:=⟨0,.none⟩
def aU:T:= .tup []
def aH{α:Type}(d:α):List α→Nat→α
 | [],_=>d
 |x::_,0=>x
 |_::xs,n+1=>aH d xs n
def nI{α:Type}(d:α):List α→Nat→α→List α
 | [],0,v=> [v]
 | [],n+1,v=>d::nI d [] n v
 |_::xs,0,v=>v::xs
 |x::xs,n+1,v=>x::nI d xs n v
theorem oc{α:Type}(d:α)(v:α): ∀(l:List α) (n m:Nat),aH d (nI d l n v) m=if m=n then v else aH d l m
 | [],0,0=>by simp[nI,aH]
 | [],0,m+1=>by simp[nI,aH]
 | [],n+1,0=>by simp[nI,aH]
 | [],n+1,m+1=>by
   simp_all[nI,aH,oc]
 |x::xs,0,0=>by simp[nI,aH]
 |x::xs,0,m+1=>by simp[nI,aH]
 |x::xs,n+1,0=>by simp[nI,aH]
 |x::xs,n+1,m+1=>by
  simp_all[nI,aH,oc]
inductive aE (α:Type) where
 |nil
 |nd (v:α) (l r:aE α)
 deriving Inhabited
def aE.get{α:Type}(d:α):aE α→Nat→α
 | .nil,_=>d
 | .nd v l r,n=>match n with
   |0=>v
   |k+1=>bif Nat.beq (k%2) 0 then l.get d (k/2)else r.get d (k/2)
def aE.put{α:Type}(d:α):Nat→aE α→Nat→α→aE α
 |0,t,_,_=>t
 |f+1,t,n,v=>match n with
  |0=>match t with
   | .nil=> .nd v .nil .nil
   | .nd _ l r=> .nd v l r
  |k+1=>match t with
   | .nil=>bif Nat.beq (k%2) 0 then .nd d (aE.put d f .nil (k/2) v) .nil else .nd d .nil (aE.put d f .nil (k/2) v)
   | .nd u l r=>bif Nat.beq (k%2) 0 then .nd u (aE.put d f l (k/2) v) r else .nd u l (aE.put d f r (k/2) v)
def aE.set{α:Type}(d:α)(t:aE α)(n:Nat)(v:α):aE α:=aE.put d (n+1) t n v
theorem aE.get_nil{α:Type}(d:α)(n:Nat):aE.get d .nil n=d:=by unfold aE.get;rfl
theorem aE.get_put{α:Type}(d:α)(v:α): ∀(f:Nat) (t:aE α) (n m:Nat),n<f→aE.get d (aE.put d f t n v) m=if m=n then v else aE.get d t m
 |0,t,n,m,h=>by omega
 |f+1,t,0,m,h=>by
  cases t with
  |nil=>
   cases m with
   |zero=>simp[aE.put,aE.get]
   |succ m=>simp[aE.put,aE.get]
  |nd u l r=>
   cases m with
   |zero=>simp[aE.put,aE.get]
   |succ m=>simp[aE.put,aE.get]
 |f+1,t,k+1,m,h=>by
  have hk:k/2<f:=zV
  have ih:=fun t j=>aE.get_put d v f t (k/2) j hk
  cases D:Nat.beq (k%2) 0 with
  |true=>
   have H:k%2=0:=Nat.eq_of_beq_eq_true D
   cases t with
   |nil=>
    cases m with
    |zero=>simp[aE.put,aE.get,D]
    |succ m=>
     grind [aE.put,aE.get,aE.get_nil,Nat.eq_of_beq_eq_true]
   |nd u l r=>
    cases m with
    |zero=>simp[aE.put,aE.get,D]
    |succ m=>
     grind [aE.put,aE.get,Nat.eq_of_beq_eq_true]
  |false=>
   have H:k%2≠0:=fun e=>by rw[e]at D;simp at D
   cases t with
   |nil=>
    cases m with
    |zero=>simp[aE.put,aE.get,D]
    |succ m=>
     simp only[aE.put,D,cond_false,aE.get]
     cases F:Nat.beq (m%2) 0 with
     |true=>
      grind
     |false=>
      have I:m%2≠0:=fun e=>by rw[e]at F;simp at F
      grind [aE.get_nil]
   |nd u l r=>
    cases m with
    |zero=>simp[aE.put,aE.get,D]
    |succ m=>
     simp only[aE.put,D,cond_false,aE.get]
     cases F:Nat.beq (m%2) 0 with
     |true=>
      grind
     |false=>
      have I:m%2≠0:=fun e=>by rw[e]at F;simp at F
      grind
theorem aE.get_set{α:Type}(d:α)(v:α)(t:aE α)(n m:Nat):aE.get d (aE.set d t n v) m=if m=n then v else aE.get d t m:=
 aE.get_put d v (n+1) t n m (Nat.lt_succ_self n)
inductive Q (α:Type) where
 |ret (a:α)
 |fail
 |rd (sp:Sp) (k:Nat) (f:ah→Q α)
 |new (f:Nat→Q α)
def Q.bind{α β:Type}:Q α→(α→Q β)→Q β
 | .ret a,f=>f a
 | .fail,_=> .fail
 | .rd sp k g,f=> .rd sp k fun e=>(g e).bind f
 | .new g,f=> .new fun e=>(g e).bind f
def Q.run{α:Type}(h:Sp→Nat→ah)(nx:Nat):Q α→Option α
 | .ret a=>some a
 | .fail=>none
 | .rd sp k f=>(f (h sp k)).run h nx
 | .new f=>(f nx).run h nx
def Q.log{α:Type}(h:Sp→Nat→ah)(nx:Nat):Q α→List (Sp×Nat)
 | .ret _=> []
 | .fail=> []
 | .rd sp k f=>(sp,k)::(f (h sp k)).log h nx
 | .new f=>(f nx).log h nx
def Q.asks{α:Type}(h:Sp→Nat→ah)(nx:Nat):Q α→Bool
 | .ret _=>false
 | .fail=>false
 | .rd sp k f=>(f (h sp k)).asks h nx
 | .new _=>true
def Q.of{α:Type}:Option α→Q α
 |some a=> .ret a
 |none=> .fail
abbrev Up:=Sp×Nat×ah
inductive BB where
 |val (v:T) (ups:List Up)
 deriving Inhabited
def bo(f:T→Q (T×List Up)):List T→Q (List T×List Up)
 | []=> .ret ([],[])
 |c::cs=>(f c).bind fun p=>(bo f cs).bind fun q=> .ret (p.1::q.1,p.2++q.2)
def fz(keep:Bool):Nat→T→Q (T×List Up)
 |0,_=> .fail
 |n+1,t=>match t with
  | .isl sp k g off len sz=>if keep&&sp== .S then .ret (t,[])else .rd sp k fun e=>
    if e.g=g then match e.ob with
     | .cells cs _ false=>if off+len*sz≤cs.length then .ret (.sl ((cs.drop off).take (len*sz)) len false,[(sp,k,⟨g,.cells cs cs.length false⟩)])else .fail
     | .cells cs _ true=>if off+len*sz≤cs.length then(bo (fz false n) ((cs.drop off).take (len*sz))).bind fun q=> .ret (.sl q.1 len false,q.2++ [(sp,k,⟨g,.cells cs cs.length true⟩)])else .fail
     |_=> .fail
    else .fail
  | .mp sp k g=>if keep&&sp== .S then .ret (t,[])else .rd sp k fun e=>
    if e.g=g then match e.ob with
     | .map ks r _=> .ret (.vm ks r,[(sp,k,⟨g,.map ks r true⟩)])
     |_=> .fail
    else .fail
  | .ptr sp k g off=>if keep&&sp== .S then .ret (t,[])else .rd sp k fun e=>
    if e.g=g then match e.ob with
     | .cells cs _ bx=>(bo (fz false n) (cs.drop off)).bind fun q=> .ret (.vp q.1,q.2++ [(sp,k,⟨g,.cells cs cs.length bx⟩)])
     |_=> .fail
    else .fail
  | .fn f a c=>(bo (fz keep n) a).bind fun p=>(bo (fz keep n) c).bind fun q=> .ret (.fn f p.1 q.1,p.2++q.2)
  | .agg cs=>(bo (fz keep n) cs).bind fun q=> .ret (.agg q.1,q.2)
  | .tup cs=>(bo (fz keep n) cs).bind fun q=> .ret (.tup q.1,q.2)
  |t=> .ret (t,[])
def aJ:Nat:=8
def scalar:T→Bool
 | .b _| .i .. | .s _| .nilsl| .nilptr| .nilmp| .nilfn=>true
 | .tup r=>r.all fun| .b _| .i .. | .s _| .nilsl| .nilptr| .nilmp| .nilfn=>true|_=>false
 |_=>false
def lo:IntKind→Int
 | .i8=> -128| .i16=> -32768| .i32=> -2147483648| .i64=> -9223372036854775808|_=>0
def hi:IntKind→Int
 | .i8=>127| .i16=>32767| .i32=>2147483647| .i64=>9223372036854775807
 | .u8=>255| .u16=>65535| .u32=>4294967295| .u64=>18446744073709551615
def wr(k:IntKind)(n:Int):Int:=if lo k≤n∧n≤hi k then n else k.wrap n
def lessN:List Nat→List Nat→Bool
 |_,[]=>false
 | [],_::_=>true
 |a::x,b::y=>a<b||(a==b&&lessN x y)
def mI(op:BinOp)(k:IntKind)(a b:Int):Option T:=
 match op with
 | .add=>some (.i k (wr k (a+b)))
 | .sub=>some (.i k (wr k (a-b)))
 | .mul=>some (.i k (wr k (a*b)))
 | .quo=>if b=0 then none else some (.i k (wr k (a.tdiv b)))
 | .rem=>if b=0 then none else some (.i k (a.tmod b))
 | .eql=>some (.b (a==b))
 | .neq=>some (.b (a != b))
 | .lss=>some (.b (a<b))
 | .leq=>some (.b (a≤b))
 | .gtr=>some (.b (a>b))
 | .geq=>some (.b (a≥b))
 | .and=>some (.i k (k.wrap (BitVec.ofInt k.bits a &&& BitVec.ofInt k.bits b).toNat))
 | .or=>some (.i k (k.wrap (BitVec.ofInt k.bits a ||| BitVec.ofInt k.bits b).toNat))
 | .xor=>some (.i k (k.wrap (BitVec.ofInt k.bits a ^^^ BitVec.ofInt k.bits b).toNat))
 | .andNot=>some (.i k (k.wrap (BitVec.ofInt k.bits a &&& ~~~BitVec.ofInt k.bits b).toNat))
 |_=>none
def MM(op:BinOp)(a b:List Nat):Option T:=
 match op with
 | .add=>if a.length+b.length≤1099511627776 then some (.s (a++b))else none
 | .eql=>some (.b (a==b))
 | .neq=>some (.b (a != b))
 | .lss=>some (.b (lessN a b))
 | .leq=>some (.b (lessN a b||a==b))
 | .gtr=>some (.b !(lessN a b||a==b))
 | .geq=>some (.b !(lessN a b))
 |_=>none
def BC(op:BinOp)(k:IntKind)(a b:Int):Option T:=
 if b<0 then none else
 match op with
 | .shl=>some (.i k (k.wrap (a*2 ^ (min b.toNat k.bits))))
 | .shr=>some (.i k (a.fdiv (2 ^ (min b.toNat k.bits))))
 |_=>none
inductive CK where
 |int|str|bool
 deriving DecidableEq,Inhabited
inductive EK where
 |one (k:CK)
 |flat (ks:List CK)
 |sl|ptr|map
 deriving Inhabited
def eL:CK→T→T→Option Bool
 | .bool,.b x,.b y=>some (x==y)
 | .int,.i k x,.i k' y=>if k=k' then some (x==y)else none
 | .str,.s x,.s y=>some (x==y)
 |_,_,_=>none
def cg:List CK→List T→List T→Option Bool
 | [],[],[]=>some true
 |k::ks,x::xs,y::r=>match eL k x y with
  |some true=>cg ks xs r
  |some false=>some false
  |none=>none
 |_,_,_=>none
def sS:EK→T→T→Option Bool
 | .one k,x,y=>eL k x y
 | .flat ks,.agg xs,.agg r=>cg ks xs r
 | .sl,.nilsl,.nilsl=>some true
 | .sl,.sl ..,.nilsl=>some false
 | .sl,.isl ..,.nilsl=>some false
 | .ptr,.nilptr,.nilptr=>some true
 | .ptr,.vp _,.nilptr=>some false
 | .ptr,.ptr ..,.nilptr=>some false
 | .map,.nilmp,.nilmp=>some true
 | .map,.vm ..,.nilmp=>some false
 | .map,.mp ..,.nilmp=>some false
 |_,_,_=>none
def bin(op:BinOp)(x y:T):Option T:=
 match op,x,y with
 | .shl,.i k a,.i _ b=>BC .shl k a b
 | .shr,.i k a,.i _ b=>BC .shr k a b
 |op,.i k a,.i k' b=>if k=k' then mI op k a b else none
 |op,.s a,.s b=>MM op a b
 |_,_,_=>none
def un(op:UnOp)(x:T):Option T:=
 match op,x with
 | .neg,.i k n=>some (.i k (wr k (0-n)))
 | .not,.b x=>some (.b !x)
 | .xor,.i k n=>mI .xor k (if k.signed then-1 else k.max) n
 |_,_=>none
inductive aV where
 |t (n:Nat)
 |c (v:T)
 deriving Inhabited
inductive mP where
 |mv (x:aV)
 |pick (c a b:aV)
 |alloc (z:List T) (sh:Bool)
 |box (x:aV) (sh:Bool)
 |build (z:List T) (ps:List (Nat×Nat×aV))
 |bsl (z:List T) (len:Nat) (ps:List (Nat×aV))
 |ld (x:aV) (n:Nat) (ag:Bool)
 |st (x v:aV) (n:Nat)
 |nck (x:aV)
 |bin (op:BinOp) (x y:aV)
 |eq (neg:Bool) (k:EK) (x y:aV)
 |un (op:UnOp) (x:aV)
 |cvi (k:IntKind) (x:aV)
 |b2s (x:aV)
 |mkfn (f:Nat) (first cap:List aV)
 |mkmap (sh:Bool)
 |mksl (z:List T) (bytes:Nat) (x:aV) (sh:Bool)
 |slS (x:aV) (lo hi:Option aV)
 |slV (sz:Nat) (x:aV) (lo hi mx:Option aV)
 |fa (x:aV) (off:Nat)
 |fld (x:aV) (off n:Nat) (ag:Bool)
 |ia (x ix:aV) (sz:Nat)
 |iaA (x ix:aV) (len sz:Nat)
 |ixS (x ix:aV)
 |ixA (x ix:aV) (len sz:Nat) (ag:Bool)
 |lk (kk:EK) (m k:aV) (z:T) (ok:Bool)
 |mu (kk:EK) (m k v:aV)
 |ext (x:aV) (j:Nat)
 |callf (f:Nat) (args:List aV)
 |callv (f:aV) (args:List aV)
 |lenS (x:aV)
 |lenV (x:aV)
 |lenM (x:aV)
 |lenC (n:Nat)
 |app (sz bytes:Nat) (s x:aV) (sh:Bool) (nm:Bool)
 |mm (isMax:Bool) (args:List aV)
 deriving Inhabited
structure aG where
 d:Option Nat
 op:mP
 gd:Option (Nat×Bool)
 deriving Inhabited
inductive ak where
 |skip
 |region (ops:List aG)
 |draws (ops:List (List Nat×aG))
 |seq (a b:ak)
 |fork (os DD:List aG) (b:ak)
 |cond (c:aV) (a b:ak)
 |block (id:Nat) (a:ak)
 |loop (a:ak)
 |exit (id:Nat)
 |ret
 deriving Inhabited
inductive tT where
 |tmp (t:Nat)
 |cell (t n:Nat) (ag:Bool)
 deriving Inhabited
structure ai where
 n:Nat
 code:ak
 res:List tT
 eff:Bool
 own:Option Nat
 deriving Inhabited
abbrev Fr:=aE T
structure St where
 fr:Fr
 lh:aE ah
 sh:List ah
 deriving Inhabited
def aa(l:Fr)(n:Nat):T:=aE.get aU l n
def cN(l:Fr)(n:Nat)(v:T):Fr:=aE.set aU l n v
theorem lU(l:Fr)(n:Nat)(v:T)(m:Nat):aa (cN l n v) m=if m=n then v else aa l m:=aE.get_set aU v l n m
def tU:List T→Nat→Fr
 | [],_=> .nil
 |x::xs,k=>cN (tU xs (k+1)) k x
def lI(l:List T):Fr:=tU l 0
theorem zl: ∀(l:List T) (k m:Nat),aa (tU l k) m=if m<k then aU else aH aU l (m-k)
 | [],k,m=>by simp[tU,aa,aE.get_nil,aH]
 |x::xs,k,m=>by
  rw[tU,lU,zl xs (k+1) m]
  by_cases h1:m=k
  ·subst h1;simp[aH]
  ·rw[if_neg h1]
   by_cases h2:m<k
   ·grind
   ·rw[if_neg zV,if_neg h2]
    have:m-k=(m-(k+1))+1:=zV
    rw[this];rfl
theorem EW(l:List T)(m:Nat):aa (lI l) m=aH aU l m:=by
 grind [lI,zl]
def aI(l:List ah)(n:Nat):ah:=aH eS l n
def bI(l:List ah)(n:Nat)(v:ah):List ah:=nI eS l n v
def St.get(st:St):Sp→Nat→ah
 | .L,k=>aE.get eS st.lh k
 | .S,k=>aI st.sh k
def St.up(st:St):Up→St
 |(.L,k,e)=>{st with lh:=aE.set eS st.lh k e}
 |(.S,k,e)=>{st with sh:=bI st.sh k e}
def St.ups(st:St):List Up→St
 | []=>st
 |u::us=>(st.up u).ups us
def St.rho(st:St):aV→T
 | .t n=>aa st.fr n
 | .c v=>v
def jE(d:Nat)(sh:Bool)(ob:Ob)(f:Sp→Nat→Nat→T):Q BB:=
 if sh then .new fun k=> .ret (.val (f .S k 1) [(.S,k,⟨1,ob⟩)])
 else .rd .L d fun e=> .ret (.val (f .L d (e.g+1)) [(.L,d,⟨e.g+1,ob⟩)])
def UR:List T→Bool
 | [.nilsl]=>true
 |_=>false
def jQ(us:List Up)(sp:Sp)(k:Nat):Bool:=us.any fun u=>u.1==sp&&u.2.1==k
def cellsOf:T→List T
 | .agg cs=>cs
 |t=> [t]
def asNat:T→Option Nat
 | .i _ n=>if 0≤n then some n.toNat else none
 |_=>none
def repl{α:Type}(z:List α):Nat→List α
 |0=> []
 |n+1=>z++repl z n
def splice{α:Type}:List α→Nat→List α→List α
 |cs,0,[]=>cs
 |_::cs,0,v::r=>v::splice cs 0 r
 |c::cs,off+1,r=>c::splice cs off r
 | [],_,_=> []
def lu{α:Type}:List α→List (Nat×List α)→Option (List α)
 |cs,[]=>some cs
 |cs,(off,D)::r=>if off+D.length≤cs.length then lu (splice cs off D) r else none
def part(cs:List T)(off n:Nat)(r:Bool):Option T:=
 if r then(if off+n≤cs.length then some (.agg ((cs.drop off).take n))else none)
 else cs[off]?
def Gm(x:T)(n:Nat)(r:Bool):Q T:=
 match x with
 | .vp cs=> .of (part cs 0 n r)
 | .ptr sp k g off=> .rd sp k fun e=>
   if e.g=g then match e.ob with
    | .cells cs _ _=> .of (part cs off n r)
    |_=> .fail
   else .fail
 |_=> .fail
def od(x v:T)(n:Nat):Q BB:=
 if(cellsOf v).length≠n|| !noTup v then .fail else
 match x with
 | .ptr sp k g off=> .rd sp k fun e=>
   if e.g=g then match e.ob with
    | .cells cs r bx=>if r≤off&&off+n≤cs.length then
        (if bx&&sp== .L then .ret (.val aU [(sp,k,⟨g,.cells (splice cs off (cellsOf v)) r bx⟩)])
        else(fz (bx&&sp== .S) aJ v).bind fun p=>if jQ p.2 sp k|| !noTup p.1||(cellsOf p.1).length≠n then .fail else .ret (.val aU (p.2++ [(sp,k,⟨g,.cells (splice cs off (cellsOf p.1)) r bx⟩)])))
      else .fail
    |_=> .fail
   else .fail
 |_=> .fail
def cu(sz:Nat):T→Q (Nat×List T)
 | .nilsl=> .ret (0,[])
 | .sl cs len _=>if cs.length=len*sz then .ret (len,cs)else .fail
 | .isl sp k g off len r=>if r=sz then .rd sp k fun e=>
     if e.g=g then match e.ob with
      | .cells cs _ false=>if off+len*sz≤cs.length then .ret (len,(cs.drop off).take (len*sz))else .fail
      |_=> .fail
     else .fail
   else .fail
 | .s l=>if sz=1 then .ret (l.length,l.map fun(n:Nat)=>T.i .u8 (n:Int))else .fail
 |_=> .fail
def roomy:Nat:=1099511627776
def kq(d sz bytes:Nat)(s x:T)(sh D:Bool):Q BB:=
 (cu sz x).bind fun p=>
 if p.1=0 then(match s with| .nilsl| .sl .. | .isl .. => .ret (.val s [])|_=> .fail)else
 match s with
 | .nilsl=>if p.1*bytes≤roomy then jE d sh (.cells p.2 0 (D&& !sh)) (fun sp k g=> .isl sp k g 0 p.1 sz)else .fail
 | .sl cs len true=>if cs.length=len*sz&&(len+p.1)*bytes≤roomy then jE d sh (.cells (cs++p.2) 0 false) (fun sp k g=> .isl sp k g 0 (len+p.1) sz)else .fail
 | .isl sp k g off len F=>if F=sz&&off=0&&(len+p.1)*bytes≤roomy then .rd sp k fun e=>
     if e.g=g then match e.ob with
      | .cells cs r false=>if len*sz=cs.length then .ret (.val (.isl sp k (g+1) 0 (len+p.1) sz) [(sp,k,⟨g+1,.cells (cs++p.2) r false⟩)])
        else if sh&&D&&decide (len*sz<cs.length)&&decide (r≤len*sz)then .ret (.val (.isl sp k (g+1) 0 (len+p.1) sz) [(sp,k,⟨g+1,.cells (cs.take (len*sz)++p.2) r false⟩)])else .fail
      |_=> .fail
     else .fail
   else .fail
 |_=> .fail
def hZ(kk:EK)(k:T):List T→Option (Option Nat)
 | []=>some none
 |x::xs=>match sS kk k x with
  |some true=>some (some 0)
  |some false=>(hZ kk k xs).map fun r=>r.map (· +1)
  |none=>none
def l8(kk:EK)(k v:T)(ks r:List T):Option (List T×List T):=
 match hZ kk k ks with
 |some (some i)=>some (ks.set i k,r.set i v)
 |some none=>some (ks++ [k],r++ [v])
 |none=>none
def Gn:CK→T→Bool
 | .bool,.b _=>true
 | .int,.i .. =>true
 | .str,.s _=>true
 |_,_=>false
def lJ:List CK→List T→Bool
 | [],[]=>true
 |k::ks,x::xs=>Gn k x&&lJ ks xs
 |_,_=>false
def isKey:EK→T→Bool
 | .one k,x=>Gn k x
 | .flat ks,.agg xs=>lJ ks xs
 |_,_=>false
def iN(kk:EK)(ks D:List T)(k z:T)(r:Bool):Option T:=
 if !isKey kk k then none else
 match hZ kk k ks with
 |some (some i)=>D[i]?.map fun v=>if r then .tup [v,.b true]else v
 |some none=>some (if r then .tup [z,.b false]else z)
 |none=>none
def il(r:Bool):T→List T→Option T
 |x,[]=>some x
 | .i k a,.i k' b::D=>if k=k' then il r (.i k (if r then(if b>a then b else a)else(if b<a then b else a))) D else none
 |_,_=>none
def dN(ρ:aV→T)(r:Nat):Option aV→Option Nat
 |none=>some r
 |some x=>asNat (ρ x)
def zp(sz:Nat)(x:T)(l h:Nat):Q T:=
 match x with
 | .nilsl=>if l=0&&h=0 then .ret .nilsl else .fail
 | .sl cs len ex=>if l≤h&&h≤len&&cs.length=len*sz then .ret (.sl ((cs.drop (l*sz)).take ((h-l)*sz)) (h-l) (ex&&h=len))else .fail
 | .isl sp k g off len r=>if l≤h&&h≤len&&r=sz then .ret (if l=h then(if sp= .S∧h=0∧off=0 then .isl sp k g 0 0 sz else .sl [] 0 false)else .isl sp k g (off+l*sz) (h-l) sz)else .fail
 |_=> .fail
def lK:T→Option Nat
 | .nilsl=>some 0
 | .sl _ len _=>some len
 | .isl _ _ _ _ len _=>some len
 |_=>none
def val(v:Option T):Q BB:=match v with|some v=> .ret (.val v [])|none=> .fail
def bB(d:Nat)(ρ:aV→T):mP→Q BB
 | .mv x=> .ret (.val (ρ x) [])
 | .pick c a b=>match ρ c with| .b true=> .ret (.val (ρ a) [])| .b false=> .ret (.val (ρ b) [])|_=> .fail
 | .alloc z sh=>jE d sh (.cells z 0 true) (fun sp k g=> .ptr sp k g 0)
 | .box x sh=>if !noTup (ρ x)then .fail else if sh then(fz true aJ (ρ x)).bind fun p=>if p.2.isEmpty&&noTup p.1 then jE d true (.cells (cellsOf p.1) 0 true) (fun sp k g=> .ptr sp k g 0)else .fail
     else jE d false (.cells (cellsOf (ρ x)) 0 true) (fun sp k g=> .ptr sp k g 0)
 | .build z ps=>if ps.all fun p=>(cellsOf (ρ p.2.2)).length=p.2.1&&noTup (ρ p.2.2)then val ((lu z (ps.map fun p=>(p.1,cellsOf (ρ p.2.2)))).map .agg)else .fail
 | .bsl z len ps=>(bo (fz false aJ) (ps.map fun p=>ρ p.2)).bind fun q=>
     if q.1.all fun v=>(cellsOf v).length=z.length&&noTup v then
      match lu (repl z len) ((ps.map fun p=>p.1*z.length).zip (q.1.map cellsOf))with
      |some cs=> .ret (.val (.sl cs len true) q.2)
      |none=> .fail
     else .fail
 | .ld x n K=>(Gm (ρ x) n K).bind fun v=> .ret (.val v [])
 | .st x v n=>od (ρ x) (ρ v) n
 | .nck x=>match ρ x with
   | .vp cs=> .ret (.val (.vp cs) [])
   | .ptr sp k g off=> .ret (.val (.ptr sp k g off) [])
   | .fn f a c=> .ret (.val (.fn f a c) [])
   |_=> .fail
 | .bin op x y=>val (Ev.bin op (ρ x) (ρ y))
 | .eq neg k x y=>val ((sS k (ρ x) (ρ y)).map fun r=> .b (r != neg))
 | .un op x=>val (Ev.un op (ρ x))
 | .cvi k x=>match ρ x with| .i _ n=> .ret (.val (.i k (wr k n)) [])|_=> .fail
 | .b2s x=>match ρ x with| .sl [.i .u8 (.ofNat k)] 1 _=>if k<256 then .ret (.val (.s [k]) [])else .fail|_=> .fail
 | .mkfn f first N=> .ret (.val (.fn f (first.map ρ) (N.map ρ)) [])
 | .mkmap sh=>jE d sh (.map [] [] false) (fun sp k g=> .mp sp k g)
 | .mksl z bytes x sh=>match asNat (ρ x)with
   |some n=>if n*bytes≤roomy&&n≤roomy then jE d sh (.cells (repl z n) 0 (UR z)) (fun sp k g=> .isl sp k g 0 n z.length)else .fail
   |none=> .fail
 | .slS x l h=>match ρ x with
   | .s D=>match dN ρ 0 l,dN ρ D.length h with
     |some l,some h=>if l≤h&&h≤D.length then .ret (.val (.s ((D.drop l).take (h-l))) [])else .fail
     |_,_=> .fail
   |_=> .fail
 | .slV sz x l h U=>match lK (ρ x)with
   |none=> .fail
   |some n=>match dN ρ 0 l,dN ρ n h,U with
    |some l,some h,none=>(zp sz (ρ x) l h).bind fun v=> .ret (.val v [])
    |some l,some h,some m=>match asNat (ρ m),ρ x with
     |some 0,.nilsl=>if l=0&&h=0 then .ret (.val .nilsl [])else .fail
     |some 0,_=>if l=0&&h=0 then .ret (.val (.sl [] 0 true) [])else .fail
     |_,_=> .fail
    |_,_,_=> .fail
 | .fa x off=>match ρ x with
   | .vp cs=>if off≤cs.length then .ret (.val (.vp (cs.drop off)) [])else .fail
   | .ptr sp k g o=> .ret (.val (.ptr sp k g (o+off)) [])
   |_=> .fail
 | .fld x off n K=>match ρ x with| .agg cs=>val (part cs off n K)|_=> .fail
 | .ia x F sz=>match asNat (ρ F),ρ x with
   |some j,.sl cs len _=>if j<len&&(j+1)*sz≤cs.length then .ret (.val (.vp (cs.drop (j*sz))) [])else .fail
   |some j,.isl sp k g off len V=>if j<len&&V=sz then .ret (.val (.ptr sp k g (off+j*sz)) [])else .fail
   |_,_=> .fail
 | .iaA x F len sz=>match asNat (ρ F),ρ x with
   |some j,.vp cs=>if j<len&&(j+1)*sz≤cs.length then .ret (.val (.vp (cs.drop (j*sz))) [])else .fail
   |some j,.ptr sp k g off=>if j<len then .ret (.val (.ptr sp k g (off+j*sz)) [])else .fail
   |_,_=> .fail
 | .ixS x F=>match asNat (ρ F),ρ x with
   |some j,.s D=>match D[j]? with|some c=> .ret (.val (.i .u8 c) [])|none=> .fail
   |_,_=> .fail
 | .ixA x F len sz K=>match asNat (ρ F),ρ x with
   |some j,.agg cs=>if j<len then val (part cs (j*sz) sz K)else .fail
   |_,_=> .fail
 | .lk J m k z O=>match ρ m with
   | .nilmp=>if isKey J (ρ k)then .ret (.val (if O then .tup [z,.b false]else z) [])else .fail
   | .vm ks H=>val (iN J ks H (ρ k) z O)
   | .mp sp kk g=> .rd sp kk fun e=>if e.g=g then match e.ob with| .map ks H _=>val (iN J ks H (ρ k) z O)|_=> .fail else .fail
   |_=> .fail
 | .mu J m k v=>match ρ m with
   | .mp sp kk g=> .rd sp kk fun e=>if e.g=g&&isKey J (ρ k)then match e.ob with
       | .map ks H false=>(fz false aJ (ρ v)).bind fun p=>match l8 J (ρ k) p.1 ks H with
         |some q=>if jQ p.2 sp kk then .fail else .ret (.val aU (p.2++ [(sp,kk,⟨g,.map q.1 q.2 false⟩)]))
         |none=> .fail
       |_=> .fail
     else .fail
   |_=> .fail
 | .ext x j=>match ρ x with| .tup H=>val H[j]? |_=> .fail
 | .callf _ _=> .fail
 | .callv _ _=> .fail
 | .lenS x=>match ρ x with| .s D=> .ret (.val (.i .i64 D.length) [])|_=> .fail
 | .lenV x=>val ((lK (ρ x)).map fun n=> .i .i64 n)
 | .lenM x=>match ρ x with
   | .nilmp=> .ret (.val (.i .i64 0) [])
   | .vm ks _=> .ret (.val (.i .i64 ks.length) [])
   | .mp sp kk g=> .rd sp kk fun e=>if e.g=g then match e.ob with| .map ks _ _=> .ret (.val (.i .i64 ks.length) [])|_=> .fail else .fail
   |_=> .fail
 | .lenC n=> .ret (.val (.i .i64 n) [])
 | .app sz bytes s x sh W=>kq d sz bytes (ρ s) (ρ x) sh W
 | .mm I args=>match args.map ρ with|x::rest=>val (il I x rest)| []=> .fail
def bD(ρ:aV→T):mP→Option (Option (Nat×List T))
 | .callf f args=>some (some (f,args.map ρ))
 | .callv f args=>some (match ρ f with| .fn f a c=>some (f,a++args.map ρ++c)|_=>none)
 |_=>none
def yf:mP→List aV
 | .mv x| .box x _| .ld x _ _| .nck x| .un _ x| .cvi _ x| .b2s x| .mksl _ _ x _| .fa x _| .fld x _ _ _| .ext x _| .lenS x| .lenV x| .lenM x=> [x]
 | .pick c a b=> [c,a,b]
 | .alloc .. | .mkmap _| .lenC _=> []
 | .build _ ps=>ps.map (·.2.2)
 | .bsl _ _ ps=>ps.map (·.2)
 | .st x v _| .bin _ x v| .eq _ _ x v| .ia x v _| .iaA x v _ _| .ixS x v| .ixA x v _ _ _| .lk _ x v _ _| .app _ _ x v _ _=> [x,v]
 | .mkfn _ a c=>a++c
 | .slS x l h=>x::(l.toList++h.toList)
 | .slV _ x l h m=>x::(l.toList++h.toList++m.toList)
 | .mu _ m k v=> [m,k,v]
 | .callf _ as| .mm _ as=>as
 | .callv f as=>f::as
def tmpsOf(xs:List aV):List Nat:=xs.filterMap fun| .t n=>some n| .c _=>none
def looks(a:aG):List Nat:=tmpsOf (yf a.op)++(match a.gd with|some g=> [g.1]|none=> [])
inductive Out where
 |nrm|ext (id:Nat)|ret
 deriving DecidableEq,Inhabited
abbrev ku:=Nat→List T→List ah→Option (T×List ah)
structure Env where
 fn:Nat→Option ai
 ext:Nat→Option (List T→Option T)
 wr:Nat→Option (List T→Option (List T×Option Nat))
def im(fr:Fr)(n:Nat)(d:Option Nat)(v:T):Option Fr:=
 match d with
 |some d=>if d<n then some (cN fr d v)else none
 |none=>some fr
def eW:T→Nat→Option T
 | .tup r,j=>if j<100 then r[j]? else match r[j/100-1]? with
   |some (.agg cs)=>cs[j%100]?
   |_=>none
 | .agg cs,j=>cs[j]?
 | .any,_=>none
 |t,_=>some t
def aM:T→Nat→T→T
 | .tup r,j,x=>if j<100 then .tup (r.set j x)else match r[j/100-1]? with
   |some (.agg cs)=> .tup (r.set (j/100-1) (.agg (cs.set (j%100) x)))
   |_=> .tup (r.set (j/100-1) .any)
 | .agg cs,j,x=> .agg (cs.set j x)
 | .any,_,_=> .any
 |_,_,x=>x
def jh:T→Bool
 | .b _| .i .. | .s _| .nilsl| .nilptr| .nilmp| .nilfn=>true
 |_=>false
def mQ:T→Bool
 | .tup r=>r.all fun| .agg cs=>cs.all jh|t=>jh t
 | .agg cs=>cs.all jh
 |t=>jh t
def BD(d j:Nat)(r:T)(st:St)(us:List Up):Option (T×St):=
 match eW r j with
 |some .nilsl=>some (r,if mQ r then st else st.ups us)
 |some (.sl cs len _)=>
  if cs.all jh=true∧cs.length/len*len=cs.length then
   some (aM r j (.isl .L d (((if mQ (aM r j .nilsl)then st else st.ups us).get .L d).g+1) 0 len (cs.length/len)),
    (if mQ (aM r j .nilsl)then st else st.ups us).up (.L,d,⟨((if mQ (aM r j .nilsl)then st else st.ups us).get .L d).g+1,.cells cs 0 false⟩))
  else none
 |_=>none
def anm(sp:Sp)(k g off:Nat):Option Nat→T
 |none=> .tup []
 |some n=> .isl sp k g off n 1
def XK(h:List T→Option (List T×Option Nat))(st:St):List T→Option (T×St)
 | [.nilsl]=>match h []with
   |some ([],none)=>some (.tup [],st)
   |some ([],some 0)=>some (.nilsl,st)
   |_=>none
 | [.isl sp k g off len 1]=>match st.get sp k with
   |⟨F,.cells cs H false⟩=>
    if F=g∧H≤off∧off+len≤cs.length then
     match h ((cs.drop off).take len)with
     |some (D,r)=>if D.length=len∧D.all single=true∧r.getD 0≤len then some (anm sp k g off r,st.up (sp,k,⟨F,.cells (splice cs off D) H false⟩))else none
     |none=>none
    else none
   |_=>none
 |_=>none
def br(E:Env)(call:ku)(d:Nat)(st:St)(f:Nat)(args:List T):Option (T×St):=
 match E.fn f,E.ext f with
 |some af,_=>
  match(bo (fz af.eff aJ) args).run st.get st.sh.length with
  |some q=>
   if af.eff then
    (call f q.1 (st.ups q.2).sh).map fun r=>(r.1,{st.ups q.2 with sh:=r.2})
   else match call f q.1 []with
    |some r=>(match af.own with
     |none=>some (r.1,if scalar r.1 then st else st.ups q.2)
     |some j=>BD d j r.1 st q.2)
    |none=>none
  |none=>none
 |none,some g=>
  match(bo (fz false aJ) args).run st.get st.sh.length with
  |some q=>(g q.1).map fun r=>(r,st)
  |none=>none
 |none,none=>match E.wr f with
  |some h=>XK h st args
  |none=>none
def bp(E:Env)(call:ku)(n:Nat)(o:aG)(st:St):Option St:=
 let F:Option St:=
  match bD st.rho o.op with
  |some (some c)=>match br E call (o.d.getD 0) st c.1 c.2 with
   |some r=>(im st.fr n o.d r.1).map fun fr=>{r.2 with fr}
   |none=>none
  |some none=>none
  |none=>match(bB (o.d.getD 0) st.rho o.op).run st.get st.sh.length with
   |some (.val v ups)=>(im st.fr n o.d v).map fun fr=>{st.ups ups with fr}
   |none=>none
 match o.gd with
 |none=>F
 |some (j,D)=>match aa st.fr j with
  | .b x=>if x=D then F else(im st.fr n o.d aU).map fun fr=>{st with fr}
  | .any=>none
  |_=>(im st.fr n o.d aU).map fun fr=>{st with fr}
def aj(E:Env)(call:ku)(n:Nat):List aG→St→Option St
 | [],st=>some st
 |o::r,st=>match bp E call n o st with
  |some D=>aj E call n r D
  |none=>none
def iter(f:St→Option (Out×St)):Nat→St→Option (Out×St)
 |0,_=>none
 |n+1,st=>match f st with
  |some (.nrm,D)=>iter f n D
  |r=>r
structure FP where
 all:Bool
 r:List (Sp×Nat)
 w:List (Sp×Nat)
 deriving Inhabited
def eM(xs r:List (Sp×Nat)):Bool:=xs.all fun x=> !r.contains x
def Iu(xs:List (Sp×Nat)):Bool:=xs.all fun x=>x.1== .L
def apart(x y:FP):Bool:=
 eM x.w y.r&&eM x.w y.w&&eM x.r y.w&&
 (!x.all||(!y.all&&Iu y.r&&Iu y.w))&&(!y.all||(Iu x.r&&Iu x.w))
def cW(us:List Up):List (Sp×Nat):=us.map fun u=>(u.1,u.2.1)
def fW:FP:=⟨false,[],[]⟩
def zq(e:ah):Bool:=match e.ob with| .none=>false|_=>true
def inB(st:St)(us:List Up):Bool:=us.all fun u=>u.1== .L||zq (st.get .S u.2.1)
def eN(E:Env)(call:ku)(d:Nat)(st:St)(f:Nat)(args:List T):Option FP:=
 match E.fn f,E.ext f with
 |some af,_=>
  let q:=bo (fz af.eff aJ) args
  match q.run st.get st.sh.length with
  |some p=>if !inB st p.2 then none else
   if af.eff then some ⟨true,q.log st.get st.sh.length,cW p.2⟩else match call f p.1 []with
   |some r=>(match af.own with
    |none=>some ⟨false,q.log st.get st.sh.length,if scalar r.1 then []else cW p.2⟩
    |some _=>some ⟨false,(.L,d)::q.log st.get st.sh.length,(.L,d)::cW p.2⟩)
   |none=>none
  |none=>none
 |none,some _=>some ⟨false,(bo (fz false aJ) args).log st.get st.sh.length,[]⟩
 |none,none=>none
def bU(E:Env)(call:ku)(o:aG)(st:St):Option FP:=
 let F:Option FP:=
  match bD st.rho o.op with
  |some (some c)=>eN E call (o.d.getD 0) st c.1 c.2
  |some none=>none
  |none=>
   let q:=bB (o.d.getD 0) st.rho o.op
   match q.run st.get st.sh.length with
   |some (.val _ r)=>if q.asks st.get st.sh.length||inB st r then some ⟨q.asks st.get st.sh.length,q.log st.get st.sh.length,cW r⟩else none
   |none=>none
 match o.gd with
 |none=>F
 |some (j,D)=>match aa st.fr j with
  | .b x=>if x=D then F else some fW
  |_=>some fW
def aK(E:Env)(call:ku)(n:Nat):List (List Nat×aG)→List FP→St→Option St
 | [],_,st=>some st
 |(r,o)::D,bu,st=>
  match bU E call o st with
  |none=>none
  |some fp=>
   if r.all fun i=>apart (aH ⟨true,[],[]⟩ bu i) fp then
    match bp E call n o st with
    |some F=>aK E call n D (bu++ [fp]) F
    |none=>none
   else none
def yg(r:List aG):List Nat:=r.filterMap (·.d)
def bO:ak→List Nat
 | .region ops=>yg ops
 | .draws ops=>yg (ops.map (·.2))
 | .seq a b=>bO a++bO b
 | .fork r _ b=>yg r++bO b
 | .cond _ a b=>bO a++bO b
 | .block _ a=>bO a
 | .loop a=>bO a
 |_=> []
def vu:List Nat→Fr→Fr
 | [],f=>f
 |k::ks,f=>cN (vu ks f) k .any
def BE:List Nat→aE ah→aE ah→aE ah
 | [],l,_=>l
 |k::ks,l,r=>aE.set eS (BE ks l r) k ⟨max (aE.get eS l k).g (aE.get eS r k).g,.none⟩
def oe(ks:List Nat)(s t:St):St:=⟨vu ks s.fr,BE ks s.lh t.lh,s.sh⟩
def BF(ks:List Nat)(s t:St):Prop:=s.sh=t.sh∧(∀k,k∉ks→aa s.fr k=aa t.fr k)∧ ∀k,k∉ks→aE.get eS s.lh k=aE.get eS t.lh k
open Classical in
noncomputable def Po(ks:List Nat):Option (Out×St)→Option (Out×St)→Option (Out×St)
 |some (o,s),some (o',t)=>if o=o'∧BF ks s t then some (o,oe ks s t)else none
 |_,_=>none
noncomputable def fX(E:Env)(call:ku)(D n:Nat):ak→St→Option (Out×St)
 | .skip,st=>some (.nrm,st)
 | .region ops,st=>(aj E call n ops st).map fun F=>(.nrm,F)
 | .draws ops,st=>(aK E call n ops [] st).map fun F=>(.nrm,F)
 | .seq a b,st=>match fX E call D n a st with
   |some (.nrm,F)=>fX E call D n b F
   |r=>r
 | .fork H DD b,st=>match aj E call n H st,aj E call n DD st with
   |some I,some s2=>Po (yg H++bO b) (fX E call D n b I) (fX E call D n b s2)
   |_,_=>none
 | .cond c a b,st=>match st.rho c with
   | .b true=>fX E call D n a st
   | .b false=>fX E call D n b st
   |_=>none
 | .block id a,st=>match fX E call D n a st with
   |some (.ext SA,F)=>if SA=id then some (.nrm,F)else some (.ext SA,F)
   |r=>r
 | .loop a,st=>iter (fX E call D n a) D st
 | .exit id,st=>some (.ext id,st)
 | .ret,st=>some (.ret,st)
def JI(st:St):tT→Option T
 | .tmp t=>some (aa st.fr t)
 | .cell t n r=>(Gm (aa st.fr t) n r).run st.get st.sh.length
def iO(st:St):List tT→Option (List T)
 | []=>some []
 |r::rs=>match JI st r,iO st rs with
  |some v,some D=>some (v::D)
  |_,_=>none
def answer(r:Bool)(vs:List T)(st:St):Option (T×List ah):=
 match(fz r aJ (match vs with| [v]=>v|vs=> .tup vs)).run st.get st.sh.length with
 |some p=>some (p.1,(st.ups p.2).sh)
 |none=>none
def pj(j:Nat)(vs:List T)(st:St):Option (T×List ah):=
 match eW (match vs with| [v]=>v|vs=> .tup vs) j with
 |some .nilsl=>answer false vs st
 |some (.isl .L k g 0 len sz)=>
  (match(fz false aJ (aM (match vs with| [v]=>v|vs=> .tup vs) j .nilsl)).run st.get st.sh.length with
  |some p=>(match(st.ups p.2).get .L k with
   |⟨r,.cells cs D false⟩=>if r=g∧cs.length=len*sz∧len≠0∧(D=0∨mQ (aM p.1 j .nilsl)=true)then some (aM p.1 j (.sl cs len false),(st.ups p.2).sh)else none
   |_=>none)
  |none=>none)
 |_=>none
def sg(own:Option Nat)(r:Bool)(D:List T)(st:St):Option (T×List ah):=
 match own with
 |none=>answer r D st
 |some j=>if r then none else pj j D st
noncomputable def cQ(E:Env):Nat→ku
 |0=>fun _ _ _=>none
 |m+1=>fun f args sh=>
  match E.fn f with
  |none=>none
  |some af=>
   if af.n<args.length then none else
   match fX E (cQ E m) m af.n af.code {fr:=lI args,lh:= .nil,sh}with
   |some (.ext _,_)=>none
   |some (_,st)=>match iO st af.res with
    |some r=>sg af.own af.eff r st
    |none=>none
   |none=>none
def bytesN(b:ByteArray):List Nat:=b.data.toList.map UInt8.toNat
def si:Value→Option T
 | .bool x=>some (.b x)
 | .int k n=>some (.i k n)
 | .string s=>some (.s (bytesN s))
 | .pointer none=>some .nilptr
 | .slice none 0 0=>some .nilsl
 | .map none=>some .nilmp
 | .nilFunc=>some .nilfn
 | .func (.func f) a c=>match a.toList,c.toList with
   | [],[]=>some (.fn f [] [])
   |_,_=>none
 |_=>none
def jR:List Value→Option (List T)
 | []=>some []
 |v::r=>match si v,jR r with
  |some t,some ts=>some (t::ts)
  |_,_=>none
def BG:Value→Option T
 | .agg cs=>(jR cs.toList).map .agg
 | .tuple cs=>(jR cs.toList).map .tup
 |v=>si v
def eV:Operand→Option aV
 | .tmp t=>some (.t t)
 | .const v=>(BG v).map .c
 | .func f=>some (.c (.fn f [] []))
 | .global _=>none
def vh:List Operand→Option (List aV)
 | []=>some []
 |x::xs=>match eV x,vh xs with
  |some y,some r=>some (y::r)
  |_,_=>none
def qw:Option Operand→Option (Option aV)
 |none=>some none
 |some x=>(eV x).map some
def og(P:Program)(t:TypeId):Option T:=(P.info? t).bind fun i=>i.zero.bind BG
def eU(P:Program)(t:TypeId):Option Nat:=(P.info? t).map (·.size)
def qx(P:Program)(t:TypeId):Option Bool:=(P.underlying t).map fun| .struct _| .array _ _=>true|_=>false
def sU(P:Program)(t:TypeId):Option CK:=
 match P.underlying t with
 |some (.int _)=>some .int
 |some .string=>some .str
 |some .bool=>some .bool
 |_=>none
def ji(P:Program):Nat→List Field→Option (List CK)
 |_,[]=>some []
 |i,f::r=>if f.offset=i&&f.name != "_" &&(P.info? f.type).map (·.size)==some 1 then match sU P f.type,ji P (i+1) r with
  |some k,some ks=>some (k::ks)
  |_,_=>none
  else none
def BH(P:Program)(t:TypeId):Option EK:=
 match P.underlying t with
 |some (.int _)=>some (.one .int)
 |some .string=>some (.one .str)
 |some .bool=>some (.one .bool)
 |some (.slice _)=>some .sl
 |some (.pointer _)=>some .ptr
 |some (.map _ _)=>some .map
 |some (.struct r)=>if !P.eqGuardType P.depth t&& !P.stoodInHeld t then(ji P 0 r.toList).map .flat else none
 |some (.array n e)=>if !P.eqGuardType P.depth t&&P.cellsOf e==1 then(sU P e).map fun k=> .flat (List.replicate n k)else none
 |_=>none
def keyOf(P:Program)(t:TypeId):Option EK:=
 match BH P t with
 |some (.one k)=>some (.one k)
 |some (.flat ks)=>match P.underlying t with
  |some (.struct _)=>some (.flat ks)
  |_=>none
 |_=>none
def placesOf(F:List (Nat×Nat)):List (Nat×Operand)→Option (List (Nat×Nat×aV))
 | []=>some []
 |(i,x)::D=>match F[i]?,eV x,placesOf F D with
  |some p,some y,some r=>some ((p.1,p.2,y)::r)
  |_,_,_=>none
def lV(sz:Nat):List (Nat×Operand)→Option (List (Nat×Nat×aV))
 | []=>some []
 |(i,x)::D=>match eV x,lV sz D with
  |some y,some r=>some ((i*sz,sz,y)::r)
  |_,_=>none
def sj:List (Nat×Operand)→Option (List (Nat×aV))
 | []=>some []
 |(i,x)::D=>match eV x,sj D with
  |some y,some r=>some ((i,y)::r)
  |_,_=>none
def Gp:Operand→Operand→Bool
 | .tmp a,.tmp b=>a==b
 | .const (.int .i64 a),.const (.int .i64 b)=>a==b
 |_,_=>false
def oh(P:Program)(sh:Nat)(c:Call):Option mP:=
 match c.callee with
 | .value (.func f)=>(vh c.args.toList).map fun as=> .callf f as
 | .value x=>match eV x,vh c.args.toList with
   |some y,some as=>some (.callv y as)
   |_,_=>none
 | .builtin .len=>match c.argTypes[0]?,c.args.toList with
   |some t,[x]=>match P.underlying t,eV x with
    |some .string,some y=>some (.lenS y)
    |some (.slice _),some y=>some (.lenV y)
    |some (.map _ _),some y=>some (.lenM y)
    |some (.array n _),some _=>some (.lenC n)
    |_,_=>none
   |_,_=>none
 | .builtin .append=>match c.argTypes.toList,c.args.toList with
   | [t,u],[x,y]=>match P.underlying t,P.underlying u,eV x,eV y with
     |some (.slice e),some r,some D,some F=>
      (match r with
      | .slice _| .string=>(match P.info? e with
        |some i=>(match i.zero with
         |some z=>if i.size=z.cells.size&&i.size != 0&&i.bytes != 0 then some (.app i.size i.bytes D F (sh==1||sh==3) (sh==2||sh==3))else none
         |none=>none)
        |none=>none)
      |_=>none)
     |_,_,_,_=>none
   |_,_=>none
 | .builtin .min=>(vh c.args.toList).map fun as=> .mm false as
 | .builtin .max=>(vh c.args.toList).map fun as=> .mm true as
 |_=>none
def cH(P:Program)(sh:Nat):Op→Option mP
 | .move x| .assign x=>(eV x).map .mv
 | .pick c a b=>match eV c,eV a,eV b with
   |some c,some a,some b=>some (.pick c a b)
   |_,_,_=>none
 | .alloc t=>match og P t with
   |some z=>if noTup z then some (.alloc (cellsOf z) (sh==1))else none
   |none=>none
 | .box _ x=>(eV x).map fun y=> .box y (sh==1)
 | .build t ps=>match og P t,P.underlying t with
   |some z,some (.struct F)=>(match F.toList.mapM (fun f=>(P.info? f.type).map fun i=>(f.offset,i.size))with
    |some N=>if noTup z then(placesOf N ps.toList).map fun r=> .build (cellsOf z) r else none
    |none=>none)
   |some z,some (.array _ e)=>(match eU P e with|some n=>if noTup z then(lV n ps.toList).map fun r=> .build (cellsOf z) r else none|none=>none)
   |_,_=>none
 | .buildSlice t len ps=>match P.underlying t with
   |some (.slice e)=>match og P e,eU P e,sj ps.toList with
    |some z,some n,some r=>if noTup z&&n=(cellsOf z).length&&n != 0&&len*n≤16777216 then some (.bsl (cellsOf z) len r)else none
    |_,_,_=>none
   |_=>none
 | .load t x=>match eV x,eU P t,qx P t with
   |some y,some n,some H=>some (.ld y n H)
   |_,_,_=>none
 | .store t x v=>match eV x,eV v,eU P t with
   |some y,some u,some n=>some (.st y u n)
   |_,_,_=>none
 | .nilCheck x=>(eV x).map .nck
 | .binOp op t x y _=>match eV x,eV y with
   |some a,some b=>match op,sU P t with
    | .eql,some .bool=>some (.eq false (.one .bool) a b)
    | .neq,some .bool=>some (.eq true (.one .bool) a b)
    |_,some _=>some (.bin op a b)
    | .eql,none=>(BH P t).map fun k=> .eq false k a b
    | .neq,none=>(BH P t).map fun k=> .eq true k a b
    |_,_=>none
   |_,_=>none
 | .unOp op _ x=>(eV x).map (.un op)
 | .convert s t x=>match P.underlying s,P.underlying t,eV x with
   |some (.int _),some (.int k),some y=>some (.cvi k y)
   |some (.slice e),some .string,some y=>(match P.underlying e with|some (.int .u8)=>some (.b2s y)|_=>none)
   |_,_,_=>none
 | .makeFunc (.func f) first I=>match vh first.toList,vh I.toList with
   |some a,some c=>some (.mkfn f a c)
   |_,_=>none
 | .makeMap _ none=>some (.mkmap (sh==1))
 | .makeSlice t l c=>match P.underlying t with
   |some (.slice e)=>match P.info? e,og P e,eV l with
    |some i,some z,some y=>if noTup z&&Gp l c&&i.size=(cellsOf z).length&&i.size != 0 then some (.mksl (cellsOf z) i.bytes y (sh==1))else none
    |_,_,_=>none
   |_=>none
 | .slice t x l h m=>match P.underlying t,eV x,qw l,qw h,qw m with
   |some .string,some y,some l,some h,some none=>some (.slS y l h)
   |some (.slice e),some y,some l,some h,some m=>(match eU P e with|some n=>if n != 0&&(m.isNone||h.isSome)then some (.slV n y l h m)else none|none=>none)
   |_,_,_,_,_=>none
 | .fieldAddr s x f=>match P.underlying s,eV x with
   |some (.struct F),some y=>(match F[f]? with
    |some D=>(match eU P D.type with|some n=>if n != 0 then some (.fa y D.offset)else none|none=>none)
    |none=>none)
   |_,_=>none
 | .field s x f=>match P.underlying s,eV x with
   |some (.struct F),some y=>(match F[f]? with
    |some D=>(match eU P D.type,qx P D.type with|some n,some H=>some (.fld y D.offset n H)|_,_=>none)
    |none=>none)
   |_,_=>none
 | .indexAddr t x j=>match P.underlying t,eV x,eV j with
   |some (.slice e),some y,some j=>(match eU P e with|some n=>if n != 0 then some (.ia y j n)else none|none=>none)
   |some (.array len e),some y,some j=>(match eU P e with|some n=>if n != 0 then some (.iaA y j len n)else none|none=>none)
   |_,_,_=>none
 | .index t x j=>match P.underlying t,eV x,eV j with
   |some .string,some y,some j=>some (.ixS y j)
   |some (.array len e),some y,some j=>(match eU P e,qx P e with|some n,some H=>some (.ixA y j len n H)|_,_=>none)
   |_,_,_=>none
 | .lookup t m k O=>match P.underlying t,eV m,eV k with
   |some (.map J U),some m,some k=>(match keyOf P J,og P U with|some K,some z=>some (.lk K m k z O)|_,_=>none)
   |_,_,_=>none
 | .mapUpdate t m k v=>match P.underlying t,eV m,eV k,eV v with
   |some (.map J _),some m,some k,some v=>(keyOf P J).map fun K=> .mu K m k v
   |_,_,_,_=>none
 | .extract x j=>(eV x).map fun y=> .ext y j
 | .call c=>oh P sh c
 |_=>none
def WN(hs:List Nat)(d:Option Nat):Nat:=
 match d with
 |some d=>if hs.contains d then(if hs.contains (d+100000)then 3 else 1)else if hs.contains (d+100000)then 2 else 0
 |none=>0
def WO:List Nat→Option Nat
 | []=>none
 |h::hs=>if h<1000000 then WO hs else some (h-1000000)
def qP(P:Program)(hs:List Nat)(ops:Array Oper)(o:Oper):Option aG:=
 match cH P (WN hs o.dst) o.op with
 |some op=>match o.guard with
  |none=>some ⟨o.dst,op,none⟩
  |some (j,r)=>match(ops[j]?).bind (·.dst)with
   |some d=>some ⟨o.dst,op,some (d,r)⟩
   |none=>none
 |none=>none
def dF(P:Program)(hs:List Nat)(ops:Array Oper):List Oper→Option (List aG)
 | []=>some []
 |o::r=>match qP P hs ops o,dF P hs ops r with
  |some a,some as=>some (a::as)
  |_,_=>none
def quiet:mP→Bool
 | .mv _| .pick .. | .build .. | .nck _| .bin .. | .eq .. | .un .. | .cvi .. | .b2s _| .mkfn .. | .slS .. | .slV .. | .fa .. | .fld .. | .ia .. | .iaA .. | .ixS .. | .ixA .. | .ext .. | .lenS _| .lenV _| .lenC _| .mm .. =>true
 |_=>false
def cz(o:Oper):List Nat:=(o.after.toList.filter (Region.binds .any)).map (·.on)
def Gq(r:List Nat)(ps:List Nat):Nat:=ps.foldl (fun m p=>m ||| 2 ^ p ||| aH 0 r p) 0
def l9:List (List Nat)→List Nat→List Nat
 | [],r=>r
 |ps::D,r=>l9 D (r++ [Gq r ps])
def vw:Nat→List (List Nat)→Bool
 |_,[]=>true
 |i,ps::r=>ps.all (· <i)&&vw (i+1) r
def fY(x y:aG):Bool:=
 (match x.d with|some d=> !(looks y).contains d&& !(y.d==some d)|none=>true)&&(match y.d with|some d=> !(looks x).contains d|none=>true)
def BI(m:Nat)(as:List aG):List (Nat×aG):=(as.zipIdx.map fun p=>(p.2,p.1)).filter fun p=> !m.testBit p.1
def vz:List Nat→List aG→List aG→Bool
 |_,_,[]=>true
 | [],_,_=>false
 |m::F,r,a::D=>((BI m r).all fun p=>fY p.2 a)&&vz F (r++ [a]) D
def oi:List Nat→List aG→List aG→List (List Nat×aG)
 |m::F,r,a::D=>((if quiet a.op then []else((BI m r).filter fun p=> !quiet p.2.op).map (·.1)),a)::oi F (r++ [a]) D
 |_,_,_=> []
def aiJ(r D:aG):Bool:=match r,D with
 |⟨none,.st (.t x) (.c (.b true)) 1,none⟩,⟨none,.st (.t y) (.c (.b false)) 1,none⟩=>x==y
 |_,_=>false
def Gr(ps:List (List Nat)):Bool:=match ps with
 | [[],D,F,r]=>D.contains 0&&F.contains 0&&D.all (· <1)&&F.all (· <1)&&r.contains 1&&r.contains 2&&r.all (· <3)
 |_=>false
def Pp(P:Program)(hs:List Nat)(a:Code)(D r:ak):ak:=match a with
 | .region _ ops true=>(match dF P hs ops ops.toList with
   |some [I,F,H,J]=>if Gr (ops.toList.map cz)&&aiJ F H then .fork [I,F,H,J] [I,H,F,J] r else .seq D r
   |_=> .seq D r)
 |_=> .seq D r
def ib(P:Program)(hs:List Nat):Code→Option ak
 | .skip=>some .skip
 | .region _ ops false=>(dF P hs ops ops.toList).map .region
 | .region _ ops true=>
   match dF P hs ops ops.toList with
   |some as=>
    let ps:=ops.toList.map cz
    if vw 0 ps&&vz (l9 ps []) [] as then some (.draws (oi (l9 ps []) [] as))else none
   |none=>none
 | .seq a b=>match ib P hs a,ib P hs b with
   |some r,some D=>some (Pp P hs a r D)
   |_,_=>none
 | .cond c a b=>match eV c,ib P hs a,ib P hs b with
   |some c,some a,some b=>some (.cond c a b)
   |_,_,_=>none
 | .block id a=>(ib P hs a).map (.block id)
 | .loop a=>(ib P hs a).map .loop
 | .exit id=>some (.exit id)
 | .ret=>some .ret
 |_=>none
def pk(P:Program):List ResultVar→Option (List tT)
 | []=>some []
 | .tmp t::rs=>(pk P rs).map (.tmp t:: ·)
 | .cell a t::rs=>match eU P t,qx P t,pk P rs with
   |some n,some r,some rs=>some (.cell a n r::rs)
   |_,_,_=>none
def EP(P:Program)(hs:List Nat)(D:Bool)(r:Func):Option ai:=
 if r.name== "runtime.NumGoroutine" then none else
 match r.body with
 |none=>none
 |some c=>match ib P hs c,pk P r.results.toList with
  |some c,some rs=>some ⟨r.ntmps,c,rs,D,WO hs⟩
  |_,_=>none
structure JJ where
 blk:Nat
 off:Nat
 ext:Nat
abbrev aQ:=Sp→Nat→Nat→JJ
abbrev MSet:=Nat→Nat→Prop
mutual
def PRel(w:World)(M:MSet):T→Value→Prop
 | .b x,v=>v= .bool x
 | .i k n,v=>v= .int k n
 | .s l,v=> ∃I,v= .string I∧bytesN I=l
 | .nilsl,v=>v= .slice none 0 0
 | .sl cs len ex,v=> ∃r off F sp,v= .slice (some ⟨r,off,sp⟩) len F∧len≤F∧(ex=true→F=len)∧(sp=none∨F=0)∧PCells w M r off cs
 | .nilptr,v=>v= .pointer none
 | .vp cs,v=> ∃r off,v= .pointer (some ⟨r,off,none⟩)∧PCells w M r off cs
 | .nilmp,v=>v= .map none
 | .vm ks N,v=> ∃r H D,v= .map (some r)∧w.heap[r]? =some (.map H D)∧MapKept.Stamped H D∧(∀o,¬M r o)∧PList w M ks (H.toList.map (·.key))∧PList w M N (H.toList.map (·.val))
 | .nilfn,v=>v= .nilFunc
 | .fn f a c,v=> ∃J K,v= .func (.func f) J K∧PList w M a J.toList∧PList w M c K.toList
 | .agg cs,v=> ∃a,v= .agg a∧PList w M cs a.toList∧cs.all single=true
 | .tup cs,v=> ∃a,v= .tuple a∧PList w M cs a.toList
 | .any,_=>True
 | .isl ..,_=>False
 | .ptr ..,_=>False
 | .mp ..,_=>False
def PList(w:World)(M:MSet):List T→List Value→Prop
 | [],r=>r= []
 |t::ts,r=> ∃u us,r=u::us∧PRel w M t u∧PList w M ts us
def PCells(w:World)(M:MSet)(r off:Nat):List T→Prop
 | []=>True
 |c::cs=>(∃v,w.cell? ⟨r,off,none⟩=some v∧ ¬M r off∧PRel w M c v∧single c=true)∧PCells w M r (off+1) cs
end
mutual
def aq(β:aQ)(G:Sp→Nat→Nat)(w:World)(M:MSet):T→Value→Prop
 | .isl sp k g off len sz,v=>g≤G sp k∧ ∃r,v= .slice (some ⟨(β sp k g).blk,(β sp k g).off+off,none⟩) len r∧len≤r∧off+r*sz≤(β sp k g).ext
 | .ptr sp k g off,v=>g≤G sp k∧v= .pointer (some ⟨(β sp k g).blk,(β sp k g).off+off,none⟩)
 | .mp sp k g,v=>g≤G sp k∧v= .map (some (β sp k g).blk)
 | .fn f a c,v=> ∃D F,v= .func (.func f) D F∧av β G w M a D.toList∧av β G w M c F.toList
 | .agg cs,v=> ∃a,v= .agg a∧av β G w M cs a.toList∧cs.all single=true
 | .tup cs,v=> ∃a,v= .tuple a∧av β G w M cs a.toList
 | .any,_=>True
 | .b x,v=>v= .bool x
 | .i k n,v=>v= .int k n
 | .s l,v=> ∃H,v= .string H∧bytesN H=l
 | .nilsl,v=>v= .slice none 0 0
 | .sl cs len ex,v=>PRel w M (.sl cs len ex) v
 | .nilptr,v=>v= .pointer none
 | .vp cs,v=>PRel w M (.vp cs) v
 | .nilmp,v=>v= .map none
 | .vm ks I,v=>PRel w M (.vm ks I) v
 | .nilfn,v=>v= .nilFunc
def av(β:aQ)(G:Sp→Nat→Nat)(w:World)(M:MSet):List T→List Value→Prop
 | [],r=>r= []
 |t::ts,r=> ∃u us,r=u::us∧aq β G w M t u∧av β G w M ts us
end
structure dG (w:World) (M:MSet) (w':World) (M':MSet):Prop where
 cell: ∀b o v,w.cell? ⟨b,o,none⟩=some v→ ¬M b o→w'.cell? ⟨b,o,none⟩=some v
 map: ∀(b:Nat) es c,w.heap[b]? =some (.map es c)→(∀o,¬M b o)→w'.heap[b]? =some (.map es c)
 m: ∀b o,b<w.heap.size→M' b o→M b o
theorem vD{w:World}{b o:Nat}{v:Value}(h:w.cell? ⟨b,o,none⟩=some v):b<w.heap.size:=by
 grind [World.cell?]
theorem mR{w:World}{b:Nat}{o:Obj}(h:w.heap[b]? =some o):b<w.heap.size:=by
 grind
mutual
theorem PRel.mono{w w':World}{M M':MSet}(k:dG w M w' M'): ∀(t:T) (v:Value),PRel w M t v→PRel w' M' t v
 | .b x,v,h=>by grind [PRel]
 | .i _ n,v,h=>by grind [PRel]
 | .s l,v,h=>by grind [PRel]
 | .nilsl,v,h=>by grind [PRel]
 | .sl cs len ex,v,h=>by
   simp only[PRel]at h ⊢
   obtain⟨r,off,F,sp,h1,h2,h3,h5,h4⟩:=h
   exact⟨r,off,F,sp,h1,h2,h3,h5,PCells.mono k r off cs h4⟩
 | .nilptr,v,h=>by grind [PRel]
 | .vp cs,v,h=>by
   simp only[PRel]at h ⊢
   obtain⟨r,off,h1,h4⟩:=h
   exact⟨r,off,h1,PCells.mono k r off cs h4⟩
 | .nilmp,v,h=>by grind [PRel]
 | .vm ks H,v,h=>by
   simp only[PRel]at h ⊢
   obtain⟨r,I,D,h1,h2,J,h3,h4,h5⟩:=h
   exact⟨r,I,D,h1,k.map _ _ _ h2 h3,J,fun o K=>h3 o (k.m _ _ (mR h2) K),PList.mono k ks _ h4,PList.mono k H _ h5⟩
 | .nilfn,v,h=>by grind [PRel]
 | .fn f a c,v,h=>by
   simp only[PRel]at h ⊢
   obtain⟨N,O,h1,h2,h3⟩:=h
   exact⟨N,O,h1,PList.mono k a _ h2,PList.mono k c _ h3⟩
 | .agg cs,v,h=>by
   simp only[PRel]at h ⊢
   obtain⟨a,h1,h2,h3⟩:=h
   exact⟨a,h1,PList.mono k cs _ h2,h3⟩
 | .tup cs,v,h=>by
   simp only[PRel]at h ⊢
   obtain⟨a,h1,h2⟩:=h
   exact⟨a,h1,PList.mono k cs _ h2⟩
 | .any,v,h=>by simp only[PRel]
 | .isl ..,v,h=>by simp only[PRel]at h
 | .ptr ..,v,h=>by simp only[PRel]at h
 | .mp ..,v,h=>by simp only[PRel]at h
theorem PList.mono{w w':World}{M M':MSet}(k:dG w M w' M'): ∀(t:List T) (v:List Value),PList w M t v→PList w' M' t v
 | [],v,h=>by grind [PList]
 |t::ts,v,h=>by
  simp only[PList]at h ⊢
  obtain⟨u,us,h1,h2,h3⟩:=h
  exact⟨u,us,h1,PRel.mono k t u h2,PList.mono k ts us h3⟩
theorem PCells.mono{w w':World}{M M':MSet}(k:dG w M w' M')(r:Nat): ∀(off:Nat) (t:List T),PCells w M r off t→PCells w' M' r off t
 |off,[],h=>by simp only[PCells]
 |off,c::cs,h=>by
  simp only[PCells]at h ⊢
  obtain⟨⟨v,h1,h2,h3,h5⟩,h4⟩:=h
  exact⟨⟨v,k.cell _ _ _ h1 h2,fun D=>h2 (k.m _ _ (vD h1) D),PRel.mono k c v h3,h5⟩,PCells.mono k r (off+1) cs h4⟩
end
mutual
theorem aq.mono{β ba:aQ}{G G':Sp→Nat→Nat}{w w':World}{M M':MSet}(k:dG w M w' M')(DQ: ∀sp n g,g≤G sp n→ba sp n g=β sp n g)(r: ∀sp n,G sp n≤G' sp n):
  ∀(t:T) (v:Value),aq β G w M t v→aq ba G' w' M' t v
 | .isl sp n g off len sz,v,h=>by
   grind [aq]
 | .ptr sp n g off,v,h=>by
   grind [aq]
 | .mp sp n g,v,h=>by
   grind [aq]
 | .fn f a c,v,h=>by
   simp only[aq]at h ⊢
   obtain⟨D,F,h1,h2,h3⟩:=h
   exact⟨D,F,h1,av.mono k DQ r a _ h2,av.mono k DQ r c _ h3⟩
 | .agg cs,v,h=>by
   simp only[aq]at h ⊢
   obtain⟨a,h1,h2,h3⟩:=h
   exact⟨a,h1,av.mono k DQ r cs _ h2,h3⟩
 | .tup cs,v,h=>by
   simp only[aq]at h ⊢
   obtain⟨a,h1,h2⟩:=h
   exact⟨a,h1,av.mono k DQ r cs _ h2⟩
 | .any,v,h=>by simp only[aq]
 | .b x,v,h=>by grind [aq]
 | .i _ n,v,h=>by grind [aq]
 | .s l,v,h=>by grind [aq]
 | .nilsl,v,h=>by grind [aq]
 | .sl cs len ex,v,h=>by grind [aq,PRel.mono]
 | .nilptr,v,h=>by grind [aq]
 | .vp cs,v,h=>by grind [aq,PRel.mono]
 | .nilmp,v,h=>by grind [aq]
 | .vm ks H,v,h=>by grind [aq,PRel.mono]
 | .nilfn,v,h=>by grind [aq]
theorem av.mono{β ba:aQ}{G G':Sp→Nat→Nat}{w w':World}{M M':MSet}(k:dG w M w' M')(DQ: ∀sp n g,g≤G sp n→ba sp n g=β sp n g)(r: ∀sp n,G sp n≤G' sp n):
  ∀(t:List T) (v:List Value),av β G w M t v→av ba G' w' M' t v
 | [],v,h=>by grind [av]
 |t::ts,v,h=>by
  simp only[av]at h ⊢
  obtain⟨u,us,h1,h2,h3⟩:=h
  exact⟨u,us,h1,aq.mono k DQ r t u h2,av.mono k DQ r ts us h3⟩
end
mutual
theorem PRel.toV{w:World}{M:MSet}(β:aQ)(G:Sp→Nat→Nat): ∀(t:T) (v:Value),PRel w M t v→aq β G w M t v
 | .b x,v,h=>by grind [aq,PRel]
 | .i _ n,v,h=>by grind [aq,PRel]
 | .s l,v,h=>by grind [aq,PRel]
 | .nilsl,v,h=>by grind [aq,PRel]
 | .sl cs len ex,v,h=>by grind [aq]
 | .nilptr,v,h=>by grind [aq,PRel]
 | .vp cs,v,h=>by grind [aq]
 | .nilmp,v,h=>by grind [aq,PRel]
 | .vm ks F,v,h=>by grind [aq]
 | .nilfn,v,h=>by grind [aq,PRel]
 | .fn f a c,v,h=>by
   simp only[PRel]at h;simp only[aq]
   obtain⟨r,D,h1,h2,h3⟩:=h
   exact⟨r,D,h1,PList.toV β G a _ h2,PList.toV β G c _ h3⟩
 | .agg cs,v,h=>by
   simp only[PRel]at h;simp only[aq]
   obtain⟨a,h1,h2,h3⟩:=h
   exact⟨a,h1,PList.toV β G cs _ h2,h3⟩
 | .tup cs,v,h=>by
   simp only[PRel]at h;simp only[aq]
   obtain⟨a,h1,h2⟩:=h
   exact⟨a,h1,PList.toV β G cs _ h2⟩
 | .any,v,h=>by simp only[aq]
 | .isl ..,v,h=>by simp only[PRel]at h
 | .ptr ..,v,h=>by simp only[PRel]at h
 | .mp ..,v,h=>by simp only[PRel]at h
theorem PList.toV{w:World}{M:MSet}(β:aQ)(G:Sp→Nat→Nat): ∀(t:List T) (v:List Value),PList w M t v→av β G w M t v
 | [],v,h=>by grind [av,PList]
 |t::ts,v,h=>by
  simp only[PList]at h;simp only[av]
  obtain⟨u,us,h1,h2,h3⟩:=h
  exact⟨u,us,h1,PRel.toV β G t u h2,PList.toV β G ts us h3⟩
end
theorem av.length{β:aQ}{G:Sp→Nat→Nat}{w:World}{M:MSet}: ∀(t:List T) (v:List Value),av β G w M t v→t.length=v.length
 | [],v,h=>by grind [av]
 |t::ts,v,h=>by
  simp only[av]at h
  obtain⟨u,us,rfl,_,h3⟩:=h
  simp[av.length ts us h3]
theorem PList.length{w:World}{M:MSet}: ∀(t:List T) (v:List Value),PList w M t v→t.length=v.length
 | [],v,h=>by grind [PList]
 |t::ts,v,h=>by
  simp only[PList]at h
  obtain⟨u,us,rfl,_,h3⟩:=h
  simp[PList.length ts us h3]
def vE(β:aQ)(G:Sp→Nat→Nat)(w:World)(M:MSet)(ts:List T)(D:List Value):Prop:=
 ∀r G',(∀k g,g≤G .S k→r .S k g=β .S k g)→(∀k,G .S k≤G' .S k)→av r G' w M ts D
def ky(sp:Sp)(bx:Bool)(β:aQ)(G:Sp→Nat→Nat)(w:World)(M:MSet)(ts:List T)(r:List Value):Prop:=
 match bx,sp with
 |false,_=>PList w M ts r
 |true,.L=>av β G w M ts r
 |true,.S=>vE β G w M ts r
theorem vE.toV{β:aQ}{G:Sp→Nat→Nat}{w:World}{M:MSet}{ts:List T}{r:List Value}(h:vE β G w M ts r):av β G w M ts r:=h β G (fun _ _ _=>rfl) (fun _=>Nat.le_refl _)
theorem vE.mono{β ba:aQ}{G G':Sp→Nat→Nat}{w w':World}{M M':MSet}{ts:List T}{r:List Value}(k:dG w M w' M')(DQ: ∀n g,g≤G .S n→ba .S n g=β .S n g)(D: ∀n,G .S n≤G' .S n)(h:vE β G w M ts r):vE ba G' w' M' ts r:=
 fun b g h1 h2=>av.mono k (fun _ _ _ _=>rfl) (fun _ _=>Nat.le_refl _) _ _ (h b g (fun n x hx=>(h1 n x (Nat.le_trans hx (D n))).trans (DQ n x hx)) (fun n=>Nat.le_trans (D n) (h2 n)))
theorem ky.toV{sp:Sp}{bx:Bool}{β:aQ}{G:Sp→Nat→Nat}{w:World}{M:MSet}{ts:List T}{r:List Value}(h:ky sp bx β G w M ts r):av β G w M ts r:=by
 cases bx
 ·exact PList.toV β G _ _ h
 ·cases sp
  ·exact h
  ·exact vE.toV h
def ky.ofP{sp:Sp}{bx:Bool}{β:aQ}{G:Sp→Nat→Nat}{w:World}{M:MSet}{ts:List T}{r:List Value}(h:PList w M ts r):ky sp bx β G w M ts r:=by
 cases bx
 ·exact h
 ·cases sp
  ·exact PList.toV β G _ _ h
  ·exact fun D G' _ _=>PList.toV D G' _ _ h
theorem ky.mono{sp:Sp}{bx:Bool}{β ba:aQ}{G G':Sp→Nat→Nat}{w w':World}{M M':MSet}{ts:List T}{r:List Value}(k:dG w M w' M')(DQ: ∀sp n g,g≤G sp n→ba sp n g=β sp n g)(D: ∀sp n,G sp n≤G' sp n)
  (h:ky sp bx β G w M ts r):ky sp bx ba G' w' M' ts r:=by
 cases bx
 ·exact PList.mono k _ _ h
 ·cases sp
  ·exact av.mono k DQ D _ _ h
  ·exact vE.mono k (DQ .S) (D .S) h
abbrev St.gens(st:St)(sp:Sp)(k:Nat):Nat:=(st.get sp k).g
def live(e:ah):Prop:=match e.ob with| .none=>False|_=>True
def dV(β:aQ)(G:Sp→Nat→Nat)(w:World)(M:MSet)(sp:Sp)(k:Nat)(e:ah):Prop:=
 match e.ob with
 | .none=>True
 | .cells cs F bx=> ∃c el fz,w.heap[(β sp k e.g).blk]? =some (.cells c el fz)∧(β sp k e.g).off+(β sp k e.g).ext≤c.size∧cs.length≤(β sp k e.g).ext∧
     fz=(0,0)∧
     ky sp bx β G w M cs ((c.toList.drop (β sp k e.g).off).take cs.length)∧
     (∀j,F≤j→j<(β sp k e.g).ext→M (β sp k e.g).blk ((β sp k e.g).off+j))∧cs.all single=true∧F≤cs.length
 | .map ks H fz=> ∃D r,w.heap[(β sp k e.g).blk]? =some (.map D r)∧MapKept.Stamped D r∧PList w M ks (D.toList.map (·.key))∧PList w M H (D.toList.map (·.val))∧(fz=false→ ∀o,M (β sp k e.g).blk o)
structure eZ where
 w:World
 M:MSet
 SB:Nat→Prop
structure bh (B:eZ) (st:St) (w:World) (β:aQ) (M:MSet):Prop where
 obj: ∀sp k,dV β st.gens w M sp k (st.get sp k)
 dist: ∀sp k dB k',live (st.get sp k)→live (st.get dB k')→(β sp k (st.gens sp k)).blk=(β dB k' (st.gens dB k')).blk→sp=dB∧k=k'
 mlt: ∀b o,M b o→b<w.heap.size
 lblk: ∀k,live (st.get .L k)→B.w.heap.size≤(β .L k (st.gens .L k)).blk
 sblk: ∀k,live (st.get .S k)→B.SB (β .S k (st.gens .S k)).blk∨B.w.heap.size≤(β .S k (st.gens .S k)).blk
 os:w.os=B.w.os
 tape:w.tape=B.w.tape
 output:w.output=B.w.output
 size:B.w.heap.size≤w.heap.size
 same: ∀b,b<B.w.heap.size→ ¬B.SB b→w.heap[b]? =B.w.heap[b]?
 keep:dG B.w B.M w M
 msup: ∀b o,b<B.w.heap.size→ ¬B.SB b→B.M b o→M b o
structure Tr (st:St) (w:World) (β:aQ) (M:MSet) (bt:St) (w':World) (ba:aQ) (M':MSet):Prop where
 keep:dG w M w' M'
 beta: ∀sp k g,g≤st.gens sp k→ba sp k g=β sp k g
 gens: ∀sp k,st.gens sp k≤bt.gens sp k
def dG.refl(w:World)(M:MSet):dG w M w M:=⟨fun _ _ _ h _=>h,fun _ _ _ h _=>h,fun _ _ _ h=>h⟩
def dG.trans{w w' D:World}{M M' M'':MSet}(a:dG w M w' M')(b:dG w' M' D M'')(hs:w.heap.size≤w'.heap.size):dG w M D M'':=
 ⟨fun x o v h r=>b.cell x o v (a.cell x o v h r) (fun F=>r (a.m _ _ (vD h) F)),
  fun x H c h r=>b.map x H c (a.map x H c h r) (fun o F=>r o (a.m _ _ (mR h) F)),
  fun x o h r=>a.m x o h (b.m x o (Nat.lt_of_lt_of_le h hs) r)⟩
def Tr.refl(st:St)(w:World)(β:aQ)(M:MSet):Tr st w β M st w β M:=⟨.refl w M,fun _ _ _ _=>rfl,fun _ _=>Nat.le_refl _⟩
def Tr.trans{st F r:St}{w w' D:World}{β ba azH:aQ}{M M' M'':MSet}(a:Tr st w β M F w' ba M')(b:Tr F w' ba M' r D azH M'')(hs:w.heap.size≤w'.heap.size):
  Tr st w β M r D azH M'':=
 ⟨a.keep.trans b.keep hs,fun sp k g h=>(b.beta sp k g (Nat.le_trans h (a.gens sp k))).trans (a.beta sp k g h),fun sp k=>Nat.le_trans (a.gens sp k) (b.gens sp k)⟩
theorem Tr.val{st r:St}{w w':World}{β ba:aQ}{M M':MSet}(a:Tr st w β M r w' ba M'){t:T}{v:Value}(h:aq β st.gens w M t v):aq ba r.gens w' M' t v:=
 aq.mono a.keep a.beta a.gens t v h
structure jk (st:St) (a:Act) (w:World) (β:aQ) (M:MSet) (n:Nat):Prop where
 size:a.tmps.size=n
 defers:a.defers= []
 slot: ∀t,aq β st.gens w M (aa st.fr t) (a.tmps.getD t undef)
theorem fk(st:St)(sp:Sp)(k:Nat)(e:ah)(r:Sp)(k':Nat):
  (st.up (sp,k,e)).get r k'=if r=sp∧k'=k then e else st.get r k':=by
 cases sp <;> cases r <;> simp[St.up,St.get,aI,bI,oc,aE.get_set]
theorem eD(st:St)(sp:Sp)(k:Nat)(e:ah)(r:Sp)(k':Nat):
  (st.up (sp,k,e)).gens r k'=if r=sp∧k'=k then e.g else st.gens r k':=by
 unfold St.gens;rw[fk];split <;> rfl
theorem heap_alloc(w:World)(o:Obj)(b:Nat):(w.alloc o).heap[b]? =if b=w.heap.size then some o else w.heap[b]? :=by
 show(w.heap.push o)[b]? =_
 grind
theorem jl{w w':World}{b o:Nat}(h:w'.heap[b]? =w.heap[b]?):w'.cell? ⟨b,o,none⟩=w.cell? ⟨b,o,none⟩:=by
 unfold World.cell?;rw[h]
theorem dV.mono{β ba:aQ}{G G':Sp→Nat→Nat}{w w':World}{M M':MSet}{sp:Sp}{n:Nat}{e:ah}(k:dG w M w' M')(DQ: ∀sp n g,g≤G sp n→ba sp n g=β sp n g)(N: ∀sp n,G sp n≤G' sp n)
  (H:e.g≤G sp n) (D:live e→w'.heap[(β sp n e.g).blk]? =w.heap[(β sp n e.g).blk]?) (F:live e→ ∀o,M (β sp n e.g).blk o→M' (β sp n e.g).blk o)
  (h:dV β G w M sp n e):dV ba G' w' M' sp n e:=by
 unfold dV at h ⊢
 rw[DQ _ _ _ H]
 obtain⟨g,ob⟩:=e
 cases ob with
 |none=>trivial
 |cells cs O bx=>
  obtain⟨c,el,fz,h1,h2,h3,h4,h5,h6,I⟩:=h
  refine⟨c,el,fz,(D trivial).trans h1,h2,h3,h4, ?_,fun j a b=>F trivial _ (h6 j a b),I⟩
  grind [ky.mono]
 |map ks U fz=>
  obtain⟨J,r,h1,K,h2,h3,h4⟩:=h
  exact⟨J,r,(D trivial).trans h1,K,PList.mono k _ _ h2,PList.mono k _ _ h3,fun a o=>F trivial o (h4 a o)⟩
theorem bh.lt{B:eZ}{st:St}{w:World}{β:aQ}{M:MSet}(h:bh B st w β M){sp:Sp}{k:Nat}(r:live (st.get sp k)):(β sp k (st.gens sp k)).blk<w.heap.size:=by
 have:=h.obj sp k
 unfold dV at this
 unfold St.gens
 generalize st.get sp k=e at*
 obtain⟨g,ob⟩:=e
 cases ob with
 |none=>exact r.elim
 |cells cs D bx=>grind
 |map ks F fz=>grind
def qQ(w:World)(M:MSet)(o:Obj):dG w M (w.alloc o) M:=
 ⟨fun b off v h _=>by rw[jl (w:=w) (by rw[heap_alloc,if_neg (Nat.ne_of_lt (vD h))])];exact h,
  fun b r c h _=>by rw[heap_alloc,if_neg (Nat.ne_of_lt (mR h))];exact h,fun _ _ _ h=>h⟩
def pn(w:World)(M:MSet)(o:Obj):dG w M (w.alloc o) (fun b x=>M b x∨b=w.heap.size):=
 ⟨(qQ w M o).cell,(qQ w M o).map,fun _ _ r h=>h.resolve_right (Nat.ne_of_lt r)⟩
def ann{B:eZ}{st:St}{w:World}{β:aQ}{M:MSet}(h:bh B st w β M)(o:Obj):
  bh B st (w.alloc o) β M∧Tr st w β M st (w.alloc o) β M:=by
 have hk:=qQ w M o
 have hs:w.heap.size≤(w.alloc o).heap.size:=by show _≤(w.heap.push o).size;simp
 refine⟨⟨fun sp k=> ?_,h.dist,fun b x r=>Nat.lt_of_lt_of_le (h.mlt b x r) hs,h.lblk,h.sblk,h.os,h.tape,h.output,Nat.le_trans h.size hs,fun b D F=> ?_,h.keep.trans hk h.size,h.msup⟩,hk,fun _ _ _ _=>rfl,fun _ _=>Nat.le_refl _⟩
 ·exact dV.mono hk (fun _ _ _ _=>rfl) (fun _ _=>Nat.le_refl _) (Nat.le_refl _) (fun H=>by rw[heap_alloc,if_neg (Nat.ne_of_lt (h.lt H))]) (fun _ _ r=>r) (h.obj sp k)
 ·rw[heap_alloc,if_neg (by have:=h.size;omega)];exact h.same b D F
def Gs{B:eZ}{st:St}{w:World}{β:aQ}{M:MSet}(h:bh B st w β M)(n:Nat):
  bh B st {w with drawn:=n} β M∧Tr st w β M st {w with drawn:=n} β M:=by
 have hk:dG w M {w with drawn:=n} M:=⟨fun _ _ _ h _=>h,fun _ _ _ h _=>h,fun _ _ _ h=>h⟩
 refine⟨⟨fun sp k=> ?_,h.dist,h.mlt,h.lblk,h.sblk,h.os,h.tape,h.output,h.size,h.same,h.keep.trans hk h.size,h.msup⟩,hk,fun _ _ _ _=>rfl,fun _ _=>Nat.le_refl _⟩
 exact dV.mono hk (fun _ _ _ _=>rfl) (fun _ _=>Nat.le_refl _) (Nat.le_refl _) (fun _=>rfl) (fun _ _ r=>r) (h.obj sp k)
def iw(β:aQ)(sp:Sp)(k g:Nat)(s:JJ):aQ:=fun r k' D=>if r=sp∧k'=k∧D=g then s else β r k' D
theorem bN(β:aQ)(sp:Sp)(k g:Nat)(s:JJ):iw β sp k g s sp k g=s:=by simp[iw]
theorem vG(β:aQ)(sp:Sp)(k g:Nat)(s:JJ){r:Sp}{k' D:Nat}(h: ¬(r=sp∧k'=k∧D=g)):iw β sp k g s r k' D=β r k' D:=by grind [iw]
def XL{B:eZ}{st:St}{w:World}{β:aQ}{M:MSet}(h:bh B st w β M)(sp:Sp)(k g:Nat)(hg:st.gens sp k<g)(o:Obj)(ext:Nat)(ob:Ob)
  (ho:dV (iw β sp k g ⟨w.heap.size,0,ext⟩) (st.up (sp,k,⟨g,ob⟩)).gens (w.alloc o) (fun b x=>M b x∨b=w.heap.size) sp k ⟨g,ob⟩):
  bh B (st.up (sp,k,⟨g,ob⟩)) (w.alloc o) (iw β sp k g ⟨w.heap.size,0,ext⟩) (fun b x=>M b x∨b=w.heap.size)∧
  Tr st w β M (st.up (sp,k,⟨g,ob⟩)) (w.alloc o) (iw β sp k g ⟨w.heap.size,0,ext⟩) (fun b x=>M b x∨b=w.heap.size):=by
 have hk:=pn w M o
 have hs:w.heap.size≤(w.alloc o).heap.size:=by show _≤(w.heap.push o).size;simp
 have K: ∀r k' O,O≤st.gens r k'→iw β sp k g ⟨w.heap.size,0,ext⟩ r k' O=β r k' O:=by
  grind [vG]
 have W: ∀r k',st.gens r k'≤(st.up (sp,k,⟨g,ob⟩)).gens r k':=by
  intro r k'
  rw[eD]
  grind
 have N: ∀r k',(iw β sp k g ⟨w.heap.size,0,ext⟩ r k' ((st.up (sp,k,⟨g,ob⟩)).gens r k'))=if r=sp∧k'=k then⟨w.heap.size,0,ext⟩else β r k' (st.gens r k'):=by
  grind [eD,bN]
 refine⟨⟨fun r k'=> ?_,fun U X V Y H I F=> ?_,fun b x J=> ?_,fun k' D=> ?_,fun k' D=> ?_,h.os,h.tape,h.output,Nat.le_trans h.size hs,fun b K Z=> ?_,h.keep.trans hk h.size,fun b x h1 h2 h3=> .inl (h.msup b x h1 h2 h3)⟩,hk,K,W⟩
 ·rw[fk]
  split
  ·grind
  ·exact dV.mono hk K W (Nat.le_refl _) (fun D=>by rw[heap_alloc,if_neg (Nat.ne_of_lt (h.lt D))]) (fun _ _ J=> .inl J) (h.obj r k')
 ·rw[N,N]at F
  rw[fk]at H I
  by_cases e1:U=sp∧X=k <;> by_cases e2:V=sp∧Y=k
  ·grind
  ·rw[if_pos e1,if_neg e2]at F;rw[if_neg e2]at I
   exact absurd F.symm (Nat.ne_of_lt (h.lt I))
  ·rw[if_neg e1,if_pos e2]at F;rw[if_neg e1]at H
   exact absurd F (Nat.ne_of_lt (h.lt H))
  ·rw[if_neg e1,if_neg e2]at F;rw[if_neg e1]at H;rw[if_neg e2]at I
   exact h.dist _ _ _ _ H I F
 ·rcases J with J|rfl
  ·exact Nat.lt_of_lt_of_le (h.mlt b x J) hs
  ·simp_all
 ·rw[N];rw[fk]at D
  split
  ·exact h.size
  ·rename_i e;rw[if_neg e]at D;exact h.lblk k' D
 ·rw[N];rw[fk]at D
  split
  ·exact .inr h.size
  ·rename_i e;rw[if_neg e]at D;exact h.sblk k' D
 ·rw[heap_alloc,if_neg (by have:=h.size;omega)];exact h.same b K Z
def setBlock(w:World)(b:Nat)(o:Obj):World:={w with heap:=w.heap.setIfInBounds b o}
theorem dz(w:World)(b:Nat)(o:Obj)(x:Nat):(setBlock w b o).heap[x]? =if x=b∧b<w.heap.size then some o else w.heap[x]? :=by
 grind [setBlock]
theorem eh(w:World)(b:Nat)(o:Obj):(setBlock w b o).heap.size=w.heap.size:=by simp[setBlock]
def Pq{B:eZ}{st:St}{w:World}{β:aQ}{M M':MSet}(h:bh B st w β M)(sp:Sp)(k g:Nat)(ob:Ob)(W:live (st.get sp k))(hg:st.gens sp k≤g)(o:Obj)
  (BJ: ∀b x,M' b x→M b x) (F: ∀b x,b≠(β sp k (st.gens sp k)).blk→M b x→M' b x)
  (hk:dG w M (setBlock w (β sp k (st.gens sp k)).blk o) M')
  (N: ¬B.w.heap.size≤(β sp k (st.gens sp k)).blk→B.SB (β sp k (st.gens sp k)).blk)
  (ho:dV (iw β sp k g (β sp k (st.gens sp k))) (st.up (sp,k,⟨g,ob⟩)).gens (setBlock w (β sp k (st.gens sp k)).blk o) M' sp k ⟨g,ob⟩):
  bh B (st.up (sp,k,⟨g,ob⟩)) (setBlock w (β sp k (st.gens sp k)).blk o) (iw β sp k g (β sp k (st.gens sp k))) M'∧
  Tr st w β M (st.up (sp,k,⟨g,ob⟩)) (setBlock w (β sp k (st.gens sp k)).blk o) (iw β sp k g (β sp k (st.gens sp k))) M':=by
 have I: ∀r k' O,O≤st.gens r k'→iw β sp k g (β sp k (st.gens sp k)) r k' O=β r k' O:=by
  grind [bN,Nat.le_antisymm,vG]
 have V: ∀r k',st.gens r k'≤(st.up (sp,k,⟨g,ob⟩)).gens r k':=by
  intro r k'
  rw[eD]
  grind
 have J: ∀r k',(iw β sp k g (β sp k (st.gens sp k)) r k' ((st.up (sp,k,⟨g,ob⟩)).gens r k'))=β r k' (st.gens r k'):=by
  grind [eD,bN]
 have EX: ∀r k',live ((st.up (sp,k,⟨g,ob⟩)).get r k')→live (st.get r k'):=by
  grind [fk]
 refine⟨⟨fun r k'=> ?_,fun X k1 Y k2 Z l2 K=> ?_,fun b x U=> ?_,fun k' D=> ?_,fun k' D=> ?_,h.os,h.tape,h.output, ?_,fun b I hn=> ?_,h.keep.trans hk h.size,fun b x h1 h2 h3=> ?_⟩,hk,I,V⟩
 ·by_cases e:r=sp∧k'=k
  ·grind [fk]
  ·rw[fk,if_neg e]
   have H:live (st.get r k')→(β r k' (st.gens r k')).blk≠(β sp k (st.gens sp k)).blk:=fun l K=>e (h.dist _ _ _ _ l W K)
   exact dV.mono hk I V (Nat.le_refl _) (fun l=>by rw[dz,if_neg (fun x=>H l x.1)]) (fun l x U=>F _ _ (H l) U) (h.obj r k')
 ·rw[J,J]at K;exact h.dist _ _ _ _ (EX _ _ Z) (EX _ _ l2) K
 ·rw[eh];exact h.mlt b x (BJ b x U)
 ·rw[J];exact h.lblk k' (EX _ _ D)
 ·rw[J];exact h.sblk k' (EX _ _ D)
 ·rw[eh];exact h.size
 ·rw[dz,if_neg]
  ·exact h.same b I hn
  grind
 ·refine F b x ?_ (h.msup b x h1 h2 h3)
  grind
def bh.base{B:eZ}{st:St}{w:World}{β:aQ}{M:MSet}(h:bh B st w β M){sp:Sp}{k:Nat}(r:live (st.get sp k)):
  ¬B.w.heap.size≤(β sp k (st.gens sp k)).blk→B.SB (β sp k (st.gens sp k)).blk:=by
 intro D
 cases sp with
 |L=>exact absurd (h.lblk k r) D
 |S=>exact(h.sblk k r).resolve_right D
theorem jZ{w:World}{b:Nat}{o:Obj}(h:w.heap[b]? =some o):setBlock w b o=w:=by
 unfold setBlock
 have:w.heap.setIfInBounds b o=w.heap:=by
  grind
 rw[this]
theorem om(β:aQ)(sp:Sp)(k g:Nat):iw β sp k g (β sp k g)=β:=by
 grind [iw]
def EY(M:MSet)(s:JJ)(n:Nat):MSet:=fun b x=>M b x∧ ¬(b=s.blk∧s.off≤x∧x<s.off+n)
def Pr(M:MSet)(r:Nat):MSet:=fun b x=>M b x∧b≠r
def dq{w:World}{M M':MSet}(h: ∀b x,M' b x→M b x):dG w M w M':=⟨fun _ _ _ h _=>h,fun _ _ _ h _=>h,fun b x _ r=>h b x r⟩
def BK{B:eZ}{st:St}{w:World}{β:aQ}{M:MSet}(h:bh B st w β M){sp:Sp}{k g O:Nat}{cs:List T}{bx:Bool}(F:st.get sp k=⟨g,.cells cs O bx⟩):
  bh B (st.up (sp,k,⟨g,.cells cs cs.length bx⟩)) w β (EY M (β sp k g) cs.length)∧
  Tr st w β M (st.up (sp,k,⟨g,.cells cs cs.length bx⟩)) w β (EY M (β sp k g) cs.length):=by
 have D:st.gens sp k=g:=by unfold St.gens;rw[F]
 have J:live (st.get sp k):=by rw[F];trivial
 have H:=h.obj sp k
 rw[F]at H
 unfold dV at H
 obtain⟨c,el,fz,h1,h2,h3,h4,h5,h6,K⟩:=H
 have BJ: ∀b x,EY M (β sp k g) cs.length b x→M b x:=fun _ _ I=>I.1
 have hk:=dq (w:=w) BJ
 have r:=Pq (M':=EY M (β sp k g) cs.length) h sp k g (.cells cs cs.length bx) J (Nat.le_of_eq D) (.cells c el fz) BJ
  (fun b x U I=>⟨I,fun hc=>U (by rw[D];exact hc.1)⟩) (by rw[D,jZ h1];exact hk) (h.base J)
 rw[D,jZ h1,om]at r
 refine r ⟨c,el,fz,h1,h2,h3,h4, ?_,fun j a b=>⟨h6 j (Nat.le_trans K.2 a) b,fun hc=>by have:=hc.2.2;dsimp only at a b this;omega⟩,K.1,Nat.le_refl _⟩
 have V: ∀N k',st.gens N k'≤(st.up (sp,k,⟨g,.cells cs cs.length bx⟩)).gens N k':=by
  simp_all[eD,Nat.le_of_eq,Nat.le_refl]
 exact ky.mono hk (fun _ _ _ _=>rfl) V h5
def JK{B:eZ}{st:St}{w:World}{β:aQ}{M:MSet}(h:bh B st w β M){sp:Sp}{k g:Nat}{ks F:List T}{f:Bool}(I:st.get sp k=⟨g,.map ks F f⟩):
  bh B (st.up (sp,k,⟨g,.map ks F true⟩)) w β (Pr M (β sp k g).blk)∧
  Tr st w β M (st.up (sp,k,⟨g,.map ks F true⟩)) w β (Pr M (β sp k g).blk):=by
 have H:st.gens sp k=g:=by show(st.get sp k).g=g;rw[I]
 have N:live (st.get sp k):=by rw[I];trivial
 have J:=h.obj sp k
 rw[I]at J
 unfold dV at J
 obtain⟨O,r,h1,V,h2,h3,h4⟩:=J
 have BJ: ∀b x,Pr M (β sp k g).blk b x→M b x:=fun _ _ K=>K.1
 have hk:=dq (w:=w) BJ
 have D:=Pq (M':=Pr M (β sp k g).blk) h sp k g (.map ks F true) N (Nat.le_of_eq H) (.map O r) BJ
  (fun b x U K=>⟨K,by rw[H]at U;exact U⟩) (by rw[H,jZ h1];exact hk) (h.base N)
 rw[H,jZ h1,om]at D
 exact D ⟨O,r,h1,V,PList.mono hk _ _ h2,PList.mono hk _ _ h3,fun e=>by cases e⟩
theorem PList.get{w:World}{M:MSet}: ∀{ts:List T} {r:List Value},PList w M ts r→ ∀{j:Nat} {t:T},ts[j]? =some t→ ∃v,r[j]? =some v∧PRel w M t v
 | [],r,h,j,t,D=>by simp at D
 |x::xs,r,h,j,t,D=>by
  simp only[PList]at h
  obtain⟨u,us,rfl,h2,h3⟩:=h
  cases j with
  |zero=>grind
  |succ j=>simp at D ⊢; exact PList.get h3 D
theorem av.get{β:aQ}{G:Sp→Nat→Nat}{w:World}{M:MSet}: ∀{ts:List T} {r:List Value},av β G w M ts r→ ∀{j:Nat} {t:T},ts[j]? =some t→ ∃v,r[j]? =some v∧aq β G w M t v
 | [],r,h,j,t,D=>by simp at D
 |x::xs,r,h,j,t,D=>by
  simp only[av]at h
  obtain⟨u,us,rfl,h2,h3⟩:=h
  cases j with
  |zero=>grind
  |succ j=>simp at D ⊢; exact av.get h3 D
theorem av.drop{β:aQ}{G:Sp→Nat→Nat}{w:World}{M:MSet}: ∀{ts:List T} {r:List Value} (n:Nat),av β G w M ts r→av β G w M (ts.drop n) (r.drop n)
 |ts,r,0,h=>by simpa using h
 | [],r,n+1,h=>by grind [av]
 |x::xs,r,n+1,h=>by
  simp only[av]at h
  obtain⟨u,us,rfl,h2,h3⟩:=h
  simpa using av.drop n h3
theorem av.take{β:aQ}{G:Sp→Nat→Nat}{w:World}{M:MSet}: ∀{ts:List T} {r:List Value} (n:Nat),av β G w M ts r→av β G w M (ts.take n) (r.take n)
 |ts,r,0,h=>by simp[av]
 | [],r,n+1,h=>by grind [av]
 |x::xs,r,n+1,h=>by
  simp only[av]at h
  obtain⟨u,us,rfl,h2,h3⟩:=h
  simp only[List.take_succ_cons,av]
  exact⟨u,_,rfl,h2,av.take n h3⟩
theorem PList.drop{w:World}{M:MSet}: ∀{ts:List T} {r:List Value} (n:Nat),PList w M ts r→PList w M (ts.drop n) (r.drop n)
 |ts,r,0,h=>by simpa using h
 | [],r,n+1,h=>by grind [PList]
 |x::xs,r,n+1,h=>by
  simp only[PList]at h
  obtain⟨u,us,rfl,h2,h3⟩:=h
  simpa using PList.drop n h3
theorem PList.take{w:World}{M:MSet}: ∀{ts:List T} {r:List Value} (n:Nat),PList w M ts r→PList w M (ts.take n) (r.take n)
 |ts,r,0,h=>by simp[PList]
 | [],r,n+1,h=>by grind [PList]
 |x::xs,r,n+1,h=>by
  simp only[PList]at h
  obtain⟨u,us,rfl,h2,h3⟩:=h
  simp only[List.take_succ_cons,PList]
  exact⟨u,_,rfl,h2,PList.take n h3⟩
theorem PList.append{w:World}{M:MSet}: ∀{ts BL:List T} {r D:List Value},PList w M ts r→PList w M BL D→PList w M (ts++BL) (r++D)
 | [],BL,r,D,h,F=>by grind [PList]
 |x::xs,BL,r,D,h,F=>by
  simp only[PList]at h
  obtain⟨u,us,rfl,h2,h3⟩:=h
  simp only[List.cons_append,PList]
  exact⟨u,_,rfl,h2,PList.append h3 F⟩
theorem av.append{β:aQ}{G:Sp→Nat→Nat}{w:World}{M:MSet}: ∀{ts BL:List T} {r D:List Value},av β G w M ts r→av β G w M BL D→av β G w M (ts++BL) (r++D)
 | [],BL,r,D,h,F=>by grind [av]
 |x::xs,BL,r,D,h,F=>by
  simp only[av]at h
  obtain⟨u,us,rfl,h2,h3⟩:=h
  simp only[List.cons_append,av]
  exact⟨u,_,rfl,h2,av.append h3 F⟩
theorem PCells.of{w:World}{M:MSet}{r:Nat}{c:Array Value}{el:TypeId}{fz:Nat×Nat}(H:w.heap[r]? =some (.cells c el fz)):
  ∀(ts:List T) (off:Nat),PList w M ts ((c.toList.drop off).take ts.length)→(∀x,off≤x→x<off+ts.length→ ¬M r x)→ts.all single=true→PCells w M r off ts
 | [],off,_,_,_=>by simp only[PCells]
 |t::ts,off,h,I,hs=>by
  simp only[PList,List.length_cons]at h
  obtain⟨u,us,h1,h2,h3⟩:=h
  simp only[List.all_cons,Bool.and_eq_true]at hs
  have D:w.cell? ⟨r,off,none⟩=some u:=by
   unfold World.cell?;rw[H]
   have:((c.toList.drop off).take (ts.length+1))[0]? =some u:=by rw[h1];rfl
   grind
  have F:us=(c.toList.drop (off+1)).take ts.length:=by
   apply List.ext_getElem?
   intro j
   have:=congrArg (fun l=>l[j+1]?) h1
   grind
  simp only[PCells]
  exact⟨⟨u,D,I off (Nat.le_refl _) yv,h2,hs.1⟩,PCells.of H ts (off+1) (F▸h3) (fun x h1 h2=>I x zV (by simp;omega)) hs.2⟩
def Ps(e:ah):ah:=
 match e.ob with
 | .cells cs _ bx=>⟨e.g,.cells cs cs.length bx⟩
 | .map ks r _=>⟨e.g,.map ks r true⟩
 | .none=>e
def Fz(st r:St):Prop:=r.fr=st.fr∧r.sh.length=st.sh.length∧ ∀sp k,r.get sp k=st.get sp k∨r.get sp k=Ps (st.get sp k)
def Fz.refl(st:St):Fz st st:=⟨rfl,rfl,fun _ _=> .inl rfl⟩
theorem aei(e:ah):(Ps e).g=e.g:=by grind [Ps]
theorem Fz.gens{st r:St}(h:Fz st r):r.gens=st.gens:=by
 funext sp k
 rcases h.2.2 sp k with e|e
 ·grind
 ·grind [aei]
theorem kz(l:List ah)(k:Nat)(e:ah)(h:k<l.length):(bI l k e).length=l.length:=by
 unfold bI
 induction l generalizing k with
 |nil=>simp at h
 |cons x xs ih=>
  cases k with
  |zero=>simp[nI]
  |succ k=>grind [nI,List.length_cons]
theorem EZ{l:List ah}{k:Nat}(h:l.length≤k):aI l k=eS:=by
 unfold aI
 induction l generalizing k with
 |nil=>simp[aH]
 |cons x xs ih=>
  cases k with
  |zero=>simp at h
  |succ k=>grind [aH]
def Pt{st:St}{k:Nat}(h:live (st.get .S k)):k<st.sh.length:=by
 rcases Nat.lt_or_ge k st.sh.length with h'|h'
 ·exact h'
 ·simp only[St.get,EZ h']at h;exact h.elim
theorem Fz.up{st r:St}(h:Fz st r){sp:Sp}{k:Nat}{e:ah}(D:st.get sp k=e)(F:live e):Fz st (r.up (sp,k,Ps e)):=by
 refine⟨?_, ?_,fun H k'=> ?_⟩
 ·rw[←h.1];cases sp <;> rfl
 ·rw[←h.2.1]
  cases sp with
  |L=>rfl
  |S=>
   have hk:k<r.sh.length:=by rw[h.2.1];exact Pt (D▸F)
   simp[St.up,kz _ _ _ hk]
 ·rw[fk]
  split
  ·grind
  ·exact h.2.2 H k'
def po(keep:Bool)(β:aQ)(G:Sp→Nat→Nat)(w:World)(M:MSet)(t:T)(v:Value):Prop:=
 if keep then∀r G',(∀k g,g≤G .S k→r .S k g=β .S k g)→(∀k,G .S k≤G' .S k)→aq r G' w M t v else PRel w M t v
def jm(keep:Bool)(β:aQ)(G:Sp→Nat→Nat)(w:World)(M:MSet)(t:List T)(v:List Value):Prop:=
 if keep then∀r G',(∀k g,g≤G .S k→r .S k g=β .S k g)→(∀k,G .S k≤G' .S k)→av r G' w M t v else PList w M t v
def po.ofP{keep:Bool}{β:aQ}{G:Sp→Nat→Nat}{w:World}{M:MSet}{t:T}{v:Value}(h:PRel w M t v):po keep β G w M t v:=by
 cases keep
 ·exact h
 ·exact fun r G' _ _=>PRel.toV r G' t v h
theorem po.toV{keep:Bool}{β:aQ}{G:Sp→Nat→Nat}{w:World}{M:MSet}{t:T}{v:Value}(h:po keep β G w M t v):aq β G w M t v:=by
 cases keep
 ·exact PRel.toV β G t v h
 ·exact h β G (fun _ _ _=>rfl) (fun _=>Nat.le_refl _)
theorem jm.toV{keep:Bool}{β:aQ}{G:Sp→Nat→Nat}{w:World}{M:MSet}{t:List T}{v:List Value}(h:jm keep β G w M t v):av β G w M t v:=by
 cases keep
 ·exact PList.toV β G t v h
 ·exact h β G (fun _ _ _=>rfl) (fun _=>Nat.le_refl _)
theorem po.mono{keep:Bool}{β:aQ}{G:Sp→Nat→Nat}{w w':World}{M M':MSet}{t:T}{v:Value}(k:dG w M w' M')(h:po keep β G w M t v):po keep β G w' M' t v:=by
 cases keep
 ·exact PRel.mono k t v h
 ·exact fun r G' a b=>aq.mono k (fun _ _ _ _=>rfl) (fun _ _=>Nat.le_refl _) t v (h r G' a b)
theorem jm.mono{keep:Bool}{β:aQ}{G:Sp→Nat→Nat}{w w':World}{M M':MSet}{t:List T}{v:List Value}(k:dG w M w' M')(h:jm keep β G w M t v):jm keep β G w' M' t v:=by
 cases keep
 ·exact PList.mono k t v h
 ·exact fun r G' a b=>av.mono k (fun _ _ _ _=>rfl) (fun _ _=>Nat.le_refl _) t v (h r G' a b)
def jm.nil{keep:Bool}{β:aQ}{G:Sp→Nat→Nat}{w:World}{M:MSet}:jm keep β G w M [] []:=by
 cases keep
 ·exact(by simp[PList]:PList w M [] [])
 ·exact fun r G' _ _=>by simp[av]
def jm.cons{keep:Bool}{β:aQ}{G:Sp→Nat→Nat}{w:World}{M:MSet}{t:T}{v:Value}{ts:List T}{r:List Value}(h:po keep β G w M t v)(D:jm keep β G w M ts r):jm keep β G w M (t::ts) (v::r):=by
 cases keep
 ·show PList w M (t::ts) (v::r)
  simp only[PList];exact⟨v,r,rfl,h,D⟩
 ·exact fun F G' a b=>by simp only[av];exact⟨v,r,rfl,h F G' a b,D F G' a b⟩
theorem Q.run_bind{α γ:Type}(h:Sp→Nat→ah)(nx:Nat): ∀(q:Q α) (f:α→Q γ),(q.bind f).run h nx=(q.run h nx).bind fun a=>(f a).run h nx
 | .ret a,f=>by simp[Q.bind,Q.run]
 | .fail,f=>by simp[Q.bind,Q.run]
 | .rd sp k g,f=>by simp_all[Q.bind,Q.run,Q.run_bind]
 | .new g,f=>by simp_all[Q.bind,Q.run,Q.run_bind]
theorem dO(st:St)(a b:List Up):st.ups (a++b)=(st.ups a).ups b:=by
 induction a generalizing st with
 |nil=>rfl
 |cons x xs ih=>grind [St.ups]
def azJ(keep:Bool)(st:St)(q:Q (T×List Up))(t:T):Prop:=
 ∀(B:eZ) (r:St) (w:World) (β:aQ) (M:MSet) (v:Value) (D:T) (us:List Up) (nx:Nat),Fz st r→bh B r w β M→aq β st.gens w M t v→q.run st.get nx=some (D,us)→
  ∃M',bh B (r.ups us) w β M'∧Fz st (r.ups us)∧(∀b x,M' b x→M b x)∧po keep β st.gens w M' D v∧(single t=true→single D=true)
def azK(keep:Bool)(st:St)(q:Q (List T×List Up))(ts:List T):Prop:=
 ∀(B:eZ) (r:St) (w:World) (β:aQ) (M:MSet) (D:List Value) (BL:List T) (us:List Up) (nx:Nat),Fz st r→bh B r w β M→av β st.gens w M ts D→q.run st.get nx=some (BL,us)→
  ∃M',bh B (r.ups us) w β M'∧Fz st (r.ups us)∧(∀b x,M' b x→M b x)∧jm keep β st.gens w M' BL D∧(ts.all single=true→BL.all single=true)∧BL.length=ts.length
theorem j0{keep:Bool}{st:St}{f:T→Q (T×List Up)}(J: ∀t,azJ keep st (f t) t): ∀ts,azK keep st (bo f ts) ts
 | []=>by
   intro B D w β M U BL us nx F h r hr
   simp only[av]at r;subst r
   simp[bo,Q.run]at hr
   obtain⟨rfl,rfl⟩:=hr
   exact⟨M,h,F,fun _ _ h=>h,jm.nil,fun h=>h,rfl⟩
 |t::ts=>by
  intro B D w β M U BL us nx F h r hr
  simp only[av]at r
  obtain⟨u,K,rfl,h1,h2⟩:=r
  simp only[bo,Q.run_bind]at hr
  cases h3:(f t).run st.get nx with
  |none=>simp[h3]at hr
  |some p=>
   obtain⟨V,JL⟩:=p
   simp only[h3,Option.bind_some]at hr
   cases h4:(bo f ts).run st.get nx with
   |none=>simp[h4]at hr
   |some q=>
    obtain⟨H,I⟩:=q
    simp only[h4,Option.bind_some,Q.run,Option.some.injEq,Prod.mk.injEq]at hr
    obtain⟨rfl,rfl⟩:=hr
    obtain⟨M1,a1,a2,N,W,a5⟩:=J t B D w β M u V JL nx F h h1 h3
    have X:=dq (w:=w) N
    obtain⟨M2,Y,Z,O,b4,b5,b6⟩:=j0 J ts B (D.ups JL) w β M1 K H I nx a2 a1 (av.mono X (fun _ _ _ _=>rfl) (fun _ _=>Nat.le_refl _) ts K h2) h4
    refine⟨M2,by rw[dO];exact Y,by rw[dO];exact Z,fun b x hm=>N b x (O b x hm),jm.cons (W.mono (dq O)) b4, ?_,by simp[b6]⟩
    grind
def iy{cs:List T}(h:cs.all single=true)(a n:Nat):((cs.drop a).take n).all single=true:=by
 grind
def zr(keep:Bool)(st:St): ∀(n:Nat) (t:T),azJ keep st (fz keep n t) t:=by
 intro n
 induction n generalizing keep with
 |zero=>intro t B D w β M v t' us nx _ _ _ hr;simp[fz,Q.run]at hr
 |succ n ih=>
  intro t B D w β M v t' us nx F h U hr
  have plain:(t',us)=(t,[])→(PRel w M t v)→ ∃M',bh B (D.ups us) w β M'∧Fz st (D.ups us)∧(∀b x,M' b x→M b x)∧po keep β st.gens w M' t' v∧(single t=true→single t'=true):=by
   intro e hp
   simp only[Prod.mk.injEq]at e
   obtain⟨rfl,rfl⟩:=e
   exact⟨M,h,F,fun _ _ h=>h,po.ofP hp,fun h=>h⟩
  cases t with
  |b x=>grind [fz,Q.run,aq,PRel]
  |i k x=>grind [fz,Q.run,aq,PRel]
  |s x=>grind [fz,Q.run,aq,PRel]
  |nilsl=>grind [fz,Q.run,aq,PRel]
  |sl cs len ex=>grind [fz,Q.run,aq]
  |nilptr=>grind [fz,Q.run,aq,PRel]
  |vp cs=>grind [fz,Q.run,aq]
  |nilmp=>grind [fz,Q.run,aq,PRel]
  |vm ks vs=>grind [fz,Q.run,aq]
  |nilfn=>grind [fz,Q.run,aq,PRel]
  |any=>grind [fz,Q.run,PRel]
  |fn f a c=>
   simp only[aq]at U
   obtain⟨fa,fc,rfl,h1,h2⟩:=U
   simp only[fz,Q.run_bind]at hr
   cases h3:(bo (fz keep n) a).run st.get nx with
   |none=>simp[h3]at hr
   |some p=>
    obtain⟨a1,JL⟩:=p
    simp only[h3,Option.bind_some]at hr
    cases h4:(bo (fz keep n) c).run st.get nx with
    |none=>simp[h4]at hr
    |some q=>
     obtain⟨c2,us2⟩:=q
     simp only[h4,Option.bind_some,Q.run,Option.some.injEq,Prod.mk.injEq]at hr
     obtain⟨rfl,rfl⟩:=hr
     obtain⟨M1,x1,x2,x3,x4,x5,_⟩:=j0 (fun t=>ih keep t) a B D w β M _ a1 JL nx F h h1 h3
     have k1:=dq (w:=w) x3
     obtain⟨M2,y1,y2,y3,y4,y5,_⟩:=j0 (fun t=>ih keep t) c B (D.ups JL) w β M1 _ c2 us2 nx x2 x1 (av.mono k1 (fun _ _ _ _=>rfl) (fun _ _=>Nat.le_refl _) _ _ h2) h4
     refine⟨M2,by rw[dO];exact y1,by rw[dO];exact y2,fun b x H=>x3 b x (y3 b x H), ?_,fun _=>rfl⟩
     have r:=jm.mono (dq (w:=w) y3) x4
     cases keep
     ·show PRel w M2 (.fn f a1 c2) (.func (.func f) fa fc)
      simp only[PRel];exact⟨fa,fc,rfl,r,y4⟩
     ·exact fun Y G' p q=>by simp only[aq];exact⟨fa,fc,rfl,r Y G' p q,y4 Y G' p q⟩
  |agg cs=>
   simp only[aq]at U
   obtain⟨a,rfl,h1,h2⟩:=U
   simp only[fz,Q.run_bind]at hr
   cases h3:(bo (fz keep n) cs).run st.get nx with
   |none=>simp[h3]at hr
   |some p=>
    obtain⟨a1,JL⟩:=p
    simp only[h3,Option.bind_some,Q.run,Option.some.injEq,Prod.mk.injEq]at hr
    obtain⟨rfl,rfl⟩:=hr
    obtain⟨M1,x1,x2,x3,x4,x5,_⟩:=j0 (fun t=>ih keep t) cs B D w β M _ a1 JL nx F h h1 h3
    refine⟨M1,x1,x2,x3, ?_,fun h=>h⟩
    cases keep
    ·show PRel w M1 (.agg a1) (.agg a)
     simp only[PRel];exact⟨a,rfl,x4,x5 h2⟩
    ·exact fun Y G' p q=>by simp only[aq];exact⟨a,rfl,x4 Y G' p q,x5 h2⟩
  |tup cs=>
   simp only[aq]at U
   obtain⟨a,rfl,h1⟩:=U
   simp only[fz,Q.run_bind]at hr
   cases h3:(bo (fz keep n) cs).run st.get nx with
   |none=>simp[h3]at hr
   |some p=>
    obtain⟨a1,JL⟩:=p
    simp only[h3,Option.bind_some,Q.run,Option.some.injEq,Prod.mk.injEq]at hr
    obtain⟨rfl,rfl⟩:=hr
    obtain⟨M1,x1,x2,x3,x4,x5,_⟩:=j0 (fun t=>ih keep t) cs B D w β M _ a1 JL nx F h h1 h3
    refine⟨M1,x1,x2,x3, ?_,fun h=>h⟩
    cases keep
    ·show PRel w M1 (.tup a1) (.tuple a)
     simp only[PRel];exact⟨a,rfl,x4⟩
    ·exact fun Y G' p q=>by simp only[aq];exact⟨a,rfl,x4 Y G' p q⟩
  |isl sp k g off len sz=>
   simp only[fz]at hr
   by_cases hk:(keep&&sp== .S)=true
   ·simp only[hk,if_true,Q.run,Option.some.injEq,Prod.mk.injEq]at hr
    obtain⟨rfl,rfl⟩:=hr
    simp only[Bool.and_eq_true,beq_iff_eq]at hk
    obtain⟨rfl,rfl⟩:=hk
    refine⟨M,h,F,fun _ _ h=>h,fun Y G' p q=> ?_,fun h=>h⟩
    grind [aq]
   ·rw[if_neg hk]at hr
    simp only[Q.run]at hr
    split at hr
    ·rename_i W
     generalize I:st.get sp k=e at hr W
     obtain⟨V,ob⟩:=e
     dsimp only at W;subst W
     cases ob with
     |none=>simp[Q.run]at hr
     |map _ _ _=>simp[Q.run]at hr
     |cells cs wm bx=>
      cases bx with
      |true=>
       dsimp only at hr
       split at hr
       ·rename_i hle
        simp only[Q.run_bind]at hr
        cases h3:(bo (fz false n) ((cs.drop off).take (len*sz))).run st.get nx with
        |none=>simp[h3]at hr
        |some p=>
         obtain⟨c1,JL⟩:=p
         simp only[h3,Option.bind_some,Q.run,Option.some.injEq,Prod.mk.injEq]at hr
         obtain⟨rfl,rfl⟩:=hr
         have gg:D.gens=st.gens:=F.gens
         have K: ∃US,D.get sp k=⟨V,.cells cs US true⟩:=by
          rcases F.2.2 sp k with x|x
          ·exact⟨wm,by rw[x,I]⟩
          ·exact⟨cs.length,by rw[x,I];rfl⟩
         obtain⟨wm0,K⟩:=K
         have N:=h.obj sp k
         rw[K]at N
         unfold dV at N
         obtain⟨c,el,fzz,X,o2,o3,o4,o5,o6,o7,o8⟩:=N
         dsimp only at X o2 o3 o4 o5 o6
         have o5':av β st.gens w M cs ((c.toList.drop (β sp k V).off).take cs.length):=by
          rw[←gg]
          exact o5.toV
         have J:((cs.drop off).take (len*sz)).length=len*sz:=by simp;omega
         obtain⟨M1,x1,x2,x3,x4,x5,x6⟩:=j0 (fun t=>ih false t) ((cs.drop off).take (len*sz)) B D w β M _ c1 JL nx F h (av.take (len*sz) (av.drop off o5')) h3
         have DR: ∃US,(D.ups JL).get sp k=⟨V,.cells cs US true⟩:=by
          rcases x2.2.2 sp k with x|x
          ·exact⟨wm,by rw[x,I]⟩
          ·exact⟨cs.length,by rw[x,I];rfl⟩
         obtain⟨US,DR⟩:=DR
         obtain⟨Z,r2⟩:=BK x1 DR
         have O:=x2.up I trivial
         rw[dO]
         refine⟨_,Z,O,fun b x H=>x3 b x H.1, ?_,fun _=>rfl⟩
         apply po.ofP
         simp only[aq]at U
         obtain⟨Gt,cap,rfl,yh,UT⟩:=U
         simp only[PRel]
         refine⟨_,_,cap,none,rfl,yh,(fun e=>by cases e),.inl rfl, ?_⟩
         have r:PList w (EY M1 (β sp k V) cs.length) c1 (((c.toList.drop (β sp k V).off).take cs.length).drop off |>.take (len*sz)):=PList.mono r2.keep _ _ x4
         refine PCells.of X _ _ ?_ ?_ (x5 (iy o7 _ _))
         ·rw[x6,J]
          rw[List.drop_take,List.drop_drop,List.take_take]at r
          have e:min (len*sz) (cs.length-off)=len*sz:=zV
          rw[e]at r
          exact r
         ·intro x h1 h2 H
          rw[x6,J]at h2
          exact H.2 ⟨rfl,by omega,by omega⟩
       ·simp[Q.run]at hr
      |false=>
       dsimp only at hr
       split at hr
       ·rename_i hle
        simp only[Q.run,Option.some.injEq,Prod.mk.injEq]at hr
        obtain⟨rfl,rfl⟩:=hr
        have DR: ∃US,D.get sp k=⟨V,.cells cs US false⟩:=by
         rcases F.2.2 sp k with x|x
         ·exact⟨wm,by rw[x,I]⟩
         ·exact⟨cs.length,by rw[x,I];rfl⟩
        obtain⟨US,DR⟩:=DR
        obtain⟨Z,r2⟩:=BK h DR
        have O:=F.up I trivial
        refine⟨_,Z,O,fun b x H=>H.1, ?_,fun _=>rfl⟩
        apply po.ofP
        have N:=Z.obj sp k
        rw[fk,if_pos ⟨rfl,rfl⟩]at N
        unfold dV at N
        obtain⟨c,el,fzz,X,o2,o3,o4,o5,o6,o7,o8⟩:=N
        dsimp only at X o2 o3 o4 o5 o6
        simp only[aq]at U
        obtain⟨Gt,cap,rfl,yh,UT⟩:=U
        simp only[PRel]
        refine⟨_,_,cap,none,rfl,yh,(fun e=>by cases e),.inl rfl, ?_⟩
        have J:((cs.drop off).take (len*sz)).length=len*sz:=by simp;omega
        refine PCells.of X _ _ ?_ ?_ (iy o7 _ _)
        ·have:=PList.take (len*sz) (PList.drop off o5)
         rw[List.drop_take,List.drop_drop,List.take_take]at this
         rw[J]
         have e:min (len*sz) (cs.length-off)=len*sz:=zV
         rw[e]at this
         exact this
        ·intro x h1 h2 H
         rw[J]at h2
         exact H.2 ⟨rfl,by omega,by omega⟩
       ·simp[Q.run]at hr
    ·simp[Q.run]at hr
  |ptr sp k g off=>
   simp only[fz]at hr
   by_cases hk:(keep&&sp== .S)=true
   ·simp only[hk,if_true,Q.run,Option.some.injEq,Prod.mk.injEq]at hr
    obtain⟨rfl,rfl⟩:=hr
    simp only[Bool.and_eq_true,beq_iff_eq]at hk
    obtain⟨rfl,rfl⟩:=hk
    refine⟨M,h,F,fun _ _ h=>h,fun Y G' p q=> ?_,fun h=>h⟩
    grind [aq]
   ·rw[if_neg hk]at hr
    simp only[Q.run]at hr
    split at hr
    ·rename_i W
     generalize I:st.get sp k=e at hr W
     obtain⟨V,ob⟩:=e
     dsimp only at W;subst W
     cases ob with
     |none=>simp[Q.run]at hr
     |map _ _ _=>simp[Q.run]at hr
     |cells cs wm bx=>
      dsimp only at hr
      simp only[Q.run_bind]at hr
      cases h3:(bo (fz false n) (cs.drop off)).run st.get nx with
      |none=>simp[h3]at hr
      |some p=>
       obtain⟨c1,JL⟩:=p
       simp only[h3,Option.bind_some,Q.run,Option.some.injEq,Prod.mk.injEq]at hr
       obtain⟨rfl,rfl⟩:=hr
       have gg:D.gens=st.gens:=F.gens
       have K: ∃US,D.get sp k=⟨V,.cells cs US bx⟩:=by
        rcases F.2.2 sp k with x|x
        ·exact⟨wm,by rw[x,I]⟩
        ·exact⟨cs.length,by rw[x,I];rfl⟩
       obtain⟨wm0,K⟩:=K
       have N:=h.obj sp k
       rw[K]at N
       unfold dV at N
       obtain⟨c,el,fzz,X,o2,o3,o4,o5,o6,o7,o8⟩:=N
       dsimp only at X o2 o3 o4 o5 o6
       have o5':av β st.gens w M cs ((c.toList.drop (β sp k V).off).take cs.length):=by
        rw[←gg]
        exact o5.toV
       obtain⟨M1,x1,x2,x3,x4,x5,x6⟩:=j0 (fun t=>ih false t) (cs.drop off) B D w β M _ c1 JL nx F h (av.drop off o5') h3
       have DR: ∃US,(D.ups JL).get sp k=⟨V,.cells cs US bx⟩:=by
        rcases x2.2.2 sp k with x|x
        ·exact⟨wm,by rw[x,I]⟩
        ·exact⟨cs.length,by rw[x,I];rfl⟩
       obtain⟨US,DR⟩:=DR
       obtain⟨Z,r2⟩:=BK x1 DR
       have O:=x2.up I trivial
       rw[dO]
       refine⟨_,Z,O,fun b x H=>x3 b x H.1, ?_,fun _=>rfl⟩
       apply po.ofP
       simp only[aq]at U
       obtain⟨Gt,rfl⟩:=U
       simp only[PRel]
       refine⟨_,_,rfl, ?_⟩
       have r:PList w (EY M1 (β sp k V) cs.length) c1 ((List.drop off ((c.toList.drop (β sp k V).off).take cs.length))):=PList.mono r2.keep _ _ x4
       refine PCells.of X _ _ ?_ ?_ (x5 (by rw[List.all_eq_true]at o7 ⊢; exact fun x hx=>o7 x (List.mem_of_mem_drop hx)))
       ·rw[x6,List.length_drop]
        rw[List.drop_take,List.drop_drop]at r
        exact r
       ·intro x h1 h2 H
        rw[x6,List.length_drop]at h2
        exact H.2 ⟨rfl,by omega,by omega⟩
    ·simp[Q.run]at hr
  |mp sp k g=>
   simp only[fz]at hr
   by_cases hk:(keep&&sp== .S)=true
   ·simp only[hk,if_true,Q.run,Option.some.injEq,Prod.mk.injEq]at hr
    obtain⟨rfl,rfl⟩:=hr
    simp only[Bool.and_eq_true,beq_iff_eq]at hk
    obtain⟨rfl,rfl⟩:=hk
    refine⟨M,h,F,fun _ _ h=>h,fun Y G' p q=> ?_,fun h=>h⟩
    grind [aq]
   ·rw[if_neg hk]at hr
    simp only[Q.run]at hr
    split at hr
    ·rename_i W
     generalize I:st.get sp k=e at hr W
     obtain⟨V,ob⟩:=e
     dsimp only at W;subst W
     cases ob with
     |none=>simp[Q.run]at hr
     |cells _ _ _=>simp[Q.run]at hr
     |map ks vs f=>
      simp only[Q.run,Option.some.injEq,Prod.mk.injEq]at hr
      obtain⟨rfl,rfl⟩:=hr
      have DR: ∃f',D.get sp k=⟨V,.map ks vs f'⟩:=by
       rcases F.2.2 sp k with x|x
       ·grind
       ·exact⟨true,by rw[x,I];rfl⟩
      obtain⟨f',DR⟩:=DR
      obtain⟨Z,r2⟩:=JK h DR
      have O:=F.up I trivial
      refine⟨_,Z,O,fun b x H=>H.1, ?_,fun _=>rfl⟩
      apply po.ofP
      have N:=Z.obj sp k
      rw[fk,if_pos ⟨rfl,rfl⟩]at N
      unfold dV at N
      obtain⟨es,clock,X,ost,o2,o3,o4⟩:=N
      simp only[aq]at U
      obtain⟨Gt,rfl⟩:=U
      simp only[PRel]
      exact⟨_,es,clock,rfl,X,ost,fun o H=>H.2 rfl,o2,o3⟩
    ·simp[Q.run]at hr
abbrev ol(d s n:Nat)(a:Bool):aG:=⟨some d,.ld (.t s) n a,none⟩
abbrev ob(d:Nat)(o:BinOp)(x y:aV):aG:=⟨some d,.bin o x y,none⟩
abbrev on(d s:Nat):aG:=⟨some d,.lenV (.t s),none⟩
end Go.Ev
