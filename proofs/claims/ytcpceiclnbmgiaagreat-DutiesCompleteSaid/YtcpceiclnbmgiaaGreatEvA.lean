/- A tree evaluator over the model, proved against it (part A): where it answers, the call returns that answer. Conditions: none beyond its theorems' own. -/
import GoSem.Dispatch
import Derived.Orders
import Derived.LoopN
import Derived.Below
import Derived.MapKept
set_option linter.unusedSimpArgs false
set_option linter.unusedVariables false
namespace Go.Ev
open Go
inductive Sp where
 |L|S
 deriving DecidableEq,Inhabited
inductive T where
 |b (x:Bool)
 |i (k:IntKind) (n:Int)
 |s (l:List Nat)
 |nilsl
 |sl (cs:List T) (len:Nat) (ex:Bool)
 |isl (sp:Sp) (k g off len sz:Nat)
 |nilptr
 |vp (cs:List T)
 |ptr (sp:Sp) (k g off:Nat)
 |nilmp
 |vm (ks vs:List T)
 |mp (sp:Sp) (k g:Nat)
 |nilfn
 |fn (f:Nat) (first cap:List T)
 |agg (cs:List T)
 |tup (vs:List T)
 |any
 deriving Inhabited
inductive Ob where
 |none
 |cells (cs:List T) (wm:Nat) (bx:Bool)
 |map (ks vs:List T) (fz:Bool)
 deriving Inhabited
structure b8 where
 g:Nat
 ob:Ob
 deriving Inhabited
def single:T→Bool
 | .agg _| .tup _| .any=>false
 |_=>true
def noTup:T→Bool
 | .tup _| .any=>false
 |_=>true
def l0:b8:=⟨0,.none⟩
def iW:T:= .tup []
def iE{α:Type}(d:α):List α→Nat→α
 | [],_=>d
 |x::_,0=>x
 |_::xs,n+1=>iE d xs n
def sa{α:Type}(d:α):List α→Nat→α→List α
 | [],0,v=> [v]
 | [],n+1,v=>d::sa d [] n v
 |_::xs,0,v=>v::xs
 |x::xs,n+1,v=>x::sa d xs n v
theorem sD{α:Type}(d:α)(v:α): ∀(l:List α) (n m:Nat),iE d (sa d l n v) m=if m=n then v else iE d l m
 | [],0,0=>by simp[sa,iE]
 | [],0,m+1=>by simp[sa,iE]
 | [],n+1,0=>by simp[sa,iE]
 | [],n+1,m+1=>by
   simp_all[sa,iE,sD]
 |x::xs,0,0=>by simp[sa,iE]
 |x::xs,0,m+1=>by simp[sa,iE]
 |x::xs,n+1,0=>by simp[sa,iE]
 |x::xs,n+1,m+1=>by
  simp_all[sa,iE,sD]
inductive iq (α:Type) where
 |nil
 |nd (v:α) (l r:iq α)
 deriving Inhabited
def iq.get{α:Type}(d:α):iq α→Nat→α
 | .nil,_=>d
 | .nd v l r,n=>match n with
   |0=>v
   |k+1=>bif Nat.beq (k%2) 0 then l.get d (k/2)else r.get d (k/2)
def iq.put{α:Type}(d:α):Nat→iq α→Nat→α→iq α
 |0,t,_,_=>t
 |f+1,t,n,v=>match n with
  |0=>match t with
   | .nil=> .nd v .nil .nil
   | .nd _ l r=> .nd v l r
  |k+1=>match t with
   | .nil=>bif Nat.beq (k%2) 0 then .nd d (iq.put d f .nil (k/2) v) .nil else .nd d .nil (iq.put d f .nil (k/2) v)
   | .nd u l r=>bif Nat.beq (k%2) 0 then .nd u (iq.put d f l (k/2) v) r else .nd u l (iq.put d f r (k/2) v)
def iq.set{α:Type}(d:α)(t:iq α)(n:Nat)(v:α):iq α:=iq.put d (n+1) t n v
theorem iq.get_nil{α:Type}(d:α)(n:Nat):iq.get d .nil n=d:=by unfold iq.get;rfl
theorem iq.get_put{α:Type}(d:α)(v:α): ∀(f:Nat) (t:iq α) (n m:Nat),n<f→iq.get d (iq.put d f t n v) m=if m=n then v else iq.get d t m
 |0,t,n,m,h=>by omega
 |f+1,t,0,m,h=>by
  cases t with
  |nil=>
   cases m with
   |zero=>simp[iq.put,iq.get]
   |succ m=>simp[iq.put,iq.get]
  |nd u l r=>
   cases m with
   |zero=>simp[iq.put,iq.get]
   |succ m=>simp[iq.put,iq.get]
 |f+1,t,k+1,m,h=>by
  have hk:k/2<f:=by omega
  have ih:=fun t j=>iq.get_put d v f t (k/2) j hk
  cases i:Nat.beq (k%2) 0 with
  |true=>
   have F:k%2=0:=Nat.eq_of_beq_eq_true i
   cases t with
   |nil=>
    cases m with
    |zero=>simp[iq.put,iq.get,i]
    |succ m=>
     grind [iq.put,iq.get,iq.get_nil,Nat.eq_of_beq_eq_true]
   |nd u l r=>
    cases m with
    |zero=>simp[iq.put,iq.get,i]
    |succ m=>
     grind [iq.put,iq.get,Nat.eq_of_beq_eq_true]
  |false=>
   have F:k%2≠0:=fun e=>by rw[e]at i;simp at i
   cases t with
   |nil=>
    cases m with
    |zero=>simp[iq.put,iq.get,i]
    |succ m=>
     simp only[iq.put,i,cond_false,iq.get]
     cases D:Nat.beq (m%2) 0 with
     |true=>
      grind
     |false=>
      have H:m%2≠0:=fun e=>by rw[e]at D;simp at D
      grind [iq.get_nil]
   |nd u l r=>
    cases m with
    |zero=>simp[iq.put,iq.get,i]
    |succ m=>
     simp only[iq.put,i,cond_false,iq.get]
     cases D:Nat.beq (m%2) 0 with
     |true=>
      grind
     |false=>
      have H:m%2≠0:=fun e=>by rw[e]at D;simp at D
      grind
theorem iq.get_set{α:Type}(d:α)(v:α)(t:iq α)(n m:Nat):iq.get d (iq.set d t n v) m=if m=n then v else iq.get d t m:=
 iq.get_put d v (n+1) t n m (Nat.lt_succ_self n)
inductive Q (α:Type) where
 |ret (a:α)
 |fail
 |rd (sp:Sp) (k:Nat) (f:b8→Q α)
 |new (f:Nat→Q α)
def Q.bind{α β:Type}:Q α→(α→Q β)→Q β
 | .ret a,f=>f a
 | .fail,_=> .fail
 | .rd sp k g,f=> .rd sp k fun e=>(g e).bind f
 | .new g,f=> .new fun e=>(g e).bind f
def Q.run{α:Type}(h:Sp→Nat→b8)(i:Nat):Q α→Option α
 | .ret a=>some a
 | .fail=>none
 | .rd sp k f=>(f (h sp k)).run h i
 | .new f=>(f i).run h i
def Q.log{α:Type}(h:Sp→Nat→b8)(i:Nat):Q α→List (Sp×Nat)
 | .ret _=> []
 | .fail=> []
 | .rd sp k f=>(sp,k)::(f (h sp k)).log h i
 | .new f=>(f i).log h i
def Q.asks{α:Type}(h:Sp→Nat→b8)(i:Nat):Q α→Bool
 | .ret _=>false
 | .fail=>false
 | .rd sp k f=>(f (h sp k)).asks h i
 | .new _=>true
def Q.of{α:Type}:Option α→Q α
 |some a=> .ret a
 |none=> .fail
abbrev Up:=Sp×Nat×b8
inductive Dq where
 |val (v:T) (ups:List Up)
 deriving Inhabited
def ja(f:T→Q (T×List Up)):List T→Q (List T×List Up)
 | []=> .ret ([],[])
 |c::cs=>(f c).bind fun p=>(ja f cs).bind fun q=> .ret (p.1::q.1,p.2++q.2)
def fz(keep:Bool):Nat→T→Q (T×List Up)
 |0,_=> .fail
 |n+1,t=>match t with
  | .isl sp k g off len sz=>if keep&&sp== .S then .ret (t,[])else .rd sp k fun e=>
    if e.g=g then match e.ob with
     | .cells cs _ false=>if off+len*sz≤cs.length then .ret (.sl ((cs.drop off).take (len*sz)) len false,[(sp,k,⟨g,.cells cs cs.length false⟩)])else .fail
     | .cells cs _ true=>if off+len*sz≤cs.length then(ja (fz false n) ((cs.drop off).take (len*sz))).bind fun q=> .ret (.sl q.1 len false,q.2++ [(sp,k,⟨g,.cells cs cs.length true⟩)])else .fail
     |_=> .fail
    else .fail
  | .mp sp k g=>if keep&&sp== .S then .ret (t,[])else .rd sp k fun e=>
    if e.g=g then match e.ob with
     | .map ks i _=> .ret (.vm ks i,[(sp,k,⟨g,.map ks i true⟩)])
     |_=> .fail
    else .fail
  | .ptr sp k g off=>if keep&&sp== .S then .ret (t,[])else .rd sp k fun e=>
    if e.g=g then match e.ob with
     | .cells cs _ bx=>(ja (fz false n) (cs.drop off)).bind fun q=> .ret (.vp q.1,q.2++ [(sp,k,⟨g,.cells cs cs.length bx⟩)])
     |_=> .fail
    else .fail
  | .fn f a c=>(ja (fz keep n) a).bind fun p=>(ja (fz keep n) c).bind fun q=> .ret (.fn f p.1 q.1,p.2++q.2)
  | .agg cs=>(ja (fz keep n) cs).bind fun q=> .ret (.agg q.1,q.2)
  | .tup cs=>(ja (fz keep n) cs).bind fun q=> .ret (.tup q.1,q.2)
  |t=> .ret (t,[])
def iG:Nat:=8
def scalar:T→Bool
 | .b _| .i .. | .s _| .nilsl| .nilptr| .nilmp| .nilfn=>true
 | .tup r=>r.all fun| .b _| .i .. | .s _| .nilsl| .nilptr| .nilmp| .nilfn=>true|_=>false
 |_=>false
def lo:IntKind→Int
 | .i8=> -128| .i16=> -32768| .i32=> -2147483648| .i64=> -9223372036854775808|_=>0
def hi:IntKind→Int
 | .i8=>127| .i16=>32767| .i32=>2147483647| .i64=>9223372036854775807
 | .u8=>255| .u16=>65535| .u32=>4294967295| .u64=>18446744073709551615
def wr(k:IntKind)(n:Int):Int:=if lo k≤n∧n≤hi k then n else k.wrap n
def wK:List Nat→List Nat→Bool
 |_,[]=>false
 | [],_::_=>true
 |a::x,b::y=>a<b||(a==b&&wK x y)
def sE(op:BinOp)(k:IntKind)(a b:Int):Option T:=
 match op with
 | .add=>some (.i k (wr k (a+b)))
 | .sub=>some (.i k (wr k (a-b)))
 | .mul=>some (.i k (wr k (a*b)))
 | .quo=>if b=0 then none else some (.i k (wr k (a.tdiv b)))
 | .rem=>if b=0 then none else some (.i k (a.tmod b))
 | .eql=>some (.b (a==b))
 | .neq=>some (.b (a != b))
 | .lss=>some (.b (a<b))
 | .leq=>some (.b (a≤b))
 | .gtr=>some (.b (a>b))
 | .geq=>some (.b (a≥b))
 | .and=>some (.i k (k.wrap (BitVec.ofInt k.bits a &&& BitVec.ofInt k.bits b).toNat))
 | .or=>some (.i k (k.wrap (BitVec.ofInt k.bits a ||| BitVec.ofInt k.bits b).toNat))
 | .xor=>some (.i k (k.wrap (BitVec.ofInt k.bits a ^^^ BitVec.ofInt k.bits b).toNat))
 | .andNot=>some (.i k (k.wrap (BitVec.ofInt k.bits a &&& ~~~BitVec.ofInt k.bits b).toNat))
 |_=>none
def Mz(op:BinOp)(a b:List Nat):Option T:=
 match op with
 | .add=>if a.length+b.length≤1099511627776 then some (.s (a++b))else none
 | .eql=>some (.b (a==b))
 | .neq=>some (.b (a != b))
 | .lss=>some (.b (wK a b))
 | .leq=>some (.b (wK a b||a==b))
 | .gtr=>some (.b !(wK a b||a==b))
 | .geq=>some (.b !(wK a b))
 |_=>none
def Ds(op:BinOp)(k:IntKind)(a b:Int):Option T:=
 if b<0 then none else
 match op with
 | .shl=>some (.i k (k.wrap (a*2 ^ (min b.toNat k.bits))))
 | .shr=>some (.i k (a.fdiv (2 ^ (min b.toNat k.bits))))
 |_=>none
inductive CK where
 |int|str|bool
 deriving DecidableEq,Inhabited
inductive EK where
 |one (k:CK)
 |flat (ks:List CK)
 |sl|ptr|map
 deriving Inhabited
def lO:CK→T→T→Option Bool
 | .bool,.b x,.b y=>some (x==y)
 | .int,.i k x,.i k' y=>if k=k' then some (x==y)else none
 | .str,.s x,.s y=>some (x==y)
 |_,_,_=>none
def jK:List CK→List T→List T→Option Bool
 | [],[],[]=>some true
 |k::ks,x::xs,y::i=>match lO k x y with
  |some true=>jK ks xs i
  |some false=>some false
  |none=>none
 |_,_,_=>none
def uP:EK→T→T→Option Bool
 | .one k,x,y=>lO k x y
 | .flat ks,.agg xs,.agg i=>jK ks xs i
 | .sl,.nilsl,.nilsl=>some true
 | .sl,.sl ..,.nilsl=>some false
 | .sl,.isl ..,.nilsl=>some false
 | .ptr,.nilptr,.nilptr=>some true
 | .ptr,.vp _,.nilptr=>some false
 | .ptr,.ptr ..,.nilptr=>some false
 | .map,.nilmp,.nilmp=>some true
 | .map,.vm ..,.nilmp=>some false
 | .map,.mp ..,.nilmp=>some false
 |_,_,_=>none
def bin(op:BinOp)(x y:T):Option T:=
 match op,x,y with
 | .shl,.i k a,.i _ b=>Ds .shl k a b
 | .shr,.i k a,.i _ b=>Ds .shr k a b
 |op,.i k a,.i k' b=>if k=k' then sE op k a b else none
 |op,.s a,.s b=>Mz op a b
 |_,_,_=>none
def un(op:UnOp)(x:T):Option T:=
 match op,x with
 | .neg,.i k n=>some (.i k (wr k (0-n)))
 | .not,.b x=>some (.b !x)
 | .xor,.i k n=>sE .xor k (if k.signed then-1 else k.max) n
 |_,_=>none
inductive iF where
 |t (n:Nat)
 |c (v:T)
 deriving Inhabited
inductive mH where
 |mv (x:iF)
 |pick (c a b:iF)
 |alloc (z:List T) (sh:Bool)
 |box (x:iF) (sh:Bool)
 |build (z:List T) (ps:List (Nat×Nat×iF))
 |bsl (z:List T) (len:Nat) (ps:List (Nat×iF))
 |ld (x:iF) (n:Nat) (ag:Bool)
 |st (x v:iF) (n:Nat)
 |nck (x:iF)
 |bin (op:BinOp) (x y:iF)
 |eq (neg:Bool) (k:EK) (x y:iF)
 |un (op:UnOp) (x:iF)
 |cvi (k:IntKind) (x:iF)
 |b2s (x:iF)
 |mkfn (f:Nat) (first cap:List iF)
 |mkmap (sh:Bool)
 |mksl (z:List T) (bytes:Nat) (x:iF) (sh:Bool)
 |slS (x:iF) (lo hi:Option iF)
 |slV (sz:Nat) (x:iF) (lo hi mx:Option iF)
 |fa (x:iF) (off:Nat)
 |fld (x:iF) (off n:Nat) (ag:Bool)
 |ia (x ix:iF) (sz:Nat)
 |iaA (x ix:iF) (len sz:Nat)
 |ixS (x ix:iF)
 |ixA (x ix:iF) (len sz:Nat) (ag:Bool)
 |lk (kk:EK) (m k:iF) (z:T) (ok:Bool)
 |mu (kk:EK) (m k v:iF)
 |ext (x:iF) (j:Nat)
 |callf (f:Nat) (args:List iF)
 |callv (f:iF) (args:List iF)
 |lenS (x:iF)
 |lenV (x:iF)
 |lenM (x:iF)
 |lenC (n:Nat)
 |app (sz bytes:Nat) (s x:iF) (sh:Bool) (nm:Bool)
 |mm (isMax:Bool) (args:List iF)
 deriving Inhabited
structure dy where
 d:Option Nat
 op:mH
 gd:Option (Nat×Bool)
 deriving Inhabited
inductive dE where
 |skip
 |region (ops:List dy)
 |draws (ops:List (List Nat×dy))
 |seq (a b:dE)
 |fork (os Fb:List dy) (b:dE)
 |cond (c:iF) (a b:dE)
 |block (id:Nat) (a:dE)
 |loop (a:dE)
 |exit (id:Nat)
 |ret
 deriving Inhabited
inductive p5 where
 |tmp (t:Nat)
 |cell (t n:Nat) (ag:Bool)
 deriving Inhabited
structure ib where
 n:Nat
 code:dE
 res:List p5
 eff:Bool
 own:Option Nat
 deriving Inhabited
abbrev Fr:=iq T
structure St where
 fr:Fr
 lh:iq b8
 sh:List b8
 deriving Inhabited
def an(l:Fr)(n:Nat):T:=iq.get iW l n
def kg(l:Fr)(n:Nat)(v:T):Fr:=iq.set iW l n v
theorem qD(l:Fr)(n:Nat)(v:T)(m:Nat):an (kg l n v) m=if m=n then v else an l m:=iq.get_set iW v l n m
def xk:List T→Nat→Fr
 | [],_=> .nil
 |x::xs,k=>kg (xk xs (k+1)) k x
def p6(l:List T):Fr:=xk l 0
theorem Bs: ∀(l:List T) (k m:Nat),an (xk l k) m=if m<k then iW else iE iW l (m-k)
 | [],k,m=>by simp[xk,an,iq.get_nil,iE]
 |x::xs,k,m=>by
  rw[xk,qD,Bs xs (k+1) m]
  by_cases i:m=k
  ·subst i;simp[iE]
  ·rw[if_neg i]
   by_cases r:m<k
   ·grind
   ·rw[if_neg (by omega),if_neg r]
    have:m-k=(m-(k+1))+1:=by omega
    rw[this];rfl
theorem Gi(l:List T)(m:Nat):an (p6 l) m=iE iW l m:=by
 grind [p6,Bs]
def iz(l:List b8)(n:Nat):b8:=iE l0 l n
def iH(l:List b8)(n:Nat)(v:b8):List b8:=sa l0 l n v
def St.get(st:St):Sp→Nat→b8
 | .L,k=>iq.get l0 st.lh k
 | .S,k=>iz st.sh k
def St.up(st:St):Up→St
 |(.L,k,e)=>{st with lh:=iq.set l0 st.lh k e}
 |(.S,k,e)=>{st with sh:=iH st.sh k e}
def St.ups(st:St):List Up→St
 | []=>st
 |u::us=>(st.up u).ups us
def St.rho(st:St):iF→T
 | .t n=>an st.fr n
 | .c v=>v
def oc(d:Nat)(sh:Bool)(ob:Ob)(f:Sp→Nat→Nat→T):Q Dq:=
 if sh then .new fun k=> .ret (.val (f .S k 1) [(.S,k,⟨1,ob⟩)])
 else .rd .L d fun e=> .ret (.val (f .L d (e.g+1)) [(.L,d,⟨e.g+1,ob⟩)])
def U4:List T→Bool
 | [.nilsl]=>true
 |_=>false
def oS(us:List Up)(sp:Sp)(k:Nat):Bool:=us.any fun u=>u.1==sp&&u.2.1==k
def cellsOf:T→List T
 | .agg cs=>cs
 |t=> [t]
def asNat:T→Option Nat
 | .i _ n=>if 0≤n then some n.toNat else none
 |_=>none
def repl{α:Type}(z:List α):Nat→List α
 |0=> []
 |n+1=>z++repl z n
def splice{α:Type}:List α→Nat→List α→List α
 |cs,0,[]=>cs
 |_::cs,0,v::i=>v::splice cs 0 i
 |c::cs,off+1,i=>c::splice cs off i
 | [],_,_=> []
def qh{α:Type}:List α→List (Nat×List α)→Option (List α)
 |cs,[]=>some cs
 |cs,(off,r)::i=>if off+r.length≤cs.length then qh (splice cs off r) i else none
def part(cs:List T)(off n:Nat)(ag:Bool):Option T:=
 if ag then(if off+n≤cs.length then some (.agg ((cs.drop off).take n))else none)
 else cs[off]?
def Hj(x:T)(n:Nat)(ag:Bool):Q T:=
 match x with
 | .vp cs=> .of (part cs 0 n ag)
 | .ptr sp k g off=> .rd sp k fun e=>
   if e.g=g then match e.ob with
    | .cells cs _ _=> .of (part cs off n ag)
    |_=> .fail
   else .fail
 |_=> .fail
def sd(x v:T)(n:Nat):Q Dq:=
 if(cellsOf v).length≠n|| !noTup v then .fail else
 match x with
 | .ptr sp k g off=> .rd sp k fun e=>
   if e.g=g then match e.ob with
    | .cells cs wm bx=>if wm≤off&&off+n≤cs.length then
        (if bx&&sp== .L then .ret (.val iW [(sp,k,⟨g,.cells (splice cs off (cellsOf v)) wm bx⟩)])
        else(fz (bx&&sp== .S) iG v).bind fun p=>if oS p.2 sp k|| !noTup p.1||(cellsOf p.1).length≠n then .fail else .ret (.val iW (p.2++ [(sp,k,⟨g,.cells (splice cs off (cellsOf p.1)) wm bx⟩)])))
      else .fail
    |_=> .fail
   else .fail
 |_=> .fail
def jL(sz:Nat):T→Q (Nat×List T)
 | .nilsl=> .ret (0,[])
 | .sl cs len _=>if cs.length=len*sz then .ret (len,cs)else .fail
 | .isl sp k g off len r=>if r=sz then .rd sp k fun e=>
     if e.g=g then match e.ob with
      | .cells cs _ false=>if off+len*sz≤cs.length then .ret (len,(cs.drop off).take (len*sz))else .fail
      |_=> .fail
     else .fail
   else .fail
 | .s l=>if sz=1 then .ret (l.length,l.map fun(n:Nat)=>T.i .u8 (n:Int))else .fail
 |_=> .fail
def roomy:Nat:=1099511627776
def qM(d sz bytes:Nat)(s x:T)(sh i:Bool):Q Dq:=
 (jL sz x).bind fun p=>
 if p.1=0 then(match s with| .nilsl| .sl .. | .isl .. => .ret (.val s [])|_=> .fail)else
 match s with
 | .nilsl=>if p.1*bytes≤roomy then oc d sh (.cells p.2 0 (i&& !sh)) (fun sp k g=> .isl sp k g 0 p.1 sz)else .fail
 | .sl cs len true=>if cs.length=len*sz&&(len+p.1)*bytes≤roomy then oc d sh (.cells (cs++p.2) 0 false) (fun sp k g=> .isl sp k g 0 (len+p.1) sz)else .fail
 | .isl sp k g off len r=>if r=sz&&off=0&&(len+p.1)*bytes≤roomy then .rd sp k fun e=>
     if e.g=g then match e.ob with
      | .cells cs wm false=>if len*sz=cs.length then .ret (.val (.isl sp k (g+1) 0 (len+p.1) sz) [(sp,k,⟨g+1,.cells (cs++p.2) wm false⟩)])
        else if sh&&i&&decide (len*sz<cs.length)&&decide (wm≤len*sz)then .ret (.val (.isl sp k (g+1) 0 (len+p.1) sz) [(sp,k,⟨g+1,.cells (cs.take (len*sz)++p.2) wm false⟩)])else .fail
      |_=> .fail
     else .fail
   else .fail
 |_=> .fail
def ni(kk:EK)(k:T):List T→Option (Option Nat)
 | []=>some none
 |x::xs=>match uP kk k x with
  |some true=>some (some 0)
  |some false=>(ni kk k xs).map fun r=>r.map (· +1)
  |none=>none
def qN(kk:EK)(k v:T)(ks r:List T):Option (List T×List T):=
 match ni kk k ks with
 |some (some i)=>some (ks.set i k,r.set i v)
 |some none=>some (ks++ [k],r++ [v])
 |none=>none
def Hk:CK→T→Bool
 | .bool,.b _=>true
 | .int,.i .. =>true
 | .str,.s _=>true
 |_,_=>false
def qq:List CK→List T→Bool
 | [],[]=>true
 |k::ks,x::xs=>Hk k x&&qq ks xs
 |_,_=>false
def isKey:EK→T→Bool
 | .one k,x=>Hk k x
 | .flat ks,.agg xs=>qq ks xs
 |_,_=>false
def nI(kk:EK)(ks D:List T)(k z:T)(r:Bool):Option T:=
 if !isKey kk k then none else
 match ni kk k ks with
 |some (some i)=>D[i]?.map fun v=>if r then .tup [v,.b true]else v
 |some none=>some (if r then .tup [z,.b false]else z)
 |none=>none
def nJ(r:Bool):T→List T→Option T
 |x,[]=>some x
 | .i k a,.i k' b::D=>if k=k' then nJ r (.i k (if r then(if b>a then b else a)else(if b<a then b else a))) D else none
 |_,_=>none
def kN(ρ:iF→T)(i:Nat):Option iF→Option Nat
 |none=>some i
 |some x=>asNat (ρ x)
def Bt(sz:Nat)(x:T)(l h:Nat):Q T:=
 match x with
 | .nilsl=>if l=0&&h=0 then .ret .nilsl else .fail
 | .sl cs len ex=>if l≤h&&h≤len&&cs.length=len*sz then .ret (.sl ((cs.drop (l*sz)).take ((h-l)*sz)) (h-l) (ex&&h=len))else .fail
 | .isl sp k g off len i=>if l≤h&&h≤len&&i=sz then .ret (if l=h then(if sp= .S∧h=0∧off=0 then .isl sp k g 0 0 sz else .sl [] 0 false)else .isl sp k g (off+l*sz) (h-l) sz)else .fail
 |_=> .fail
def sF:T→Option Nat
 | .nilsl=>some 0
 | .sl _ len _=>some len
 | .isl _ _ _ _ len _=>some len
 |_=>none
def val(v:Option T):Q Dq:=match v with|some v=> .ret (.val v [])|none=> .fail
def jk(d:Nat)(ρ:iF→T):mH→Q Dq
 | .mv x=> .ret (.val (ρ x) [])
 | .pick c a b=>match ρ c with| .b true=> .ret (.val (ρ a) [])| .b false=> .ret (.val (ρ b) [])|_=> .fail
 | .alloc z sh=>oc d sh (.cells z 0 true) (fun sp k g=> .ptr sp k g 0)
 | .box x sh=>if !noTup (ρ x)then .fail else if sh then(fz true iG (ρ x)).bind fun p=>if p.2.isEmpty&&noTup p.1 then oc d true (.cells (cellsOf p.1) 0 true) (fun sp k g=> .ptr sp k g 0)else .fail
     else oc d false (.cells (cellsOf (ρ x)) 0 true) (fun sp k g=> .ptr sp k g 0)
 | .build z J=>if J.all fun p=>(cellsOf (ρ p.2.2)).length=p.2.1&&noTup (ρ p.2.2)then val ((qh z (J.map fun p=>(p.1,cellsOf (ρ p.2.2)))).map .agg)else .fail
 | .bsl z len J=>(ja (fz false iG) (J.map fun p=>ρ p.2)).bind fun q=>
     if q.1.all fun v=>(cellsOf v).length=z.length&&noTup v then
      match qh (repl z len) ((J.map fun p=>p.1*z.length).zip (q.1.map cellsOf))with
      |some cs=> .ret (.val (.sl cs len true) q.2)
      |none=> .fail
     else .fail
 | .ld x n ag=>(Hj (ρ x) n ag).bind fun v=> .ret (.val v [])
 | .st x v n=>sd (ρ x) (ρ v) n
 | .nck x=>match ρ x with
   | .vp cs=> .ret (.val (.vp cs) [])
   | .ptr sp k g off=> .ret (.val (.ptr sp k g off) [])
   | .fn f a c=> .ret (.val (.fn f a c) [])
   |_=> .fail
 | .bin op x y=>val (Ev.bin op (ρ x) (ρ y))
 | .eq neg k x y=>val ((uP k (ρ x) (ρ y)).map fun r=> .b (r != neg))
 | .un op x=>val (Ev.un op (ρ x))
 | .cvi k x=>match ρ x with| .i _ n=> .ret (.val (.i k (wr k n)) [])|_=> .fail
 | .b2s x=>match ρ x with| .sl [.i .u8 (.ofNat k)] 1 _=>if k<256 then .ret (.val (.s [k]) [])else .fail|_=> .fail
 | .mkfn f first K=> .ret (.val (.fn f (first.map ρ) (K.map ρ)) [])
 | .mkmap sh=>oc d sh (.map [] [] false) (fun sp k g=> .mp sp k g)
 | .mksl z bytes x sh=>match asNat (ρ x)with
   |some n=>if n*bytes≤roomy&&n≤roomy then oc d sh (.cells (repl z n) 0 (U4 z)) (fun sp k g=> .isl sp k g 0 n z.length)else .fail
   |none=> .fail
 | .slS x l h=>match ρ x with
   | .s D=>match kN ρ 0 l,kN ρ D.length h with
     |some l,some h=>if l≤h&&h≤D.length then .ret (.val (.s ((D.drop l).take (h-l))) [])else .fail
     |_,_=> .fail
   |_=> .fail
 | .slV sz x l h O=>match sF (ρ x)with
   |none=> .fail
   |some n=>match kN ρ 0 l,kN ρ n h,O with
    |some l,some h,none=>(Bt sz (ρ x) l h).bind fun v=> .ret (.val v [])
    |some l,some h,some m=>match asNat (ρ m),ρ x with
     |some 0,.nilsl=>if l=0&&h=0 then .ret (.val .nilsl [])else .fail
     |some 0,_=>if l=0&&h=0 then .ret (.val (.sl [] 0 true) [])else .fail
     |_,_=> .fail
    |_,_,_=> .fail
 | .fa x off=>match ρ x with
   | .vp cs=>if off≤cs.length then .ret (.val (.vp (cs.drop off)) [])else .fail
   | .ptr sp k g o=> .ret (.val (.ptr sp k g (o+off)) [])
   |_=> .fail
 | .fld x off n ag=>match ρ x with| .agg cs=>val (part cs off n ag)|_=> .fail
 | .ia x F sz=>match asNat (ρ F),ρ x with
   |some j,.sl cs len _=>if j<len&&(j+1)*sz≤cs.length then .ret (.val (.vp (cs.drop (j*sz))) [])else .fail
   |some j,.isl sp k g off len U=>if j<len&&U=sz then .ret (.val (.ptr sp k g (off+j*sz)) [])else .fail
   |_,_=> .fail
 | .iaA x F len sz=>match asNat (ρ F),ρ x with
   |some j,.vp cs=>if j<len&&(j+1)*sz≤cs.length then .ret (.val (.vp (cs.drop (j*sz))) [])else .fail
   |some j,.ptr sp k g off=>if j<len then .ret (.val (.ptr sp k g (off+j*sz)) [])else .fail
   |_,_=> .fail
 | .ixS x F=>match asNat (ρ F),ρ x with
   |some j,.s D=>match D[j]? with|some c=> .ret (.val (.i .u8 c) [])|none=> .fail
   |_,_=> .fail
 | .ixA x F len sz ag=>match asNat (ρ F),ρ x with
   |some j,.agg cs=>if j<len then val (part cs (j*sz) sz ag)else .fail
   |_,_=> .fail
 | .lk ek m k z N=>match ρ m with
   | .nilmp=>if isKey ek (ρ k)then .ret (.val (if N then .tup [z,.b false]else z) [])else .fail
   | .vm ks H=>val (nI ek ks H (ρ k) z N)
   | .mp sp kk g=> .rd sp kk fun e=>if e.g=g then match e.ob with| .map ks H _=>val (nI ek ks H (ρ k) z N)|_=> .fail else .fail
   |_=> .fail
 | .mu ek m k v=>match ρ m with
   | .mp sp kk g=> .rd sp kk fun e=>if e.g=g&&isKey ek (ρ k)then match e.ob with
       | .map ks H false=>(fz false iG (ρ v)).bind fun p=>match qN ek (ρ k) p.1 ks H with
         |some q=>if oS p.2 sp kk then .fail else .ret (.val iW (p.2++ [(sp,kk,⟨g,.map q.1 q.2 false⟩)]))
         |none=> .fail
       |_=> .fail
     else .fail
   |_=> .fail
 | .ext x j=>match ρ x with| .tup H=>val H[j]? |_=> .fail
 | .callf _ _=> .fail
 | .callv _ _=> .fail
 | .lenS x=>match ρ x with| .s D=> .ret (.val (.i .i64 D.length) [])|_=> .fail
 | .lenV x=>val ((sF (ρ x)).map fun n=> .i .i64 n)
 | .lenM x=>match ρ x with
   | .nilmp=> .ret (.val (.i .i64 0) [])
   | .vm ks _=> .ret (.val (.i .i64 ks.length) [])
   | .mp sp kk g=> .rd sp kk fun e=>if e.g=g then match e.ob with| .map ks _ _=> .ret (.val (.i .i64 ks.length) [])|_=> .fail else .fail
   |_=> .fail
 | .lenC n=> .ret (.val (.i .i64 n) [])
 | .app sz bytes s x sh V=>qM d sz bytes (ρ s) (ρ x) sh V
 | .mm I args=>match args.map ρ with|x::rest=>val (nJ I x rest)| []=> .fail
def jr(ρ:iF→T):mH→Option (Option (Nat×List T))
 | .callf f args=>some (some (f,args.map ρ))
 | .callv f args=>some (match ρ f with| .fn f a c=>some (f,a++args.map ρ++c)|_=>none)
 |_=>none
def AE:mH→List iF
 | .mv x| .box x _| .ld x _ _| .nck x| .un _ x| .cvi _ x| .b2s x| .mksl _ _ x _| .fa x _| .fld x _ _ _| .ext x _| .lenS x| .lenV x| .lenM x=> [x]
 | .pick c a b=> [c,a,b]
 | .alloc .. | .mkmap _| .lenC _=> []
 | .build _ i=>i.map (·.2.2)
 | .bsl _ _ i=>i.map (·.2)
 | .st x v _| .bin _ x v| .eq _ _ x v| .ia x v _| .iaA x v _ _| .ixS x v| .ixA x v _ _ _| .lk _ x v _ _| .app _ _ x v _ _=> [x,v]
 | .mkfn _ a c=>a++c
 | .slS x l h=>x::(l.toList++h.toList)
 | .slV _ x l h m=>x::(l.toList++h.toList++m.toList)
 | .mu _ m k v=> [m,k,v]
 | .callf _ as| .mm _ as=>as
 | .callv f as=>f::as
def tmpsOf(xs:List iF):List Nat:=xs.filterMap fun| .t n=>some n| .c _=>none
def looks(a:dy):List Nat:=tmpsOf (AE a.op)++(match a.gd with|some g=> [g.1]|none=> [])
inductive Out where
 |nrm|ext (id:Nat)|ret
 deriving DecidableEq,Inhabited
abbrev qa:=Nat→List T→List b8→Option (T×List b8)
structure Env where
 fn:Nat→Option ib
 ext:Nat→Option (List T→Option T)
 wr:Nat→Option (List T→Option (List T×Option Nat))
def nn(fr:Fr)(n:Nat)(d:Option Nat)(v:T):Option Fr:=
 match d with
 |some d=>if d<n then some (kg fr d v)else none
 |none=>some fr
def lA:T→Nat→Option T
 | .tup i,j=>if j<100 then i[j]? else match i[j/100-1]? with
   |some (.agg cs)=>cs[j%100]?
   |_=>none
 | .agg cs,j=>cs[j]?
 | .any,_=>none
 |t,_=>some t
def iI:T→Nat→T→T
 | .tup i,j,x=>if j<100 then .tup (i.set j x)else match i[j/100-1]? with
   |some (.agg cs)=> .tup (i.set (j/100-1) (.agg (cs.set (j%100) x)))
   |_=> .tup (i.set (j/100-1) .any)
 | .agg cs,j,x=> .agg (cs.set j x)
 | .any,_,_=> .any
 |_,_,x=>x
def pH:T→Bool
 | .b _| .i .. | .s _| .nilsl| .nilptr| .nilmp| .nilfn=>true
 |_=>false
def rE:T→Bool
 | .tup i=>i.all fun| .agg cs=>cs.all pH|t=>pH t
 | .agg cs=>cs.all pH
 |t=>pH t
def xl(d j:Nat)(r:T)(st:St)(us:List Up):Option (T×St):=
 match lA r j with
 |some .nilsl=>some (r,if rE r then st else st.ups us)
 |some (.sl cs len _)=>
  if cs.all pH=true∧cs.length/len*len=cs.length then
   some (iI r j (.isl .L d (((if rE (iI r j .nilsl)then st else st.ups us).get .L d).g+1) 0 len (cs.length/len)),
    (if rE (iI r j .nilsl)then st else st.ups us).up (.L,d,⟨((if rE (iI r j .nilsl)then st else st.ups us).get .L d).g+1,.cells cs 0 false⟩))
  else none
 |_=>none
def ahx(sp:Sp)(k g off:Nat):Option Nat→T
 |none=> .tup []
 |some n=> .isl sp k g off n 1
def U5(h:List T→Option (List T×Option Nat))(st:St):List T→Option (T×St)
 | [.nilsl]=>match h []with
   |some ([],none)=>some (.tup [],st)
   |some ([],some 0)=>some (.nilsl,st)
   |_=>none
 | [.isl sp k g off len 1]=>match st.get sp k with
   |⟨D,.cells cs wm false⟩=>
    if D=g∧wm≤off∧off+len≤cs.length then
     match h ((cs.drop off).take len)with
     |some (i,r)=>if i.length=len∧i.all single=true∧r.getD 0≤len then some (ahx sp k g off r,st.up (sp,k,⟨D,.cells (splice cs off i) wm false⟩))else none
     |none=>none
    else none
   |_=>none
 |_=>none
def je(E:Env)(call:qa)(d:Nat)(st:St)(f:Nat)(args:List T):Option (T×St):=
 match E.fn f,E.ext f with
 |some af,_=>
  match(ja (fz af.eff iG) args).run st.get st.sh.length with
  |some q=>
   if af.eff then
    (call f q.1 (st.ups q.2).sh).map fun r=>(r.1,{st.ups q.2 with sh:=r.2})
   else match call f q.1 []with
    |some r=>(match af.own with
     |none=>some (r.1,if scalar r.1 then st else st.ups q.2)
     |some j=>xl d j r.1 st q.2)
    |none=>none
  |none=>none
 |none,some g=>
  match(ja (fz false iG) args).run st.get st.sh.length with
  |some q=>(g q.1).map fun r=>(r,st)
  |none=>none
 |none,none=>match E.wr f with
  |some h=>U5 h st args
  |none=>none
def jd(E:Env)(call:qa)(n:Nat)(o:dy)(st:St):Option St:=
 let D:Option St:=
  match jr st.rho o.op with
  |some (some c)=>match je E call (o.d.getD 0) st c.1 c.2 with
   |some r=>(nn st.fr n o.d r.1).map fun fr=>{r.2 with fr}
   |none=>none
  |some none=>none
  |none=>match(jk (o.d.getD 0) st.rho o.op).run st.get st.sh.length with
   |some (.val v ups)=>(nn st.fr n o.d v).map fun fr=>{st.ups ups with fr}
   |none=>none
 match o.gd with
 |none=>D
 |some (j,i)=>match an st.fr j with
  | .b x=>if x=i then D else(nn st.fr n o.d iW).map fun fr=>{st with fr}
  | .any=>none
  |_=>(nn st.fr n o.d iW).map fun fr=>{st with fr}
def eb(E:Env)(call:qa)(n:Nat):List dy→St→Option St
 | [],st=>some st
 |o::i,st=>match jd E call n o st with
  |some r=>eb E call n i r
  |none=>none
def iter(f:St→Option (Out×St)):Nat→St→Option (Out×St)
 |0,_=>none
 |n+1,st=>match f st with
  |some (.nrm,i)=>iter f n i
  |r=>r
structure FP where
 all:Bool
 r:List (Sp×Nat)
 w:List (Sp×Nat)
 deriving Inhabited
def ml(xs i:List (Sp×Nat)):Bool:=xs.all fun x=> !i.contains x
def Mg(xs:List (Sp×Nat)):Bool:=xs.all fun x=>x.1== .L
def apart(x y:FP):Bool:=
 ml x.w y.r&&ml x.w y.w&&ml x.r y.w&&
 (!x.all||(!y.all&&Mg y.r&&Mg y.w))&&(!y.all||(Mg x.r&&Mg x.w))
def ki(us:List Up):List (Sp×Nat):=us.map fun u=>(u.1,u.2.1)
def qp:FP:=⟨false,[],[]⟩
def Bu(e:b8):Bool:=match e.ob with| .none=>false|_=>true
def inB(st:St)(us:List Up):Bool:=us.all fun u=>u.1== .L||Bu (st.get .S u.2.1)
def lV(E:Env)(call:qa)(d:Nat)(st:St)(f:Nat)(args:List T):Option FP:=
 match E.fn f,E.ext f with
 |some af,_=>
  let q:=ja (fz af.eff iG) args
  match q.run st.get st.sh.length with
  |some p=>if !inB st p.2 then none else
   if af.eff then some ⟨true,q.log st.get st.sh.length,ki p.2⟩else match call f p.1 []with
   |some r=>(match af.own with
    |none=>some ⟨false,q.log st.get st.sh.length,if scalar r.1 then []else ki p.2⟩
    |some _=>some ⟨false,(.L,d)::q.log st.get st.sh.length,(.L,d)::ki p.2⟩)
   |none=>none
  |none=>none
 |none,some _=>some ⟨false,(ja (fz false iG) args).log st.get st.sh.length,[]⟩
 |none,none=>none
def jT(E:Env)(call:qa)(o:dy)(st:St):Option FP:=
 let D:Option FP:=
  match jr st.rho o.op with
  |some (some c)=>lV E call (o.d.getD 0) st c.1 c.2
  |some none=>none
  |none=>
   let q:=jk (o.d.getD 0) st.rho o.op
   match q.run st.get st.sh.length with
   |some (.val _ i)=>if q.asks st.get st.sh.length||inB st i then some ⟨q.asks st.get st.sh.length,q.log st.get st.sh.length,ki i⟩else none
   |none=>none
 match o.gd with
 |none=>D
 |some (j,r)=>match an st.fr j with
  | .b x=>if x=r then D else some qp
  |_=>some qp
def iP(E:Env)(call:qa)(n:Nat):List (List Nat×dy)→List FP→St→Option St
 | [],_,st=>some st
 |(r,o)::D,jN,st=>
  match jT E call o st with
  |none=>none
  |some fp=>
   if r.all fun i=>apart (iE ⟨true,[],[]⟩ jN i) fp then
    match jd E call n o st with
    |some F=>iP E call n D (jN++ [fp]) F
    |none=>none
   else none
def AF(i:List dy):List Nat:=i.filterMap (·.d)
def j2:dE→List Nat
 | .region ops=>AF ops
 | .draws ops=>AF (ops.map (·.2))
 | .seq a b=>j2 a++j2 b
 | .fork i _ b=>AF i++j2 b
 | .cond _ a b=>j2 a++j2 b
 | .block _ a=>j2 a
 | .loop a=>j2 a
 |_=> []
def yy:List Nat→Fr→Fr
 | [],f=>f
 |k::ks,f=>kg (yy ks f) k .any
def Dt:List Nat→iq b8→iq b8→iq b8
 | [],l,_=>l
 |k::ks,l,i=>iq.set l0 (Dt ks l i) k ⟨max (iq.get l0 l k).g (iq.get l0 i k).g,.none⟩
def sG(ks:List Nat)(s t:St):St:=⟨yy ks s.fr,Dt ks s.lh t.lh,s.sh⟩
def Du(ks:List Nat)(s t:St):Prop:=s.sh=t.sh∧(∀k,k∉ks→an s.fr k=an t.fr k)∧ ∀k,k∉ks→iq.get l0 s.lh k=iq.get l0 t.lh k
open Classical in
noncomputable def OG(ks:List Nat):Option (Out×St)→Option (Out×St)→Option (Out×St)
 |some (o,s),some (o',t)=>if o=o'∧Du ks s t then some (o,sG ks s t)else none
 |_,_=>none
noncomputable def mO(E:Env)(call:qa)(i n:Nat):dE→St→Option (Out×St)
 | .skip,st=>some (.nrm,st)
 | .region ops,st=>(eb E call n ops st).map fun D=>(.nrm,D)
 | .draws ops,st=>(iP E call n ops [] st).map fun D=>(.nrm,D)
 | .seq a b,st=>match mO E call i n a st with
   |some (.nrm,D)=>mO E call i n b D
   |r=>r
 | .fork F Fb b,st=>match eb E call n F st,eb E call n Fb st with
   |some H,some I=>OG (AF F++j2 b) (mO E call i n b H) (mO E call i n b I)
   |_,_=>none
 | .cond c a b,st=>match st.rho c with
   | .b true=>mO E call i n a st
   | .b false=>mO E call i n b st
   |_=>none
 | .block id a,st=>match mO E call i n a st with
   |some (.ext Re,D)=>if Re=id then some (.nrm,D)else some (.ext Re,D)
   |r=>r
 | .loop a,st=>iter (mO E call i n a) i st
 | .exit id,st=>some (.ext id,st)
 | .ret,st=>some (.ret,st)
def J0(st:St):p5→Option T
 | .tmp t=>some (an st.fr t)
 | .cell t n ag=>(Hj (an st.fr t) n ag).run st.get st.sh.length
def nL(st:St):List p5→Option (List T)
 | []=>some []
 |r::rs=>match J0 st r,nL st rs with
  |some v,some i=>some (v::i)
  |_,_=>none
def answer(i:Bool)(vs:List T)(st:St):Option (T×List b8):=
 match(fz i iG (match vs with| [v]=>v|vs=> .tup vs)).run st.get st.sh.length with
 |some p=>some (p.1,(st.ups p.2).sh)
 |none=>none
def rF(j:Nat)(vs:List T)(st:St):Option (T×List b8):=
 match lA (match vs with| [v]=>v|vs=> .tup vs) j with
 |some .nilsl=>answer false vs st
 |some (.isl .L k g 0 len sz)=>
  (match(fz false iG (iI (match vs with| [v]=>v|vs=> .tup vs) j .nilsl)).run st.get st.sh.length with
  |some p=>(match(st.ups p.2).get .L k with
   |⟨i,.cells cs wm false⟩=>if i=g∧cs.length=len*sz∧len≠0∧(wm=0∨rE (iI p.1 j .nilsl)=true)then some (iI p.1 j (.sl cs len false),(st.ups p.2).sh)else none
   |_=>none)
  |none=>none)
 |_=>none
def tw(own:Option Nat)(i:Bool)(r:List T)(st:St):Option (T×List b8):=
 match own with
 |none=>answer i r st
 |some j=>if i then none else rF j r st
noncomputable def j4(E:Env):Nat→qa
 |0=>fun _ _ _=>none
 |m+1=>fun f args sh=>
  match E.fn f with
  |none=>none
  |some af=>
   if af.n<args.length then none else
   match mO E (j4 E m) m af.n af.code {fr:=p6 args,lh:= .nil,sh}with
   |some (.ext _,_)=>none
   |some (_,st)=>match nL st af.res with
    |some i=>tw af.own af.eff i st
    |none=>none
   |none=>none
end Go.Ev
namespace Go.Ev
open Go
def bytesN(b:ByteArray):List Nat:=b.data.toList.map UInt8.toNat
def vO:Value→Option T
 | .bool x=>some (.b x)
 | .int k n=>some (.i k n)
 | .string s=>some (.s (bytesN s))
 | .pointer none=>some .nilptr
 | .slice none 0 0=>some .nilsl
 | .map none=>some .nilmp
 | .nilFunc=>some .nilfn
 | .func (.func f) a c=>match a.toList,c.toList with
   | [],[]=>some (.fn f [] [])
   |_,_=>none
 |_=>none
def oU:List Value→Option (List T)
 | []=>some []
 |v::i=>match vO v,oU i with
  |some t,some ts=>some (t::ts)
  |_,_=>none
def Dv:Value→Option T
 | .agg cs=>(oU cs.toList).map .agg
 | .tuple cs=>(oU cs.toList).map .tup
 |v=>vO v
def lW:Operand→Option iF
 | .tmp t=>some (.t t)
 | .const v=>(Dv v).map .c
 | .func f=>some (.c (.fn f [] []))
 | .global _=>none
def AG:List Operand→Option (List iF)
 | []=>some []
 |x::xs=>match lW x,AG xs with
  |some y,some i=>some (y::i)
  |_,_=>none
def uz:Option Operand→Option (Option iF)
 |none=>some none
 |some x=>(lW x).map some
def sH(P:Program)(t:TypeId):Option T:=(P.info? t).bind fun i=>i.zero.bind Dv
def lR(P:Program)(t:TypeId):Option Nat:=(P.info? t).map (·.size)
def uA(P:Program)(t:TypeId):Option Bool:=(P.underlying t).map fun| .struct _| .array _ _=>true|_=>false
def wo(P:Program)(t:TypeId):Option CK:=
 match P.underlying t with
 |some (.int _)=>some .int
 |some .string=>some .str
 |some .bool=>some .bool
 |_=>none
def od(P:Program):Nat→List Field→Option (List CK)
 |_,[]=>some []
 |i,f::r=>if f.offset=i&&f.name != "_" &&(P.info? f.type).map (·.size)==some 1 then match wo P f.type,od P (i+1) r with
  |some k,some ks=>some (k::ks)
  |_,_=>none
  else none
def Dw(P:Program)(t:TypeId):Option EK:=
 match P.underlying t with
 |some (.int _)=>some (.one .int)
 |some .string=>some (.one .str)
 |some .bool=>some (.one .bool)
 |some (.slice _)=>some .sl
 |some (.pointer _)=>some .ptr
 |some (.map _ _)=>some .map
 |some (.struct i)=>if !P.eqGuardType P.depth t&& !P.stoodInHeld t then(od P 0 i.toList).map .flat else none
 |some (.array n e)=>if !P.eqGuardType P.depth t&&P.cellsOf e==1 then(wo P e).map fun k=> .flat (List.replicate n k)else none
 |_=>none
def keyOf(P:Program)(t:TypeId):Option EK:=
 match Dw P t with
 |some (.one k)=>some (.one k)
 |some (.flat ks)=>match P.underlying t with
  |some (.struct _)=>some (.flat ks)
  |_=>none
 |_=>none
def placesOf(F:List (Nat×Nat)):List (Nat×Operand)→Option (List (Nat×Nat×iF))
 | []=>some []
 |(i,x)::D=>match F[i]?,lW x,placesOf F D with
  |some p,some y,some r=>some ((p.1,p.2,y)::r)
  |_,_,_=>none
def qE(sz:Nat):List (Nat×Operand)→Option (List (Nat×Nat×iF))
 | []=>some []
 |(i,x)::D=>match lW x,qE sz D with
  |some y,some r=>some ((i*sz,sz,y)::r)
  |_,_=>none
def vP:List (Nat×Operand)→Option (List (Nat×iF))
 | []=>some []
 |(i,x)::D=>match lW x,vP D with
  |some y,some r=>some ((i,y)::r)
  |_,_=>none
def Hl:Operand→Operand→Bool
 | .tmp a,.tmp b=>a==b
 | .const (.int .i64 a),.const (.int .i64 b)=>a==b
 |_,_=>false
def sI(P:Program)(sh:Nat)(c:Call):Option mH:=
 match c.callee with
 | .value (.func f)=>(AG c.args.toList).map fun as=> .callf f as
 | .value x=>match lW x,AG c.args.toList with
   |some y,some as=>some (.callv y as)
   |_,_=>none
 | .builtin .len=>match c.argTypes[0]?,c.args.toList with
   |some t,[x]=>match P.underlying t,lW x with
    |some .string,some y=>some (.lenS y)
    |some (.slice _),some y=>some (.lenV y)
    |some (.map _ _),some y=>some (.lenM y)
    |some (.array n _),some _=>some (.lenC n)
    |_,_=>none
   |_,_=>none
 | .builtin .append=>match c.argTypes.toList,c.args.toList with
   | [t,u],[x,y]=>match P.underlying t,P.underlying u,lW x,lW y with
     |some (.slice e),some r,some D,some F=>
      (match r with
      | .slice _| .string=>(match P.info? e with
        |some i=>(match i.zero with
         |some z=>if i.size=z.cells.size&&i.size != 0&&i.bytes != 0 then some (.app i.size i.bytes D F (sh==1||sh==3) (sh==2||sh==3))else none
         |none=>none)
        |none=>none)
      |_=>none)
     |_,_,_,_=>none
   |_,_=>none
 | .builtin .min=>(AG c.args.toList).map fun as=> .mm false as
 | .builtin .max=>(AG c.args.toList).map fun as=> .mm true as
 |_=>none
def jZ(P:Program)(sh:Nat):Op→Option mH
 | .move x| .assign x=>(lW x).map .mv
 | .pick c a b=>match lW c,lW a,lW b with
   |some c,some a,some b=>some (.pick c a b)
   |_,_,_=>none
 | .alloc t=>match sH P t with
   |some z=>if noTup z then some (.alloc (cellsOf z) (sh==1))else none
   |none=>none
 | .box _ x=>(lW x).map fun y=> .box y (sh==1)
 | .build t F=>match sH P t,P.underlying t with
   |some z,some (.struct D)=>(match D.toList.mapM (fun f=>(P.info? f.type).map fun i=>(f.offset,i.size))with
    |some J=>if noTup z then(placesOf J F.toList).map fun r=> .build (cellsOf z) r else none
    |none=>none)
   |some z,some (.array _ e)=>(match lR P e with|some n=>if noTup z then(qE n F.toList).map fun r=> .build (cellsOf z) r else none|none=>none)
   |_,_=>none
 | .buildSlice t len F=>match P.underlying t with
   |some (.slice e)=>match sH P e,lR P e,vP F.toList with
    |some z,some n,some r=>if noTup z&&n=(cellsOf z).length&&n != 0&&len*n≤16777216 then some (.bsl (cellsOf z) len r)else none
    |_,_,_=>none
   |_=>none
 | .load t x=>match lW x,lR P t,uA P t with
   |some y,some n,some ag=>some (.ld y n ag)
   |_,_,_=>none
 | .store t x v=>match lW x,lW v,lR P t with
   |some y,some u,some n=>some (.st y u n)
   |_,_,_=>none
 | .nilCheck x=>(lW x).map .nck
 | .binOp op t x y _=>match lW x,lW y with
   |some a,some b=>match op,wo P t with
    | .eql,some .bool=>some (.eq false (.one .bool) a b)
    | .neq,some .bool=>some (.eq true (.one .bool) a b)
    |_,some _=>some (.bin op a b)
    | .eql,none=>(Dw P t).map fun k=> .eq false k a b
    | .neq,none=>(Dw P t).map fun k=> .eq true k a b
    |_,_=>none
   |_,_=>none
 | .unOp op _ x=>(lW x).map (.un op)
 | .convert s t x=>match P.underlying s,P.underlying t,lW x with
   |some (.int _),some (.int k),some y=>some (.cvi k y)
   |some (.slice e),some .string,some y=>(match P.underlying e with|some (.int .u8)=>some (.b2s y)|_=>none)
   |_,_,_=>none
 | .makeFunc (.func f) first H=>match AG first.toList,AG H.toList with
   |some a,some c=>some (.mkfn f a c)
   |_,_=>none
 | .makeMap _ none=>some (.mkmap (sh==1))
 | .makeSlice t l c=>match P.underlying t with
   |some (.slice e)=>match P.info? e,sH P e,lW l with
    |some i,some z,some y=>if noTup z&&Hl l c&&i.size=(cellsOf z).length&&i.size != 0 then some (.mksl (cellsOf z) i.bytes y (sh==1))else none
    |_,_,_=>none
   |_=>none
 | .slice t x l h m=>match P.underlying t,lW x,uz l,uz h,uz m with
   |some .string,some y,some l,some h,some none=>some (.slS y l h)
   |some (.slice e),some y,some l,some h,some m=>(match lR P e with|some n=>if n != 0&&(m.isNone||h.isSome)then some (.slV n y l h m)else none|none=>none)
   |_,_,_,_,_=>none
 | .fieldAddr s x f=>match P.underlying s,lW x with
   |some (.struct D),some y=>(match D[f]? with
    |some fd=>(match lR P fd.type with|some n=>if n != 0 then some (.fa y fd.offset)else none|none=>none)
    |none=>none)
   |_,_=>none
 | .field s x f=>match P.underlying s,lW x with
   |some (.struct D),some y=>(match D[f]? with
    |some fd=>(match lR P fd.type,uA P fd.type with|some n,some ag=>some (.fld y fd.offset n ag)|_,_=>none)
    |none=>none)
   |_,_=>none
 | .indexAddr t x j=>match P.underlying t,lW x,lW j with
   |some (.slice e),some y,some j=>(match lR P e with|some n=>if n != 0 then some (.ia y j n)else none|none=>none)
   |some (.array len e),some y,some j=>(match lR P e with|some n=>if n != 0 then some (.iaA y j len n)else none|none=>none)
   |_,_,_=>none
 | .index t x j=>match P.underlying t,lW x,lW j with
   |some .string,some y,some j=>some (.ixS y j)
   |some (.array len e),some y,some j=>(match lR P e,uA P e with|some n,some ag=>some (.ixA y j len n ag)|_,_=>none)
   |_,_,_=>none
 | .lookup t m k K=>match P.underlying t,lW m,lW k with
   |some (.map I N),some m,some k=>(match keyOf P I,sH P N with|some ek,some z=>some (.lk ek m k z K)|_,_=>none)
   |_,_,_=>none
 | .mapUpdate t m k v=>match P.underlying t,lW m,lW k,lW v with
   |some (.map I _),some m,some k,some v=>(keyOf P I).map fun ek=> .mu ek m k v
   |_,_,_,_=>none
 | .extract x j=>(lW x).map fun y=> .ext y j
 | .call c=>sI P sh c
 |_=>none
def ahy(hs:List Nat)(d:Option Nat):Nat:=
 match d with
 |some d=>if hs.contains d then(if hs.contains (d+100000)then 3 else 1)else if hs.contains (d+100000)then 2 else 0
 |none=>0
def afB:List Nat→Option Nat
 | []=>none
 |h::hs=>if h<1000000 then afB hs else some (h-1000000)
def uQ(P:Program)(hs:List Nat)(ops:Array Oper)(o:Oper):Option dy:=
 match jZ P (ahy hs o.dst) o.op with
 |some op=>match o.guard with
  |none=>some ⟨o.dst,op,none⟩
  |some (j,i)=>match(ops[j]?).bind (·.dst)with
   |some d=>some ⟨o.dst,op,some (d,i)⟩
   |none=>none
 |none=>none
def kP(P:Program)(hs:List Nat)(ops:Array Oper):List Oper→Option (List dy)
 | []=>some []
 |o::i=>match uQ P hs ops o,kP P hs ops i with
  |some a,some as=>some (a::as)
  |_,_=>none
def quiet:mH→Bool
 | .mv _| .pick .. | .build .. | .nck _| .bin .. | .eq .. | .un .. | .cvi .. | .b2s _| .mkfn .. | .slS .. | .slV .. | .fa .. | .fld .. | .ia .. | .iaA .. | .ixS .. | .ixA .. | .ext .. | .lenS _| .lenV _| .lenC _| .mm .. =>true
 |_=>false
def jX(o:Oper):List Nat:=(o.after.toList.filter (Region.binds .any)).map (·.on)
def Hm(i:List Nat)(r:List Nat):Nat:=r.foldl (fun m p=>m ||| 2 ^ p ||| iE 0 i p) 0
def qO:List (List Nat)→List Nat→List Nat
 | [],i=>i
 |ps::r,i=>qO r (i++ [Hm i ps])
def yz:Nat→List (List Nat)→Bool
 |_,[]=>true
 |i,D::r=>D.all (· <i)&&yz (i+1) r
def mP(x y:dy):Bool:=
 (match x.d with|some d=> !(looks y).contains d&& !(y.d==some d)|none=>true)&&(match y.d with|some d=> !(looks x).contains d|none=>true)
def Dx(m:Nat)(as:List dy):List (Nat×dy):=(as.zipIdx.map fun p=>(p.2,p.1)).filter fun p=> !m.testBit p.1
def yA:List Nat→List dy→List dy→Bool
 |_,_,[]=>true
 | [],_,_=>false
 |m::D,i,a::r=>((Dx m i).all fun p=>mP p.2 a)&&yA D (i++ [a]) r
def sJ:List Nat→List dy→List dy→List (List Nat×dy)
 |m::D,i,a::r=>((if quiet a.op then []else((Dx m i).filter fun p=> !quiet p.2.op).map (·.1)),a)::sJ D (i++ [a]) r
 |_,_,_=> []
def aq8(i r:dy):Bool:=match i,r with
 |⟨none,.st (.t x) (.c (.b true)) 1,none⟩,⟨none,.st (.t y) (.c (.b false)) 1,none⟩=>x==y
 |_,_=>false
def Hn(F:List (List Nat)):Bool:=match F with
 | [[],r,D,i]=>r.contains 0&&D.contains 0&&r.all (· <1)&&D.all (· <1)&&i.contains 1&&i.contains 2&&i.all (· <3)
 |_=>false
def OH(P:Program)(hs:List Nat)(a:Code)(r i:dE):dE:=match a with
 | .region _ ops true=>(match kP P hs ops ops.toList with
   |some [H,D,F,I]=>if Hn (ops.toList.map jX)&&aq8 D F then .fork [H,D,F,I] [H,F,D,I] i else .seq r i
   |_=> .seq r i)
 |_=> .seq r i
def nj(P:Program)(hs:List Nat):Code→Option dE
 | .skip=>some .skip
 | .region _ ops false=>(kP P hs ops ops.toList).map .region
 | .region _ ops true=>
   match kP P hs ops ops.toList with
   |some as=>
    let i:=ops.toList.map jX
    if yz 0 i&&yA (qO i []) [] as then some (.draws (sJ (qO i []) [] as))else none
   |none=>none
 | .seq a b=>match nj P hs a,nj P hs b with
   |some r,some D=>some (OH P hs a r D)
   |_,_=>none
 | .cond c a b=>match lW c,nj P hs a,nj P hs b with
   |some c,some a,some b=>some (.cond c a b)
   |_,_,_=>none
 | .block id a=>(nj P hs a).map (.block id)
 | .loop a=>(nj P hs a).map .loop
 | .exit id=>some (.exit id)
 | .ret=>some .ret
 |_=>none
def tz(P:Program):List ResultVar→Option (List p5)
 | []=>some []
 | .tmp t::rs=>(tz P rs).map (.tmp t:: ·)
 | .cell a t::rs=>match lR P t,uA P t,tz P rs with
   |some n,some ag,some rs=>some (.cell a n ag::rs)
   |_,_,_=>none
def Gb(P:Program)(hs:List Nat)(r:Bool)(i:Func):Option ib:=
 if i.name== "runtime.NumGoroutine" then none else
 match i.body with
 |none=>none
 |some c=>match nj P hs c,tz P i.results.toList with
  |some c,some rs=>some ⟨i.ntmps,c,rs,r,afB hs⟩
  |_,_=>none
end Go.Ev
namespace Go.Ev
open Go
structure J1 where
 blk:Nat
 off:Nat
 ext:Nat
abbrev iL:=Sp→Nat→Nat→J1
abbrev iB:=Nat→Nat→Prop
mutual
def PRel(w:World)(M:iB):T→Value→Prop
 | .b x,v=>v= .bool x
 | .i k n,v=>v= .int k n
 | .s l,v=> ∃H,v= .string H∧bytesN H=l
 | .nilsl,v=>v= .slice none 0 0
 | .sl cs len ex,v=> ∃r off F sp,v= .slice (some ⟨r,off,sp⟩) len F∧len≤F∧(ex=true→F=len)∧(sp=none∨F=0)∧PCells w M r off cs
 | .nilptr,v=>v= .pointer none
 | .vp cs,v=> ∃r off,v= .pointer (some ⟨r,off,none⟩)∧PCells w M r off cs
 | .nilmp,v=>v= .map none
 | .vm ks K,v=> ∃r es D,v= .map (some r)∧w.heap[r]? =some (.map es D)∧MapKept.Stamped es D∧(∀o,¬M r o)∧PList w M ks (es.toList.map (·.key))∧PList w M K (es.toList.map (·.val))
 | .nilfn,v=>v= .nilFunc
 | .fn f a c,v=> ∃I J,v= .func (.func f) I J∧PList w M a I.toList∧PList w M c J.toList
 | .agg cs,v=> ∃a,v= .agg a∧PList w M cs a.toList∧cs.all single=true
 | .tup cs,v=> ∃a,v= .tuple a∧PList w M cs a.toList
 | .any,_=>True
 | .isl ..,_=>False
 | .ptr ..,_=>False
 | .mp ..,_=>False
def PList(w:World)(M:iB):List T→List Value→Prop
 | [],i=>i= []
 |t::ts,i=> ∃u us,i=u::us∧PRel w M t u∧PList w M ts us
def PCells(w:World)(M:iB)(i off:Nat):List T→Prop
 | []=>True
 |c::cs=>(∃v,w.cell? ⟨i,off,none⟩=some v∧ ¬M i off∧PRel w M c v∧single c=true)∧PCells w M i (off+1) cs
end
mutual
def fx(β:iL)(G:Sp→Nat→Nat)(w:World)(M:iB):T→Value→Prop
 | .isl sp k g off len sz,v=>g≤G sp k∧ ∃r,v= .slice (some ⟨(β sp k g).blk,(β sp k g).off+off,none⟩) len r∧len≤r∧off+r*sz≤(β sp k g).ext
 | .ptr sp k g off,v=>g≤G sp k∧v= .pointer (some ⟨(β sp k g).blk,(β sp k g).off+off,none⟩)
 | .mp sp k g,v=>g≤G sp k∧v= .map (some (β sp k g).blk)
 | .fn f a c,v=> ∃D F,v= .func (.func f) D F∧gP β G w M a D.toList∧gP β G w M c F.toList
 | .agg cs,v=> ∃a,v= .agg a∧gP β G w M cs a.toList∧cs.all single=true
 | .tup cs,v=> ∃a,v= .tuple a∧gP β G w M cs a.toList
 | .any,_=>True
 | .b x,v=>v= .bool x
 | .i k n,v=>v= .int k n
 | .s l,v=> ∃H,v= .string H∧bytesN H=l
 | .nilsl,v=>v= .slice none 0 0
 | .sl cs len ex,v=>PRel w M (.sl cs len ex) v
 | .nilptr,v=>v= .pointer none
 | .vp cs,v=>PRel w M (.vp cs) v
 | .nilmp,v=>v= .map none
 | .vm ks I,v=>PRel w M (.vm ks I) v
 | .nilfn,v=>v= .nilFunc
def gP(β:iL)(G:Sp→Nat→Nat)(w:World)(M:iB):List T→List Value→Prop
 | [],i=>i= []
 |t::ts,i=> ∃u us,i=u::us∧fx β G w M t u∧gP β G w M ts us
end
structure kQ (w:World) (M:iB) (w':World) (M':iB):Prop where
 cell: ∀b o v,w.cell? ⟨b,o,none⟩=some v→ ¬M b o→w'.cell? ⟨b,o,none⟩=some v
 map: ∀(b:Nat) es c,w.heap[b]? =some (.map es c)→(∀o,¬M b o)→w'.heap[b]? =some (.map es c)
 m: ∀b o,b<w.heap.size→M' b o→M b o
theorem yB{w:World}{b o:Nat}{v:Value}(h:w.cell? ⟨b,o,none⟩=some v):b<w.heap.size:=by
 grind [World.cell?]
theorem rG{w:World}{b:Nat}{o:Obj}(h:w.heap[b]? =some o):b<w.heap.size:=by
 grind
mutual
theorem PRel.mono{w w':World}{M M':iB}(k:kQ w M w' M'): ∀(t:T) (v:Value),PRel w M t v→PRel w' M' t v
 | .b x,v,h=>by grind [PRel]
 | .i _ n,v,h=>by grind [PRel]
 | .s l,v,h=>by grind [PRel]
 | .nilsl,v,h=>by grind [PRel]
 | .sl cs len ex,v,h=>by
   simp only[PRel]at h ⊢
   obtain⟨r,off,K,sp,D,F,H,N,J⟩:=h
   exact⟨r,off,K,sp,D,F,H,N,PCells.mono k r off cs J⟩
 | .nilptr,v,h=>by grind [PRel]
 | .vp cs,v,h=>by
   simp only[PRel]at h ⊢
   obtain⟨r,off,D,J⟩:=h
   exact⟨r,off,D,PCells.mono k r off cs J⟩
 | .nilmp,v,h=>by grind [PRel]
 | .vm ks O,v,h=>by
   simp only[PRel]at h ⊢
   obtain⟨r,es,I,D,F,U,H,J,N⟩:=h
   exact⟨r,es,I,D,k.map _ _ _ F H,U,fun o V=>H o (k.m _ _ (rG F) V),PList.mono k ks _ J,PList.mono k O _ N⟩
 | .nilfn,v,h=>by grind [PRel]
 | .fn f a c,v,h=>by
   simp only[PRel]at h ⊢
   obtain⟨W,X,D,F,H⟩:=h
   exact⟨W,X,D,PList.mono k a _ F,PList.mono k c _ H⟩
 | .agg cs,v,h=>by
   simp only[PRel]at h ⊢
   obtain⟨a,D,F,H⟩:=h
   exact⟨a,D,PList.mono k cs _ F,H⟩
 | .tup cs,v,h=>by
   simp only[PRel]at h ⊢
   obtain⟨a,D,F⟩:=h
   exact⟨a,D,PList.mono k cs _ F⟩
 | .any,v,h=>by simp only[PRel]
 | .isl ..,v,h=>by simp only[PRel]at h
 | .ptr ..,v,h=>by simp only[PRel]at h
 | .mp ..,v,h=>by simp only[PRel]at h
theorem PList.mono{w w':World}{M M':iB}(k:kQ w M w' M'): ∀(t:List T) (v:List Value),PList w M t v→PList w' M' t v
 | [],v,h=>by grind [PList]
 |t::ts,v,h=>by
  simp only[PList]at h ⊢
  obtain⟨u,us,i,r,D⟩:=h
  exact⟨u,us,i,PRel.mono k t u r,PList.mono k ts us D⟩
theorem PCells.mono{w w':World}{M M':iB}(k:kQ w M w' M')(i:Nat): ∀(off:Nat) (t:List T),PCells w M i off t→PCells w' M' i off t
 |off,[],h=>by simp only[PCells]
 |off,c::cs,h=>by
  simp only[PCells]at h ⊢
  obtain⟨⟨v,r,D,F,H⟩,I⟩:=h
  exact⟨⟨v,k.cell _ _ _ r D,fun J=>D (k.m _ _ (yB r) J),PRel.mono k c v F,H⟩,PCells.mono k i (off+1) cs I⟩
end
mutual
theorem fx.mono{β iO:iL}{G G':Sp→Nat→Nat}{w w':World}{M M':iB}(k:kQ w M w' M')(Fv: ∀sp n g,g≤G sp n→iO sp n g=β sp n g)(F: ∀sp n,G sp n≤G' sp n):
  ∀(t:T) (v:Value),fx β G w M t v→fx iO G' w' M' t v
 | .isl sp n g off len sz,v,h=>by
   grind [fx]
 | .ptr sp n g off,v,h=>by
   grind [fx]
 | .mp sp n g,v,h=>by
   grind [fx]
 | .fn f a c,v,h=>by
   simp only[fx]at h ⊢
   obtain⟨I,J,r,D,H⟩:=h
   exact⟨I,J,r,gP.mono k Fv F a _ D,gP.mono k Fv F c _ H⟩
 | .agg cs,v,h=>by
   simp only[fx]at h ⊢
   obtain⟨a,r,D,H⟩:=h
   exact⟨a,r,gP.mono k Fv F cs _ D,H⟩
 | .tup cs,v,h=>by
   simp only[fx]at h ⊢
   obtain⟨a,r,D⟩:=h
   exact⟨a,r,gP.mono k Fv F cs _ D⟩
 | .any,v,h=>by simp only[fx]
 | .b x,v,h=>by grind [fx]
 | .i _ n,v,h=>by grind [fx]
 | .s l,v,h=>by grind [fx]
 | .nilsl,v,h=>by grind [fx]
 | .sl cs len ex,v,h=>by grind [fx,PRel.mono]
 | .nilptr,v,h=>by grind [fx]
 | .vp cs,v,h=>by grind [fx,PRel.mono]
 | .nilmp,v,h=>by grind [fx]
 | .vm ks K,v,h=>by grind [fx,PRel.mono]
 | .nilfn,v,h=>by grind [fx]
theorem gP.mono{β iO:iL}{G G':Sp→Nat→Nat}{w w':World}{M M':iB}(k:kQ w M w' M')(Fv: ∀sp n g,g≤G sp n→iO sp n g=β sp n g)(i: ∀sp n,G sp n≤G' sp n):
  ∀(t:List T) (v:List Value),gP β G w M t v→gP iO G' w' M' t v
 | [],v,h=>by grind [gP]
 |t::ts,v,h=>by
  simp only[gP]at h ⊢
  obtain⟨u,us,r,D,F⟩:=h
  exact⟨u,us,r,fx.mono k Fv i t u D,gP.mono k Fv i ts us F⟩
end
mutual
theorem PRel.toV{w:World}{M:iB}(β:iL)(G:Sp→Nat→Nat): ∀(t:T) (v:Value),PRel w M t v→fx β G w M t v
 | .b x,v,h=>by grind [fx,PRel]
 | .i _ n,v,h=>by grind [fx,PRel]
 | .s l,v,h=>by grind [fx,PRel]
 | .nilsl,v,h=>by grind [fx,PRel]
 | .sl cs len ex,v,h=>by grind [fx]
 | .nilptr,v,h=>by grind [fx,PRel]
 | .vp cs,v,h=>by grind [fx]
 | .nilmp,v,h=>by grind [fx,PRel]
 | .vm ks J,v,h=>by grind [fx]
 | .nilfn,v,h=>by grind [fx,PRel]
 | .fn f a c,v,h=>by
   simp only[PRel]at h;simp only[fx]
   obtain⟨H,I,r,D,F⟩:=h
   exact⟨H,I,r,PList.toV β G a _ D,PList.toV β G c _ F⟩
 | .agg cs,v,h=>by
   simp only[PRel]at h;simp only[fx]
   obtain⟨a,r,D,F⟩:=h
   exact⟨a,r,PList.toV β G cs _ D,F⟩
 | .tup cs,v,h=>by
   simp only[PRel]at h;simp only[fx]
   obtain⟨a,r,D⟩:=h
   exact⟨a,r,PList.toV β G cs _ D⟩
 | .any,v,h=>by simp only[fx]
 | .isl ..,v,h=>by simp only[PRel]at h
 | .ptr ..,v,h=>by simp only[PRel]at h
 | .mp ..,v,h=>by simp only[PRel]at h
theorem PList.toV{w:World}{M:iB}(β:iL)(G:Sp→Nat→Nat): ∀(t:List T) (v:List Value),PList w M t v→gP β G w M t v
 | [],v,h=>by grind [gP,PList]
 |t::ts,v,h=>by
  simp only[PList]at h;simp only[gP]
  obtain⟨u,us,i,r,D⟩:=h
  exact⟨u,us,i,PRel.toV β G t u r,PList.toV β G ts us D⟩
end
theorem gP.length{β:iL}{G:Sp→Nat→Nat}{w:World}{M:iB}: ∀(t:List T) (v:List Value),gP β G w M t v→t.length=v.length
 | [],v,h=>by grind [gP]
 |t::ts,v,h=>by
  simp only[gP]at h
  obtain⟨u,us,rfl,_,i⟩:=h
  simp[gP.length ts us i]
theorem PList.length{w:World}{M:iB}: ∀(t:List T) (v:List Value),PList w M t v→t.length=v.length
 | [],v,h=>by grind [PList]
 |t::ts,v,h=>by
  simp only[PList]at h
  obtain⟨u,us,rfl,_,i⟩:=h
  simp[PList.length ts us i]
def yC(β:iL)(G:Sp→Nat→Nat)(w:World)(M:iB)(ts:List T)(r:List Value):Prop:=
 ∀i G',(∀k g,g≤G .S k→i .S k g=β .S k g)→(∀k,G .S k≤G' .S k)→gP i G' w M ts r
def pI(sp:Sp)(bx:Bool)(β:iL)(G:Sp→Nat→Nat)(w:World)(M:iB)(ts:List T)(i:List Value):Prop:=
 match bx,sp with
 |false,_=>PList w M ts i
 |true,.L=>gP β G w M ts i
 |true,.S=>yC β G w M ts i
theorem yC.toV{β:iL}{G:Sp→Nat→Nat}{w:World}{M:iB}{ts:List T}{i:List Value}(h:yC β G w M ts i):gP β G w M ts i:=h β G (fun _ _ _=>rfl) (fun _=>Nat.le_refl _)
theorem yC.mono{β iO:iL}{G G':Sp→Nat→Nat}{w w':World}{M M':iB}{ts:List T}{i:List Value}(k:kQ w M w' M')(Fv: ∀n g,g≤G .S n→iO .S n g=β .S n g)(r: ∀n,G .S n≤G' .S n)(h:yC β G w M ts i):yC iO G' w' M' ts i:=
 fun b g D F=>gP.mono k (fun _ _ _ _=>rfl) (fun _ _=>Nat.le_refl _) _ _ (h b g (fun n x hx=>(D n x (Nat.le_trans hx (r n))).trans (Fv n x hx)) (fun n=>Nat.le_trans (r n) (F n)))
theorem pI.toV{sp:Sp}{bx:Bool}{β:iL}{G:Sp→Nat→Nat}{w:World}{M:iB}{ts:List T}{i:List Value}(h:pI sp bx β G w M ts i):gP β G w M ts i:=by
 cases bx
 ·exact PList.toV β G _ _ h
 ·cases sp
  ·exact h
  ·exact yC.toV h
theorem pI.ofP{sp:Sp}{bx:Bool}{β:iL}{G:Sp→Nat→Nat}{w:World}{M:iB}{ts:List T}{i:List Value}(h:PList w M ts i):pI sp bx β G w M ts i:=by
 cases bx
 ·exact h
 ·cases sp
  ·exact PList.toV β G _ _ h
  ·exact fun r G' _ _=>PList.toV r G' _ _ h
theorem pI.mono{sp:Sp}{bx:Bool}{β iO:iL}{G G':Sp→Nat→Nat}{w w':World}{M M':iB}{ts:List T}{i:List Value}(k:kQ w M w' M')(Fv: ∀sp n g,g≤G sp n→iO sp n g=β sp n g)(r: ∀sp n,G sp n≤G' sp n)
  (h:pI sp bx β G w M ts i):pI sp bx iO G' w' M' ts i:=by
 cases bx
 ·exact PList.mono k _ _ h
 ·cases sp
  ·exact gP.mono k Fv r _ _ h
  ·exact yC.mono k (Fv .S) (r .S) h
abbrev St.gens(st:St)(sp:Sp)(k:Nat):Nat:=(st.get sp k).g
def live(e:b8):Prop:=match e.ob with| .none=>False|_=>True
def kY(β:iL)(G:Sp→Nat→Nat)(w:World)(M:iB)(sp:Sp)(k:Nat)(e:b8):Prop:=
 match e.ob with
 | .none=>True
 | .cells cs wm bx=> ∃c el fz,w.heap[(β sp k e.g).blk]? =some (.cells c el fz)∧(β sp k e.g).off+(β sp k e.g).ext≤c.size∧cs.length≤(β sp k e.g).ext∧
     fz=(0,0)∧
     pI sp bx β G w M cs ((c.toList.drop (β sp k e.g).off).take cs.length)∧
     (∀j,wm≤j→j<(β sp k e.g).ext→M (β sp k e.g).blk ((β sp k e.g).off+j))∧cs.all single=true∧wm≤cs.length
 | .map ks r fz=> ∃es i,w.heap[(β sp k e.g).blk]? =some (.map es i)∧MapKept.Stamped es i∧PList w M ks (es.toList.map (·.key))∧PList w M r (es.toList.map (·.val))∧(fz=false→ ∀o,M (β sp k e.g).blk o)
structure l8 where
 w:World
 M:iB
 SB:Nat→Prop
structure iU (B:l8) (st:St) (w:World) (β:iL) (M:iB):Prop where
 obj: ∀sp k,kY β st.gens w M sp k (st.get sp k)
 dist: ∀sp k kK k',live (st.get sp k)→live (st.get kK k')→(β sp k (st.gens sp k)).blk=(β kK k' (st.gens kK k')).blk→sp=kK∧k=k'
 mlt: ∀b o,M b o→b<w.heap.size
 lblk: ∀k,live (st.get .L k)→B.w.heap.size≤(β .L k (st.gens .L k)).blk
 sblk: ∀k,live (st.get .S k)→B.SB (β .S k (st.gens .S k)).blk∨B.w.heap.size≤(β .S k (st.gens .S k)).blk
 os:w.os=B.w.os
 tape:w.tape=B.w.tape
 output:w.output=B.w.output
 size:B.w.heap.size≤w.heap.size
 same: ∀b,b<B.w.heap.size→ ¬B.SB b→w.heap[b]? =B.w.heap[b]?
 keep:kQ B.w B.M w M
 msup: ∀b o,b<B.w.heap.size→ ¬B.SB b→B.M b o→M b o
structure Tr (st:St) (w:World) (β:iL) (M:iB) (jf:St) (w':World) (iO:iL) (M':iB):Prop where
 keep:kQ w M w' M'
 beta: ∀sp k g,g≤st.gens sp k→iO sp k g=β sp k g
 gens: ∀sp k,st.gens sp k≤jf.gens sp k
theorem kQ.refl(w:World)(M:iB):kQ w M w M:=⟨fun _ _ _ h _=>h,fun _ _ _ h _=>h,fun _ _ _ h=>h⟩
theorem kQ.trans{w w' r:World}{M M' M'':iB}(a:kQ w M w' M')(b:kQ w' M' r M'')(hs:w.heap.size≤w'.heap.size):kQ w M r M'':=
 ⟨fun x o v h i=>b.cell x o v (a.cell x o v h i) (fun D=>i (a.m _ _ (yB h) D)),
  fun x es c h i=>b.map x es c (a.map x es c h i) (fun o D=>i o (a.m _ _ (rG h) D)),
  fun x o h i=>a.m x o h (b.m x o (Nat.lt_of_lt_of_le h hs) i)⟩
theorem Tr.refl(st:St)(w:World)(β:iL)(M:iB):Tr st w β M st w β M:=⟨.refl w M,fun _ _ _ _=>rfl,fun _ _=>Nat.le_refl _⟩
theorem Tr.trans{st D i:St}{w w' r:World}{β iO arc:iL}{M M' M'':iB}(a:Tr st w β M D w' iO M')(b:Tr D w' iO M' i r arc M'')(hs:w.heap.size≤w'.heap.size):
  Tr st w β M i r arc M'':=
 ⟨a.keep.trans b.keep hs,fun sp k g h=>(b.beta sp k g (Nat.le_trans h (a.gens sp k))).trans (a.beta sp k g h),fun sp k=>Nat.le_trans (a.gens sp k) (b.gens sp k)⟩
theorem Tr.val{st i:St}{w w':World}{β iO:iL}{M M':iB}(a:Tr st w β M i w' iO M'){t:T}{v:Value}(h:fx β st.gens w M t v):fx iO i.gens w' M' t v:=
 fx.mono a.keep a.beta a.gens t v h
structure og (st:St) (a:Act) (w:World) (β:iL) (M:iB) (n:Nat):Prop where
 size:a.tmps.size=n
 defers:a.defers= []
 slot: ∀t,fx β st.gens w M (an st.fr t) (a.tmps.getD t undef)
end Go.Ev
namespace Go.Ev
open Go
theorem mb(st:St)(sp:Sp)(k:Nat)(e:b8)(i:Sp)(k':Nat):
  (st.up (sp,k,e)).get i k'=if i=sp∧k'=k then e else st.get i k':=by
 cases sp <;> cases i <;> simp[St.up,St.get,iz,iH,sD,iq.get_set]
theorem lH(st:St)(sp:Sp)(k:Nat)(e:b8)(i:Sp)(k':Nat):
  (st.up (sp,k,e)).gens i k'=if i=sp∧k'=k then e.g else st.gens i k':=by
 unfold St.gens;rw[mb];split <;> rfl
theorem heap_alloc(w:World)(o:Obj)(b:Nat):(w.alloc o).heap[b]? =if b=w.heap.size then some o else w.heap[b]? :=by
 show(w.heap.push o)[b]? =_
 grind
theorem oh{w w':World}{b o:Nat}(h:w'.heap[b]? =w.heap[b]?):w'.cell? ⟨b,o,none⟩=w.cell? ⟨b,o,none⟩:=by
 unfold World.cell?;rw[h]
theorem kY.mono{β iO:iL}{G G':Sp→Nat→Nat}{w w':World}{M M':iB}{sp:Sp}{n:Nat}{e:b8}(k:kQ w M w' M')(Fv: ∀sp n g,g≤G sp n→iO sp n g=β sp n g)(V: ∀sp n,G sp n≤G' sp n)
  (K:e.g≤G sp n) (I:live e→w'.heap[(β sp n e.g).blk]? =w.heap[(β sp n e.g).blk]?) (J:live e→ ∀o,M (β sp n e.g).blk o→M' (β sp n e.g).blk o)
  (h:kY β G w M sp n e):kY iO G' w' M' sp n e:=by
 unfold kY at h ⊢
 rw[Fv _ _ _ K]
 obtain⟨g,ob⟩:=e
 cases ob with
 |none=>trivial
 |cells cs wm bx=>
  obtain⟨c,el,fz,r,D,F,H,W,N,O⟩:=h
  refine⟨c,el,fz,(I trivial).trans r,D,F,H, ?_,fun j a b=>J trivial _ (N j a b),O⟩
  grind [pI.mono]
 |map ks X fz=>
  obtain⟨es,i,r,U,D,F,H⟩:=h
  exact⟨es,i,(I trivial).trans r,U,PList.mono k _ _ D,PList.mono k _ _ F,fun a o=>J trivial o (H a o)⟩
theorem iU.lt{B:l8}{st:St}{w:World}{β:iL}{M:iB}(h:iU B st w β M){sp:Sp}{k:Nat}(i:live (st.get sp k)):(β sp k (st.gens sp k)).blk<w.heap.size:=by
 have:=h.obj sp k
 unfold kY at this
 unfold St.gens
 generalize st.get sp k=e at*
 obtain⟨g,ob⟩:=e
 cases ob with
 |none=>exact i.elim
 |cells cs wm bx=>grind
 |map ks r fz=>grind
theorem uR(w:World)(M:iB)(o:Obj):kQ w M (w.alloc o) M:=
 ⟨fun b off v h _=>by rw[oh (w:=w) (by rw[heap_alloc,if_neg (Nat.ne_of_lt (yB h))])];exact h,
  fun b es c h _=>by rw[heap_alloc,if_neg (Nat.ne_of_lt (rG h))];exact h,fun _ _ _ h=>h⟩
theorem tB(w:World)(M:iB)(o:Obj):kQ w M (w.alloc o) (fun b x=>M b x∨b=w.heap.size):=
 ⟨(uR w M o).cell,(uR w M o).map,fun _ _ i h=>h.resolve_right (Nat.ne_of_lt i)⟩
theorem ahz{B:l8}{st:St}{w:World}{β:iL}{M:iB}(h:iU B st w β M)(o:Obj):
  iU B st (w.alloc o) β M∧Tr st w β M st (w.alloc o) β M:=by
 have hk:=uR w M o
 have hs:w.heap.size≤(w.alloc o).heap.size:=by show _≤(w.heap.push o).size;simp
 refine⟨⟨fun sp k=> ?_,h.dist,fun b x i=>Nat.lt_of_lt_of_le (h.mlt b x i) hs,h.lblk,h.sblk,h.os,h.tape,h.output,Nat.le_trans h.size hs,fun b r D=> ?_,h.keep.trans hk h.size,h.msup⟩,hk,fun _ _ _ _=>rfl,fun _ _=>Nat.le_refl _⟩
 ·exact kY.mono hk (fun _ _ _ _=>rfl) (fun _ _=>Nat.le_refl _) (Nat.le_refl _) (fun F=>by rw[heap_alloc,if_neg (Nat.ne_of_lt (h.lt F))]) (fun _ _ i=>i) (h.obj sp k)
 ·rw[heap_alloc,if_neg (by have:=h.size;omega)];exact h.same b r D
theorem Ho{B:l8}{st:St}{w:World}{β:iL}{M:iB}(h:iU B st w β M)(n:Nat):
  iU B st {w with drawn:=n} β M∧Tr st w β M st {w with drawn:=n} β M:=by
 have hk:kQ w M {w with drawn:=n} M:=⟨fun _ _ _ h _=>h,fun _ _ _ h _=>h,fun _ _ _ h=>h⟩
 refine⟨⟨fun sp k=> ?_,h.dist,h.mlt,h.lblk,h.sblk,h.os,h.tape,h.output,h.size,h.same,h.keep.trans hk h.size,h.msup⟩,hk,fun _ _ _ _=>rfl,fun _ _=>Nat.le_refl _⟩
 exact kY.mono hk (fun _ _ _ _=>rfl) (fun _ _=>Nat.le_refl _) (Nat.le_refl _) (fun _=>rfl) (fun _ _ i=>i) (h.obj sp k)
def nv(β:iL)(sp:Sp)(k g:Nat)(s:J1):iL:=fun i k' r=>if i=sp∧k'=k∧r=g then s else β i k' r
theorem jA(β:iL)(sp:Sp)(k g:Nat)(s:J1):nv β sp k g s sp k g=s:=by simp[nv]
theorem yD(β:iL)(sp:Sp)(k g:Nat)(s:J1){i:Sp}{k' r:Nat}(h: ¬(i=sp∧k'=k∧r=g)):nv β sp k g s i k' r=β i k' r:=by grind [nv]
theorem U6{B:l8}{st:St}{w:World}{β:iL}{M:iB}(h:iU B st w β M)(sp:Sp)(k g:Nat)(hg:st.gens sp k<g)(o:Obj)(ext:Nat)(ob:Ob)
  (ho:kY (nv β sp k g ⟨w.heap.size,0,ext⟩) (st.up (sp,k,⟨g,ob⟩)).gens (w.alloc o) (fun b x=>M b x∨b=w.heap.size) sp k ⟨g,ob⟩):
  iU B (st.up (sp,k,⟨g,ob⟩)) (w.alloc o) (nv β sp k g ⟨w.heap.size,0,ext⟩) (fun b x=>M b x∨b=w.heap.size)∧
  Tr st w β M (st.up (sp,k,⟨g,ob⟩)) (w.alloc o) (nv β sp k g ⟨w.heap.size,0,ext⟩) (fun b x=>M b x∨b=w.heap.size):=by
 have hk:=tB w M o
 have hs:w.heap.size≤(w.alloc o).heap.size:=by show _≤(w.heap.push o).size;simp
 have N: ∀i k' U,U≤st.gens i k'→nv β sp k g ⟨w.heap.size,0,ext⟩ i k' U=β i k' U:=by
  grind [yD]
 have X: ∀i k',st.gens i k'≤(st.up (sp,k,⟨g,ob⟩)).gens i k':=by
  intro i k'
  rw[lH]
  grind
 have O: ∀i k',(nv β sp k g ⟨w.heap.size,0,ext⟩ i k' ((st.up (sp,k,⟨g,ob⟩)).gens i k'))=if i=sp∧k'=k then⟨w.heap.size,0,ext⟩else β i k' (st.gens i k'):=by
  grind [lH,jA]
 refine⟨⟨fun i k'=> ?_,fun V Y W Z F H D=> ?_,fun b x I=> ?_,fun k' r=> ?_,fun k' r=> ?_,h.os,h.tape,h.output,Nat.le_trans h.size hs,fun b N hn=> ?_,h.keep.trans hk h.size,fun b x h1 h2 h3=> .inl (h.msup b x h1 h2 h3)⟩,hk,N,X⟩
 ·rw[mb]
  split
  ·grind
  ·exact kY.mono hk N X (Nat.le_refl _) (fun r=>by rw[heap_alloc,if_neg (Nat.ne_of_lt (h.lt r))]) (fun _ _ I=> .inl I) (h.obj i k')
 ·rw[O,O]at D
  rw[mb]at F H
  by_cases J:V=sp∧Y=k <;> by_cases K:W=sp∧Z=k
  ·grind
  ·rw[if_pos J,if_neg K]at D;rw[if_neg K]at H
   exact absurd D.symm (Nat.ne_of_lt (h.lt H))
  ·rw[if_neg J,if_pos K]at D;rw[if_neg J]at F
   exact absurd D (Nat.ne_of_lt (h.lt F))
  ·rw[if_neg J,if_neg K]at D;rw[if_neg J]at F;rw[if_neg K]at H
   exact h.dist _ _ _ _ F H D
 ·rcases I with I|rfl
  ·exact Nat.lt_of_lt_of_le (h.mlt b x I) hs
  ·simp_all
 ·rw[O];rw[mb]at r
  split
  ·exact h.size
  ·rename_i e;rw[if_neg e]at r;exact h.lblk k' r
 ·rw[O];rw[mb]at r
  split
  ·exact .inr h.size
  ·rename_i e;rw[if_neg e]at r;exact h.sblk k' r
 ·rw[heap_alloc,if_neg (by have:=h.size;omega)];exact h.same b N hn
def setBlock(w:World)(b:Nat)(o:Obj):World:={w with heap:=w.heap.setIfInBounds b o}
theorem kH(w:World)(b:Nat)(o:Obj)(x:Nat):(setBlock w b o).heap[x]? =if x=b∧b<w.heap.size then some o else w.heap[x]? :=by
 grind [setBlock]
theorem lv(w:World)(b:Nat)(o:Obj):(setBlock w b o).heap.size=w.heap.size:=by simp[setBlock]
theorem OI{B:l8}{st:St}{w:World}{β:iL}{M M':iB}(h:iU B st w β M)(sp:Sp)(k g:Nat)(ob:Ob)(U:live (st.get sp k))(hg:st.gens sp k≤g)(o:Obj)
  (Dy: ∀b x,M' b x→M b x) (D: ∀b x,b≠(β sp k (st.gens sp k)).blk→M b x→M' b x)
  (hk:kQ w M (setBlock w (β sp k (st.gens sp k)).blk o) M')
  (Bv: ¬B.w.heap.size≤(β sp k (st.gens sp k)).blk→B.SB (β sp k (st.gens sp k)).blk)
  (ho:kY (nv β sp k g (β sp k (st.gens sp k))) (st.up (sp,k,⟨g,ob⟩)).gens (setBlock w (β sp k (st.gens sp k)).blk o) M' sp k ⟨g,ob⟩):
  iU B (st.up (sp,k,⟨g,ob⟩)) (setBlock w (β sp k (st.gens sp k)).blk o) (nv β sp k g (β sp k (st.gens sp k))) M'∧
  Tr st w β M (st.up (sp,k,⟨g,ob⟩)) (setBlock w (β sp k (st.gens sp k)).blk o) (nv β sp k g (β sp k (st.gens sp k))) M':=by
 have F: ∀i k' J,J≤st.gens i k'→nv β sp k g (β sp k (st.gens sp k)) i k' J=β i k' J:=by
  grind [jA,Nat.le_antisymm,yD]
 have N: ∀i k',st.gens i k'≤(st.up (sp,k,⟨g,ob⟩)).gens i k':=by
  intro i k'
  rw[lH]
  grind
 have H: ∀i k',(nv β sp k g (β sp k (st.gens sp k)) i k' ((st.up (sp,k,⟨g,ob⟩)).gens i k'))=β i k' (st.gens i k'):=by
  grind [lH,jA]
 have Gj: ∀i k',live ((st.up (sp,k,⟨g,ob⟩)).get i k')→live (st.get i k'):=by
  grind [mb]
 refine⟨⟨fun i k'=> ?_,fun V k1 W k2 X Y I=> ?_,fun b x K=> ?_,fun k' r=> ?_,fun k' r=> ?_,h.os,h.tape,h.output, ?_,fun b F Z=> ?_,h.keep.trans hk h.size,fun b x h1 h2 h3=> ?_⟩,hk,F,N⟩
 ·by_cases e:i=sp∧k'=k
  ·grind [mb]
  ·rw[mb,if_neg e]
   have O:live (st.get i k')→(β i k' (st.gens i k')).blk≠(β sp k (st.gens sp k)).blk:=fun l I=>e (h.dist _ _ _ _ l U I)
   exact kY.mono hk F N (Nat.le_refl _) (fun l=>by rw[kH,if_neg (fun x=>O l x.1)]) (fun l x K=>D _ _ (O l) K) (h.obj i k')
 ·rw[H,H]at I;exact h.dist _ _ _ _ (Gj _ _ X) (Gj _ _ Y) I
 ·rw[lv];exact h.mlt b x (Dy b x K)
 ·rw[H];exact h.lblk k' (Gj _ _ r)
 ·rw[H];exact h.sblk k' (Gj _ _ r)
 ·rw[lv];exact h.size
 ·rw[kH,if_neg]
  ·exact h.same b F Z
  grind
 ·refine D b x ?_ (h.msup b x h1 h2 h3)
  grind
theorem iU.base{B:l8}{st:St}{w:World}{β:iL}{M:iB}(h:iU B st w β M){sp:Sp}{k:Nat}(i:live (st.get sp k)):
  ¬B.w.heap.size≤(β sp k (st.gens sp k)).blk→B.SB (β sp k (st.gens sp k)).blk:=by
 intro r
 cases sp with
 |L=>exact absurd (h.lblk k i) r
 |S=>exact(h.sblk k i).resolve_right r
theorem pk{w:World}{b:Nat}{o:Obj}(h:w.heap[b]? =some o):setBlock w b o=w:=by
 unfold setBlock
 have:w.heap.setIfInBounds b o=w.heap:=by
  grind
 rw[this]
theorem sL(β:iL)(sp:Sp)(k g:Nat):nv β sp k g (β sp k g)=β:=by
 grind [nv]
def Gk(M:iB)(s:J1)(n:Nat):iB:=fun b x=>M b x∧ ¬(b=s.blk∧s.off≤x∧x<s.off+n)
def OJ(M:iB)(i:Nat):iB:=fun b x=>M b x∧b≠i
theorem kE{w:World}{M M':iB}(h: ∀b x,M' b x→M b x):kQ w M w M':=⟨fun _ _ _ h _=>h,fun _ _ _ h _=>h,fun b x _ i=>h b x i⟩
theorem Dz{B:l8}{st:St}{w:World}{β:iL}{M:iB}(h:iU B st w β M){sp:Sp}{k g wm:Nat}{cs:List T}{bx:Bool}(D:st.get sp k=⟨g,.cells cs wm bx⟩):
  iU B (st.up (sp,k,⟨g,.cells cs cs.length bx⟩)) w β (Gk M (β sp k g) cs.length)∧
  Tr st w β M (st.up (sp,k,⟨g,.cells cs cs.length bx⟩)) w β (Gk M (β sp k g) cs.length):=by
 have r:st.gens sp k=g:=by unfold St.gens;rw[D]
 have J:live (st.get sp k):=by rw[D];trivial
 have F:=h.obj sp k
 rw[D]at F
 unfold kY at F
 obtain⟨c,el,fz,H,O,U,V,W,X,K⟩:=F
 have Dy: ∀b x,Gk M (β sp k g) cs.length b x→M b x:=fun _ _ I=>I.1
 have hk:=kE (w:=w) Dy
 have i:=OI (M':=Gk M (β sp k g) cs.length) h sp k g (.cells cs cs.length bx) J (Nat.le_of_eq r) (.cells c el fz) Dy
  (fun b x Y I=>⟨I,fun hc=>Y (by rw[r];exact hc.1)⟩) (by rw[r,pk H];exact hk) (h.base J)
 rw[r,pk H,sL]at i
 refine i ⟨c,el,fz,H,O,U,V, ?_,fun j a b=>⟨X j (Nat.le_trans K.2 a) b,fun hc=>by have:=hc.2.2;dsimp only at a b this;omega⟩,K.1,Nat.le_refl _⟩
 have Z: ∀N k',st.gens N k'≤(st.up (sp,k,⟨g,.cells cs cs.length bx⟩)).gens N k':=by
  simp_all[lH,Nat.le_of_eq,Nat.le_refl]
 exact pI.mono hk (fun _ _ _ _=>rfl) Z W
end Go.Ev
namespace Go.Ev
open Go
theorem J2{B:l8}{st:St}{w:World}{β:iL}{M:iB}(h:iU B st w β M){sp:Sp}{k g:Nat}{ks D:List T}{f:Bool}(H:st.get sp k=⟨g,.map ks D f⟩):
  iU B (st.up (sp,k,⟨g,.map ks D true⟩)) w β (OJ M (β sp k g).blk)∧
  Tr st w β M (st.up (sp,k,⟨g,.map ks D true⟩)) w β (OJ M (β sp k g).blk):=by
 have F:st.gens sp k=g:=by show(st.get sp k).g=g;rw[H]
 have N:live (st.get sp k):=by rw[H];trivial
 have I:=h.obj sp k
 rw[H]at I
 unfold kY at I
 obtain⟨es,i,J,U,V,W,X⟩:=I
 have Dy: ∀b x,OJ M (β sp k g).blk b x→M b x:=fun _ _ K=>K.1
 have hk:=kE (w:=w) Dy
 have r:=OI (M':=OJ M (β sp k g).blk) h sp k g (.map ks D true) N (Nat.le_of_eq F) (.map es i) Dy
  (fun b x O K=>⟨K,by rw[F]at O;exact O⟩) (by rw[F,pk J];exact hk) (h.base N)
 rw[F,pk J,sL]at r
 exact r ⟨es,i,J,U,PList.mono hk _ _ V,PList.mono hk _ _ W,fun e=>by cases e⟩
theorem PList.get{w:World}{M:iB}: ∀{ts:List T} {i:List Value},PList w M ts i→ ∀{j:Nat} {t:T},ts[j]? =some t→ ∃v,i[j]? =some v∧PRel w M t v
 | [],i,h,j,t,r=>by simp at r
 |x::xs,i,h,j,t,r=>by
  simp only[PList]at h
  obtain⟨u,us,rfl,F,D⟩:=h
  cases j with
  |zero=>grind
  |succ j=>simp at r ⊢; exact PList.get D r
theorem gP.get{β:iL}{G:Sp→Nat→Nat}{w:World}{M:iB}: ∀{ts:List T} {i:List Value},gP β G w M ts i→ ∀{j:Nat} {t:T},ts[j]? =some t→ ∃v,i[j]? =some v∧fx β G w M t v
 | [],i,h,j,t,r=>by simp at r
 |x::xs,i,h,j,t,r=>by
  simp only[gP]at h
  obtain⟨u,us,rfl,F,D⟩:=h
  cases j with
  |zero=>grind
  |succ j=>simp at r ⊢; exact gP.get D r
theorem gP.drop{β:iL}{G:Sp→Nat→Nat}{w:World}{M:iB}: ∀{ts:List T} {i:List Value} (n:Nat),gP β G w M ts i→gP β G w M (ts.drop n) (i.drop n)
 |ts,i,0,h=>by simpa using h
 | [],i,n+1,h=>by grind [gP]
 |x::xs,i,n+1,h=>by
  simp only[gP]at h
  obtain⟨u,us,rfl,D,r⟩:=h
  simpa using gP.drop n r
theorem gP.take{β:iL}{G:Sp→Nat→Nat}{w:World}{M:iB}: ∀{ts:List T} {i:List Value} (n:Nat),gP β G w M ts i→gP β G w M (ts.take n) (i.take n)
 |ts,i,0,h=>by simp[gP]
 | [],i,n+1,h=>by grind [gP]
 |x::xs,i,n+1,h=>by
  simp only[gP]at h
  obtain⟨u,us,rfl,r,D⟩:=h
  simp only[List.take_succ_cons,gP]
  exact⟨u,_,rfl,r,gP.take n D⟩
theorem PList.drop{w:World}{M:iB}: ∀{ts:List T} {i:List Value} (n:Nat),PList w M ts i→PList w M (ts.drop n) (i.drop n)
 |ts,i,0,h=>by simpa using h
 | [],i,n+1,h=>by grind [PList]
 |x::xs,i,n+1,h=>by
  simp only[PList]at h
  obtain⟨u,us,rfl,D,r⟩:=h
  simpa using PList.drop n r
theorem PList.take{w:World}{M:iB}: ∀{ts:List T} {i:List Value} (n:Nat),PList w M ts i→PList w M (ts.take n) (i.take n)
 |ts,i,0,h=>by simp[PList]
 | [],i,n+1,h=>by grind [PList]
 |x::xs,i,n+1,h=>by
  simp only[PList]at h
  obtain⟨u,us,rfl,r,D⟩:=h
  simp only[List.take_succ_cons,PList]
  exact⟨u,_,rfl,r,PList.take n D⟩
theorem PList.append{w:World}{M:iB}: ∀{ts DA:List T} {i r:List Value},PList w M ts i→PList w M DA r→PList w M (ts++DA) (i++r)
 | [],DA,i,r,h,D=>by grind [PList]
 |x::xs,DA,i,r,h,D=>by
  simp only[PList]at h
  obtain⟨u,us,rfl,F,H⟩:=h
  simp only[List.cons_append,PList]
  exact⟨u,_,rfl,F,PList.append H D⟩
theorem gP.append{β:iL}{G:Sp→Nat→Nat}{w:World}{M:iB}: ∀{ts DA:List T} {i r:List Value},gP β G w M ts i→gP β G w M DA r→gP β G w M (ts++DA) (i++r)
 | [],DA,i,r,h,D=>by grind [gP]
 |x::xs,DA,i,r,h,D=>by
  simp only[gP]at h
  obtain⟨u,us,rfl,F,H⟩:=h
  simp only[List.cons_append,gP]
  exact⟨u,_,rfl,F,gP.append H D⟩
theorem PCells.of{w:World}{M:iB}{i:Nat}{c:Array Value}{el:TypeId}{fz:Nat×Nat}(H:w.heap[i]? =some (.cells c el fz)):
  ∀(ts:List T) (off:Nat),PList w M ts ((c.toList.drop off).take ts.length)→(∀x,off≤x→x<off+ts.length→ ¬M i x)→ts.all single=true→PCells w M i off ts
 | [],off,_,_,_=>by simp only[PCells]
 |t::ts,off,h,I,hs=>by
  simp only[PList,List.length_cons]at h
  obtain⟨u,us,D,J,K⟩:=h
  simp only[List.all_cons,Bool.and_eq_true]at hs
  have r:w.cell? ⟨i,off,none⟩=some u:=by
   unfold World.cell?;rw[H]
   have:((c.toList.drop off).take (ts.length+1))[0]? =some u:=by rw[D];rfl
   grind
  have F:us=(c.toList.drop (off+1)).take ts.length:=by
   apply List.ext_getElem?
   intro j
   have:=congrArg (fun l=>l[j+1]?) D
   grind
  simp only[PCells]
  exact⟨⟨u,r,I off (Nat.le_refl _) (by simp),J,hs.1⟩,PCells.of H ts (off+1) (F▸K) (fun x D J=>I x (by omega) (by simp;omega)) hs.2⟩
def OK(e:b8):b8:=
 match e.ob with
 | .cells cs _ bx=>⟨e.g,.cells cs cs.length bx⟩
 | .map ks i _=>⟨e.g,.map ks i true⟩
 | .none=>e
def Fz(st i:St):Prop:=i.fr=st.fr∧i.sh.length=st.sh.length∧ ∀sp k,i.get sp k=st.get sp k∨i.get sp k=OK (st.get sp k)
theorem Fz.refl(st:St):Fz st st:=⟨rfl,rfl,fun _ _=> .inl rfl⟩
theorem aat(e:b8):(OK e).g=e.g:=by grind [OK]
theorem Fz.gens{st i:St}(h:Fz st i):i.gens=st.gens:=by
 funext sp k
 rcases h.2.2 sp k with e|e
 ·grind
 ·grind [aat]
theorem jM(l:List b8)(k:Nat)(e:b8)(h:k<l.length):(iH l k e).length=l.length:=by
 unfold iH
 induction l generalizing k with
 |nil=>simp at h
 |cons x xs ih=>
  cases k with
  |zero=>simp[sa]
  |succ k=>grind [sa,List.length_cons]
theorem Gl{l:List b8}{k:Nat}(h:l.length≤k):iz l k=l0:=by
 unfold iz
 induction l generalizing k with
 |nil=>simp[iE]
 |cons x xs ih=>
  cases k with
  |zero=>simp at h
  |succ k=>grind [iE]
theorem OL{st:St}{k:Nat}(h:live (st.get .S k)):k<st.sh.length:=by
 rcases Nat.lt_or_ge k st.sh.length with h'|h'
 ·exact h'
 ·simp only[St.get,Gl h']at h;exact h.elim
theorem Fz.up{st i:St}(h:Fz st i){sp:Sp}{k:Nat}{e:b8}(r:st.get sp k=e)(D:live e):Fz st (i.up (sp,k,OK e)):=by
 refine⟨?_, ?_,fun F k'=> ?_⟩
 ·rw[←h.1];cases sp <;> rfl
 ·rw[←h.2.1]
  cases sp with
  |L=>rfl
  |S=>
   have hk:k<i.sh.length:=by rw[h.2.1];exact OL (r▸D)
   simp[St.up,jM _ _ _ hk]
 ·rw[mb]
  split
  ·grind
  ·exact h.2.2 F k'
def tC(keep:Bool)(β:iL)(G:Sp→Nat→Nat)(w:World)(M:iB)(t:T)(v:Value):Prop:=
 if keep then∀i G',(∀k g,g≤G .S k→i .S k g=β .S k g)→(∀k,G .S k≤G' .S k)→fx i G' w M t v else PRel w M t v
def oi(keep:Bool)(β:iL)(G:Sp→Nat→Nat)(w:World)(M:iB)(t:List T)(v:List Value):Prop:=
 if keep then∀i G',(∀k g,g≤G .S k→i .S k g=β .S k g)→(∀k,G .S k≤G' .S k)→gP i G' w M t v else PList w M t v
theorem tC.ofP{keep:Bool}{β:iL}{G:Sp→Nat→Nat}{w:World}{M:iB}{t:T}{v:Value}(h:PRel w M t v):tC keep β G w M t v:=by
 cases keep
 ·exact h
 ·exact fun i G' _ _=>PRel.toV i G' t v h
theorem tC.toV{keep:Bool}{β:iL}{G:Sp→Nat→Nat}{w:World}{M:iB}{t:T}{v:Value}(h:tC keep β G w M t v):fx β G w M t v:=by
 cases keep
 ·exact PRel.toV β G t v h
 ·exact h β G (fun _ _ _=>rfl) (fun _=>Nat.le_refl _)
theorem oi.toV{keep:Bool}{β:iL}{G:Sp→Nat→Nat}{w:World}{M:iB}{t:List T}{v:List Value}(h:oi keep β G w M t v):gP β G w M t v:=by
 cases keep
 ·exact PList.toV β G t v h
 ·exact h β G (fun _ _ _=>rfl) (fun _=>Nat.le_refl _)
theorem tC.mono{keep:Bool}{β:iL}{G:Sp→Nat→Nat}{w w':World}{M M':iB}{t:T}{v:Value}(k:kQ w M w' M')(h:tC keep β G w M t v):tC keep β G w' M' t v:=by
 cases keep
 ·exact PRel.mono k t v h
 ·exact fun i G' a b=>fx.mono k (fun _ _ _ _=>rfl) (fun _ _=>Nat.le_refl _) t v (h i G' a b)
theorem oi.mono{keep:Bool}{β:iL}{G:Sp→Nat→Nat}{w w':World}{M M':iB}{t:List T}{v:List Value}(k:kQ w M w' M')(h:oi keep β G w M t v):oi keep β G w' M' t v:=by
 cases keep
 ·exact PList.mono k t v h
 ·exact fun i G' a b=>gP.mono k (fun _ _ _ _=>rfl) (fun _ _=>Nat.le_refl _) t v (h i G' a b)
theorem oi.nil{keep:Bool}{β:iL}{G:Sp→Nat→Nat}{w:World}{M:iB}:oi keep β G w M [] []:=by
 cases keep
 ·exact(by simp[PList]:PList w M [] [])
 ·exact fun i G' _ _=>by simp[gP]
theorem oi.cons{keep:Bool}{β:iL}{G:Sp→Nat→Nat}{w:World}{M:iB}{t:T}{v:Value}{ts:List T}{i:List Value}(h:tC keep β G w M t v)(r:oi keep β G w M ts i):oi keep β G w M (t::ts) (v::i):=by
 cases keep
 ·show PList w M (t::ts) (v::i)
  simp only[PList];exact⟨v,i,rfl,h,r⟩
 ·exact fun D G' a b=>by simp only[gP];exact⟨v,i,rfl,h D G' a b,r D G' a b⟩
theorem Q.run_bind{α γ:Type}(h:Sp→Nat→b8)(i:Nat): ∀(q:Q α) (f:α→Q γ),(q.bind f).run h i=(q.run h i).bind fun a=>(f a).run h i
 | .ret a,f=>by simp[Q.bind,Q.run]
 | .fail,f=>by simp[Q.bind,Q.run]
 | .rd sp k g,f=>by simp_all[Q.bind,Q.run,Q.run_bind]
 | .new g,f=>by simp_all[Q.bind,Q.run,Q.run_bind]
theorem kS(st:St)(a b:List Up):st.ups (a++b)=(st.ups a).ups b:=by
 induction a generalizing st with
 |nil=>rfl
 |cons x xs ih=>grind [St.ups]
def arf(keep:Bool)(st:St)(q:Q (T×List Up))(t:T):Prop:=
 ∀(B:l8) (i:St) (w:World) (β:iL) (M:iB) (v:Value) (r:T) (us:List Up) (D:Nat),Fz st i→iU B i w β M→fx β st.gens w M t v→q.run st.get D=some (r,us)→
  ∃M',iU B (i.ups us) w β M'∧Fz st (i.ups us)∧(∀b x,M' b x→M b x)∧tC keep β st.gens w M' r v∧(single t=true→single r=true)
def arh(keep:Bool)(st:St)(q:Q (List T×List Up))(ts:List T):Prop:=
 ∀(B:l8) (i:St) (w:World) (β:iL) (M:iB) (r:List Value) (DA:List T) (us:List Up) (D:Nat),Fz st i→iU B i w β M→gP β st.gens w M ts r→q.run st.get D=some (DA,us)→
  ∃M',iU B (i.ups us) w β M'∧Fz st (i.ups us)∧(∀b x,M' b x→M b x)∧oi keep β st.gens w M' DA r∧(ts.all single=true→DA.all single=true)∧DA.length=ts.length
theorem pn{keep:Bool}{st:St}{f:T→Q (T×List Up)}(N: ∀t,arf keep st (f t) t): ∀ts,arh keep st (ja f ts) ts
 | []=>by
   intro B D w β M W DA us i F h r hr
   simp only[gP]at r;subst r
   simp[ja,Q.run]at hr
   obtain⟨rfl,rfl⟩:=hr
   exact⟨M,h,F,fun _ _ h=>h,oi.nil,fun h=>h,rfl⟩
 |t::ts=>by
  intro B D w β M W DA us i F h r hr
  simp only[gP]at r
  obtain⟨u,O,rfl,X,Y⟩:=r
  simp only[ja,Q.run_bind]at hr
  cases H:(f t).run st.get i with
  |none=>simp[H]at hr
  |some p=>
   obtain⟨Z,J3⟩:=p
   simp only[H,Option.bind_some]at hr
   cases I:(ja f ts).run st.get i with
   |none=>simp[I]at hr
   |some q=>
    obtain⟨J,K⟩:=q
    simp only[I,Option.bind_some,Q.run,Option.some.injEq,Prod.mk.injEq]at hr
    obtain⟨rfl,rfl⟩:=hr
    obtain⟨M1,a1,a2,U,a4,a5⟩:=N t B D w β M u Z J3 i F h X H
    have k1:=kE (w:=w) U
    obtain⟨M2,b1,b2,V,b4,b5,b6⟩:=pn N ts B (D.ups J3) w β M1 O J K i a2 a1 (gP.mono k1 (fun _ _ _ _=>rfl) (fun _ _=>Nat.le_refl _) ts O Y) I
    refine⟨M2,by rw[kS];exact b1,by rw[kS];exact b2,fun b x hm=>U b x (V b x hm),oi.cons (a4.mono (kE V)) b4, ?_,by simp[b6]⟩
    grind
theorem nw{cs:List T}(h:cs.all single=true)(a n:Nat):((cs.drop a).take n).all single=true:=by
 grind
theorem Bw(keep:Bool)(st:St): ∀(n:Nat) (t:T),arf keep st (fz keep n t) t:=by
 intro n
 induction n generalizing keep with
 |zero=>intro t B F w β M v t' us W _ _ _ hr;simp[fz,Q.run]at hr
 |succ n ih=>
  intro t B F w β M v t' us W H h V hr
  have plain:(t',us)=(t,[])→(PRel w M t v)→ ∃M',iU B (F.ups us) w β M'∧Fz st (F.ups us)∧(∀b x,M' b x→M b x)∧tC keep β st.gens w M' t' v∧(single t=true→single t'=true):=by
   intro e hp
   simp only[Prod.mk.injEq]at e
   obtain⟨rfl,rfl⟩:=e
   exact⟨M,h,H,fun _ _ h=>h,tC.ofP hp,fun h=>h⟩
  cases t with
  |b x=>grind [fz,Q.run,fx,PRel]
  |i k x=>grind [fz,Q.run,fx,PRel]
  |s x=>grind [fz,Q.run,fx,PRel]
  |nilsl=>grind [fz,Q.run,fx,PRel]
  |sl cs len ex=>grind [fz,Q.run,fx]
  |nilptr=>grind [fz,Q.run,fx,PRel]
  |vp cs=>grind [fz,Q.run,fx]
  |nilmp=>grind [fz,Q.run,fx,PRel]
  |vm ks vs=>grind [fz,Q.run,fx]
  |nilfn=>grind [fz,Q.run,fx,PRel]
  |any=>grind [fz,Q.run,PRel]
  |fn f a c=>
   simp only[fx]at V
   obtain⟨fa,fc,rfl,h1,Y⟩:=V
   simp only[fz,Q.run_bind]at hr
   cases r:(ja (fz keep n) a).run st.get W with
   |none=>simp[r]at hr
   |some p=>
    obtain⟨a1,J3⟩:=p
    simp only[r,Option.bind_some]at hr
    cases h4:(ja (fz keep n) c).run st.get W with
    |none=>simp[h4]at hr
    |some q=>
     obtain⟨c2,us2⟩:=q
     simp only[h4,Option.bind_some,Q.run,Option.some.injEq,Prod.mk.injEq]at hr
     obtain⟨rfl,rfl⟩:=hr
     obtain⟨M1,x1,x2,x3,x4,x5,_⟩:=pn (fun t=>ih keep t) a B F w β M _ a1 J3 W H h h1 r
     have k1:=kE (w:=w) x3
     obtain⟨M2,y1,y2,y3,y4,y5,_⟩:=pn (fun t=>ih keep t) c B (F.ups J3) w β M1 _ c2 us2 W x2 x1 (gP.mono k1 (fun _ _ _ _=>rfl) (fun _ _=>Nat.le_refl _) _ _ Y) h4
     refine⟨M2,by rw[kS];exact y1,by rw[kS];exact y2,fun b x I=>x3 b x (y3 b x I), ?_,fun _=>rfl⟩
     have D:=oi.mono (kE (w:=w) y3) x4
     cases keep
     ·show PRel w M2 (.fn f a1 c2) (.func (.func f) fa fc)
      simp only[PRel];exact⟨fa,fc,rfl,D,y4⟩
     ·exact fun iO G' p q=>by simp only[fx];exact⟨fa,fc,rfl,D iO G' p q,y4 iO G' p q⟩
  |agg cs=>
   simp only[fx]at V
   obtain⟨a,rfl,h1,Y⟩:=V
   simp only[fz,Q.run_bind]at hr
   cases r:(ja (fz keep n) cs).run st.get W with
   |none=>simp[r]at hr
   |some p=>
    obtain⟨a1,J3⟩:=p
    simp only[r,Option.bind_some,Q.run,Option.some.injEq,Prod.mk.injEq]at hr
    obtain⟨rfl,rfl⟩:=hr
    obtain⟨M1,x1,x2,x3,x4,x5,_⟩:=pn (fun t=>ih keep t) cs B F w β M _ a1 J3 W H h h1 r
    refine⟨M1,x1,x2,x3, ?_,fun h=>h⟩
    cases keep
    ·show PRel w M1 (.agg a1) (.agg a)
     simp only[PRel];exact⟨a,rfl,x4,x5 Y⟩
    ·exact fun iO G' p q=>by simp only[fx];exact⟨a,rfl,x4 iO G' p q,x5 Y⟩
  |tup cs=>
   simp only[fx]at V
   obtain⟨a,rfl,h1⟩:=V
   simp only[fz,Q.run_bind]at hr
   cases r:(ja (fz keep n) cs).run st.get W with
   |none=>simp[r]at hr
   |some p=>
    obtain⟨a1,J3⟩:=p
    simp only[r,Option.bind_some,Q.run,Option.some.injEq,Prod.mk.injEq]at hr
    obtain⟨rfl,rfl⟩:=hr
    obtain⟨M1,x1,x2,x3,x4,x5,_⟩:=pn (fun t=>ih keep t) cs B F w β M _ a1 J3 W H h h1 r
    refine⟨M1,x1,x2,x3, ?_,fun h=>h⟩
    cases keep
    ·show PRel w M1 (.tup a1) (.tuple a)
     simp only[PRel];exact⟨a,rfl,x4⟩
    ·exact fun iO G' p q=>by simp only[fx];exact⟨a,rfl,x4 iO G' p q⟩
  |isl sp k g off len sz=>
   simp only[fz]at hr
   by_cases hk:(keep&&sp== .S)=true
   ·simp only[hk,if_true,Q.run,Option.some.injEq,Prod.mk.injEq]at hr
    obtain⟨rfl,rfl⟩:=hr
    simp only[Bool.and_eq_true,beq_iff_eq]at hk
    obtain⟨rfl,rfl⟩:=hk
    refine⟨M,h,H,fun _ _ h=>h,fun iO G' p q=> ?_,fun h=>h⟩
    grind [fx]
   ·rw[if_neg hk]at hr
    simp only[Q.run]at hr
    split at hr
    ·rename_i X
     generalize J:st.get sp k=e at hr X
     obtain⟨ge,ob⟩:=e
     dsimp only at X;subst X
     cases ob with
     |none=>simp[Q.run]at hr
     |map _ _ _=>simp[Q.run]at hr
     |cells cs wm bx=>
      cases bx with
      |true=>
       dsimp only at hr
       split at hr
       ·rename_i hle
        simp only[Q.run_bind]at hr
        cases r:(ja (fz false n) ((cs.drop off).take (len*sz))).run st.get W with
        |none=>simp[r]at hr
        |some p=>
         obtain⟨c1,J3⟩:=p
         simp only[r,Option.bind_some,Q.run,Option.some.injEq,Prod.mk.injEq]at hr
         obtain⟨rfl,rfl⟩:=hr
         have gg:F.gens=st.gens:=H.gens
         have N: ∃Th,F.get sp k=⟨ge,.cells cs Th true⟩:=by
          rcases H.2.2 sp k with x|x
          ·exact⟨wm,by rw[x,J]⟩
          ·exact⟨cs.length,by rw[x,J];rfl⟩
         obtain⟨wm0,N⟩:=N
         have O:=h.obj sp k
         rw[N]at O
         unfold kY at O
         obtain⟨c,el,fzz,Z,o2,o3,o4,o5,o6,o7,o8⟩:=O
         dsimp only at Z o2 o3 o4 o5 o6
         have o5':gP β st.gens w M cs ((c.toList.drop (β sp k ge).off).take cs.length):=by
          rw[←gg]
          exact o5.toV
         have K:((cs.drop off).take (len*sz)).length=len*sz:=by simp;omega
         obtain⟨M1,x1,x2,x3,x4,x5,x6⟩:=pn (fun t=>ih false t) ((cs.drop off).take (len*sz)) B F w β M _ c1 J3 W H h (gP.take (len*sz) (gP.drop off o5')) r
         have Fw: ∃Th,(F.ups J3).get sp k=⟨ge,.cells cs Th true⟩:=by
          rcases x2.2.2 sp k with x|x
          ·exact⟨wm,by rw[x,J]⟩
          ·exact⟨cs.length,by rw[x,J];rfl⟩
         obtain⟨Th,Fw⟩:=Fw
         obtain⟨r1,r2⟩:=Dz x1 Fw
         have U:=x2.up J trivial
         rw[kS]
         refine⟨_,r1,U,fun b x I=>x3 b x I.1, ?_,fun _=>rfl⟩
         apply tC.ofP
         simp only[fx]at V
         obtain⟨U7,cap,rfl,MA,Ti⟩:=V
         simp only[PRel]
         refine⟨_,_,cap,none,rfl,MA,(fun e=>by cases e),.inl rfl, ?_⟩
         have D:PList w (Gk M1 (β sp k ge) cs.length) c1 (((c.toList.drop (β sp k ge).off).take cs.length).drop off |>.take (len*sz)):=PList.mono r2.keep _ _ x4
         refine PCells.of Z _ _ ?_ ?_ (x5 (nw o7 _ _))
         ·rw[x6,K]
          rw[List.drop_take,List.drop_drop,List.take_take]at D
          have e:min (len*sz) (cs.length-off)=len*sz:=by omega
          rw[e]at D
          exact D
         ·intro x h1 Y I
          rw[x6,K]at Y
          exact I.2 ⟨rfl,by omega,by omega⟩
       ·simp[Q.run]at hr
      |false=>
       dsimp only at hr
       split at hr
       ·rename_i hle
        simp only[Q.run,Option.some.injEq,Prod.mk.injEq]at hr
        obtain⟨rfl,rfl⟩:=hr
        have Fw: ∃Th,F.get sp k=⟨ge,.cells cs Th false⟩:=by
         rcases H.2.2 sp k with x|x
         ·exact⟨wm,by rw[x,J]⟩
         ·exact⟨cs.length,by rw[x,J];rfl⟩
        obtain⟨Th,Fw⟩:=Fw
        obtain⟨r1,r2⟩:=Dz h Fw
        have U:=H.up J trivial
        refine⟨_,r1,U,fun b x I=>I.1, ?_,fun _=>rfl⟩
        apply tC.ofP
        have O:=r1.obj sp k
        rw[mb,if_pos ⟨rfl,rfl⟩]at O
        unfold kY at O
        obtain⟨c,el,fzz,Z,o2,o3,o4,o5,o6,o7,o8⟩:=O
        dsimp only at Z o2 o3 o4 o5 o6
        simp only[fx]at V
        obtain⟨U7,cap,rfl,MA,Ti⟩:=V
        simp only[PRel]
        refine⟨_,_,cap,none,rfl,MA,(fun e=>by cases e),.inl rfl, ?_⟩
        have K:((cs.drop off).take (len*sz)).length=len*sz:=by simp;omega
        refine PCells.of Z _ _ ?_ ?_ (nw o7 _ _)
        ·have:=PList.take (len*sz) (PList.drop off o5)
         rw[List.drop_take,List.drop_drop,List.take_take]at this
         rw[K]
         have e:min (len*sz) (cs.length-off)=len*sz:=by omega
         rw[e]at this
         exact this
        ·intro x h1 Y I
         rw[K]at Y
         exact I.2 ⟨rfl,by omega,by omega⟩
       ·simp[Q.run]at hr
    ·simp[Q.run]at hr
  |ptr sp k g off=>
   simp only[fz]at hr
   by_cases hk:(keep&&sp== .S)=true
   ·simp only[hk,if_true,Q.run,Option.some.injEq,Prod.mk.injEq]at hr
    obtain⟨rfl,rfl⟩:=hr
    simp only[Bool.and_eq_true,beq_iff_eq]at hk
    obtain⟨rfl,rfl⟩:=hk
    refine⟨M,h,H,fun _ _ h=>h,fun iO G' p q=> ?_,fun h=>h⟩
    grind [fx]
   ·rw[if_neg hk]at hr
    simp only[Q.run]at hr
    split at hr
    ·rename_i X
     generalize J:st.get sp k=e at hr X
     obtain⟨ge,ob⟩:=e
     dsimp only at X;subst X
     cases ob with
     |none=>simp[Q.run]at hr
     |map _ _ _=>simp[Q.run]at hr
     |cells cs wm bx=>
      dsimp only at hr
      simp only[Q.run_bind]at hr
      cases r:(ja (fz false n) (cs.drop off)).run st.get W with
      |none=>simp[r]at hr
      |some p=>
       obtain⟨c1,J3⟩:=p
       simp only[r,Option.bind_some,Q.run,Option.some.injEq,Prod.mk.injEq]at hr
       obtain⟨rfl,rfl⟩:=hr
       have gg:F.gens=st.gens:=H.gens
       have N: ∃Th,F.get sp k=⟨ge,.cells cs Th bx⟩:=by
        rcases H.2.2 sp k with x|x
        ·exact⟨wm,by rw[x,J]⟩
        ·exact⟨cs.length,by rw[x,J];rfl⟩
       obtain⟨wm0,N⟩:=N
       have O:=h.obj sp k
       rw[N]at O
       unfold kY at O
       obtain⟨c,el,fzz,Z,o2,o3,o4,o5,o6,o7,o8⟩:=O
       dsimp only at Z o2 o3 o4 o5 o6
       have o5':gP β st.gens w M cs ((c.toList.drop (β sp k ge).off).take cs.length):=by
        rw[←gg]
        exact o5.toV
       obtain⟨M1,x1,x2,x3,x4,x5,x6⟩:=pn (fun t=>ih false t) (cs.drop off) B F w β M _ c1 J3 W H h (gP.drop off o5') r
       have Fw: ∃Th,(F.ups J3).get sp k=⟨ge,.cells cs Th bx⟩:=by
        rcases x2.2.2 sp k with x|x
        ·exact⟨wm,by rw[x,J]⟩
        ·exact⟨cs.length,by rw[x,J];rfl⟩
       obtain⟨Th,Fw⟩:=Fw
       obtain⟨r1,r2⟩:=Dz x1 Fw
       have U:=x2.up J trivial
       rw[kS]
       refine⟨_,r1,U,fun b x I=>x3 b x I.1, ?_,fun _=>rfl⟩
       apply tC.ofP
       simp only[fx]at V
       obtain⟨U7,rfl⟩:=V
       simp only[PRel]
       refine⟨_,_,rfl, ?_⟩
       have D:PList w (Gk M1 (β sp k ge) cs.length) c1 ((List.drop off ((c.toList.drop (β sp k ge).off).take cs.length))):=PList.mono r2.keep _ _ x4
       refine PCells.of Z _ _ ?_ ?_ (x5 (by rw[List.all_eq_true]at o7 ⊢; exact fun x hx=>o7 x (List.mem_of_mem_drop hx)))
       ·rw[x6,List.length_drop]
        rw[List.drop_take,List.drop_drop]at D
        exact D
       ·intro x h1 Y I
        rw[x6,List.length_drop]at Y
        exact I.2 ⟨rfl,by omega,by omega⟩
    ·simp[Q.run]at hr
  |mp sp k g=>
   simp only[fz]at hr
   by_cases hk:(keep&&sp== .S)=true
   ·simp only[hk,if_true,Q.run,Option.some.injEq,Prod.mk.injEq]at hr
    obtain⟨rfl,rfl⟩:=hr
    simp only[Bool.and_eq_true,beq_iff_eq]at hk
    obtain⟨rfl,rfl⟩:=hk
    refine⟨M,h,H,fun _ _ h=>h,fun iO G' p q=> ?_,fun h=>h⟩
    grind [fx]
   ·rw[if_neg hk]at hr
    simp only[Q.run]at hr
    split at hr
    ·rename_i X
     generalize J:st.get sp k=e at hr X
     obtain⟨ge,ob⟩:=e
     dsimp only at X;subst X
     cases ob with
     |none=>simp[Q.run]at hr
     |cells _ _ _=>simp[Q.run]at hr
     |map ks vs f=>
      simp only[Q.run,Option.some.injEq,Prod.mk.injEq]at hr
      obtain⟨rfl,rfl⟩:=hr
      have Fw: ∃f',F.get sp k=⟨ge,.map ks vs f'⟩:=by
       rcases H.2.2 sp k with x|x
       ·grind
       ·exact⟨true,by rw[x,J];rfl⟩
      obtain⟨f',Fw⟩:=Fw
      obtain⟨r1,r2⟩:=J2 h Fw
      have U:=H.up J trivial
      refine⟨_,r1,U,fun b x I=>I.1, ?_,fun _=>rfl⟩
      apply tC.ofP
      have O:=r1.obj sp k
      rw[mb,if_pos ⟨rfl,rfl⟩]at O
      unfold kY at O
      obtain⟨es,clock,Z,ost,o2,o3,o4⟩:=O
      simp only[fx]at V
      obtain⟨U7,rfl⟩:=V
      simp only[PRel]
      exact⟨_,es,clock,rfl,Z,ost,fun o I=>I.2 rfl,o2,o3⟩
    ·simp[Q.run]at hr
end Go.Ev
namespace Go.Ev
open Go
abbrev ol(d s n:Nat)(a:Bool):dy:=⟨some d,.ld (.t s) n a,none⟩
abbrev ob(d:Nat)(o:BinOp)(x y:iF):dy:=⟨some d,.bin o x y,none⟩
abbrev on(d s:Nat):dy:=⟨some d,.lenV (.t s),none⟩
end Go.Ev
