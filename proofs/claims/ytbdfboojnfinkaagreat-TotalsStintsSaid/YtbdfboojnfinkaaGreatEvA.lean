/- A tree evaluator over the model, proved against it (part A): where it answers, the call returns that answer. Conditions: none beyond its theorems' own. -/
import GoSem.Dispatch
import Derived.Orders
import Derived.LoopN
import Derived.Below
import Derived.MapKept
set_option linter.unusedSimpArgs false
set_option linter.unusedVariables false
namespace Go.Ev
open Go
inductive Sp where
 |L|S
 deriving DecidableEq,Inhabited
inductive T where
 |b (x:Bool)
 |i (k:IntKind) (n:Int)
 |s (l:List Nat)
 |nilsl
 |sl (cs:List T) (len:Nat) (ex:Bool)
 |isl (sp:Sp) (k g off len sz:Nat)
 |nilptr
 |vp (cs:List T)
 |ptr (sp:Sp) (k g off:Nat)
 |nilmp
 |vm (ks vs:List T)
 |mp (sp:Sp) (k g:Nat)
 |nilfn
 |fn (f:Nat) (first cap:List T)
 |agg (cs:List T)
 |tup (vs:List T)
 |any
 deriving Inhabited
inductive Ob where
 |none
 |cells (cs:List T) (wm:Nat) (bx:Bool)
 |map (ks vs:List T) (fz:Bool)
 deriving Inhabited
structure ib where
 g:Nat
 ob:Ob
 deriving Inhabited
def single:T→Bool
 | .agg _| .tup _| .any=>false
 |_=>true
def noTup:T→Bool
 | .tup _| .any=>false
 |_=>true
def lI:ib:=⟨0,.none⟩
def iI:T:= .tup []
def iC{α:Type}(d:α):List α→Nat→α
 | [],_=>d
 |x::_,0=>x
 |_::xs,n+1=>iC d xs n
def ry{α:Type}(d:α):List α→Nat→α→List α
 | [],0,v=> [v]
 | [],n+1,v=>d::ry d [] n v
 |_::xs,0,v=>v::xs
 |x::xs,n+1,v=>x::ry d xs n v
theorem uZ{α:Type}(d:α)(v:α): ∀(l:List α) (n m:Nat),iC d (ry d l n v) m=if m=n then v else iC d l m
 | [],0,0=>by simp[ry,iC]
 | [],0,m+1=>by simp[ry,iC]
 | [],n+1,0=>by simp[ry,iC]
 | [],n+1,m+1=>by
   simp_all[ry,iC,uZ]
 |x::xs,0,0=>by simp[ry,iC]
 |x::xs,0,m+1=>by simp[ry,iC]
 |x::xs,n+1,0=>by simp[ry,iC]
 |x::xs,n+1,m+1=>by
  simp_all[ry,iC,uZ]
inductive iz (α:Type) where
 |nil
 |nd (v:α) (l r:iz α)
 deriving Inhabited
def iz.get{α:Type}(d:α):iz α→Nat→α
 | .nil,_=>d
 | .nd v l r,n=>match n with
   |0=>v
   |k+1=>bif Nat.beq (k%2) 0 then l.get d (k/2)else r.get d (k/2)
def iz.put{α:Type}(d:α):Nat→iz α→Nat→α→iz α
 |0,t,_,_=>t
 |f+1,t,n,v=>match n with
  |0=>match t with
   | .nil=> .nd v .nil .nil
   | .nd _ l r=> .nd v l r
  |k+1=>match t with
   | .nil=>bif Nat.beq (k%2) 0 then .nd d (iz.put d f .nil (k/2) v) .nil else .nd d .nil (iz.put d f .nil (k/2) v)
   | .nd u l r=>bif Nat.beq (k%2) 0 then .nd u (iz.put d f l (k/2) v) r else .nd u l (iz.put d f r (k/2) v)
def iz.set{α:Type}(d:α)(t:iz α)(n:Nat)(v:α):iz α:=iz.put d (n+1) t n v
theorem iz.get_nil{α:Type}(d:α)(n:Nat):iz.get d .nil n=d:=by unfold iz.get;rfl
theorem iz.get_put{α:Type}(d:α)(v:α): ∀(f:Nat) (t:iz α) (n m:Nat),n<f→iz.get d (iz.put d f t n v) m=if m=n then v else iz.get d t m
 |0,t,n,m,h=>by omega
 |f+1,t,0,m,h=>by
  cases t with
  |nil=>
   cases m with
   |zero=>simp[iz.put,iz.get]
   |succ m=>simp[iz.put,iz.get]
  |nd u l r=>
   cases m with
   |zero=>simp[iz.put,iz.get]
   |succ m=>simp[iz.put,iz.get]
 |f+1,t,k+1,m,h=>by
  have H:k/2<f:=by omega
  have ih:=fun t j=>iz.get_put d v f t (k/2) j H
  cases D:Nat.beq (k%2) 0 with
  |true=>
   have F:k%2=0:=Nat.eq_of_beq_eq_true D
   cases t with
   |nil=>
    cases m with
    |zero=>simp[iz.put,iz.get,D]
    |succ m=>
     grind [iz.put,iz.get,iz.get_nil,Nat.eq_of_beq_eq_true]
   |nd u l r=>
    cases m with
    |zero=>simp[iz.put,iz.get,D]
    |succ m=>
     grind [iz.put,iz.get,Nat.eq_of_beq_eq_true]
  |false=>
   have F:k%2≠0:=fun e=>by rw[e]at D;simp at D
   cases t with
   |nil=>
    cases m with
    |zero=>simp[iz.put,iz.get,D]
    |succ m=>
     simp only[iz.put,D,cond_false,iz.get]
     cases E:Nat.beq (m%2) 0 with
     |true=>
      grind
     |false=>
      have G6:m%2≠0:=fun e=>by rw[e]at E;simp at E
      grind [iz.get_nil]
   |nd u l r=>
    cases m with
    |zero=>simp[iz.put,iz.get,D]
    |succ m=>
     simp only[iz.put,D,cond_false,iz.get]
     cases E:Nat.beq (m%2) 0 with
     |true=>
      grind
     |false=>
      have G6:m%2≠0:=fun e=>by rw[e]at E;simp at E
      grind
theorem iz.get_set{α:Type}(d:α)(v:α)(t:iz α)(n m:Nat):iz.get d (iz.set d t n v) m=if m=n then v else iz.get d t m:=
 iz.get_put d v (n+1) t n m (Nat.lt_succ_self n)
inductive Q (α:Type) where
 |ret (a:α)
 |fail
 |rd (sp:Sp) (k:Nat) (f:ib→Q α)
 |new (f:Nat→Q α)
def Q.bind{α β:Type}:Q α→(α→Q β)→Q β
 | .ret a,f=>f a
 | .fail,_=> .fail
 | .rd sp k g,f=> .rd sp k fun e=>(g e).bind f
 | .new g,f=> .new fun e=>(g e).bind f
def Q.run{α:Type}(h:Sp→Nat→ib)(D:Nat):Q α→Option α
 | .ret a=>some a
 | .fail=>none
 | .rd sp k f=>(f (h sp k)).run h D
 | .new f=>(f D).run h D
def Q.log{α:Type}(h:Sp→Nat→ib)(D:Nat):Q α→List (Sp×Nat)
 | .ret _=> []
 | .fail=> []
 | .rd sp k f=>(sp,k)::(f (h sp k)).log h D
 | .new f=>(f D).log h D
def Q.asks{α:Type}(h:Sp→Nat→ib)(D:Nat):Q α→Bool
 | .ret _=>false
 | .fail=>false
 | .rd sp k f=>(f (h sp k)).asks h D
 | .new _=>true
def Q.of{α:Type}:Option α→Q α
 |some a=> .ret a
 |none=> .fail
abbrev Up:=Sp×Nat×ib
inductive BR where
 |val (v:T) (ups:List Up)
 deriving Inhabited
def jd(f:T→Q (T×List Up)):List T→Q (List T×List Up)
 | []=> .ret ([],[])
 |c::cs=>(f c).bind fun p=>(jd f cs).bind fun q=> .ret (p.1::q.1,p.2++q.2)
def fz(keep:Bool):Nat→T→Q (T×List Up)
 |0,_=> .fail
 |n+1,t=>match t with
  | .isl sp k g off len sz=>if keep&&sp== .S then .ret (t,[])else .rd sp k fun e=>
    if e.g=g then match e.ob with
     | .cells cs _ false=>if off+len*sz≤cs.length then .ret (.sl ((cs.drop off).take (len*sz)) len false,[(sp,k,⟨g,.cells cs cs.length false⟩)])else .fail
     | .cells cs _ true=>if off+len*sz≤cs.length then(jd (fz false n) ((cs.drop off).take (len*sz))).bind fun q=> .ret (.sl q.1 len false,q.2++ [(sp,k,⟨g,.cells cs cs.length true⟩)])else .fail
     |_=> .fail
    else .fail
  | .mp sp k g=>if keep&&sp== .S then .ret (t,[])else .rd sp k fun e=>
    if e.g=g then match e.ob with
     | .map ks h _=> .ret (.vm ks h,[(sp,k,⟨g,.map ks h true⟩)])
     |_=> .fail
    else .fail
  | .ptr sp k g off=>if keep&&sp== .S then .ret (t,[])else .rd sp k fun e=>
    if e.g=g then match e.ob with
     | .cells cs _ bx=>(jd (fz false n) (cs.drop off)).bind fun q=> .ret (.vp q.1,q.2++ [(sp,k,⟨g,.cells cs cs.length bx⟩)])
     |_=> .fail
    else .fail
  | .fn f a c=>(jd (fz keep n) a).bind fun p=>(jd (fz keep n) c).bind fun q=> .ret (.fn f p.1 q.1,p.2++q.2)
  | .agg cs=>(jd (fz keep n) cs).bind fun q=> .ret (.agg q.1,q.2)
  | .tup cs=>(jd (fz keep n) cs).bind fun q=> .ret (.tup q.1,q.2)
  |t=> .ret (t,[])
def iE:Nat:=8
def scalar:T→Bool
 | .b _| .i .. | .s _| .nilsl| .nilptr| .nilmp| .nilfn=>true
 | .tup h=>h.all fun| .b _| .i .. | .s _| .nilsl| .nilptr| .nilmp| .nilfn=>true|_=>false
 |_=>false
def lo:IntKind→Int
 | .i8=> -128| .i16=> -32768| .i32=> -2147483648| .i64=> -9223372036854775808|_=>0
def hi:IntKind→Int
 | .i8=>127| .i16=>32767| .i32=>2147483647| .i64=>9223372036854775807
 | .u8=>255| .u16=>65535| .u32=>4294967295| .u64=>18446744073709551615
def wr(k:IntKind)(n:Int):Int:=if lo k≤n∧n≤hi k then n else k.wrap n
def lessN:List Nat→List Nat→Bool
 |_,[]=>false
 | [],_::_=>true
 |a::x,b::y=>a<b||(a==b&&lessN x y)
def qJ(op:BinOp)(k:IntKind)(a b:Int):Option T:=
 match op with
 | .add=>some (.i k (wr k (a+b)))
 | .sub=>some (.i k (wr k (a-b)))
 | .mul=>some (.i k (wr k (a*b)))
 | .quo=>if b=0 then none else some (.i k (wr k (a.tdiv b)))
 | .rem=>if b=0 then none else some (.i k (a.tmod b))
 | .eql=>some (.b (a==b))
 | .neq=>some (.b (a != b))
 | .lss=>some (.b (a<b))
 | .leq=>some (.b (a≤b))
 | .gtr=>some (.b (a>b))
 | .geq=>some (.b (a≥b))
 | .and=>some (.i k (k.wrap (BitVec.ofInt k.bits a &&& BitVec.ofInt k.bits b).toNat))
 | .or=>some (.i k (k.wrap (BitVec.ofInt k.bits a ||| BitVec.ofInt k.bits b).toNat))
 | .xor=>some (.i k (k.wrap (BitVec.ofInt k.bits a ^^^ BitVec.ofInt k.bits b).toNat))
 | .andNot=>some (.i k (k.wrap (BitVec.ofInt k.bits a &&& ~~~BitVec.ofInt k.bits b).toNat))
 |_=>none
def Kr(op:BinOp)(a b:List Nat):Option T:=
 match op with
 | .add=>if a.length+b.length≤1099511627776 then some (.s (a++b))else none
 | .eql=>some (.b (a==b))
 | .neq=>some (.b (a != b))
 | .lss=>some (.b (lessN a b))
 | .leq=>some (.b (lessN a b||a==b))
 | .gtr=>some (.b !(lessN a b||a==b))
 | .geq=>some (.b !(lessN a b))
 |_=>none
def BS(op:BinOp)(k:IntKind)(a b:Int):Option T:=
 if b<0 then none else
 match op with
 | .shl=>some (.i k (k.wrap (a*2 ^ (min b.toNat k.bits))))
 | .shr=>some (.i k (a.fdiv (2 ^ (min b.toNat k.bits))))
 |_=>none
inductive CK where
 |int|str|bool
 deriving DecidableEq,Inhabited
inductive EK where
 |one (k:CK)
 |flat (ks:List CK)
 |sl|ptr|map
 deriving Inhabited
def kO:CK→T→T→Option Bool
 | .bool,.b x,.b y=>some (x==y)
 | .int,.i k x,.i k' y=>if k=k' then some (x==y)else none
 | .str,.s x,.s y=>some (x==y)
 |_,_,_=>none
def ju:List CK→List T→List T→Option Bool
 | [],[],[]=>some true
 |k::ks,x::xs,y::h=>match kO k x y with
  |some true=>ju ks xs h
  |some false=>some false
  |none=>none
 |_,_,_=>none
def tO:EK→T→T→Option Bool
 | .one k,x,y=>kO k x y
 | .flat ks,.agg xs,.agg h=>ju ks xs h
 | .sl,.nilsl,.nilsl=>some true
 | .sl,.sl ..,.nilsl=>some false
 | .sl,.isl ..,.nilsl=>some false
 | .ptr,.nilptr,.nilptr=>some true
 | .ptr,.vp _,.nilptr=>some false
 | .ptr,.ptr ..,.nilptr=>some false
 | .map,.nilmp,.nilmp=>some true
 | .map,.vm ..,.nilmp=>some false
 | .map,.mp ..,.nilmp=>some false
 |_,_,_=>none
def bin(op:BinOp)(x y:T):Option T:=
 match op,x,y with
 | .shl,.i k a,.i _ b=>BS .shl k a b
 | .shr,.i k a,.i _ b=>BS .shr k a b
 |op,.i k a,.i k' b=>if k=k' then qJ op k a b else none
 |op,.s a,.s b=>Kr op a b
 |_,_,_=>none
def un(op:UnOp)(x:T):Option T:=
 match op,x with
 | .neg,.i k n=>some (.i k (wr k (0-n)))
 | .not,.b x=>some (.b !x)
 | .xor,.i k n=>qJ .xor k (if k.signed then-1 else k.max) n
 |_,_=>none
inductive iD where
 |t (n:Nat)
 |c (v:T)
 deriving Inhabited
inductive lH where
 |mv (x:iD)
 |pick (c a b:iD)
 |alloc (z:List T) (sh:Bool)
 |box (x:iD) (sh:Bool)
 |build (z:List T) (ps:List (Nat×Nat×iD))
 |bsl (z:List T) (len:Nat) (ps:List (Nat×iD))
 |ld (x:iD) (n:Nat) (ag:Bool)
 |st (x v:iD) (n:Nat)
 |nck (x:iD)
 |bin (op:BinOp) (x y:iD)
 |eq (neg:Bool) (k:EK) (x y:iD)
 |un (op:UnOp) (x:iD)
 |cvi (k:IntKind) (x:iD)
 |mkfn (f:Nat) (first cap:List iD)
 |mkmap (sh:Bool)
 |mksl (z:List T) (bytes:Nat) (x:iD) (sh:Bool)
 |slS (x:iD) (lo hi:Option iD)
 |slV (sz:Nat) (x:iD) (lo hi mx:Option iD)
 |fa (x:iD) (off:Nat)
 |fld (x:iD) (off n:Nat) (ag:Bool)
 |ia (x ix:iD) (sz:Nat)
 |iaA (x ix:iD) (len sz:Nat)
 |ixS (x ix:iD)
 |ixA (x ix:iD) (len sz:Nat) (ag:Bool)
 |lk (kk:EK) (m k:iD) (z:T) (ok:Bool)
 |mu (kk:EK) (m k v:iD)
 |ext (x:iD) (j:Nat)
 |callf (f:Nat) (args:List iD)
 |callv (f:iD) (args:List iD)
 |lenS (x:iD)
 |lenV (x:iD)
 |lenM (x:iD)
 |lenC (n:Nat)
 |app (sz bytes:Nat) (s x:iD) (sh:Bool) (nm:Bool)
 |mm (isMax:Bool) (args:List iD)
 deriving Inhabited
structure be where
 d:Option Nat
 op:lH
 gd:Option (Nat×Bool)
 deriving Inhabited
inductive ic where
 |skip
 |region (ops:List be)
 |draws (ops:List (List Nat×be))
 |seq (a b:ic)
 |fork (os Dp:List be) (b:ic)
 |cond (c:iD) (a b:ic)
 |block (id:Nat) (a:ic)
 |loop (a:ic)
 |exit (id:Nat)
 |ret
 deriving Inhabited
inductive po where
 |tmp (t:Nat)
 |cell (t n:Nat) (ag:Bool)
 deriving Inhabited
structure ig where
 n:Nat
 code:ic
 res:List po
 eff:Bool
 own:Option Nat
 deriving Inhabited
abbrev Fr:=iz T
structure St where
 fr:Fr
 lh:iz ib
 sh:List ib
 deriving Inhabited
def an(l:Fr)(n:Nat):T:=iz.get iI l n
def j3(l:Fr)(n:Nat)(v:T):Fr:=iz.set iI l n v
theorem pS(l:Fr)(n:Nat)(v:T)(m:Nat):an (j3 l n v) m=if m=n then v else an l m:=iz.get_set iI v l n m
def wv:List T→Nat→Fr
 | [],_=> .nil
 |x::xs,k=>j3 (wv xs (k+1)) k x
def oX(l:List T):Fr:=wv l 0
theorem zZ: ∀(l:List T) (k m:Nat),an (wv l k) m=if m<k then iI else iC iI l (m-k)
 | [],k,m=>by simp[wv,an,iz.get_nil,iC]
 |x::xs,k,m=>by
  rw[wv,pS,zZ xs (k+1) m]
  by_cases h:m=k
  ·subst h;simp[iC]
  ·rw[if_neg h]
   by_cases D:m<k
   ·grind
   ·rw[if_neg (by omega),if_neg D]
    have:m-k=(m-(k+1))+1:=by omega
    rw[this];rfl
theorem Ed(l:List T)(m:Nat):an (oX l) m=iC iI l m:=by
 grind [oX,zZ]
def jr(l:List ib)(n:Nat):ib:=iC lI l n
def jO(l:List ib)(n:Nat)(v:ib):List ib:=ry lI l n v
def St.get(st:St):Sp→Nat→ib
 | .L,k=>iz.get lI st.lh k
 | .S,k=>jr st.sh k
def St.up(st:St):Up→St
 |(.L,k,e)=>{st with lh:=iz.set lI st.lh k e}
 |(.S,k,e)=>{st with sh:=jO st.sh k e}
def St.ups(st:St):List Up→St
 | []=>st
 |u::us=>(st.up u).ups us
def St.rho(st:St):iD→T
 | .t n=>an st.fr n
 | .c v=>v
def ot(d:Nat)(sh:Bool)(ob:Ob)(f:Sp→Nat→Nat→T):Q BR:=
 if sh then .new fun k=> .ret (.val (f .S k 1) [(.S,k,⟨1,ob⟩)])
 else .rd .L d fun e=> .ret (.val (f .L d (e.g+1)) [(.L,d,⟨e.g+1,ob⟩)])
def Xg:List T→Bool
 | [.nilsl]=>true
 |_=>false
def oC(us:List Up)(sp:Sp)(k:Nat):Bool:=us.any fun u=>u.1==sp&&u.2.1==k
def cellsOf:T→List T
 | .agg cs=>cs
 |t=> [t]
def asNat:T→Option Nat
 | .i _ n=>if 0≤n then some n.toNat else none
 |_=>none
def repl{α:Type}(z:List α):Nat→List α
 |0=> []
 |n+1=>z++repl z n
def splice{α:Type}:List α→Nat→List α→List α
 |cs,0,[]=>cs
 |_::cs,0,v::h=>v::splice cs 0 h
 |c::cs,off+1,h=>c::splice cs off h
 | [],_,_=> []
def pB{α:Type}:List α→List (Nat×List α)→Option (List α)
 |cs,[]=>some cs
 |cs,(off,D)::h=>if off+D.length≤cs.length then pB (splice cs off D) h else none
def part(cs:List T)(off n:Nat)(h:Bool):Option T:=
 if h then(if off+n≤cs.length then some (.agg ((cs.drop off).take n))else none)
 else cs[off]?
def Fu(x:T)(n:Nat)(h:Bool):Q T:=
 match x with
 | .vp cs=> .of (part cs 0 n h)
 | .ptr sp k g off=> .rd sp k fun e=>
   if e.g=g then match e.ob with
    | .cells cs _ _=> .of (part cs off n h)
    |_=> .fail
   else .fail
 |_=> .fail
def tP(x v:T)(n:Nat):Q BR:=
 if(cellsOf v).length≠n|| !noTup v then .fail else
 match x with
 | .ptr sp k g off=> .rd sp k fun e=>
   if e.g=g then match e.ob with
    | .cells cs h bx=>if h≤off&&off+n≤cs.length then
        (if bx&&sp== .L then .ret (.val iI [(sp,k,⟨g,.cells (splice cs off (cellsOf v)) h bx⟩)])
        else(fz (bx&&sp== .S) iE v).bind fun p=>if oC p.2 sp k|| !noTup p.1||(cellsOf p.1).length≠n then .fail else .ret (.val iI (p.2++ [(sp,k,⟨g,.cells (splice cs off (cellsOf p.1)) h bx⟩)])))
      else .fail
    |_=> .fail
   else .fail
 |_=> .fail
def jP(sz:Nat):T→Q (Nat×List T)
 | .nilsl=> .ret (0,[])
 | .sl cs len _=>if cs.length=len*sz then .ret (len,cs)else .fail
 | .isl sp k g off len h=>if h=sz then .rd sp k fun e=>
     if e.g=g then match e.ob with
      | .cells cs _ false=>if off+len*sz≤cs.length then .ret (len,(cs.drop off).take (len*sz))else .fail
      |_=> .fail
     else .fail
   else .fail
 | .s l=>if sz=1 then .ret (l.length,l.map fun(n:Nat)=>T.i .u8 (n:Int))else .fail
 |_=> .fail
def roomy:Nat:=1099511627776
def rP(d sz bytes:Nat)(s x:T)(sh D:Bool):Q BR:=
 (jP sz x).bind fun p=>
 if p.1=0 then(match s with| .nilsl| .sl .. | .isl .. => .ret (.val s [])|_=> .fail)else
 match s with
 | .nilsl=>if p.1*bytes≤roomy then ot d sh (.cells p.2 0 (D&& !sh)) (fun sp k g=> .isl sp k g 0 p.1 sz)else .fail
 | .sl cs len true=>if cs.length=len*sz&&(len+p.1)*bytes≤roomy then ot d sh (.cells (cs++p.2) 0 false) (fun sp k g=> .isl sp k g 0 (len+p.1) sz)else .fail
 | .isl sp k g off len E=>if E=sz&&off=0&&(len+p.1)*bytes≤roomy then .rd sp k fun e=>
     if e.g=g then match e.ob with
      | .cells cs h false=>if len*sz=cs.length then .ret (.val (.isl sp k (g+1) 0 (len+p.1) sz) [(sp,k,⟨g+1,.cells (cs++p.2) h false⟩)])
        else if sh&&D&&decide (len*sz<cs.length)&&decide (h≤len*sz)then .ret (.val (.isl sp k (g+1) 0 (len+p.1) sz) [(sp,k,⟨g+1,.cells (cs.take (len*sz)++p.2) h false⟩)])else .fail
      |_=> .fail
     else .fail
   else .fail
 |_=> .fail
def m9(kk:EK)(k:T):List T→Option (Option Nat)
 | []=>some none
 |x::xs=>match tO kk k x with
  |some true=>some (some 0)
  |some false=>(m9 kk k xs).map fun r=>r.map (· +1)
  |none=>none
def p6(kk:EK)(k v:T)(ks h:List T):Option (List T×List T):=
 match m9 kk k ks with
 |some (some i)=>some (ks.set i k,h.set i v)
 |some none=>some (ks++ [k],h++ [v])
 |none=>none
def Fv:CK→T→Bool
 | .bool,.b _=>true
 | .int,.i .. =>true
 | .str,.s _=>true
 |_,_=>false
def pL:List CK→List T→Bool
 | [],[]=>true
 |k::ks,x::xs=>Fv k x&&pL ks xs
 |_,_=>false
def isKey:EK→T→Bool
 | .one k,x=>Fv k x
 | .flat ks,.agg xs=>pL ks xs
 |_,_=>false
def nF(kk:EK)(ks D:List T)(k z:T)(h:Bool):Option T:=
 if !isKey kk k then none else
 match m9 kk k ks with
 |some (some i)=>D[i]?.map fun v=>if h then .tup [v,.b true]else v
 |some none=>some (if h then .tup [z,.b false]else z)
 |none=>none
def nG(h:Bool):T→List T→Option T
 |x,[]=>some x
 | .i k a,.i k' b::D=>if k=k' then nG h (.i k (if h then(if b>a then b else a)else(if b<a then b else a))) D else none
 |_,_=>none
def ky(ρ:iD→T)(Xh:Nat):Option iD→Option Nat
 |none=>some Xh
 |some x=>asNat (ρ x)
def z7(sz:Nat)(x:T)(l h:Nat):Q T:=
 match x with
 | .nilsl=>if l=0&&h=0 then .ret .nilsl else .fail
 | .sl cs len ex=>if l≤h&&h≤len&&cs.length=len*sz then .ret (.sl ((cs.drop (l*sz)).take ((h-l)*sz)) (h-l) (ex&&h=len))else .fail
 | .isl sp k g off len D=>if l≤h&&h≤len&&D=sz then .ret (if l=h then(if sp= .S∧h=0∧off=0 then .isl sp k g 0 0 sz else .sl [] 0 false)else .isl sp k g (off+l*sz) (h-l) sz)else .fail
 |_=> .fail
def uh:T→Option Nat
 | .nilsl=>some 0
 | .sl _ len _=>some len
 | .isl _ _ _ _ len _=>some len
 |_=>none
def val(v:Option T):Q BR:=match v with|some v=> .ret (.val v [])|none=> .fail
def jk(d:Nat)(ρ:iD→T):lH→Q BR
 | .mv x=> .ret (.val (ρ x) [])
 | .pick c a b=>match ρ c with| .b true=> .ret (.val (ρ a) [])| .b false=> .ret (.val (ρ b) [])|_=> .fail
 | .alloc z sh=>ot d sh (.cells z 0 true) (fun sp k g=> .ptr sp k g 0)
 | .box x sh=>if !noTup (ρ x)then .fail else if sh then(fz true iE (ρ x)).bind fun p=>if p.2.isEmpty&&noTup p.1 then ot d true (.cells (cellsOf p.1) 0 true) (fun sp k g=> .ptr sp k g 0)else .fail
     else ot d false (.cells (cellsOf (ρ x)) 0 true) (fun sp k g=> .ptr sp k g 0)
 | .build z J=>if J.all fun p=>(cellsOf (ρ p.2.2)).length=p.2.1&&noTup (ρ p.2.2)then val ((pB z (J.map fun p=>(p.1,cellsOf (ρ p.2.2)))).map .agg)else .fail
 | .bsl z len J=>(jd (fz false iE) (J.map fun p=>ρ p.2)).bind fun q=>
     if q.1.all fun v=>(cellsOf v).length=z.length&&noTup v then
      match pB (repl z len) ((J.map fun p=>p.1*z.length).zip (q.1.map cellsOf))with
      |some cs=> .ret (.val (.sl cs len true) q.2)
      |none=> .fail
     else .fail
 | .ld x n K=>(Fu (ρ x) n K).bind fun v=> .ret (.val v [])
 | .st x v n=>tP (ρ x) (ρ v) n
 | .nck x=>match ρ x with
   | .vp cs=> .ret (.val (.vp cs) [])
   | .ptr sp k g off=> .ret (.val (.ptr sp k g off) [])
   | .fn f a c=> .ret (.val (.fn f a c) [])
   |_=> .fail
 | .bin op x y=>val (Ev.bin op (ρ x) (ρ y))
 | .eq neg k x y=>val ((tO k (ρ x) (ρ y)).map fun r=> .b (r != neg))
 | .un op x=>val (Ev.un op (ρ x))
 | .cvi k x=>match ρ x with| .i _ n=> .ret (.val (.i k (wr k n)) [])|_=> .fail
 | .mkfn f first N=> .ret (.val (.fn f (first.map ρ) (N.map ρ)) [])
 | .mkmap sh=>ot d sh (.map [] [] false) (fun sp k g=> .mp sp k g)
 | .mksl z bytes x sh=>match asNat (ρ x)with
   |some n=>if n*bytes≤roomy&&n≤roomy then ot d sh (.cells (repl z n) 0 (Xg z)) (fun sp k g=> .isl sp k g 0 n z.length)else .fail
   |none=> .fail
 | .slS x l h=>match ρ x with
   | .s D=>match ky ρ 0 l,ky ρ D.length h with
     |some l,some h=>if l≤h&&h≤D.length then .ret (.val (.s ((D.drop l).take (h-l))) [])else .fail
     |_,_=> .fail
   |_=> .fail
 | .slV sz x l h U=>match uh (ρ x)with
   |none=> .fail
   |some n=>match ky ρ 0 l,ky ρ n h,U with
    |some l,some h,none=>(z7 sz (ρ x) l h).bind fun v=> .ret (.val v [])
    |some l,some h,some m=>match asNat (ρ m),ρ x with
     |some 0,.nilsl=>if l=0&&h=0 then .ret (.val .nilsl [])else .fail
     |some 0,_=>if l=0&&h=0 then .ret (.val (.sl [] 0 true) [])else .fail
     |_,_=> .fail
    |_,_,_=> .fail
 | .fa x off=>match ρ x with
   | .vp cs=>if off≤cs.length then .ret (.val (.vp (cs.drop off)) [])else .fail
   | .ptr sp k g o=> .ret (.val (.ptr sp k g (o+off)) [])
   |_=> .fail
 | .fld x off n K=>match ρ x with| .agg cs=>val (part cs off n K)|_=> .fail
 | .ia x E sz=>match asNat (ρ E),ρ x with
   |some j,.sl cs len _=>if j<len&&(j+1)*sz≤cs.length then .ret (.val (.vp (cs.drop (j*sz))) [])else .fail
   |some j,.isl sp k g off len V=>if j<len&&V=sz then .ret (.val (.ptr sp k g (off+j*sz)) [])else .fail
   |_,_=> .fail
 | .iaA x E len sz=>match asNat (ρ E),ρ x with
   |some j,.vp cs=>if j<len&&(j+1)*sz≤cs.length then .ret (.val (.vp (cs.drop (j*sz))) [])else .fail
   |some j,.ptr sp k g off=>if j<len then .ret (.val (.ptr sp k g (off+j*sz)) [])else .fail
   |_,_=> .fail
 | .ixS x E=>match asNat (ρ E),ρ x with
   |some j,.s D=>match D[j]? with|some c=> .ret (.val (.i .u8 c) [])|none=> .fail
   |_,_=> .fail
 | .ixA x E len sz K=>match asNat (ρ E),ρ x with
   |some j,.agg cs=>if j<len then val (part cs (j*sz) sz K)else .fail
   |_,_=> .fail
 | .lk I m k z O=>match ρ m with
   | .nilmp=>if isKey I (ρ k)then .ret (.val (if O then .tup [z,.b false]else z) [])else .fail
   | .vm ks F=>val (nF I ks F (ρ k) z O)
   | .mp sp kk g=> .rd sp kk fun e=>if e.g=g then match e.ob with| .map ks F _=>val (nF I ks F (ρ k) z O)|_=> .fail else .fail
   |_=> .fail
 | .mu I m k v=>match ρ m with
   | .mp sp kk g=> .rd sp kk fun e=>if e.g=g&&isKey I (ρ k)then match e.ob with
       | .map ks F false=>(fz false iE (ρ v)).bind fun p=>match p6 I (ρ k) p.1 ks F with
         |some q=>if oC p.2 sp kk then .fail else .ret (.val iI (p.2++ [(sp,kk,⟨g,.map q.1 q.2 false⟩)]))
         |none=> .fail
       |_=> .fail
     else .fail
   |_=> .fail
 | .ext x j=>match ρ x with| .tup F=>val F[j]? |_=> .fail
 | .callf _ _=> .fail
 | .callv _ _=> .fail
 | .lenS x=>match ρ x with| .s D=> .ret (.val (.i .i64 D.length) [])|_=> .fail
 | .lenV x=>val ((uh (ρ x)).map fun n=> .i .i64 n)
 | .lenM x=>match ρ x with
   | .nilmp=> .ret (.val (.i .i64 0) [])
   | .vm ks _=> .ret (.val (.i .i64 ks.length) [])
   | .mp sp kk g=> .rd sp kk fun e=>if e.g=g then match e.ob with| .map ks _ _=> .ret (.val (.i .i64 ks.length) [])|_=> .fail else .fail
   |_=> .fail
 | .lenC n=> .ret (.val (.i .i64 n) [])
 | .app sz bytes s x sh W=>rP d sz bytes (ρ s) (ρ x) sh W
 | .mm H args=>match args.map ρ with|x::rest=>val (nG H x rest)| []=> .fail
def jq(ρ:iD→T):lH→Option (Option (Nat×List T))
 | .callf f args=>some (some (f,args.map ρ))
 | .callv f args=>some (match ρ f with| .fn f a c=>some (f,a++args.map ρ++c)|_=>none)
 |_=>none
def yY:lH→List iD
 | .mv x| .box x _| .ld x _ _| .nck x| .un _ x| .cvi _ x| .mksl _ _ x _| .fa x _| .fld x _ _ _| .ext x _| .lenS x| .lenV x| .lenM x=> [x]
 | .pick c a b=> [c,a,b]
 | .alloc .. | .mkmap _| .lenC _=> []
 | .build _ D=>D.map (·.2.2)
 | .bsl _ _ D=>D.map (·.2)
 | .st x v _| .bin _ x v| .eq _ _ x v| .ia x v _| .iaA x v _ _| .ixS x v| .ixA x v _ _ _| .lk _ x v _ _| .app _ _ x v _ _=> [x,v]
 | .mkfn _ a c=>a++c
 | .slS x l h=>x::(l.toList++h.toList)
 | .slV _ x l h m=>x::(l.toList++h.toList++m.toList)
 | .mu _ m k v=> [m,k,v]
 | .callf _ as| .mm _ as=>as
 | .callv f as=>f::as
def tmpsOf(xs:List iD):List Nat:=xs.filterMap fun| .t n=>some n| .c _=>none
def looks(a:be):List Nat:=tmpsOf (yY a.op)++(match a.gd with|some g=> [g.1]|none=> [])
inductive Out where
 |nrm|ext (id:Nat)|ret
 deriving DecidableEq,Inhabited
abbrev p7:=Nat→List T→List ib→Option (T×List ib)
structure Env where
 fn:Nat→Option ig
 ext:Nat→Option (List T→Option T)
 wr:Nat→Option (List T→Option (List T×Option Nat))
def nj(fr:Fr)(n:Nat)(d:Option Nat)(v:T):Option Fr:=
 match d with
 |some d=>if d<n then some (j3 fr d v)else none
 |none=>some fr
def kY:T→Nat→Option T
 | .tup h,j=>if j<100 then h[j]? else match h[j/100-1]? with
   |some (.agg cs)=>cs[j%100]?
   |_=>none
 | .agg cs,j=>cs[j]?
 | .any,_=>none
 |t,_=>some t
def iF:T→Nat→T→T
 | .tup h,j,x=>if j<100 then .tup (h.set j x)else match h[j/100-1]? with
   |some (.agg cs)=> .tup (h.set (j/100-1) (.agg (cs.set (j%100) x)))
   |_=> .tup (h.set (j/100-1) .any)
 | .agg cs,j,x=> .agg (cs.set j x)
 | .any,_,_=> .any
 |_,_,x=>x
def nM:T→Bool
 | .b _| .i .. | .s _| .nilsl| .nilptr| .nilmp| .nilfn=>true
 |_=>false
def p8:T→Bool
 | .tup h=>h.all fun| .agg cs=>cs.all nM|t=>nM t
 | .agg cs=>cs.all nM
 |t=>nM t
def rn(d j:Nat)(r:T)(st:St)(us:List Up):Option (T×St):=
 match kY r j with
 |some .nilsl=>some (r,if p8 r then st else st.ups us)
 |some (.sl cs len _)=>
  if cs.all nM=true∧cs.length/len*len=cs.length then
   some (iF r j (.isl .L d (((if p8 (iF r j .nilsl)then st else st.ups us).get .L d).g+1) 0 len (cs.length/len)),
    (if p8 (iF r j .nilsl)then st else st.ups us).up (.L,d,⟨((if p8 (iF r j .nilsl)then st else st.ups us).get .L d).g+1,.cells cs 0 false⟩))
  else none
 |_=>none
def ad6(sp:Sp)(k g off:Nat):Option Nat→T
 |none=> .tup []
 |some n=> .isl sp k g off n 1
def SA(h:List T→Option (List T×Option Nat))(st:St):List T→Option (T×St)
 | [.nilsl]=>match h []with
   |some ([],none)=>some (.tup [],st)
   |some ([],some 0)=>some (.nilsl,st)
   |_=>none
 | [.isl sp k g off len 1]=>match st.get sp k with
   |⟨E,.cells cs F false⟩=>
    if E=g∧F≤off∧off+len≤cs.length then
     match h ((cs.drop off).take len)with
     |some (D,r)=>if D.length=len∧D.all single=true∧r.getD 0≤len then some (ad6 sp k g off r,st.up (sp,k,⟨E,.cells (splice cs off D) F false⟩))else none
     |none=>none
    else none
   |_=>none
 |_=>none
def je(E:Env)(D:p7)(d:Nat)(st:St)(f:Nat)(args:List T):Option (T×St):=
 match E.fn f,E.ext f with
 |some af,_=>
  match(jd (fz af.eff iE) args).run st.get st.sh.length with
  |some q=>
   if af.eff then
    (D f q.1 (st.ups q.2).sh).map fun r=>(r.1,{st.ups q.2 with sh:=r.2})
   else match D f q.1 []with
    |some r=>(match af.own with
     |none=>some (r.1,if scalar r.1 then st else st.ups q.2)
     |some j=>rn d j r.1 st q.2)
    |none=>none
  |none=>none
 |none,some g=>
  match(jd (fz false iE) args).run st.get st.sh.length with
  |some q=>(g q.1).map fun r=>(r,st)
  |none=>none
 |none,none=>match E.wr f with
  |some h=>SA h st args
  |none=>none
def ja(E:Env)(h:p7)(n:Nat)(o:be)(st:St):Option St:=
 let F:Option St:=
  match jq st.rho o.op with
  |some (some c)=>match je E h (o.d.getD 0) st c.1 c.2 with
   |some r=>(nj st.fr n o.d r.1).map fun fr=>{r.2 with fr}
   |none=>none
  |some none=>none
  |none=>match(jk (o.d.getD 0) st.rho o.op).run st.get st.sh.length with
   |some (.val v ups)=>(nj st.fr n o.d v).map fun fr=>{st.ups ups with fr}
   |none=>none
 match o.gd with
 |none=>F
 |some (j,D)=>match an st.fr j with
  | .b x=>if x=D then F else(nj st.fr n o.d iI).map fun fr=>{st with fr}
  | .any=>none
  |_=>(nj st.fr n o.d iI).map fun fr=>{st with fr}
def ij(E:Env)(h:p7)(n:Nat):List be→St→Option St
 | [],st=>some st
 |o::D,st=>match ja E h n o st with
  |some F=>ij E h n D F
  |none=>none
def iter(f:St→Option (Out×St)):Nat→St→Option (Out×St)
 |0,_=>none
 |n+1,st=>match f st with
  |some (.nrm,h)=>iter f n h
  |r=>r
structure FP where
 all:Bool
 r:List (Sp×Nat)
 w:List (Sp×Nat)
 deriving Inhabited
def mD(xs h:List (Sp×Nat)):Bool:=xs.all fun x=> !h.contains x
def J0(xs:List (Sp×Nat)):Bool:=xs.all fun x=>x.1== .L
def apart(x y:FP):Bool:=
 mD x.w y.r&&mD x.w y.w&&mD x.r y.w&&
 (!x.all||(!y.all&&J0 y.r&&J0 y.w))&&(!y.all||(J0 x.r&&J0 x.w))
def j4(us:List Up):List (Sp×Nat):=us.map fun u=>(u.1,u.2.1)
def oB:FP:=⟨false,[],[]⟩
def BT(e:ib):Bool:=match e.ob with| .none=>false|_=>true
def vW(st:St)(us:List Up):Bool:=us.all fun u=>u.1== .L||BT (st.get .S u.2.1)
def lE(E:Env)(h:p7)(d:Nat)(st:St)(f:Nat)(args:List T):Option FP:=
 match E.fn f,E.ext f with
 |some af,_=>
  let q:=jd (fz af.eff iE) args
  match q.run st.get st.sh.length with
  |some p=>if !vW st p.2 then none else
   if af.eff then some ⟨true,q.log st.get st.sh.length,j4 p.2⟩else match h f p.1 []with
   |some r=>(match af.own with
    |none=>some ⟨false,q.log st.get st.sh.length,if scalar r.1 then []else j4 p.2⟩
    |some _=>some ⟨false,(.L,d)::q.log st.get st.sh.length,(.L,d)::j4 p.2⟩)
   |none=>none
  |none=>none
 |none,some _=>some ⟨false,(jd (fz false iE) args).log st.get st.sh.length,[]⟩
 |none,none=>none
def jC(E:Env)(h:p7)(o:be)(st:St):Option FP:=
 let H:Option FP:=
  match jq st.rho o.op with
  |some (some c)=>lE E h (o.d.getD 0) st c.1 c.2
  |some none=>none
  |none=>
   let q:=jk (o.d.getD 0) st.rho o.op
   match q.run st.get st.sh.length with
   |some (.val _ D)=>if q.asks st.get st.sh.length||vW st D then some ⟨q.asks st.get st.sh.length,q.log st.get st.sh.length,j4 D⟩else none
   |none=>none
 match o.gd with
 |none=>H
 |some (j,F)=>match an st.fr j with
  | .b x=>if x=F then H else some oB
  |_=>some oB
def iQ(E:Env)(h:p7)(n:Nat):List (List Nat×be)→List FP→St→Option St
 | [],_,st=>some st
 |(D,o)::H,F,st=>
  match jC E h o st with
  |none=>none
  |some fp=>
   if D.all fun i=>apart (iC ⟨true,[],[]⟩ F i) fp then
    match ja E h n o st with
    |some I=>iQ E h n H (F++ [fp]) I
    |none=>none
   else none
def yZ(h:List be):List Nat:=h.filterMap (·.d)
def jV:ic→List Nat
 | .region ops=>yZ ops
 | .draws ops=>yZ (ops.map (·.2))
 | .seq a b=>jV a++jV b
 | .fork h _ b=>yZ h++jV b
 | .cond _ a b=>jV a++jV b
 | .block _ a=>jV a
 | .loop a=>jV a
 |_=> []
def xh:List Nat→Fr→Fr
 | [],f=>f
 |k::ks,f=>j3 (xh ks f) k .any
def BU:List Nat→iz ib→iz ib→iz ib
 | [],l,_=>l
 |k::ks,l,h=>iz.set lI (BU ks l h) k ⟨max (iz.get lI l k).g (iz.get lI h k).g,.none⟩
def rQ(ks:List Nat)(s t:St):St:=⟨xh ks s.fr,BU ks s.lh t.lh,s.sh⟩
def BV(ks:List Nat)(s t:St):Prop:=s.sh=t.sh∧(∀k,k∉ks→an s.fr k=an t.fr k)∧ ∀k,k∉ks→iz.get lI s.lh k=iz.get lI t.lh k
open Classical in
noncomputable def Mf(ks:List Nat):Option (Out×St)→Option (Out×St)→Option (Out×St)
 |some (o,s),some (o',t)=>if o=o'∧BV ks s t then some (o,rQ ks s t)else none
 |_,_=>none
noncomputable def mE(E:Env)(h:p7)(D n:Nat):ic→St→Option (Out×St)
 | .skip,st=>some (.nrm,st)
 | .region ops,st=>(ij E h n ops st).map fun F=>(.nrm,F)
 | .draws ops,st=>(iQ E h n ops [] st).map fun F=>(.nrm,F)
 | .seq a b,st=>match mE E h D n a st with
   |some (.nrm,F)=>mE E h D n b F
   |r=>r
 | .fork H Dp b,st=>match ij E h n H st,ij E h n Dp st with
   |some I,some J=>Mf (yZ H++jV b) (mE E h D n b I) (mE E h D n b J)
   |_,_=>none
 | .cond c a b,st=>match st.rho c with
   | .b true=>mE E h D n a st
   | .b false=>mE E h D n b st
   |_=>none
 | .block id a,st=>match mE E h D n a st with
   |some (.ext OG,F)=>if OG=id then some (.nrm,F)else some (.ext OG,F)
   |r=>r
 | .loop a,st=>iter (mE E h D n a) D st
 | .exit id,st=>some (.ext id,st)
 | .ret,st=>some (.ret,st)
def H4(st:St):po→Option T
 | .tmp t=>some (an st.fr t)
 | .cell t n h=>(Fu (an st.fr t) n h).run st.get st.sh.length
def nH(st:St):List po→Option (List T)
 | []=>some []
 |r::h=>match H4 st r,nH st h with
  |some v,some D=>some (v::D)
  |_,_=>none
def answer(h:Bool)(vs:List T)(st:St):Option (T×List ib):=
 match(fz h iE (match vs with| [v]=>v|vs=> .tup vs)).run st.get st.sh.length with
 |some p=>some (p.1,(st.ups p.2).sh)
 |none=>none
def qR(j:Nat)(vs:List T)(st:St):Option (T×List ib):=
 match kY (match vs with| [v]=>v|vs=> .tup vs) j with
 |some .nilsl=>answer false vs st
 |some (.isl .L k g 0 len sz)=>
  (match(fz false iE (iF (match vs with| [v]=>v|vs=> .tup vs) j .nilsl)).run st.get st.sh.length with
  |some p=>(match(st.ups p.2).get .L k with
   |⟨h,.cells cs D false⟩=>if h=g∧cs.length=len*sz∧len≠0∧(D=0∨p8 (iF p.1 j .nilsl)=true)then some (iF p.1 j (.sl cs len false),(st.ups p.2).sh)else none
   |_=>none)
  |none=>none)
 |_=>none
def sN(D:Option Nat)(h:Bool)(E:List T)(st:St):Option (T×List ib):=
 match D with
 |none=>answer h E st
 |some j=>if h then none else qR j E st
noncomputable def jI(E:Env):Nat→p7
 |0=>fun _ _ _=>none
 |m+1=>fun f args sh=>
  match E.fn f with
  |none=>none
  |some af=>
   if af.n<args.length then none else
   match mE E (jI E m) m af.n af.code {fr:=oX args,lh:= .nil,sh}with
   |some (.ext _,_)=>none
   |some (_,st)=>match nH st af.res with
    |some h=>sN af.own af.eff h st
    |none=>none
   |none=>none
end Go.Ev
namespace Go.Ev
open Go
def bytesN(b:ByteArray):List Nat:=b.data.toList.map UInt8.toNat
def u7:Value→Option T
 | .bool x=>some (.b x)
 | .int k n=>some (.i k n)
 | .string s=>some (.s (bytesN s))
 | .pointer none=>some .nilptr
 | .slice none 0 0=>some .nilsl
 | .map none=>some .nilmp
 | .nilFunc=>some .nilfn
 | .func (.func f) a c=>match a.toList,c.toList with
   | [],[]=>some (.fn f [] [])
   |_,_=>none
 |_=>none
def oD:List Value→Option (List T)
 | []=>some []
 |v::h=>match u7 v,oD h with
  |some t,some ts=>some (t::ts)
  |_,_=>none
def BW:Value→Option T
 | .agg cs=>(oD cs.toList).map .agg
 | .tuple cs=>(oD cs.toList).map .tup
 |v=>u7 v
def lJ:Operand→Option iD
 | .tmp t=>some (.t t)
 | .const v=>(BW v).map .c
 | .func f=>some (.c (.fn f [] []))
 | .global _=>none
def zd:List Operand→Option (List iD)
 | []=>some []
 |x::xs=>match lJ x,zd xs with
  |some y,some h=>some (y::h)
  |_,_=>none
def tQ:Option Operand→Option (Option iD)
 |none=>some none
 |some x=>(lJ x).map some
def rR(P:Program)(t:TypeId):Option T:=(P.info? t).bind fun i=>i.zero.bind BW
def lA(P:Program)(t:TypeId):Option Nat:=(P.info? t).map (·.size)
def tS(P:Program)(t:TypeId):Option Bool:=(P.underlying t).map fun| .struct _| .array _ _=>true|_=>false
def vM(P:Program)(t:TypeId):Option CK:=
 match P.underlying t with
 |some (.int _)=>some .int
 |some .string=>some .str
 |some .bool=>some .bool
 |_=>none
def nT(P:Program):Nat→List Field→Option (List CK)
 |_,[]=>some []
 |i,f::h=>if f.offset=i&&f.name != "_" &&(P.info? f.type).map (·.size)==some 1 then match vM P f.type,nT P (i+1) h with
  |some k,some ks=>some (k::ks)
  |_,_=>none
  else none
def BX(P:Program)(t:TypeId):Option EK:=
 match P.underlying t with
 |some (.int _)=>some (.one .int)
 |some .string=>some (.one .str)
 |some .bool=>some (.one .bool)
 |some (.slice _)=>some .sl
 |some (.pointer _)=>some .ptr
 |some (.map _ _)=>some .map
 |some (.struct h)=>if !P.eqGuardType P.depth t&& !P.stoodInHeld t then(nT P 0 h.toList).map .flat else none
 |some (.array n e)=>if !P.eqGuardType P.depth t&&P.cellsOf e==1 then(vM P e).map fun k=> .flat (List.replicate n k)else none
 |_=>none
def keyOf(P:Program)(t:TypeId):Option EK:=
 match BX P t with
 |some (.one k)=>some (.one k)
 |some (.flat ks)=>match P.underlying t with
  |some (.struct _)=>some (.flat ks)
  |_=>none
 |_=>none
def placesOf(D:List (Nat×Nat)):List (Nat×Operand)→Option (List (Nat×Nat×iD))
 | []=>some []
 |(i,x)::h=>match D[i]?,lJ x,placesOf D h with
  |some p,some y,some r=>some ((p.1,p.2,y)::r)
  |_,_,_=>none
def pU(sz:Nat):List (Nat×Operand)→Option (List (Nat×Nat×iD))
 | []=>some []
 |(i,x)::h=>match lJ x,pU sz h with
  |some y,some r=>some ((i*sz,sz,y)::r)
  |_,_=>none
def u9:List (Nat×Operand)→Option (List (Nat×iD))
 | []=>some []
 |(i,x)::h=>match lJ x,u9 h with
  |some y,some r=>some ((i,y)::r)
  |_,_=>none
def Fw:Operand→Operand→Bool
 | .tmp a,.tmp b=>a==b
 | .const (.int .i64 a),.const (.int .i64 b)=>a==b
 |_,_=>false
def rS(P:Program)(sh:Nat)(c:Call):Option lH:=
 match c.callee with
 | .value (.func f)=>(zd c.args.toList).map fun as=> .callf f as
 | .value x=>match lJ x,zd c.args.toList with
   |some y,some as=>some (.callv y as)
   |_,_=>none
 | .builtin .len=>match c.argTypes[0]?,c.args.toList with
   |some t,[x]=>match P.underlying t,lJ x with
    |some .string,some y=>some (.lenS y)
    |some (.slice _),some y=>some (.lenV y)
    |some (.map _ _),some y=>some (.lenM y)
    |some (.array n _),some _=>some (.lenC n)
    |_,_=>none
   |_,_=>none
 | .builtin .append=>match c.argTypes.toList,c.args.toList with
   | [t,u],[x,y]=>match P.underlying t,P.underlying u,lJ x,lJ y with
     |some (.slice e),some h,some D,some E=>
      (match h with
      | .slice _| .string=>(match P.info? e with
        |some i=>(match i.zero with
         |some z=>if i.size=z.cells.size&&i.size != 0&&i.bytes != 0 then some (.app i.size i.bytes D E (sh==1||sh==3) (sh==2||sh==3))else none
         |none=>none)
        |none=>none)
      |_=>none)
     |_,_,_,_=>none
   |_,_=>none
 | .builtin .min=>(zd c.args.toList).map fun as=> .mm false as
 | .builtin .max=>(zd c.args.toList).map fun as=> .mm true as
 |_=>none
def jL(P:Program)(sh:Nat):Op→Option lH
 | .move x| .assign x=>(lJ x).map .mv
 | .pick c a b=>match lJ c,lJ a,lJ b with
   |some c,some a,some b=>some (.pick c a b)
   |_,_,_=>none
 | .alloc t=>match rR P t with
   |some z=>if noTup z then some (.alloc (cellsOf z) (sh==1))else none
   |none=>none
 | .box _ x=>(lJ x).map fun y=> .box y (sh==1)
 | .build t H=>match rR P t,P.underlying t with
   |some z,some (.struct E)=>(match E.toList.mapM (fun f=>(P.info? f.type).map fun i=>(f.offset,i.size))with
    |some N=>if noTup z then(placesOf N H.toList).map fun r=> .build (cellsOf z) r else none
    |none=>none)
   |some z,some (.array _ e)=>(match lA P e with|some n=>if noTup z then(pU n H.toList).map fun r=> .build (cellsOf z) r else none|none=>none)
   |_,_=>none
 | .buildSlice t len H=>match P.underlying t with
   |some (.slice e)=>match rR P e,lA P e,u9 H.toList with
    |some z,some n,some r=>if noTup z&&n=(cellsOf z).length&&n != 0&&len*n≤16777216 then some (.bsl (cellsOf z) len r)else none
    |_,_,_=>none
   |_=>none
 | .load t x=>match lJ x,lA P t,tS P t with
   |some y,some n,some F=>some (.ld y n F)
   |_,_,_=>none
 | .store t x v=>match lJ x,lJ v,lA P t with
   |some y,some u,some n=>some (.st y u n)
   |_,_,_=>none
 | .nilCheck x=>(lJ x).map .nck
 | .binOp op t x y _=>match lJ x,lJ y with
   |some a,some b=>match op,vM P t with
    | .eql,some .bool=>some (.eq false (.one .bool) a b)
    | .neq,some .bool=>some (.eq true (.one .bool) a b)
    |_,some _=>some (.bin op a b)
    | .eql,none=>(BX P t).map fun k=> .eq false k a b
    | .neq,none=>(BX P t).map fun k=> .eq true k a b
    |_,_=>none
   |_,_=>none
 | .unOp op _ x=>(lJ x).map (.un op)
 | .convert s t x=>match P.underlying s,P.underlying t,lJ x with
   |some (.int _),some (.int k),some y=>some (.cvi k y)
   |_,_,_=>none
 | .makeFunc (.func f) first I=>match zd first.toList,zd I.toList with
   |some a,some c=>some (.mkfn f a c)
   |_,_=>none
 | .makeMap _ none=>some (.mkmap (sh==1))
 | .makeSlice t l c=>match P.underlying t with
   |some (.slice e)=>match P.info? e,rR P e,lJ l with
    |some i,some z,some y=>if noTup z&&Fw l c&&i.size=(cellsOf z).length&&i.size != 0 then some (.mksl (cellsOf z) i.bytes y (sh==1))else none
    |_,_,_=>none
   |_=>none
 | .slice t x l h m=>match P.underlying t,lJ x,tQ l,tQ h,tQ m with
   |some .string,some y,some l,some h,some none=>some (.slS y l h)
   |some (.slice e),some y,some l,some h,some m=>(match lA P e with|some n=>if n != 0&&(m.isNone||h.isSome)then some (.slV n y l h m)else none|none=>none)
   |_,_,_,_,_=>none
 | .fieldAddr s x f=>match P.underlying s,lJ x with
   |some (.struct E),some y=>(match E[f]? with
    |some D=>(match lA P D.type with|some n=>if n != 0 then some (.fa y D.offset)else none|none=>none)
    |none=>none)
   |_,_=>none
 | .field s x f=>match P.underlying s,lJ x with
   |some (.struct E),some y=>(match E[f]? with
    |some D=>(match lA P D.type,tS P D.type with|some n,some F=>some (.fld y D.offset n F)|_,_=>none)
    |none=>none)
   |_,_=>none
 | .indexAddr t x j=>match P.underlying t,lJ x,lJ j with
   |some (.slice e),some y,some j=>(match lA P e with|some n=>if n != 0 then some (.ia y j n)else none|none=>none)
   |some (.array len e),some y,some j=>(match lA P e with|some n=>if n != 0 then some (.iaA y j len n)else none|none=>none)
   |_,_,_=>none
 | .index t x j=>match P.underlying t,lJ x,lJ j with
   |some .string,some y,some j=>some (.ixS y j)
   |some (.array len e),some y,some j=>(match lA P e,tS P e with|some n,some F=>some (.ixA y j len n F)|_,_=>none)
   |_,_,_=>none
 | .lookup t m k O=>match P.underlying t,lJ m,lJ k with
   |some (.map J U),some m,some k=>(match keyOf P J,rR P U with|some K,some z=>some (.lk K m k z O)|_,_=>none)
   |_,_,_=>none
 | .mapUpdate t m k v=>match P.underlying t,lJ m,lJ k,lJ v with
   |some (.map J _),some m,some k,some v=>(keyOf P J).map fun K=> .mu K m k v
   |_,_,_,_=>none
 | .extract x j=>(lJ x).map fun y=> .ext y j
 | .call c=>rS P sh c
 |_=>none
def ad7(hs:List Nat)(d:Option Nat):Nat:=
 match d with
 |some d=>if hs.contains d then(if hs.contains (d+100000)then 3 else 1)else if hs.contains (d+100000)then 2 else 0
 |none=>0
def ab4:List Nat→Option Nat
 | []=>none
 |h::hs=>if h<1000000 then ab4 hs else some (h-1000000)
def ui(P:Program)(hs:List Nat)(ops:Array Oper)(o:Oper):Option be:=
 match jL P (ad7 hs o.dst) o.op with
 |some op=>match o.guard with
  |none=>some ⟨o.dst,op,none⟩
  |some (j,h)=>match(ops[j]?).bind (·.dst)with
   |some d=>some ⟨o.dst,op,some (d,h)⟩
   |none=>none
 |none=>none
def kF(P:Program)(hs:List Nat)(ops:Array Oper):List Oper→Option (List be)
 | []=>some []
 |o::h=>match ui P hs ops o,kF P hs ops h with
  |some a,some as=>some (a::as)
  |_,_=>none
def quiet:lH→Bool
 | .mv _| .pick .. | .build .. | .nck _| .bin .. | .eq .. | .un .. | .cvi .. | .mkfn .. | .slS .. | .slV .. | .fa .. | .fld .. | .ia .. | .iaA .. | .ixS .. | .ixA .. | .ext .. | .lenS _| .lenV _| .lenC _| .mm .. =>true
 |_=>false
def jJ(o:Oper):List Nat:=(o.after.toList.filter (Region.binds .any)).map (·.on)
def Fx(h:List Nat)(D:List Nat):Nat:=D.foldl (fun m p=>m ||| 2 ^ p ||| iC 0 h p) 0
def p9:List (List Nat)→List Nat→List Nat
 | [],h=>h
 |ps::D,h=>p9 D (h++ [Fx h ps])
def xi:Nat→List (List Nat)→Bool
 |_,[]=>true
 |i,D::h=>D.all (· <i)&&xi (i+1) h
def mF(x y:be):Bool:=
 (match x.d with|some d=> !(looks y).contains d&& !(y.d==some d)|none=>true)&&(match y.d with|some d=> !(looks x).contains d|none=>true)
def BY(m:Nat)(as:List be):List (Nat×be):=(as.zipIdx.map fun p=>(p.2,p.1)).filter fun p=> !m.testBit p.1
def xj:List Nat→List be→List be→Bool
 |_,_,[]=>true
 | [],_,_=>false
 |m::E,h,a::D=>((BY m h).all fun p=>mF p.2 a)&&xj E (h++ [a]) D
def rU:List Nat→List be→List be→List (List Nat×be)
 |m::E,h,a::D=>((if quiet a.op then []else((BY m h).filter fun p=> !quiet p.2.op).map (·.1)),a)::rU E (h++ [a]) D
 |_,_,_=> []
def amz(h D:be):Bool:=match h,D with
 |⟨none,.st (.t x) (.c (.b true)) 1,none⟩,⟨none,.st (.t y) (.c (.b false)) 1,none⟩=>x==y
 |_,_=>false
def Fy(F:List (List Nat)):Bool:=match F with
 | [[],D,E,h]=>D.contains 0&&E.contains 0&&D.all (· <1)&&E.all (· <1)&&h.contains 1&&h.contains 2&&h.all (· <3)
 |_=>false
def Mg(P:Program)(hs:List Nat)(a:Code)(D h:ic):ic:=match a with
 | .region _ ops true=>(match kF P hs ops ops.toList with
   |some [H,E,F,I]=>if Fy (ops.toList.map jJ)&&amz E F then .fork [H,E,F,I] [H,F,E,I] h else .seq D h
   |_=> .seq D h)
 |_=> .seq D h
def na(P:Program)(hs:List Nat):Code→Option ic
 | .skip=>some .skip
 | .region _ ops false=>(kF P hs ops ops.toList).map .region
 | .region _ ops true=>
   match kF P hs ops ops.toList with
   |some as=>
    let h:=ops.toList.map jJ
    if xi 0 h&&xj (p9 h []) [] as then some (.draws (rU (p9 h []) [] as))else none
   |none=>none
 | .seq a b=>match na P hs a,na P hs b with
   |some D,some E=>some (Mg P hs a D E)
   |_,_=>none
 | .cond c a b=>match lJ c,na P hs a,na P hs b with
   |some c,some a,some b=>some (.cond c a b)
   |_,_,_=>none
 | .block id a=>(na P hs a).map (.block id)
 | .loop a=>(na P hs a).map .loop
 | .exit id=>some (.exit id)
 | .ret=>some .ret
 |_=>none
def sO(P:Program):List ResultVar→Option (List po)
 | []=>some []
 | .tmp t::h=>(sO P h).map (.tmp t:: ·)
 | .cell a t::h=>match lA P t,tS P t,sO P h with
   |some n,some D,some h=>some (.cell a n D::h)
   |_,_,_=>none
def D9(P:Program)(hs:List Nat)(D:Bool)(h:Func):Option ig:=
 if h.name== "runtime.NumGoroutine" then none else
 match h.body with
 |none=>none
 |some c=>match na P hs c,sO P h.results.toList with
  |some c,some E=>some ⟨h.ntmps,c,E,D,ab4 hs⟩
  |_,_=>none
end Go.Ev
namespace Go.Ev
open Go
structure H5 where
 blk:Nat
 off:Nat
 ext:Nat
abbrev iJ:=Sp→Nat→Nat→H5
abbrev MSet:=Nat→Nat→Prop
mutual
def PRel(w:World)(M:MSet):T→Value→Prop
 | .b x,v=>v= .bool x
 | .i k n,v=>v= .int k n
 | .s l,v=> ∃F,v= .string F∧bytesN F=l
 | .nilsl,v=>v= .slice none 0 0
 | .sl cs len ex,v=> ∃blk off D sp,v= .slice (some ⟨blk,off,sp⟩) len D∧len≤D∧(ex=true→D=len)∧(sp=none∨D=0)∧PCells w M blk off cs
 | .nilptr,v=>v= .pointer none
 | .vp cs,v=> ∃blk off,v= .pointer (some ⟨blk,off,none⟩)∧PCells w M blk off cs
 | .nilmp,v=>v= .map none
 | .vm ks J,v=> ∃blk E h,v= .map (some blk)∧w.heap[blk]? =some (.map E h)∧MapKept.Stamped E h∧(∀o,¬M blk o)∧PList w M ks (E.toList.map (·.key))∧PList w M J (E.toList.map (·.val))
 | .nilfn,v=>v= .nilFunc
 | .fn f a c,v=> ∃H I,v= .func (.func f) H I∧PList w M a H.toList∧PList w M c I.toList
 | .agg cs,v=> ∃a,v= .agg a∧PList w M cs a.toList∧cs.all single=true
 | .tup cs,v=> ∃a,v= .tuple a∧PList w M cs a.toList
 | .any,_=>True
 | .isl ..,_=>False
 | .ptr ..,_=>False
 | .mp ..,_=>False
def PList(w:World)(M:MSet):List T→List Value→Prop
 | [],h=>h= []
 |t::ts,h=> ∃u us,h=u::us∧PRel w M t u∧PList w M ts us
def PCells(w:World)(M:MSet)(blk off:Nat):List T→Prop
 | []=>True
 |c::cs=>(∃v,w.cell? ⟨blk,off,none⟩=some v∧ ¬M blk off∧PRel w M c v∧single c=true)∧PCells w M blk (off+1) cs
end
mutual
def il(β:iJ)(G:Sp→Nat→Nat)(w:World)(M:MSet):T→Value→Prop
 | .isl sp k g off len sz,v=>g≤G sp k∧ ∃h,v= .slice (some ⟨(β sp k g).blk,(β sp k g).off+off,none⟩) len h∧len≤h∧off+h*sz≤(β sp k g).ext
 | .ptr sp k g off,v=>g≤G sp k∧v= .pointer (some ⟨(β sp k g).blk,(β sp k g).off+off,none⟩)
 | .mp sp k g,v=>g≤G sp k∧v= .map (some (β sp k g).blk)
 | .fn f a c,v=> ∃D E,v= .func (.func f) D E∧iq β G w M a D.toList∧iq β G w M c E.toList
 | .agg cs,v=> ∃a,v= .agg a∧iq β G w M cs a.toList∧cs.all single=true
 | .tup cs,v=> ∃a,v= .tuple a∧iq β G w M cs a.toList
 | .any,_=>True
 | .b x,v=>v= .bool x
 | .i k n,v=>v= .int k n
 | .s l,v=> ∃F,v= .string F∧bytesN F=l
 | .nilsl,v=>v= .slice none 0 0
 | .sl cs len ex,v=>PRel w M (.sl cs len ex) v
 | .nilptr,v=>v= .pointer none
 | .vp cs,v=>PRel w M (.vp cs) v
 | .nilmp,v=>v= .map none
 | .vm ks H,v=>PRel w M (.vm ks H) v
 | .nilfn,v=>v= .nilFunc
def iq(β:iJ)(G:Sp→Nat→Nat)(w:World)(M:MSet):List T→List Value→Prop
 | [],h=>h= []
 |t::ts,h=> ∃u us,h=u::us∧il β G w M t u∧iq β G w M ts us
end
structure kG (w:World) (M:MSet) (w':World) (M':MSet):Prop where
 cell: ∀b o v,w.cell? ⟨b,o,none⟩=some v→ ¬M b o→w'.cell? ⟨b,o,none⟩=some v
 map: ∀(b:Nat) es c,w.heap[b]? =some (.map es c)→(∀o,¬M b o)→w'.heap[b]? =some (.map es c)
 m: ∀b o,b<w.heap.size→M' b o→M b o
theorem xk{w:World}{b o:Nat}{v:Value}(h:w.cell? ⟨b,o,none⟩=some v):b<w.heap.size:=by
 grind [World.cell?]
theorem qS{w:World}{b:Nat}{o:Obj}(h:w.heap[b]? =some o):b<w.heap.size:=by
 grind
mutual
theorem PRel.mono{w w':World}{M M':MSet}(k:kG w M w' M'): ∀(t:T) (v:Value),PRel w M t v→PRel w' M' t v
 | .b x,v,h=>by grind [PRel]
 | .i _ n,v,h=>by grind [PRel]
 | .s l,v,h=>by grind [PRel]
 | .nilsl,v,h=>by grind [PRel]
 | .sl cs len ex,v,h=>by
   simp only[PRel]at h ⊢
   obtain⟨blk,off,J,sp,D,E,F,K,I⟩:=h
   exact⟨blk,off,J,sp,D,E,F,K,PCells.mono k blk off cs I⟩
 | .nilptr,v,h=>by grind [PRel]
 | .vp cs,v,h=>by
   simp only[PRel]at h ⊢
   obtain⟨blk,off,D,I⟩:=h
   exact⟨blk,off,D,PCells.mono k blk off cs I⟩
 | .nilmp,v,h=>by grind [PRel]
 | .vm ks O,v,h=>by
   simp only[PRel]at h ⊢
   obtain⟨blk,U,H,D,E,N,F,I,K⟩:=h
   exact⟨blk,U,H,D,k.map _ _ _ E F,N,fun o V=>F o (k.m _ _ (qS E) V),PList.mono k ks _ I,PList.mono k O _ K⟩
 | .nilfn,v,h=>by grind [PRel]
 | .fn f a c,v,h=>by
   simp only[PRel]at h ⊢
   obtain⟨W,X,D,E,F⟩:=h
   exact⟨W,X,D,PList.mono k a _ E,PList.mono k c _ F⟩
 | .agg cs,v,h=>by
   simp only[PRel]at h ⊢
   obtain⟨a,D,E,F⟩:=h
   exact⟨a,D,PList.mono k cs _ E,F⟩
 | .tup cs,v,h=>by
   simp only[PRel]at h ⊢
   obtain⟨a,D,E⟩:=h
   exact⟨a,D,PList.mono k cs _ E⟩
 | .any,v,h=>by simp only[PRel]
 | .isl ..,v,h=>by simp only[PRel]at h
 | .ptr ..,v,h=>by simp only[PRel]at h
 | .mp ..,v,h=>by simp only[PRel]at h
theorem PList.mono{w w':World}{M M':MSet}(k:kG w M w' M'): ∀(t:List T) (v:List Value),PList w M t v→PList w' M' t v
 | [],v,h=>by grind [PList]
 |t::ts,v,h=>by
  simp only[PList]at h ⊢
  obtain⟨u,us,D,E,F⟩:=h
  exact⟨u,us,D,PRel.mono k t u E,PList.mono k ts us F⟩
theorem PCells.mono{w w':World}{M M':MSet}(k:kG w M w' M')(blk:Nat): ∀(off:Nat) (t:List T),PCells w M blk off t→PCells w' M' blk off t
 |off,[],h=>by simp only[PCells]
 |off,c::cs,h=>by
  simp only[PCells]at h ⊢
  obtain⟨⟨v,D,E,F,H⟩,I⟩:=h
  exact⟨⟨v,k.cell _ _ _ D E,fun J=>E (k.m _ _ (xk D) J),PRel.mono k c v F,H⟩,PCells.mono k blk (off+1) cs I⟩
end
mutual
theorem il.mono{β iO:iJ}{G G':Sp→Nat→Nat}{w w':World}{M M':MSet}(k:kG w M w' M')(Du: ∀sp n g,g≤G sp n→iO sp n g=β sp n g)(F: ∀sp n,G sp n≤G' sp n):
  ∀(t:T) (v:Value),il β G w M t v→il iO G' w' M' t v
 | .isl sp n g off len sz,v,h=>by
   grind [il]
 | .ptr sp n g off,v,h=>by
   grind [il]
 | .mp sp n g,v,h=>by
   grind [il]
 | .fn f a c,v,h=>by
   simp only[il]at h ⊢
   obtain⟨I,J,D,E,H⟩:=h
   exact⟨I,J,D,iq.mono k Du F a _ E,iq.mono k Du F c _ H⟩
 | .agg cs,v,h=>by
   simp only[il]at h ⊢
   obtain⟨a,D,E,H⟩:=h
   exact⟨a,D,iq.mono k Du F cs _ E,H⟩
 | .tup cs,v,h=>by
   simp only[il]at h ⊢
   obtain⟨a,D,E⟩:=h
   exact⟨a,D,iq.mono k Du F cs _ E⟩
 | .any,v,h=>by simp only[il]
 | .b x,v,h=>by grind [il]
 | .i _ n,v,h=>by grind [il]
 | .s l,v,h=>by grind [il]
 | .nilsl,v,h=>by grind [il]
 | .sl cs len ex,v,h=>by grind [il,PRel.mono]
 | .nilptr,v,h=>by grind [il]
 | .vp cs,v,h=>by grind [il,PRel.mono]
 | .nilmp,v,h=>by grind [il]
 | .vm ks K,v,h=>by grind [il,PRel.mono]
 | .nilfn,v,h=>by grind [il]
theorem iq.mono{β iO:iJ}{G G':Sp→Nat→Nat}{w w':World}{M M':MSet}(k:kG w M w' M')(Du: ∀sp n g,g≤G sp n→iO sp n g=β sp n g)(D: ∀sp n,G sp n≤G' sp n):
  ∀(t:List T) (v:List Value),iq β G w M t v→iq iO G' w' M' t v
 | [],v,h=>by grind [iq]
 |t::ts,v,h=>by
  simp only[iq]at h ⊢
  obtain⟨u,us,E,F,H⟩:=h
  exact⟨u,us,E,il.mono k Du D t u F,iq.mono k Du D ts us H⟩
end
mutual
theorem PRel.toV{w:World}{M:MSet}(β:iJ)(G:Sp→Nat→Nat): ∀(t:T) (v:Value),PRel w M t v→il β G w M t v
 | .b x,v,h=>by grind [il,PRel]
 | .i _ n,v,h=>by grind [il,PRel]
 | .s l,v,h=>by grind [il,PRel]
 | .nilsl,v,h=>by grind [il,PRel]
 | .sl cs len ex,v,h=>by grind [il]
 | .nilptr,v,h=>by grind [il,PRel]
 | .vp cs,v,h=>by grind [il]
 | .nilmp,v,h=>by grind [il,PRel]
 | .vm ks J,v,h=>by grind [il]
 | .nilfn,v,h=>by grind [il,PRel]
 | .fn f a c,v,h=>by
   simp only[PRel]at h;simp only[il]
   obtain⟨H,I,D,E,F⟩:=h
   exact⟨H,I,D,PList.toV β G a _ E,PList.toV β G c _ F⟩
 | .agg cs,v,h=>by
   simp only[PRel]at h;simp only[il]
   obtain⟨a,D,E,F⟩:=h
   exact⟨a,D,PList.toV β G cs _ E,F⟩
 | .tup cs,v,h=>by
   simp only[PRel]at h;simp only[il]
   obtain⟨a,D,E⟩:=h
   exact⟨a,D,PList.toV β G cs _ E⟩
 | .any,v,h=>by simp only[il]
 | .isl ..,v,h=>by simp only[PRel]at h
 | .ptr ..,v,h=>by simp only[PRel]at h
 | .mp ..,v,h=>by simp only[PRel]at h
theorem PList.toV{w:World}{M:MSet}(β:iJ)(G:Sp→Nat→Nat): ∀(t:List T) (v:List Value),PList w M t v→iq β G w M t v
 | [],v,h=>by grind [iq,PList]
 |t::ts,v,h=>by
  simp only[PList]at h;simp only[iq]
  obtain⟨u,us,D,E,F⟩:=h
  exact⟨u,us,D,PRel.toV β G t u E,PList.toV β G ts us F⟩
end
theorem iq.length{β:iJ}{G:Sp→Nat→Nat}{w:World}{M:MSet}: ∀(t:List T) (v:List Value),iq β G w M t v→t.length=v.length
 | [],v,h=>by grind [iq]
 |t::ts,v,h=>by
  simp only[iq]at h
  obtain⟨u,us,rfl,_,D⟩:=h
  simp[iq.length ts us D]
theorem PList.length{w:World}{M:MSet}: ∀(t:List T) (v:List Value),PList w M t v→t.length=v.length
 | [],v,h=>by grind [PList]
 |t::ts,v,h=>by
  simp only[PList]at h
  obtain⟨u,us,rfl,_,D⟩:=h
  simp[PList.length ts us D]
def xl(β:iJ)(G:Sp→Nat→Nat)(w:World)(M:MSet)(ts:List T)(D:List Value):Prop:=
 ∀h G',(∀k g,g≤G .S k→h .S k g=β .S k g)→(∀k,G .S k≤G' .S k)→iq h G' w M ts D
def oY(sp:Sp)(bx:Bool)(β:iJ)(G:Sp→Nat→Nat)(w:World)(M:MSet)(ts:List T)(h:List Value):Prop:=
 match bx,sp with
 |false,_=>PList w M ts h
 |true,.L=>iq β G w M ts h
 |true,.S=>xl β G w M ts h
theorem xl.toV{β:iJ}{G:Sp→Nat→Nat}{w:World}{M:MSet}{ts:List T}{D:List Value}(h:xl β G w M ts D):iq β G w M ts D:=h β G (fun _ _ _=>rfl) (fun _=>Nat.le_refl _)
theorem xl.mono{β iO:iJ}{G G':Sp→Nat→Nat}{w w':World}{M M':MSet}{ts:List T}{D:List Value}(k:kG w M w' M')(Du: ∀n g,g≤G .S n→iO .S n g=β .S n g)(E: ∀n,G .S n≤G' .S n)(h:xl β G w M ts D):xl iO G' w' M' ts D:=
 fun b g H I=>iq.mono k (fun _ _ _ _=>rfl) (fun _ _=>Nat.le_refl _) _ _ (h b g (fun n x F=>(H n x (Nat.le_trans F (E n))).trans (Du n x F)) (fun n=>Nat.le_trans (E n) (I n)))
theorem oY.toV{sp:Sp}{bx:Bool}{β:iJ}{G:Sp→Nat→Nat}{w:World}{M:MSet}{ts:List T}{D:List Value}(h:oY sp bx β G w M ts D):iq β G w M ts D:=by
 cases bx
 ·exact PList.toV β G _ _ h
 ·cases sp
  ·exact h
  ·exact xl.toV h
theorem oY.ofP{sp:Sp}{bx:Bool}{β:iJ}{G:Sp→Nat→Nat}{w:World}{M:MSet}{ts:List T}{D:List Value}(h:PList w M ts D):oY sp bx β G w M ts D:=by
 cases bx
 ·exact h
 ·cases sp
  ·exact PList.toV β G _ _ h
  ·exact fun E G' _ _=>PList.toV E G' _ _ h
theorem oY.mono{sp:Sp}{bx:Bool}{β iO:iJ}{G G':Sp→Nat→Nat}{w w':World}{M M':MSet}{ts:List T}{D:List Value}(k:kG w M w' M')(Du: ∀sp n g,g≤G sp n→iO sp n g=β sp n g)(E: ∀sp n,G sp n≤G' sp n)
  (h:oY sp bx β G w M ts D):oY sp bx iO G' w' M' ts D:=by
 cases bx
 ·exact PList.mono k _ _ h
 ·cases sp
  ·exact iq.mono k Du E _ _ h
  ·exact xl.mono k (Du .S) (E .S) h
abbrev St.gens(st:St)(sp:Sp)(k:Nat):Nat:=(st.get sp k).g
def live(e:ib):Prop:=match e.ob with| .none=>False|_=>True
def kM(β:iJ)(G:Sp→Nat→Nat)(w:World)(M:MSet)(sp:Sp)(k:Nat)(e:ib):Prop:=
 match e.ob with
 | .none=>True
 | .cells cs E bx=> ∃c el fz,w.heap[(β sp k e.g).blk]? =some (.cells c el fz)∧(β sp k e.g).off+(β sp k e.g).ext≤c.size∧cs.length≤(β sp k e.g).ext∧
     fz=(0,0)∧
     oY sp bx β G w M cs ((c.toList.drop (β sp k e.g).off).take cs.length)∧
     (∀j,E≤j→j<(β sp k e.g).ext→M (β sp k e.g).blk ((β sp k e.g).off+j))∧cs.all single=true∧E≤cs.length
 | .map ks F fz=> ∃D h,w.heap[(β sp k e.g).blk]? =some (.map D h)∧MapKept.Stamped D h∧PList w M ks (D.toList.map (·.key))∧PList w M F (D.toList.map (·.val))∧(fz=false→ ∀o,M (β sp k e.g).blk o)
structure lL where
 w:World
 M:MSet
 SB:Nat→Prop
structure iU (B:lL) (st:St) (w:World) (β:iJ) (M:MSet):Prop where
 obj: ∀sp k,kM β st.gens w M sp k (st.get sp k)
 dist: ∀sp k ku k',live (st.get sp k)→live (st.get ku k')→(β sp k (st.gens sp k)).blk=(β ku k' (st.gens ku k')).blk→sp=ku∧k=k'
 mlt: ∀b o,M b o→b<w.heap.size
 lblk: ∀k,live (st.get .L k)→B.w.heap.size≤(β .L k (st.gens .L k)).blk
 sblk: ∀k,live (st.get .S k)→B.SB (β .S k (st.gens .S k)).blk∨B.w.heap.size≤(β .S k (st.gens .S k)).blk
 os:w.os=B.w.os
 tape:w.tape=B.w.tape
 output:w.output=B.w.output
 size:B.w.heap.size≤w.heap.size
 same: ∀b,b<B.w.heap.size→ ¬B.SB b→w.heap[b]? =B.w.heap[b]?
 keep:kG B.w B.M w M
 msup: ∀b o,b<B.w.heap.size→ ¬B.SB b→B.M b o→M b o
structure Tr (st:St) (w:World) (β:iJ) (M:MSet) (iX:St) (w':World) (iO:iJ) (M':MSet):Prop where
 keep:kG w M w' M'
 beta: ∀sp k g,g≤st.gens sp k→iO sp k g=β sp k g
 gens: ∀sp k,st.gens sp k≤iX.gens sp k
theorem kG.refl(w:World)(M:MSet):kG w M w M:=⟨fun _ _ _ h _=>h,fun _ _ _ h _=>h,fun _ _ _ h=>h⟩
theorem kG.trans{w w' E:World}{M M' M'':MSet}(a:kG w M w' M')(b:kG w' M' E M'')(hs:w.heap.size≤w'.heap.size):kG w M E M'':=
 ⟨fun x o v h D=>b.cell x o v (a.cell x o v h D) (fun F=>D (a.m _ _ (xk h) F)),
  fun x H c h D=>b.map x H c (a.map x H c h D) (fun o F=>D o (a.m _ _ (qS h) F)),
  fun x o h D=>a.m x o h (b.m x o (Nat.lt_of_lt_of_le h hs) D)⟩
theorem Tr.refl(st:St)(w:World)(β:iJ)(M:MSet):Tr st w β M st w β M:=⟨.refl w M,fun _ _ _ _=>rfl,fun _ _=>Nat.le_refl _⟩
theorem Tr.trans{st F D:St}{w w' E:World}{β iO amD:iJ}{M M' M'':MSet}(a:Tr st w β M F w' iO M')(b:Tr F w' iO M' D E amD M'')(hs:w.heap.size≤w'.heap.size):
  Tr st w β M D E amD M'':=
 ⟨a.keep.trans b.keep hs,fun sp k g h=>(b.beta sp k g (Nat.le_trans h (a.gens sp k))).trans (a.beta sp k g h),fun sp k=>Nat.le_trans (a.gens sp k) (b.gens sp k)⟩
theorem Tr.val{st D:St}{w w':World}{β iO:iJ}{M M':MSet}(a:Tr st w β M D w' iO M'){t:T}{v:Value}(h:il β st.gens w M t v):il iO D.gens w' M' t v:=
 il.mono a.keep a.beta a.gens t v h
structure nV (st:St) (a:Act) (w:World) (β:iJ) (M:MSet) (n:Nat):Prop where
 size:a.tmps.size=n
 defers:a.defers= []
 slot: ∀t,il β st.gens w M (an st.fr t) (a.tmps.getD t undef)
end Go.Ev
namespace Go.Ev
open Go
theorem lR(st:St)(sp:Sp)(k:Nat)(e:ib)(h:Sp)(k':Nat):
  (st.up (sp,k,e)).get h k'=if h=sp∧k'=k then e else st.get h k':=by
 cases sp <;> cases h <;> simp[St.up,St.get,jr,jO,uZ,iz.get_set]
theorem lb(st:St)(sp:Sp)(k:Nat)(e:ib)(h:Sp)(k':Nat):
  (st.up (sp,k,e)).gens h k'=if h=sp∧k'=k then e.g else st.gens h k':=by
 unfold St.gens;rw[lR];split <;> rfl
theorem heap_alloc(w:World)(o:Obj)(b:Nat):(w.alloc o).heap[b]? =if b=w.heap.size then some o else w.heap[b]? :=by
 show(w.heap.push o)[b]? =_
 grind
theorem nW{w w':World}{b o:Nat}(h:w'.heap[b]? =w.heap[b]?):w'.cell? ⟨b,o,none⟩=w.cell? ⟨b,o,none⟩:=by
 unfold World.cell?;rw[h]
theorem kM.mono{β iO:iJ}{G G':Sp→Nat→Nat}{w w':World}{M M':MSet}{sp:Sp}{n:Nat}{e:ib}(k:kG w M w' M')(Du: ∀sp n g,g≤G sp n→iO sp n g=β sp n g)(X: ∀sp n,G sp n≤G' sp n)
  (O:e.g≤G sp n) (K:live e→w'.heap[(β sp n e.g).blk]? =w.heap[(β sp n e.g).blk]?) (N:live e→ ∀o,M (β sp n e.g).blk o→M' (β sp n e.g).blk o)
  (h:kM β G w M sp n e):kM iO G' w' M' sp n e:=by
 unfold kM at h ⊢
 rw[Du _ _ _ O]
 obtain⟨g,ob⟩:=e
 cases ob with
 |none=>trivial
 |cells cs Y bx=>
  obtain⟨c,el,fz,E,F,H,I,Z,U,V⟩:=h
  refine⟨c,el,fz,(K trivial).trans E,F,H,I, ?_,fun j a b=>N trivial _ (U j a b),V⟩
  grind [oY.mono]
 |map ks vs fz=>
  obtain⟨W,D,E,J,F,H,I⟩:=h
  exact⟨W,D,(K trivial).trans E,J,PList.mono k _ _ F,PList.mono k _ _ H,fun a o=>N trivial o (I a o)⟩
theorem iU.lt{B:lL}{st:St}{w:World}{β:iJ}{M:MSet}(h:iU B st w β M){sp:Sp}{k:Nat}(D:live (st.get sp k)):(β sp k (st.gens sp k)).blk<w.heap.size:=by
 have:=h.obj sp k
 unfold kM at this
 unfold St.gens
 generalize st.get sp k=e at*
 obtain⟨g,ob⟩:=e
 cases ob with
 |none=>exact D.elim
 |cells cs E bx=>grind
 |map ks F fz=>grind
theorem uj(w:World)(M:MSet)(o:Obj):kG w M (w.alloc o) M:=
 ⟨fun b off v h _=>by rw[nW (w:=w) (by rw[heap_alloc,if_neg (Nat.ne_of_lt (xk h))])];exact h,
  fun b D c h _=>by rw[heap_alloc,if_neg (Nat.ne_of_lt (qS h))];exact h,fun _ _ _ h=>h⟩
theorem sP(w:World)(M:MSet)(o:Obj):kG w M (w.alloc o) (fun b x=>M b x∨b=w.heap.size):=
 ⟨(uj w M o).cell,(uj w M o).map,fun _ _ D h=>h.resolve_right (Nat.ne_of_lt D)⟩
theorem ad8{B:lL}{st:St}{w:World}{β:iJ}{M:MSet}(h:iU B st w β M)(o:Obj):
  iU B st (w.alloc o) β M∧Tr st w β M st (w.alloc o) β M:=by
 have D:=uj w M o
 have hs:w.heap.size≤(w.alloc o).heap.size:=by show _≤(w.heap.push o).size;simp
 refine⟨⟨fun sp k=> ?_,h.dist,fun b x E=>Nat.lt_of_lt_of_le (h.mlt b x E) hs,h.lblk,h.sblk,h.os,h.tape,h.output,Nat.le_trans h.size hs,fun b F H=> ?_,h.keep.trans D h.size,h.msup⟩,D,fun _ _ _ _=>rfl,fun _ _=>Nat.le_refl _⟩
 ·exact kM.mono D (fun _ _ _ _=>rfl) (fun _ _=>Nat.le_refl _) (Nat.le_refl _) (fun I=>by rw[heap_alloc,if_neg (Nat.ne_of_lt (h.lt I))]) (fun _ _ E=>E) (h.obj sp k)
 ·rw[heap_alloc,if_neg (by have:=h.size;omega)];exact h.same b F H
theorem FA{B:lL}{st:St}{w:World}{β:iJ}{M:MSet}(h:iU B st w β M)(n:Nat):
  iU B st {w with drawn:=n} β M∧Tr st w β M st {w with drawn:=n} β M:=by
 have D:kG w M {w with drawn:=n} M:=⟨fun _ _ _ h _=>h,fun _ _ _ h _=>h,fun _ _ _ h=>h⟩
 refine⟨⟨fun sp k=> ?_,h.dist,h.mlt,h.lblk,h.sblk,h.os,h.tape,h.output,h.size,h.same,h.keep.trans D h.size,h.msup⟩,D,fun _ _ _ _=>rfl,fun _ _=>Nat.le_refl _⟩
 exact kM.mono D (fun _ _ _ _=>rfl) (fun _ _=>Nat.le_refl _) (Nat.le_refl _) (fun _=>rfl) (fun _ _ E=>E) (h.obj sp k)
def nv(β:iJ)(sp:Sp)(k g:Nat)(s:H5):iJ:=fun h k' D=>if h=sp∧k'=k∧D=g then s else β h k' D
theorem jv(β:iJ)(sp:Sp)(k g:Nat)(s:H5):nv β sp k g s sp k g=s:=by simp[nv]
theorem xm(β:iJ)(sp:Sp)(k g:Nat)(s:H5){D:Sp}{k' E:Nat}(h: ¬(D=sp∧k'=k∧E=g)):nv β sp k g s D k' E=β D k' E:=by grind [nv]
theorem SC{B:lL}{st:St}{w:World}{β:iJ}{M:MSet}(h:iU B st w β M)(sp:Sp)(k g:Nat)(hg:st.gens sp k<g)(o:Obj)(ext:Nat)(ob:Ob)
  (ho:kM (nv β sp k g ⟨w.heap.size,0,ext⟩) (st.up (sp,k,⟨g,ob⟩)).gens (w.alloc o) (fun b x=>M b x∨b=w.heap.size) sp k ⟨g,ob⟩):
  iU B (st.up (sp,k,⟨g,ob⟩)) (w.alloc o) (nv β sp k g ⟨w.heap.size,0,ext⟩) (fun b x=>M b x∨b=w.heap.size)∧
  Tr st w β M (st.up (sp,k,⟨g,ob⟩)) (w.alloc o) (nv β sp k g ⟨w.heap.size,0,ext⟩) (fun b x=>M b x∨b=w.heap.size):=by
 have V:=sP w M o
 have hs:w.heap.size≤(w.alloc o).heap.size:=by show _≤(w.heap.push o).size;simp
 have O: ∀D k' W,W≤st.gens D k'→nv β sp k g ⟨w.heap.size,0,ext⟩ D k' W=β D k' W:=by
  grind [xm]
 have Z: ∀D k',st.gens D k'≤(st.up (sp,k,⟨g,ob⟩)).gens D k':=by
  intro D k'
  rw[lb]
  grind
 have U: ∀D k',(nv β sp k g ⟨w.heap.size,0,ext⟩ D k' ((st.up (sp,k,⟨g,ob⟩)).gens D k'))=if D=sp∧k'=k then⟨w.heap.size,0,ext⟩else β D k' (st.gens D k'):=by
  grind [lb,jv]
 refine⟨⟨fun D k'=> ?_,fun X k1 Y k2 H I F=> ?_,fun b x J=> ?_,fun k' E=> ?_,fun k' E=> ?_,h.os,h.tape,h.output,Nat.le_trans h.size hs,fun b O hn=> ?_,h.keep.trans V h.size,fun b x h1 h2 h3=> .inl (h.msup b x h1 h2 h3)⟩,V,O,Z⟩
 ·rw[lR]
  split
  ·grind
  ·exact kM.mono V O Z (Nat.le_refl _) (fun E=>by rw[heap_alloc,if_neg (Nat.ne_of_lt (h.lt E))]) (fun _ _ J=> .inl J) (h.obj D k')
 ·rw[U,U]at F
  rw[lR]at H I
  by_cases K:X=sp∧k1=k <;> by_cases N:Y=sp∧k2=k
  ·grind
  ·rw[if_pos K,if_neg N]at F;rw[if_neg N]at I
   exact absurd F.symm (Nat.ne_of_lt (h.lt I))
  ·rw[if_neg K,if_pos N]at F;rw[if_neg K]at H
   exact absurd F (Nat.ne_of_lt (h.lt H))
  ·rw[if_neg K,if_neg N]at F;rw[if_neg K]at H;rw[if_neg N]at I
   exact h.dist _ _ _ _ H I F
 ·rcases J with J|rfl
  ·exact Nat.lt_of_lt_of_le (h.mlt b x J) hs
  ·simp_all
 ·rw[U];rw[lR]at E
  split
  ·exact h.size
  ·rename_i e;rw[if_neg e]at E;exact h.lblk k' E
 ·rw[U];rw[lR]at E
  split
  ·exact .inr h.size
  ·rename_i e;rw[if_neg e]at E;exact h.sblk k' E
 ·rw[heap_alloc,if_neg (by have:=h.size;omega)];exact h.same b O hn
def setBlock(w:World)(b:Nat)(o:Obj):World:={w with heap:=w.heap.setIfInBounds b o}
theorem ko(w:World)(b:Nat)(o:Obj)(x:Nat):(setBlock w b o).heap[x]? =if x=b∧b<w.heap.size then some o else w.heap[x]? :=by
 grind [setBlock]
theorem kS(w:World)(b:Nat)(o:Obj):(setBlock w b o).heap.size=w.heap.size:=by simp[setBlock]
theorem Mh{B:lL}{st:St}{w:World}{β:iJ}{M M':MSet}(h:iU B st w β M)(sp:Sp)(k g:Nat)(ob:Ob)(W:live (st.get sp k))(hg:st.gens sp k≤g)(o:Obj)
  (FB: ∀b x,M' b x→M b x) (F: ∀b x,b≠(β sp k (st.gens sp k)).blk→M b x→M' b x)
  (K:kG w M (setBlock w (β sp k (st.gens sp k)).blk o) M')
  (z8: ¬B.w.heap.size≤(β sp k (st.gens sp k)).blk→B.SB (β sp k (st.gens sp k)).blk)
  (ho:kM (nv β sp k g (β sp k (st.gens sp k))) (st.up (sp,k,⟨g,ob⟩)).gens (setBlock w (β sp k (st.gens sp k)).blk o) M' sp k ⟨g,ob⟩):
  iU B (st.up (sp,k,⟨g,ob⟩)) (setBlock w (β sp k (st.gens sp k)).blk o) (nv β sp k g (β sp k (st.gens sp k))) M'∧
  Tr st w β M (st.up (sp,k,⟨g,ob⟩)) (setBlock w (β sp k (st.gens sp k)).blk o) (nv β sp k g (β sp k (st.gens sp k))) M':=by
 have H: ∀D k' N,N≤st.gens D k'→nv β sp k g (β sp k (st.gens sp k)) D k' N=β D k' N:=by
  grind [jv,Nat.le_antisymm,xm]
 have U: ∀D k',st.gens D k'≤(st.up (sp,k,⟨g,ob⟩)).gens D k':=by
  intro D k'
  rw[lb]
  grind
 have I: ∀D k',(nv β sp k g (β sp k (st.gens sp k)) D k' ((st.up (sp,k,⟨g,ob⟩)).gens D k'))=β D k' (st.gens D k'):=by
  grind [lb,jv]
 have Ee: ∀D k',live ((st.up (sp,k,⟨g,ob⟩)).get D k')→live (st.get D k'):=by
  grind [lR]
 refine⟨⟨fun D k'=> ?_,fun X k1 Y k2 Z l2 J=> ?_,fun b x O=> ?_,fun k' E=> ?_,fun k' E=> ?_,h.os,h.tape,h.output, ?_,fun b H hn=> ?_,h.keep.trans K h.size,fun b x h1 h2 h3=> ?_⟩,K,H,U⟩
 ·by_cases e:D=sp∧k'=k
  ·grind [lR]
  ·rw[lR,if_neg e]
   have V:live (st.get D k')→(β D k' (st.gens D k')).blk≠(β sp k (st.gens sp k)).blk:=fun l J=>e (h.dist _ _ _ _ l W J)
   exact kM.mono K H U (Nat.le_refl _) (fun l=>by rw[ko,if_neg (fun x=>V l x.1)]) (fun l x O=>F _ _ (V l) O) (h.obj D k')
 ·rw[I,I]at J;exact h.dist _ _ _ _ (Ee _ _ Z) (Ee _ _ l2) J
 ·rw[kS];exact h.mlt b x (FB b x O)
 ·rw[I];exact h.lblk k' (Ee _ _ E)
 ·rw[I];exact h.sblk k' (Ee _ _ E)
 ·rw[kS];exact h.size
 ·rw[ko,if_neg]
  ·exact h.same b H hn
  grind
 ·refine F b x ?_ (h.msup b x h1 h2 h3)
  grind
theorem iU.base{B:lL}{st:St}{w:World}{β:iJ}{M:MSet}(h:iU B st w β M){sp:Sp}{k:Nat}(D:live (st.get sp k)):
  ¬B.w.heap.size≤(β sp k (st.gens sp k)).blk→B.SB (β sp k (st.gens sp k)).blk:=by
 intro E
 cases sp with
 |L=>exact absurd (h.lblk k D) E
 |S=>exact(h.sblk k D).resolve_right E
theorem oN{w:World}{b:Nat}{o:Obj}(h:w.heap[b]? =some o):setBlock w b o=w:=by
 unfold setBlock
 have:w.heap.setIfInBounds b o=w.heap:=by
  grind
 rw[this]
theorem rV(β:iJ)(sp:Sp)(k g:Nat):nv β sp k g (β sp k g)=β:=by
 grind [nv]
def Ef(M:MSet)(s:H5)(n:Nat):MSet:=fun b x=>M b x∧ ¬(b=s.blk∧s.off≤x∧x<s.off+n)
def Mi(M:MSet)(blk:Nat):MSet:=fun b x=>M b x∧b≠blk
theorem kf{w:World}{M M':MSet}(h: ∀b x,M' b x→M b x):kG w M w M':=⟨fun _ _ _ h _=>h,fun _ _ _ h _=>h,fun b x _ D=>h b x D⟩
theorem BZ{B:lL}{st:St}{w:World}{β:iJ}{M:MSet}(h:iU B st w β M){sp:Sp}{k g W:Nat}{cs:List T}{bx:Bool}(F:st.get sp k=⟨g,.cells cs W bx⟩):
  iU B (st.up (sp,k,⟨g,.cells cs cs.length bx⟩)) w β (Ef M (β sp k g) cs.length)∧
  Tr st w β M (st.up (sp,k,⟨g,.cells cs cs.length bx⟩)) w β (Ef M (β sp k g) cs.length):=by
 have E:st.gens sp k=g:=by unfold St.gens;rw[F]
 have N:live (st.get sp k):=by rw[F];trivial
 have H:=h.obj sp k
 rw[F]at H
 unfold kM at H
 obtain⟨c,el,fz,I,X,Y,Z,h5,h6,O⟩:=H
 have FB: ∀b x,Ef M (β sp k g) cs.length b x→M b x:=fun _ _ J=>J.1
 have U:=kf (w:=w) FB
 have D:=Mh (M':=Ef M (β sp k g) cs.length) h sp k g (.cells cs cs.length bx) N (Nat.le_of_eq E) (.cells c el fz) FB
  (fun b x hb J=>⟨J,fun K=>hb (by rw[E];exact K.1)⟩) (by rw[E,oN I];exact U) (h.base N)
 rw[E,oN I,rV]at D
 refine D ⟨c,el,fz,I,X,Y,Z, ?_,fun j a b=>⟨h6 j (Nat.le_trans O.2 a) b,fun K=>by have:=K.2.2;dsimp only at a b this;omega⟩,O.1,Nat.le_refl _⟩
 have hG: ∀V k',st.gens V k'≤(st.up (sp,k,⟨g,.cells cs cs.length bx⟩)).gens V k':=by
  simp_all[lb,Nat.le_of_eq,Nat.le_refl]
 exact oY.mono U (fun _ _ _ _=>rfl) hG h5
end Go.Ev
namespace Go.Ev
open Go
theorem H6{B:lL}{st:St}{w:World}{β:iJ}{M:MSet}(h:iU B st w β M){sp:Sp}{k g:Nat}{ks F:List T}{f:Bool}(I:st.get sp k=⟨g,.map ks F f⟩):
  iU B (st.up (sp,k,⟨g,.map ks F true⟩)) w β (Mi M (β sp k g).blk)∧
  Tr st w β M (st.up (sp,k,⟨g,.map ks F true⟩)) w β (Mi M (β sp k g).blk):=by
 have H:st.gens sp k=g:=by show(st.get sp k).g=g;rw[I]
 have V:live (st.get sp k):=by rw[I];trivial
 have J:=h.obj sp k
 rw[I]at J
 unfold kM at J
 obtain⟨W,D,K,N,Y,Z,h4⟩:=J
 have FB: ∀b x,Mi M (β sp k g).blk b x→M b x:=fun _ _ O=>O.1
 have U:=kf (w:=w) FB
 have E:=Mh (M':=Mi M (β sp k g).blk) h sp k g (.map ks F true) V (Nat.le_of_eq H) (.map W D) FB
  (fun b x X O=>⟨O,by rw[H]at X;exact X⟩) (by rw[H,oN K];exact U) (h.base V)
 rw[H,oN K,rV]at E
 exact E ⟨W,D,K,N,PList.mono U _ _ Y,PList.mono U _ _ Z,fun e=>by cases e⟩
theorem PList.get{w:World}{M:MSet}: ∀{ts:List T} {D:List Value},PList w M ts D→ ∀{j:Nat} {t:T},ts[j]? =some t→ ∃v,D[j]? =some v∧PRel w M t v
 | [],D,h,j,t,E=>by simp at E
 |x::xs,D,h,j,t,E=>by
  simp only[PList]at h
  obtain⟨u,us,rfl,H,F⟩:=h
  cases j with
  |zero=>grind
  |succ j=>simp at E ⊢; exact PList.get F E
theorem iq.get{β:iJ}{G:Sp→Nat→Nat}{w:World}{M:MSet}: ∀{ts:List T} {D:List Value},iq β G w M ts D→ ∀{j:Nat} {t:T},ts[j]? =some t→ ∃v,D[j]? =some v∧il β G w M t v
 | [],D,h,j,t,E=>by simp at E
 |x::xs,D,h,j,t,E=>by
  simp only[iq]at h
  obtain⟨u,us,rfl,H,F⟩:=h
  cases j with
  |zero=>grind
  |succ j=>simp at E ⊢; exact iq.get F E
theorem iq.drop{β:iJ}{G:Sp→Nat→Nat}{w:World}{M:MSet}: ∀{ts:List T} {D:List Value} (n:Nat),iq β G w M ts D→iq β G w M (ts.drop n) (D.drop n)
 |ts,D,0,h=>by simpa using h
 | [],D,n+1,h=>by grind [iq]
 |x::xs,D,n+1,h=>by
  simp only[iq]at h
  obtain⟨u,us,rfl,F,E⟩:=h
  simpa using iq.drop n E
theorem iq.take{β:iJ}{G:Sp→Nat→Nat}{w:World}{M:MSet}: ∀{ts:List T} {D:List Value} (n:Nat),iq β G w M ts D→iq β G w M (ts.take n) (D.take n)
 |ts,D,0,h=>by simp[iq]
 | [],D,n+1,h=>by grind [iq]
 |x::xs,D,n+1,h=>by
  simp only[iq]at h
  obtain⟨u,us,rfl,E,F⟩:=h
  simp only[List.take_succ_cons,iq]
  exact⟨u,_,rfl,E,iq.take n F⟩
theorem PList.drop{w:World}{M:MSet}: ∀{ts:List T} {D:List Value} (n:Nat),PList w M ts D→PList w M (ts.drop n) (D.drop n)
 |ts,D,0,h=>by simpa using h
 | [],D,n+1,h=>by grind [PList]
 |x::xs,D,n+1,h=>by
  simp only[PList]at h
  obtain⟨u,us,rfl,F,E⟩:=h
  simpa using PList.drop n E
theorem PList.take{w:World}{M:MSet}: ∀{ts:List T} {D:List Value} (n:Nat),PList w M ts D→PList w M (ts.take n) (D.take n)
 |ts,D,0,h=>by simp[PList]
 | [],D,n+1,h=>by grind [PList]
 |x::xs,D,n+1,h=>by
  simp only[PList]at h
  obtain⟨u,us,rfl,E,F⟩:=h
  simp only[List.take_succ_cons,PList]
  exact⟨u,_,rfl,E,PList.take n F⟩
theorem PList.append{w:World}{M:MSet}: ∀{ts B0:List T} {D E:List Value},PList w M ts D→PList w M B0 E→PList w M (ts++B0) (D++E)
 | [],B0,D,E,h,F=>by grind [PList]
 |x::xs,B0,D,E,h,F=>by
  simp only[PList]at h
  obtain⟨u,us,rfl,H,I⟩:=h
  simp only[List.cons_append,PList]
  exact⟨u,_,rfl,H,PList.append I F⟩
theorem iq.append{β:iJ}{G:Sp→Nat→Nat}{w:World}{M:MSet}: ∀{ts B0:List T} {D E:List Value},iq β G w M ts D→iq β G w M B0 E→iq β G w M (ts++B0) (D++E)
 | [],B0,D,E,h,F=>by grind [iq]
 |x::xs,B0,D,E,h,F=>by
  simp only[iq]at h
  obtain⟨u,us,rfl,H,I⟩:=h
  simp only[List.cons_append,iq]
  exact⟨u,_,rfl,H,iq.append I F⟩
theorem PCells.of{w:World}{M:MSet}{blk:Nat}{c:Array Value}{el:TypeId}{fz:Nat×Nat}(H:w.heap[blk]? =some (.cells c el fz)):
  ∀(ts:List T) (off:Nat),PList w M ts ((c.toList.drop off).take ts.length)→(∀x,off≤x→x<off+ts.length→ ¬M blk x)→ts.all single=true→PCells w M blk off ts
 | [],off,_,_,_=>by simp only[PCells]
 |t::ts,off,h,I,hs=>by
  simp only[PList,List.length_cons]at h
  obtain⟨u,us,E,J,K⟩:=h
  simp only[List.all_cons,Bool.and_eq_true]at hs
  have D:w.cell? ⟨blk,off,none⟩=some u:=by
   unfold World.cell?;rw[H]
   have:((c.toList.drop off).take (ts.length+1))[0]? =some u:=by rw[E];rfl
   grind
  have F:us=(c.toList.drop (off+1)).take ts.length:=by
   apply List.ext_getElem?
   intro j
   have:=congrArg (fun l=>l[j+1]?) E
   grind
  simp only[PCells]
  exact⟨⟨u,D,I off (Nat.le_refl _) (by simp),J,hs.1⟩,PCells.of H ts (off+1) (F▸K) (fun x E J=>I x (by omega) (by simp;omega)) hs.2⟩
def Mj(e:ib):ib:=
 match e.ob with
 | .cells cs _ bx=>⟨e.g,.cells cs cs.length bx⟩
 | .map ks h _=>⟨e.g,.map ks h true⟩
 | .none=>e
def Fz(st h:St):Prop:=h.fr=st.fr∧h.sh.length=st.sh.length∧ ∀sp k,h.get sp k=st.get sp k∨h.get sp k=Mj (st.get sp k)
theorem Fz.refl(st:St):Fz st st:=⟨rfl,rfl,fun _ _=> .inl rfl⟩
theorem Xi(e:ib):(Mj e).g=e.g:=by grind [Mj]
theorem Fz.gens{st D:St}(h:Fz st D):D.gens=st.gens:=by
 funext sp k
 rcases h.2.2 sp k with e|e
 ·grind
 ·grind [Xi]
theorem uk(l:List ib)(k:Nat)(e:ib)(h:k<l.length):(jO l k e).length=l.length:=by
 unfold jO
 induction l generalizing k with
 |nil=>simp at h
 |cons x xs ih=>
  cases k with
  |zero=>simp[ry]
  |succ k=>grind [ry,List.length_cons]
theorem Eg{l:List ib}{k:Nat}(h:l.length≤k):jr l k=lI:=by
 unfold jr
 induction l generalizing k with
 |nil=>simp[iC]
 |cons x xs ih=>
  cases k with
  |zero=>simp at h
  |succ k=>grind [iC]
theorem Mk{st:St}{k:Nat}(h:live (st.get .S k)):k<st.sh.length:=by
 rcases Nat.lt_or_ge k st.sh.length with h'|h'
 ·exact h'
 ·simp only[St.get,Eg h']at h;exact h.elim
theorem Fz.up{st D:St}(h:Fz st D){sp:Sp}{k:Nat}{e:ib}(E:st.get sp k=e)(F:live e):Fz st (D.up (sp,k,Mj e)):=by
 refine⟨?_, ?_,fun H k'=> ?_⟩
 ·rw[←h.1];cases sp <;> rfl
 ·rw[←h.2.1]
  cases sp with
  |L=>rfl
  |S=>
   have I:k<D.sh.length:=by rw[h.2.1];exact Mk (E▸F)
   simp[St.up,uk _ _ _ I]
 ·rw[lR]
  split
  ·grind
  ·exact h.2.2 H k'
def sQ(keep:Bool)(β:iJ)(G:Sp→Nat→Nat)(w:World)(M:MSet)(t:T)(v:Value):Prop:=
 if keep then∀h G',(∀k g,g≤G .S k→h .S k g=β .S k g)→(∀k,G .S k≤G' .S k)→il h G' w M t v else PRel w M t v
def nX(keep:Bool)(β:iJ)(G:Sp→Nat→Nat)(w:World)(M:MSet)(t:List T)(v:List Value):Prop:=
 if keep then∀h G',(∀k g,g≤G .S k→h .S k g=β .S k g)→(∀k,G .S k≤G' .S k)→iq h G' w M t v else PList w M t v
theorem sQ.ofP{keep:Bool}{β:iJ}{G:Sp→Nat→Nat}{w:World}{M:MSet}{t:T}{v:Value}(h:PRel w M t v):sQ keep β G w M t v:=by
 cases keep
 ·exact h
 ·exact fun D G' _ _=>PRel.toV D G' t v h
theorem sQ.toV{keep:Bool}{β:iJ}{G:Sp→Nat→Nat}{w:World}{M:MSet}{t:T}{v:Value}(h:sQ keep β G w M t v):il β G w M t v:=by
 cases keep
 ·exact PRel.toV β G t v h
 ·exact h β G (fun _ _ _=>rfl) (fun _=>Nat.le_refl _)
theorem nX.toV{keep:Bool}{β:iJ}{G:Sp→Nat→Nat}{w:World}{M:MSet}{t:List T}{v:List Value}(h:nX keep β G w M t v):iq β G w M t v:=by
 cases keep
 ·exact PList.toV β G t v h
 ·exact h β G (fun _ _ _=>rfl) (fun _=>Nat.le_refl _)
theorem sQ.mono{keep:Bool}{β:iJ}{G:Sp→Nat→Nat}{w w':World}{M M':MSet}{t:T}{v:Value}(k:kG w M w' M')(h:sQ keep β G w M t v):sQ keep β G w' M' t v:=by
 cases keep
 ·exact PRel.mono k t v h
 ·exact fun D G' a b=>il.mono k (fun _ _ _ _=>rfl) (fun _ _=>Nat.le_refl _) t v (h D G' a b)
theorem nX.mono{keep:Bool}{β:iJ}{G:Sp→Nat→Nat}{w w':World}{M M':MSet}{t:List T}{v:List Value}(k:kG w M w' M')(h:nX keep β G w M t v):nX keep β G w' M' t v:=by
 cases keep
 ·exact PList.mono k t v h
 ·exact fun D G' a b=>iq.mono k (fun _ _ _ _=>rfl) (fun _ _=>Nat.le_refl _) t v (h D G' a b)
theorem nX.nil{keep:Bool}{β:iJ}{G:Sp→Nat→Nat}{w:World}{M:MSet}:nX keep β G w M [] []:=by
 cases keep
 ·exact(by simp[PList]:PList w M [] [])
 ·exact fun h G' _ _=>by simp[iq]
theorem nX.cons{keep:Bool}{β:iJ}{G:Sp→Nat→Nat}{w:World}{M:MSet}{t:T}{v:Value}{ts:List T}{D:List Value}(h:sQ keep β G w M t v)(E:nX keep β G w M ts D):nX keep β G w M (t::ts) (v::D):=by
 cases keep
 ·show PList w M (t::ts) (v::D)
  simp only[PList];exact⟨v,D,rfl,h,E⟩
 ·exact fun F G' a b=>by simp only[iq];exact⟨v,D,rfl,h F G' a b,E F G' a b⟩
theorem Q.run_bind{α γ:Type}(h:Sp→Nat→ib)(D:Nat): ∀(q:Q α) (f:α→Q γ),(q.bind f).run h D=(q.run h D).bind fun a=>(f a).run h D
 | .ret a,f=>by simp[Q.bind,Q.run]
 | .fail,f=>by simp[Q.bind,Q.run]
 | .rd sp k g,f=>by simp_all[Q.bind,Q.run,Q.run_bind]
 | .new g,f=>by simp_all[Q.bind,Q.run,Q.run_bind]
theorem kH(st:St)(a b:List Up):st.ups (a++b)=(st.ups a).ups b:=by
 induction a generalizing st with
 |nil=>rfl
 |cons x xs ih=>grind [St.ups]
def amG(keep:Bool)(st:St)(q:Q (T×List Up))(t:T):Prop:=
 ∀(B:lL) (h:St) (w:World) (β:iJ) (M:MSet) (v:Value) (D:T) (us:List Up) (E:Nat),Fz st h→iU B h w β M→il β st.gens w M t v→q.run st.get E=some (D,us)→
  ∃M',iU B (h.ups us) w β M'∧Fz st (h.ups us)∧(∀b x,M' b x→M b x)∧sQ keep β st.gens w M' D v∧(single t=true→single D=true)
def amH(keep:Bool)(st:St)(q:Q (List T×List Up))(ts:List T):Prop:=
 ∀(B:lL) (h:St) (w:World) (β:iJ) (M:MSet) (D:List Value) (B0:List T) (us:List Up) (E:Nat),Fz st h→iU B h w β M→iq β st.gens w M ts D→q.run st.get E=some (B0,us)→
  ∃M',iU B (h.ups us) w β M'∧Fz st (h.ups us)∧(∀b x,M' b x→M b x)∧nX keep β st.gens w M' B0 D∧(ts.all single=true→B0.all single=true)∧B0.length=ts.length
theorem oO{keep:Bool}{st:St}{f:T→Q (T×List Up)}(U: ∀t,amG keep st (f t) t): ∀ts,amH keep st (jd f ts) ts
 | []=>by
   intro B H w β M Y B0 us E I h F D
   simp only[iq]at F;subst F
   simp[jd,Q.run]at D
   obtain⟨rfl,rfl⟩:=D
   exact⟨M,h,I,fun _ _ h=>h,nX.nil,fun h=>h,rfl⟩
 |t::ts=>by
  intro B H w β M Y B0 us E I h F D
  simp only[iq]at F
  obtain⟨u,V,rfl,Z,h2⟩:=F
  simp only[jd,Q.run_bind]at D
  cases J:(f t).run st.get E with
  |none=>simp[J]at D
  |some p=>
   obtain⟨t1,H7⟩:=p
   simp only[J,Option.bind_some]at D
   cases K:(jd f ts).run st.get E with
   |none=>simp[K]at D
   |some q=>
    obtain⟨N,O⟩:=q
    simp only[K,Option.bind_some,Q.run,Option.some.injEq,Prod.mk.injEq]at D
    obtain⟨rfl,rfl⟩:=D
    obtain⟨M1,a1,a2,W,a4,a5⟩:=U t B H w β M u t1 H7 E I h Z J
    have k1:=kf (w:=w) W
    obtain⟨M2,b1,b2,X,b4,b5,b6⟩:=oO U ts B (H.ups H7) w β M1 V N O E a2 a1 (iq.mono k1 (fun _ _ _ _=>rfl) (fun _ _=>Nat.le_refl _) ts V h2) K
    refine⟨M2,by rw[kH];exact b1,by rw[kH];exact b2,fun b x hm=>W b x (X b x hm),nX.cons (a4.mono (kf X)) b4, ?_,by simp[b6]⟩
    grind
theorem nw{cs:List T}(h:cs.all single=true)(a n:Nat):((cs.drop a).take n).all single=true:=by
 grind
theorem Aa(keep:Bool)(st:St): ∀(n:Nat) (t:T),amG keep st (fz keep n t) t:=by
 intro n
 induction n generalizing keep with
 |zero=>intro t B F w β M v t' us X _ _ _ D;simp[fz,Q.run]at D
 |succ n ih=>
  intro t B F w β M v t' us X H h U D
  have plain:(t',us)=(t,[])→(PRel w M t v)→ ∃M',iU B (F.ups us) w β M'∧Fz st (F.ups us)∧(∀b x,M' b x→M b x)∧sQ keep β st.gens w M' t' v∧(single t=true→single t'=true):=by
   intro e hp
   simp only[Prod.mk.injEq]at e
   obtain⟨rfl,rfl⟩:=e
   exact⟨M,h,H,fun _ _ h=>h,sQ.ofP hp,fun h=>h⟩
  cases t with
  |b x=>grind [fz,Q.run,il,PRel]
  |i k x=>grind [fz,Q.run,il,PRel]
  |s x=>grind [fz,Q.run,il,PRel]
  |nilsl=>grind [fz,Q.run,il,PRel]
  |sl cs len ex=>grind [fz,Q.run,il]
  |nilptr=>grind [fz,Q.run,il,PRel]
  |vp cs=>grind [fz,Q.run,il]
  |nilmp=>grind [fz,Q.run,il,PRel]
  |vm ks vs=>grind [fz,Q.run,il]
  |nilfn=>grind [fz,Q.run,il,PRel]
  |any=>grind [fz,Q.run,PRel]
  |fn f a c=>
   simp only[il]at U
   obtain⟨fa,fc,rfl,h1,h2⟩:=U
   simp only[fz,Q.run_bind]at D
   cases E:(jd (fz keep n) a).run st.get X with
   |none=>simp[E]at D
   |some p=>
    obtain⟨a1,H7⟩:=p
    simp only[E,Option.bind_some]at D
    cases h4:(jd (fz keep n) c).run st.get X with
    |none=>simp[h4]at D
    |some q=>
     obtain⟨c2,us2⟩:=q
     simp only[h4,Option.bind_some,Q.run,Option.some.injEq,Prod.mk.injEq]at D
     obtain⟨rfl,rfl⟩:=D
     obtain⟨M1,x1,Y,x3,Z,x5,_⟩:=oO (fun t=>ih keep t) a B F w β M _ a1 H7 X H h h1 E
     have k1:=kf (w:=w) x3
     obtain⟨M2,y1,y2,y3,y4,y5,_⟩:=oO (fun t=>ih keep t) c B (F.ups H7) w β M1 _ c2 us2 X Y x1 (iq.mono k1 (fun _ _ _ _=>rfl) (fun _ _=>Nat.le_refl _) _ _ h2) h4
     refine⟨M2,by rw[kH];exact y1,by rw[kH];exact y2,fun b x I=>x3 b x (y3 b x I), ?_,fun _=>rfl⟩
     have Xj:=nX.mono (kf (w:=w) y3) Z
     cases keep
     ·show PRel w M2 (.fn f a1 c2) (.func (.func f) fa fc)
      simp only[PRel];exact⟨fa,fc,rfl,Xj,y4⟩
     ·exact fun iO G' p q=>by simp only[il];exact⟨fa,fc,rfl,Xj iO G' p q,y4 iO G' p q⟩
  |agg cs=>
   simp only[il]at U
   obtain⟨a,rfl,h1,h2⟩:=U
   simp only[fz,Q.run_bind]at D
   cases E:(jd (fz keep n) cs).run st.get X with
   |none=>simp[E]at D
   |some p=>
    obtain⟨a1,H7⟩:=p
    simp only[E,Option.bind_some,Q.run,Option.some.injEq,Prod.mk.injEq]at D
    obtain⟨rfl,rfl⟩:=D
    obtain⟨M1,x1,Y,x3,Z,x5,_⟩:=oO (fun t=>ih keep t) cs B F w β M _ a1 H7 X H h h1 E
    refine⟨M1,x1,Y,x3, ?_,fun h=>h⟩
    cases keep
    ·show PRel w M1 (.agg a1) (.agg a)
     simp only[PRel];exact⟨a,rfl,Z,x5 h2⟩
    ·exact fun iO G' p q=>by simp only[il];exact⟨a,rfl,Z iO G' p q,x5 h2⟩
  |tup cs=>
   simp only[il]at U
   obtain⟨a,rfl,h1⟩:=U
   simp only[fz,Q.run_bind]at D
   cases E:(jd (fz keep n) cs).run st.get X with
   |none=>simp[E]at D
   |some p=>
    obtain⟨a1,H7⟩:=p
    simp only[E,Option.bind_some,Q.run,Option.some.injEq,Prod.mk.injEq]at D
    obtain⟨rfl,rfl⟩:=D
    obtain⟨M1,x1,Y,x3,Z,x5,_⟩:=oO (fun t=>ih keep t) cs B F w β M _ a1 H7 X H h h1 E
    refine⟨M1,x1,Y,x3, ?_,fun h=>h⟩
    cases keep
    ·show PRel w M1 (.tup a1) (.tuple a)
     simp only[PRel];exact⟨a,rfl,Z⟩
    ·exact fun iO G' p q=>by simp only[il];exact⟨a,rfl,Z iO G' p q⟩
  |isl sp k g off len sz=>
   simp only[fz]at D
   by_cases V:(keep&&sp== .S)=true
   ·simp only[V,if_true,Q.run,Option.some.injEq,Prod.mk.injEq]at D
    obtain⟨rfl,rfl⟩:=D
    simp only[Bool.and_eq_true,beq_iff_eq]at V
    obtain⟨rfl,rfl⟩:=V
    refine⟨M,h,H,fun _ _ h=>h,fun iO G' p q=> ?_,fun h=>h⟩
    grind [il]
   ·rw[if_neg V]at D
    simp only[Q.run]at D
    split at D
    ·rename_i hg
     generalize J:st.get sp k=e at D hg
     obtain⟨W,ob⟩:=e
     dsimp only at hg;subst hg
     cases ob with
     |none=>simp[Q.run]at D
     |map _ _ _=>simp[Q.run]at D
     |cells cs wm bx=>
      cases bx with
      |true=>
       dsimp only at D
       split at D
       ·rename_i hle
        simp only[Q.run_bind]at D
        cases E:(jd (fz false n) ((cs.drop off).take (len*sz))).run st.get X with
        |none=>simp[E]at D
        |some p=>
         obtain⟨c1,H7⟩:=p
         simp only[E,Option.bind_some,Q.run,Option.some.injEq,Prod.mk.injEq]at D
         obtain⟨rfl,rfl⟩:=D
         have gg:F.gens=st.gens:=H.gens
         have Xk: ∃Qt,F.get sp k=⟨W,.cells cs Qt true⟩:=by
          rcases H.2.2 sp k with x|x
          ·exact⟨wm,by rw[x,J]⟩
          ·exact⟨cs.length,by rw[x,J];rfl⟩
         obtain⟨wm0,Xk⟩:=Xk
         have N:=h.obj sp k
         rw[Xk]at N
         unfold kM at N
         obtain⟨c,el,fzz,o1,o2,o3,o4,o5,o6,o7,o8⟩:=N
         dsimp only at o1 o2 o3 o4 o5 o6
         have o5':iq β st.gens w M cs ((c.toList.drop (β sp k W).off).take cs.length):=by
          rw[←gg]
          exact o5.toV
         have K:((cs.drop off).take (len*sz)).length=len*sz:=by simp;omega
         obtain⟨M1,x1,Y,x3,Z,x5,x6⟩:=oO (fun t=>ih false t) ((cs.drop off).take (len*sz)) B F w β M _ c1 H7 X H h (iq.take (len*sz) (iq.drop off o5')) E
         have Dv: ∃Qt,(F.ups H7).get sp k=⟨W,.cells cs Qt true⟩:=by
          rcases Y.2.2 sp k with x|x
          ·exact⟨wm,by rw[x,J]⟩
          ·exact⟨cs.length,by rw[x,J];rfl⟩
         obtain⟨Qt,Dv⟩:=Dv
         obtain⟨r1,r2⟩:=BZ x1 Dv
         have O:=Y.up J trivial
         rw[kH]
         refine⟨_,r1,O,fun b x I=>x3 b x I.1, ?_,fun _=>rfl⟩
         apply sQ.ofP
         simp only[il]at U
         obtain⟨hv1,cap,rfl,OH,hv3⟩:=U
         simp only[PRel]
         refine⟨_,_,cap,none,rfl,OH,(fun e=>by cases e),.inl rfl, ?_⟩
         have Xj:PList w (Ef M1 (β sp k W) cs.length) c1 (((c.toList.drop (β sp k W).off).take cs.length).drop off |>.take (len*sz)):=PList.mono r2.keep _ _ Z
         refine PCells.of o1 _ _ ?_ ?_ (x5 (nw o7 _ _))
         ·rw[x6,K]
          rw[List.drop_take,List.drop_drop,List.take_take]at Xj
          have e:min (len*sz) (cs.length-off)=len*sz:=by omega
          rw[e]at Xj
          exact Xj
         ·intro x h1 h2 I
          rw[x6,K]at h2
          exact I.2 ⟨rfl,by omega,by omega⟩
       ·simp[Q.run]at D
      |false=>
       dsimp only at D
       split at D
       ·rename_i hle
        simp only[Q.run,Option.some.injEq,Prod.mk.injEq]at D
        obtain⟨rfl,rfl⟩:=D
        have Dv: ∃Qt,F.get sp k=⟨W,.cells cs Qt false⟩:=by
         rcases H.2.2 sp k with x|x
         ·exact⟨wm,by rw[x,J]⟩
         ·exact⟨cs.length,by rw[x,J];rfl⟩
        obtain⟨Qt,Dv⟩:=Dv
        obtain⟨r1,r2⟩:=BZ h Dv
        have O:=H.up J trivial
        refine⟨_,r1,O,fun b x I=>I.1, ?_,fun _=>rfl⟩
        apply sQ.ofP
        have N:=r1.obj sp k
        rw[lR,if_pos ⟨rfl,rfl⟩]at N
        unfold kM at N
        obtain⟨c,el,fzz,o1,o2,o3,o4,o5,o6,o7,o8⟩:=N
        dsimp only at o1 o2 o3 o4 o5 o6
        simp only[il]at U
        obtain⟨hv1,cap,rfl,OH,hv3⟩:=U
        simp only[PRel]
        refine⟨_,_,cap,none,rfl,OH,(fun e=>by cases e),.inl rfl, ?_⟩
        have K:((cs.drop off).take (len*sz)).length=len*sz:=by simp;omega
        refine PCells.of o1 _ _ ?_ ?_ (nw o7 _ _)
        ·have:=PList.take (len*sz) (PList.drop off o5)
         rw[List.drop_take,List.drop_drop,List.take_take]at this
         rw[K]
         have e:min (len*sz) (cs.length-off)=len*sz:=by omega
         rw[e]at this
         exact this
        ·intro x h1 h2 I
         rw[K]at h2
         exact I.2 ⟨rfl,by omega,by omega⟩
       ·simp[Q.run]at D
    ·simp[Q.run]at D
  |ptr sp k g off=>
   simp only[fz]at D
   by_cases V:(keep&&sp== .S)=true
   ·simp only[V,if_true,Q.run,Option.some.injEq,Prod.mk.injEq]at D
    obtain⟨rfl,rfl⟩:=D
    simp only[Bool.and_eq_true,beq_iff_eq]at V
    obtain⟨rfl,rfl⟩:=V
    refine⟨M,h,H,fun _ _ h=>h,fun iO G' p q=> ?_,fun h=>h⟩
    grind [il]
   ·rw[if_neg V]at D
    simp only[Q.run]at D
    split at D
    ·rename_i hg
     generalize J:st.get sp k=e at D hg
     obtain⟨W,ob⟩:=e
     dsimp only at hg;subst hg
     cases ob with
     |none=>simp[Q.run]at D
     |map _ _ _=>simp[Q.run]at D
     |cells cs wm bx=>
      dsimp only at D
      simp only[Q.run_bind]at D
      cases E:(jd (fz false n) (cs.drop off)).run st.get X with
      |none=>simp[E]at D
      |some p=>
       obtain⟨c1,H7⟩:=p
       simp only[E,Option.bind_some,Q.run,Option.some.injEq,Prod.mk.injEq]at D
       obtain⟨rfl,rfl⟩:=D
       have gg:F.gens=st.gens:=H.gens
       have Xk: ∃Qt,F.get sp k=⟨W,.cells cs Qt bx⟩:=by
        rcases H.2.2 sp k with x|x
        ·exact⟨wm,by rw[x,J]⟩
        ·exact⟨cs.length,by rw[x,J];rfl⟩
       obtain⟨wm0,Xk⟩:=Xk
       have N:=h.obj sp k
       rw[Xk]at N
       unfold kM at N
       obtain⟨c,el,fzz,o1,o2,o3,o4,o5,o6,o7,o8⟩:=N
       dsimp only at o1 o2 o3 o4 o5 o6
       have o5':iq β st.gens w M cs ((c.toList.drop (β sp k W).off).take cs.length):=by
        rw[←gg]
        exact o5.toV
       obtain⟨M1,x1,Y,x3,Z,x5,x6⟩:=oO (fun t=>ih false t) (cs.drop off) B F w β M _ c1 H7 X H h (iq.drop off o5') E
       have Dv: ∃Qt,(F.ups H7).get sp k=⟨W,.cells cs Qt bx⟩:=by
        rcases Y.2.2 sp k with x|x
        ·exact⟨wm,by rw[x,J]⟩
        ·exact⟨cs.length,by rw[x,J];rfl⟩
       obtain⟨Qt,Dv⟩:=Dv
       obtain⟨r1,r2⟩:=BZ x1 Dv
       have O:=Y.up J trivial
       rw[kH]
       refine⟨_,r1,O,fun b x I=>x3 b x I.1, ?_,fun _=>rfl⟩
       apply sQ.ofP
       simp only[il]at U
       obtain⟨hv1,rfl⟩:=U
       simp only[PRel]
       refine⟨_,_,rfl, ?_⟩
       have Xj:PList w (Ef M1 (β sp k W) cs.length) c1 ((List.drop off ((c.toList.drop (β sp k W).off).take cs.length))):=PList.mono r2.keep _ _ Z
       refine PCells.of o1 _ _ ?_ ?_ (x5 (by rw[List.all_eq_true]at o7 ⊢; exact fun x hx=>o7 x (List.mem_of_mem_drop hx)))
       ·rw[x6,List.length_drop]
        rw[List.drop_take,List.drop_drop]at Xj
        exact Xj
       ·intro x h1 h2 I
        rw[x6,List.length_drop]at h2
        exact I.2 ⟨rfl,by omega,by omega⟩
    ·simp[Q.run]at D
  |mp sp k g=>
   simp only[fz]at D
   by_cases V:(keep&&sp== .S)=true
   ·simp only[V,if_true,Q.run,Option.some.injEq,Prod.mk.injEq]at D
    obtain⟨rfl,rfl⟩:=D
    simp only[Bool.and_eq_true,beq_iff_eq]at V
    obtain⟨rfl,rfl⟩:=V
    refine⟨M,h,H,fun _ _ h=>h,fun iO G' p q=> ?_,fun h=>h⟩
    grind [il]
   ·rw[if_neg V]at D
    simp only[Q.run]at D
    split at D
    ·rename_i hg
     generalize J:st.get sp k=e at D hg
     obtain⟨W,ob⟩:=e
     dsimp only at hg;subst hg
     cases ob with
     |none=>simp[Q.run]at D
     |cells _ _ _=>simp[Q.run]at D
     |map ks vs f=>
      simp only[Q.run,Option.some.injEq,Prod.mk.injEq]at D
      obtain⟨rfl,rfl⟩:=D
      have Dv: ∃f',F.get sp k=⟨W,.map ks vs f'⟩:=by
       rcases H.2.2 sp k with x|x
       ·grind
       ·exact⟨true,by rw[x,J];rfl⟩
      obtain⟨f',Dv⟩:=Dv
      obtain⟨r1,r2⟩:=H6 h Dv
      have O:=H.up J trivial
      refine⟨_,r1,O,fun b x I=>I.1, ?_,fun _=>rfl⟩
      apply sQ.ofP
      have N:=r1.obj sp k
      rw[lR,if_pos ⟨rfl,rfl⟩]at N
      unfold kM at N
      obtain⟨es,clock,o1,ost,o2,o3,o4⟩:=N
      simp only[il]at U
      obtain⟨hv1,rfl⟩:=U
      simp only[PRel]
      exact⟨_,es,clock,rfl,o1,ost,fun o I=>I.2 rfl,o2,o3⟩
    ·simp[Q.run]at D
end Go.Ev
namespace Go.Ev
open Go
abbrev ol(d s n:Nat)(a:Bool):be:=⟨some d,.ld (.t s) n a,none⟩
abbrev ob(d:Nat)(o:BinOp)(x y:iD):be:=⟨some d,.bin o x y,none⟩
abbrev on(d s:Nat):be:=⟨some d,.lenV (.t s),none⟩
end Go.Ev
