/- A tree evaluator over the model, proved against it (part A): where it answers, the call returns that answer. Conditions: none beyond its theorems' own. -/
import GoSem.Dispatch
import Derived.Orders
import Derived.LoopN
import Derived.Below
import Derived.MapKept
set_option linter.unusedSimpArgs false
set_option linter.unusedVariables false
namespace Go.Ev
open Go
inductive Sp where
 |L|S
 deriving DecidableEq,Inhabited
inductive T where
 |b (x:Bool)
 |i (k:IntKind) (n:Int)
 |s (l:List Nat)
 |nilsl
 |sl (cs:List T) (len:Nat) (ex:Bool)
 |isl (sp:Sp) (k g off len sz:Nat)
 |nilptr
 |vp (cs:List T)
 |ptr (sp:Sp) (k g off:Nat)
 |nilmp
 |vm (ks vs:List T)
 |mp (sp:Sp) (k g:Nat)
 |nilfn
 |fn (f:Nat) (first cap:List T)
 |agg (cs:List T)
 |tup (vs:List T)
 |any
 deriving Inhabited
inductive Ob where
 |none
 |cells (cs:List T) (wm:Nat) (bx:Bool)
 |map (ks vs:List T) (fz:Bool)
 deriving Inhabited
structure iy where
 g:Nat
 ob:Ob
 deriving Inhabited
def single:T→Bool
 | .agg _| .tup _| .any=>false
 |_=>true
def noTup:T→Bool
 | .tup _| .any=>false
 |_=>true
def mN:iy:=⟨0,.none⟩
def jg:T:= .tup []
def iN{α:Type}(d:α):List α→Nat→α
 | [],_=>d
 |x::_,0=>x
 |_::xs,n+1=>iN d xs n
def tq{α:Type}(d:α):List α→Nat→α→List α
 | [],0,v=> [v]
 | [],n+1,v=>d::tq d [] n v
 |_::xs,0,v=>v::xs
 |x::xs,n+1,v=>x::tq d xs n v
theorem tI{α:Type}(d:α)(v:α): ∀(l:List α) (n m:Nat),iN d (tq d l n v) m=if m=n then v else iN d l m
 | [],0,0=>by simp[tq,iN]
 | [],0,m+1=>by simp[tq,iN]
 | [],n+1,0=>by simp[tq,iN]
 | [],n+1,m+1=>by
   simp_all[tq,iN,tI]
 |x::xs,0,0=>by simp[tq,iN]
 |x::xs,0,m+1=>by simp[tq,iN]
 |x::xs,n+1,0=>by simp[tq,iN]
 |x::xs,n+1,m+1=>by
  simp_all[tq,iN,tI]
inductive iL (α:Type) where
 |nil
 |nd (v:α) (l r:iL α)
 deriving Inhabited
def iL.get{α:Type}(d:α):iL α→Nat→α
 | .nil,_=>d
 | .nd v l r,n=>match n with
   |0=>v
   |k+1=>bif Nat.beq (k%2) 0 then l.get d (k/2)else r.get d (k/2)
def iL.put{α:Type}(d:α):Nat→iL α→Nat→α→iL α
 |0,t,_,_=>t
 |f+1,t,n,v=>match n with
  |0=>match t with
   | .nil=> .nd v .nil .nil
   | .nd _ l r=> .nd v l r
  |k+1=>match t with
   | .nil=>bif Nat.beq (k%2) 0 then .nd d (iL.put d f .nil (k/2) v) .nil else .nd d .nil (iL.put d f .nil (k/2) v)
   | .nd u l r=>bif Nat.beq (k%2) 0 then .nd u (iL.put d f l (k/2) v) r else .nd u l (iL.put d f r (k/2) v)
def iL.set{α:Type}(d:α)(t:iL α)(n:Nat)(v:α):iL α:=iL.put d (n+1) t n v
theorem iL.get_nil{α:Type}(d:α)(n:Nat):iL.get d .nil n=d:=by unfold iL.get;rfl
theorem iL.get_put{α:Type}(d:α)(v:α): ∀(f:Nat) (t:iL α) (n m:Nat),n<f→iL.get d (iL.put d f t n v) m=if m=n then v else iL.get d t m
 |0,t,n,m,h=>by omega
 |f+1,t,0,m,h=>by
  cases t with
  |nil=>
   cases m with
   |zero=>simp[iL.put,iL.get]
   |succ m=>simp[iL.put,iL.get]
  |nd u l r=>
   cases m with
   |zero=>simp[iL.put,iL.get]
   |succ m=>simp[iL.put,iL.get]
 |f+1,t,k+1,m,h=>by
  have I:k/2<f:=by omega
  have ih:=fun t j=>iL.get_put d v f t (k/2) j I
  cases D:Nat.beq (k%2) 0 with
  |true=>
   have F:k%2=0:=Nat.eq_of_beq_eq_true D
   cases t with
   |nil=>
    cases m with
    |zero=>simp[iL.put,iL.get,D]
    |succ m=>
     grind [iL.put,iL.get,iL.get_nil,Nat.eq_of_beq_eq_true]
   |nd u l r=>
    cases m with
    |zero=>simp[iL.put,iL.get,D]
    |succ m=>
     grind [iL.put,iL.get,Nat.eq_of_beq_eq_true]
  |false=>
   have F:k%2≠0:=fun e=>by rw[e]at D;simp at D
   cases t with
   |nil=>
    cases m with
    |zero=>simp[iL.put,iL.get,D]
    |succ m=>
     simp only[iL.put,D,cond_false,iL.get]
     cases E:Nat.beq (m%2) 0 with
     |true=>
      grind
     |false=>
      have H:m%2≠0:=fun e=>by rw[e]at E;simp at E
      grind [iL.get_nil]
   |nd u l r=>
    cases m with
    |zero=>simp[iL.put,iL.get,D]
    |succ m=>
     simp only[iL.put,D,cond_false,iL.get]
     cases E:Nat.beq (m%2) 0 with
     |true=>
      grind
     |false=>
      have H:m%2≠0:=fun e=>by rw[e]at E;simp at E
      grind
theorem iL.get_set{α:Type}(d:α)(v:α)(t:iL α)(n m:Nat):iL.get d (iL.set d t n v) m=if m=n then v else iL.get d t m:=
 iL.get_put d v (n+1) t n m (Nat.lt_succ_self n)
inductive Q (α:Type) where
 |ret (a:α)
 |fail
 |rd (sp:Sp) (k:Nat) (f:iy→Q α)
 |new (f:Nat→Q α)
def Q.bind{α β:Type}:Q α→(α→Q β)→Q β
 | .ret a,f=>f a
 | .fail,_=> .fail
 | .rd sp k g,f=> .rd sp k fun e=>(g e).bind f
 | .new g,f=> .new fun e=>(g e).bind f
def Q.run{α:Type}(h:Sp→Nat→iy)(nx:Nat):Q α→Option α
 | .ret a=>some a
 | .fail=>none
 | .rd sp k f=>(f (h sp k)).run h nx
 | .new f=>(f nx).run h nx
def Q.log{α:Type}(h:Sp→Nat→iy)(nx:Nat):Q α→List (Sp×Nat)
 | .ret _=> []
 | .fail=> []
 | .rd sp k f=>(sp,k)::(f (h sp k)).log h nx
 | .new f=>(f nx).log h nx
def Q.asks{α:Type}(h:Sp→Nat→iy)(nx:Nat):Q α→Bool
 | .ret _=>false
 | .fail=>false
 | .rd sp k f=>(f (h sp k)).asks h nx
 | .new _=>true
def Q.of{α:Type}:Option α→Q α
 |some a=> .ret a
 |none=> .fail
abbrev Up:=Sp×Nat×iy
inductive EF where
 |val (v:T) (ups:List Up)
 deriving Inhabited
def jm(f:T→Q (T×List Up)):List T→Q (List T×List Up)
 | []=> .ret ([],[])
 |c::cs=>(f c).bind fun p=>(jm f cs).bind fun q=> .ret (p.1::q.1,p.2++q.2)
def fz(keep:Bool):Nat→T→Q (T×List Up)
 |0,_=> .fail
 |n+1,t=>match t with
  | .isl sp k g off len sz=>if keep&&sp== .S then .ret (t,[])else .rd sp k fun e=>
    if e.g=g then match e.ob with
     | .cells cs _ false=>if off+len*sz≤cs.length then .ret (.sl ((cs.drop off).take (len*sz)) len false,[(sp,k,⟨g,.cells cs cs.length false⟩)])else .fail
     | .cells cs _ true=>if off+len*sz≤cs.length then(jm (fz false n) ((cs.drop off).take (len*sz))).bind fun q=> .ret (.sl q.1 len false,q.2++ [(sp,k,⟨g,.cells cs cs.length true⟩)])else .fail
     |_=> .fail
    else .fail
  | .mp sp k g=>if keep&&sp== .S then .ret (t,[])else .rd sp k fun e=>
    if e.g=g then match e.ob with
     | .map ks r _=> .ret (.vm ks r,[(sp,k,⟨g,.map ks r true⟩)])
     |_=> .fail
    else .fail
  | .ptr sp k g off=>if keep&&sp== .S then .ret (t,[])else .rd sp k fun e=>
    if e.g=g then match e.ob with
     | .cells cs _ bx=>(jm (fz false n) (cs.drop off)).bind fun q=> .ret (.vp q.1,q.2++ [(sp,k,⟨g,.cells cs cs.length bx⟩)])
     |_=> .fail
    else .fail
  | .fn f a c=>(jm (fz keep n) a).bind fun p=>(jm (fz keep n) c).bind fun q=> .ret (.fn f p.1 q.1,p.2++q.2)
  | .agg cs=>(jm (fz keep n) cs).bind fun q=> .ret (.agg q.1,q.2)
  | .tup cs=>(jm (fz keep n) cs).bind fun q=> .ret (.tup q.1,q.2)
  |t=> .ret (t,[])
def iT:Nat:=8
def scalar:T→Bool
 | .b _| .i .. | .s _| .nilsl| .nilptr| .nilmp| .nilfn=>true
 | .tup r=>r.all fun| .b _| .i .. | .s _| .nilsl| .nilptr| .nilmp| .nilfn=>true|_=>false
 |_=>false
def lo:IntKind→Int
 | .i8=> -128| .i16=> -32768| .i32=> -2147483648| .i64=> -9223372036854775808|_=>0
def hi:IntKind→Int
 | .i8=>127| .i16=>32767| .i32=>2147483647| .i64=>9223372036854775807
 | .u8=>255| .u16=>65535| .u32=>4294967295| .u64=>18446744073709551615
def wr(k:IntKind)(n:Int):Int:=if lo k≤n∧n≤hi k then n else k.wrap n
def mB:List Nat→List Nat→Bool
 |_,[]=>false
 | [],_::_=>true
 |a::x,b::y=>a<b||(a==b&&mB x y)
def tu(op:BinOp)(k:IntKind)(a b:Int):Option T:=
 match op with
 | .add=>some (.i k (wr k (a+b)))
 | .sub=>some (.i k (wr k (a-b)))
 | .mul=>some (.i k (wr k (a*b)))
 | .quo=>if b=0 then none else some (.i k (wr k (a.tdiv b)))
 | .rem=>if b=0 then none else some (.i k (a.tmod b))
 | .eql=>some (.b (a==b))
 | .neq=>some (.b (a != b))
 | .lss=>some (.b (a<b))
 | .leq=>some (.b (a≤b))
 | .gtr=>some (.b (a>b))
 | .geq=>some (.b (a≥b))
 | .and=>some (.i k (k.wrap (BitVec.ofInt k.bits a &&& BitVec.ofInt k.bits b).toNat))
 | .or=>some (.i k (k.wrap (BitVec.ofInt k.bits a ||| BitVec.ofInt k.bits b).toNat))
 | .xor=>some (.i k (k.wrap (BitVec.ofInt k.bits a ^^^ BitVec.ofInt k.bits b).toNat))
 | .andNot=>some (.i k (k.wrap (BitVec.ofInt k.bits a &&& ~~~BitVec.ofInt k.bits b).toNat))
 |_=>none
def SY(op:BinOp)(a b:List Nat):Option T:=
 match op with
 | .add=>if a.length+b.length≤1099511627776 then some (.s (a++b))else none
 | .eql=>some (.b (a==b))
 | .neq=>some (.b (a != b))
 | .lss=>some (.b (mB a b))
 | .leq=>some (.b (mB a b||a==b))
 | .gtr=>some (.b !(mB a b||a==b))
 | .geq=>some (.b !(mB a b))
 |_=>none
def EG(op:BinOp)(k:IntKind)(a b:Int):Option T:=
 if b<0 then none else
 match op with
 | .shl=>some (.i k (k.wrap (a*2 ^ (min b.toNat k.bits))))
 | .shr=>some (.i k (a.fdiv (2 ^ (min b.toNat k.bits))))
 |_=>none
inductive CK where
 |int|str|bool
 deriving DecidableEq,Inhabited
inductive EK where
 |one (k:CK)
 |flat (ks:List CK)
 |sl|ptr|map
 deriving Inhabited
def my:CK→T→T→Option Bool
 | .bool,.b x,.b y=>some (x==y)
 | .int,.i k x,.i k' y=>if k=k' then some (x==y)else none
 | .str,.s x,.s y=>some (x==y)
 |_,_,_=>none
def j4:List CK→List T→List T→Option Bool
 | [],[],[]=>some true
 |k::ks,x::xs,y::r=>match my k x y with
  |some true=>j4 ks xs r
  |some false=>some false
  |none=>none
 |_,_,_=>none
def xW:EK→T→T→Option Bool
 | .one k,x,y=>my k x y
 | .flat ks,.agg xs,.agg r=>j4 ks xs r
 | .sl,.nilsl,.nilsl=>some true
 | .sl,.sl ..,.nilsl=>some false
 | .sl,.isl ..,.nilsl=>some false
 | .ptr,.nilptr,.nilptr=>some true
 | .ptr,.vp _,.nilptr=>some false
 | .ptr,.ptr ..,.nilptr=>some false
 | .map,.nilmp,.nilmp=>some true
 | .map,.vm ..,.nilmp=>some false
 | .map,.mp ..,.nilmp=>some false
 |_,_,_=>none
def bin(op:BinOp)(x y:T):Option T:=
 match op,x,y with
 | .shl,.i k a,.i _ b=>EG .shl k a b
 | .shr,.i k a,.i _ b=>EG .shr k a b
 |op,.i k a,.i k' b=>if k=k' then tu op k a b else none
 |op,.s a,.s b=>SY op a b
 |_,_,_=>none
def un(op:UnOp)(x:T):Option T:=
 match op,x with
 | .neg,.i k n=>some (.i k (wr k (0-n)))
 | .not,.b x=>some (.b !x)
 | .xor,.i k n=>tu .xor k (if k.signed then-1 else k.max) n
 |_,_=>none
inductive iS where
 |t (n:Nat)
 |c (v:T)
 deriving Inhabited
inductive nO where
 |mv (x:iS)
 |pick (c a b:iS)
 |alloc (z:List T) (sh:Bool)
 |box (x:iS) (sh:Bool)
 |build (z:List T) (ps:List (Nat×Nat×iS))
 |bsl (z:List T) (len:Nat) (ps:List (Nat×iS))
 |ld (x:iS) (n:Nat) (ag:Bool)
 |st (x v:iS) (n:Nat)
 |nck (x:iS)
 |bin (op:BinOp) (x y:iS)
 |eq (neg:Bool) (k:EK) (x y:iS)
 |un (op:UnOp) (x:iS)
 |cvi (k:IntKind) (x:iS)
 |mkfn (f:Nat) (first cap:List iS)
 |mkmap (sh:Bool)
 |mksl (z:List T) (bytes:Nat) (x:iS) (sh:Bool)
 |slS (x:iS) (lo hi:Option iS)
 |slV (sz:Nat) (x:iS) (lo hi mx:Option iS)
 |fa (x:iS) (off:Nat)
 |fld (x:iS) (off n:Nat) (ag:Bool)
 |ia (x ix:iS) (sz:Nat)
 |iaA (x ix:iS) (len sz:Nat)
 |ixS (x ix:iS)
 |ixA (x ix:iS) (len sz:Nat) (ag:Bool)
 |lk (kk:EK) (m k:iS) (z:T) (ok:Bool)
 |mu (kk:EK) (m k v:iS)
 |ext (x:iS) (j:Nat)
 |callf (f:Nat) (args:List iS)
 |callv (f:iS) (args:List iS)
 |lenS (x:iS)
 |lenV (x:iS)
 |lenM (x:iS)
 |lenC (n:Nat)
 |app (sz bytes:Nat) (s x:iS) (sh:Bool) (nm:Bool)
 |mm (isMax:Bool) (args:List iS)
 deriving Inhabited
structure iz where
 d:Option Nat
 op:nO
 gd:Option (Nat×Bool)
 deriving Inhabited
inductive iA where
 |skip
 |region (ops:List iz)
 |draws (ops:List (List Nat×iz))
 |seq (a b:iA)
 |fork (os Gy:List iz) (b:iA)
 |cond (c:iS) (a b:iA)
 |block (id:Nat) (a:iA)
 |loop (a:iA)
 |exit (id:Nat)
 |ret
 deriving Inhabited
inductive qS where
 |tmp (t:Nat)
 |cell (t n:Nat) (ag:Bool)
 deriving Inhabited
structure iC where
 n:Nat
 code:iA
 res:List qS
 eff:Bool
 own:Option Nat
 deriving Inhabited
abbrev Fr:=iL T
structure St where
 fr:Fr
 lh:iL iy
 sh:List iy
 deriving Inhabited
def an(l:Fr)(n:Nat):T:=iL.get jg l n
def kJ(l:Fr)(n:Nat)(v:T):Fr:=iL.set jg l n v
theorem rC(l:Fr)(n:Nat)(v:T)(m:Nat):an (kJ l n v) m=if m=n then v else an l m:=iL.get_set jg v l n m
def yH:List T→Nat→Fr
 | [],_=> .nil
 |x::xs,k=>kJ (yH xs (k+1)) k x
def qx(l:List T):Fr:=yH l 0
theorem Cv: ∀(l:List T) (k m:Nat),an (yH l k) m=if m<k then jg else iN jg l (m-k)
 | [],k,m=>by simp[yH,an,iL.get_nil,iN]
 |x::xs,k,m=>by
  rw[yH,rC,Cv xs (k+1) m]
  by_cases r:m=k
  ·subst r;simp[iN]
  ·rw[if_neg r]
   by_cases D:m<k
   ·grind
   ·rw[if_neg (by omega),if_neg D]
    have:m-k=(m-(k+1))+1:=by omega
    rw[this];rfl
theorem Hp(l:List T)(m:Nat):an (qx l) m=iN jg l m:=by
 grind [qx,Cv]
def iM(l:List iy)(n:Nat):iy:=iN mN l n
def iR(l:List iy)(n:Nat)(v:iy):List iy:=tq mN l n v
def St.get(st:St):Sp→Nat→iy
 | .L,k=>iL.get mN st.lh k
 | .S,k=>iM st.sh k
def St.up(st:St):Up→St
 |(.L,k,e)=>{st with lh:=iL.set mN st.lh k e}
 |(.S,k,e)=>{st with sh:=iR st.sh k e}
def St.ups(st:St):List Up→St
 | []=>st
 |u::us=>(st.up u).ups us
def St.rho(st:St):iS→T
 | .t n=>an st.fr n
 | .c v=>v
def pn(d:Nat)(sh:Bool)(ob:Ob)(f:Sp→Nat→Nat→T):Q EF:=
 if sh then .new fun k=> .ret (.val (f .S k 1) [(.S,k,⟨1,ob⟩)])
 else .rd .L d fun e=> .ret (.val (f .L d (e.g+1)) [(.L,d,⟨e.g+1,ob⟩)])
def Xt:List T→Bool
 | [.nilsl]=>true
 |_=>false
def pW(us:List Up)(sp:Sp)(k:Nat):Bool:=us.any fun u=>u.1==sp&&u.2.1==k
def cellsOf:T→List T
 | .agg cs=>cs
 |t=> [t]
def asNat:T→Option Nat
 | .i _ n=>if 0≤n then some n.toNat else none
 |_=>none
def repl{α:Type}(z:List α):Nat→List α
 |0=> []
 |n+1=>z++repl z n
def splice{α:Type}:List α→Nat→List α→List α
 |cs,0,[]=>cs
 |_::cs,0,v::r=>v::splice cs 0 r
 |c::cs,off+1,r=>c::splice cs off r
 | [],_,_=> []
def qZ{α:Type}:List α→List (Nat×List α)→Option (List α)
 |cs,[]=>some cs
 |cs,(off,D)::r=>if off+D.length≤cs.length then qZ (splice cs off D) r else none
def part(cs:List T)(off n:Nat)(r:Bool):Option T:=
 if r then(if off+n≤cs.length then some (.agg ((cs.drop off).take n))else none)
 else cs[off]?
def II(x:T)(n:Nat)(r:Bool):Q T:=
 match x with
 | .vp cs=> .of (part cs 0 n r)
 | .ptr sp k g off=> .rd sp k fun e=>
   if e.g=g then match e.ob with
    | .cells cs _ _=> .of (part cs off n r)
    |_=> .fail
   else .fail
 |_=> .fail
def uR(x v:T)(n:Nat):Q EF:=
 if(cellsOf v).length≠n|| !noTup v then .fail else
 match x with
 | .ptr sp k g off=> .rd sp k fun e=>
   if e.g=g then match e.ob with
    | .cells cs wm bx=>if wm≤off&&off+n≤cs.length then
        (if bx&&sp== .L then .ret (.val jg [(sp,k,⟨g,.cells (splice cs off (cellsOf v)) wm bx⟩)])
        else(fz (bx&&sp== .S) iT v).bind fun p=>if pW p.2 sp k|| !noTup p.1||(cellsOf p.1).length≠n then .fail else .ret (.val jg (p.2++ [(sp,k,⟨g,.cells (splice cs off (cellsOf p.1)) wm bx⟩)])))
      else .fail
    |_=> .fail
   else .fail
 |_=> .fail
def j5(sz:Nat):T→Q (Nat×List T)
 | .nilsl=> .ret (0,[])
 | .sl cs len _=>if cs.length=len*sz then .ret (len,cs)else .fail
 | .isl sp k g off len r=>if r=sz then .rd sp k fun e=>
     if e.g=g then match e.ob with
      | .cells cs _ false=>if off+len*sz≤cs.length then .ret (len,(cs.drop off).take (len*sz))else .fail
      |_=> .fail
     else .fail
   else .fail
 | .s l=>if sz=1 then .ret (l.length,l.map fun(n:Nat)=>T.i .u8 (n:Int))else .fail
 |_=> .fail
def roomy:Nat:=1099511627776
def pN(d sz bytes:Nat)(s x:T)(sh r:Bool):Q EF:=
 (j5 sz x).bind fun p=>
 if p.1=0 then(match s with| .nilsl| .sl .. | .isl .. => .ret (.val s [])|_=> .fail)else
 match s with
 | .nilsl=>if p.1*bytes≤roomy then pn d sh (.cells p.2 0 (r&& !sh)) (fun sp k g=> .isl sp k g 0 p.1 sz)else .fail
 | .sl cs len true=>if cs.length=len*sz&&(len+p.1)*bytes≤roomy then pn d sh (.cells (cs++p.2) 0 false) (fun sp k g=> .isl sp k g 0 (len+p.1) sz)else .fail
 | .isl sp k g off len D=>if D=sz&&off=0&&(len+p.1)*bytes≤roomy then .rd sp k fun e=>
     if e.g=g then match e.ob with
      | .cells cs wm false=>if len*sz=cs.length then .ret (.val (.isl sp k (g+1) 0 (len+p.1) sz) [(sp,k,⟨g+1,.cells (cs++p.2) wm false⟩)])
        else if sh&&r&&decide (len*sz<cs.length)&&decide (wm≤len*sz)then .ret (.val (.isl sp k (g+1) 0 (len+p.1) sz) [(sp,k,⟨g+1,.cells (cs.take (len*sz)++p.2) wm false⟩)])else .fail
      |_=> .fail
     else .fail
   else .fail
 |_=> .fail
def oz(kk:EK)(k:T):List T→Option (Option Nat)
 | []=>some none
 |x::xs=>match xW kk k x with
  |some true=>some (some 0)
  |some false=>(oz kk k xs).map fun r=>r.map (· +1)
  |none=>none
def rL(kk:EK)(k v:T)(ks r:List T):Option (List T×List T):=
 match oz kk k ks with
 |some (some i)=>some (ks.set i k,r.set i v)
 |some none=>some (ks++ [k],r++ [v])
 |none=>none
def IJ:CK→T→Bool
 | .bool,.b _=>true
 | .int,.i .. =>true
 | .str,.s _=>true
 |_,_=>false
def rv:List CK→List T→Bool
 | [],[]=>true
 |k::ks,x::xs=>IJ k x&&rv ks xs
 |_,_=>false
def isKey:EK→T→Bool
 | .one k,x=>IJ k x
 | .flat ks,.agg xs=>rv ks xs
 |_,_=>false
def oU(kk:EK)(ks D:List T)(k z:T)(r:Bool):Option T:=
 if !isKey kk k then none else
 match oz kk k ks with
 |some (some i)=>D[i]?.map fun v=>if r then .tup [v,.b true]else v
 |some none=>some (if r then .tup [z,.b false]else z)
 |none=>none
def oC(r:Bool):T→List T→Option T
 |x,[]=>some x
 | .i k a,.i k' b::D=>if k=k' then oC r (.i k (if r then(if b>a then b else a)else(if b<a then b else a))) D else none
 |_,_=>none
def lr(ρ:iS→T)(r:Nat):Option iS→Option Nat
 |none=>some r
 |some x=>asNat (ρ x)
def Cw(sz:Nat)(x:T)(l h:Nat):Q T:=
 match x with
 | .nilsl=>if l=0&&h=0 then .ret .nilsl else .fail
 | .sl cs len ex=>if l≤h&&h≤len&&cs.length=len*sz then .ret (.sl ((cs.drop (l*sz)).take ((h-l)*sz)) (h-l) (ex&&h=len))else .fail
 | .isl sp k g off len r=>if l≤h&&h≤len&&r=sz then .ret (if l=h then(if sp= .S∧h=0∧off=0 then .isl sp k g 0 0 sz else .sl [] 0 false)else .isl sp k g (off+l*sz) (h-l) sz)else .fail
 |_=> .fail
def wb:T→Option Nat
 | .nilsl=>some 0
 | .sl _ len _=>some len
 | .isl _ _ _ _ len _=>some len
 |_=>none
def val(v:Option T):Q EF:=match v with|some v=> .ret (.val v [])|none=> .fail
def jK(d:Nat)(ρ:iS→T):nO→Q EF
 | .mv x=> .ret (.val (ρ x) [])
 | .pick c a b=>match ρ c with| .b true=> .ret (.val (ρ a) [])| .b false=> .ret (.val (ρ b) [])|_=> .fail
 | .alloc z sh=>pn d sh (.cells z 0 true) (fun sp k g=> .ptr sp k g 0)
 | .box x sh=>if !noTup (ρ x)then .fail else if sh then(fz true iT (ρ x)).bind fun p=>if p.2.isEmpty&&noTup p.1 then pn d true (.cells (cellsOf p.1) 0 true) (fun sp k g=> .ptr sp k g 0)else .fail
     else pn d false (.cells (cellsOf (ρ x)) 0 true) (fun sp k g=> .ptr sp k g 0)
 | .build z J=>if J.all fun p=>(cellsOf (ρ p.2.2)).length=p.2.1&&noTup (ρ p.2.2)then val ((qZ z (J.map fun p=>(p.1,cellsOf (ρ p.2.2)))).map .agg)else .fail
 | .bsl z len J=>(jm (fz false iT) (J.map fun p=>ρ p.2)).bind fun q=>
     if q.1.all fun v=>(cellsOf v).length=z.length&&noTup v then
      match qZ (repl z len) ((J.map fun p=>p.1*z.length).zip (q.1.map cellsOf))with
      |some cs=> .ret (.val (.sl cs len true) q.2)
      |none=> .fail
     else .fail
 | .ld x n K=>(II (ρ x) n K).bind fun v=> .ret (.val v [])
 | .st x v n=>uR (ρ x) (ρ v) n
 | .nck x=>match ρ x with
   | .vp cs=> .ret (.val (.vp cs) [])
   | .ptr sp k g off=> .ret (.val (.ptr sp k g off) [])
   | .fn f a c=> .ret (.val (.fn f a c) [])
   |_=> .fail
 | .bin op x y=>val (Ev.bin op (ρ x) (ρ y))
 | .eq neg k x y=>val ((xW k (ρ x) (ρ y)).map fun r=> .b (r != neg))
 | .un op x=>val (Ev.un op (ρ x))
 | .cvi k x=>match ρ x with| .i _ n=> .ret (.val (.i k (wr k n)) [])|_=> .fail
 | .mkfn f first N=> .ret (.val (.fn f (first.map ρ) (N.map ρ)) [])
 | .mkmap sh=>pn d sh (.map [] [] false) (fun sp k g=> .mp sp k g)
 | .mksl z bytes x sh=>match asNat (ρ x)with
   |some n=>if n*bytes≤roomy&&n≤roomy then pn d sh (.cells (repl z n) 0 (Xt z)) (fun sp k g=> .isl sp k g 0 n z.length)else .fail
   |none=> .fail
 | .slS x l h=>match ρ x with
   | .s D=>match lr ρ 0 l,lr ρ D.length h with
     |some l,some h=>if l≤h&&h≤D.length then .ret (.val (.s ((D.drop l).take (h-l))) [])else .fail
     |_,_=> .fail
   |_=> .fail
 | .slV sz x l h U=>match wb (ρ x)with
   |none=> .fail
   |some n=>match lr ρ 0 l,lr ρ n h,U with
    |some l,some h,none=>(Cw sz (ρ x) l h).bind fun v=> .ret (.val v [])
    |some l,some h,some m=>match asNat (ρ m),ρ x with
     |some 0,.nilsl=>if l=0&&h=0 then .ret (.val .nilsl [])else .fail
     |some 0,_=>if l=0&&h=0 then .ret (.val (.sl [] 0 true) [])else .fail
     |_,_=> .fail
    |_,_,_=> .fail
 | .fa x off=>match ρ x with
   | .vp cs=>if off≤cs.length then .ret (.val (.vp (cs.drop off)) [])else .fail
   | .ptr sp k g o=> .ret (.val (.ptr sp k g (o+off)) [])
   |_=> .fail
 | .fld x off n K=>match ρ x with| .agg cs=>val (part cs off n K)|_=> .fail
 | .ia x E sz=>match asNat (ρ E),ρ x with
   |some j,.sl cs len _=>if j<len&&(j+1)*sz≤cs.length then .ret (.val (.vp (cs.drop (j*sz))) [])else .fail
   |some j,.isl sp k g off len V=>if j<len&&V=sz then .ret (.val (.ptr sp k g (off+j*sz)) [])else .fail
   |_,_=> .fail
 | .iaA x E len sz=>match asNat (ρ E),ρ x with
   |some j,.vp cs=>if j<len&&(j+1)*sz≤cs.length then .ret (.val (.vp (cs.drop (j*sz))) [])else .fail
   |some j,.ptr sp k g off=>if j<len then .ret (.val (.ptr sp k g (off+j*sz)) [])else .fail
   |_,_=> .fail
 | .ixS x E=>match asNat (ρ E),ρ x with
   |some j,.s D=>match D[j]? with|some c=> .ret (.val (.i .u8 c) [])|none=> .fail
   |_,_=> .fail
 | .ixA x E len sz K=>match asNat (ρ E),ρ x with
   |some j,.agg cs=>if j<len then val (part cs (j*sz) sz K)else .fail
   |_,_=> .fail
 | .lk I m k z O=>match ρ m with
   | .nilmp=>if isKey I (ρ k)then .ret (.val (if O then .tup [z,.b false]else z) [])else .fail
   | .vm ks F=>val (oU I ks F (ρ k) z O)
   | .mp sp kk g=> .rd sp kk fun e=>if e.g=g then match e.ob with| .map ks F _=>val (oU I ks F (ρ k) z O)|_=> .fail else .fail
   |_=> .fail
 | .mu I m k v=>match ρ m with
   | .mp sp kk g=> .rd sp kk fun e=>if e.g=g&&isKey I (ρ k)then match e.ob with
       | .map ks F false=>(fz false iT (ρ v)).bind fun p=>match rL I (ρ k) p.1 ks F with
         |some q=>if pW p.2 sp kk then .fail else .ret (.val jg (p.2++ [(sp,kk,⟨g,.map q.1 q.2 false⟩)]))
         |none=> .fail
       |_=> .fail
     else .fail
   |_=> .fail
 | .ext x j=>match ρ x with| .tup F=>val F[j]? |_=> .fail
 | .callf _ _=> .fail
 | .callv _ _=> .fail
 | .lenS x=>match ρ x with| .s D=> .ret (.val (.i .i64 D.length) [])|_=> .fail
 | .lenV x=>val ((wb (ρ x)).map fun n=> .i .i64 n)
 | .lenM x=>match ρ x with
   | .nilmp=> .ret (.val (.i .i64 0) [])
   | .vm ks _=> .ret (.val (.i .i64 ks.length) [])
   | .mp sp kk g=> .rd sp kk fun e=>if e.g=g then match e.ob with| .map ks _ _=> .ret (.val (.i .i64 ks.length) [])|_=> .fail else .fail
   |_=> .fail
 | .lenC n=> .ret (.val (.i .i64 n) [])
 | .app sz bytes s x sh W=>pN d sz bytes (ρ s) (ρ x) sh W
 | .mm H args=>match args.map ρ with|x::rest=>val (oC H x rest)| []=> .fail
def jL(ρ:iS→T):nO→Option (Option (Nat×List T))
 | .callf f args=>some (some (f,args.map ρ))
 | .callv f args=>some (match ρ f with| .fn f a c=>some (f,a++args.map ρ++c)|_=>none)
 |_=>none
def BG:nO→List iS
 | .mv x| .box x _| .ld x _ _| .nck x| .un _ x| .cvi _ x| .mksl _ _ x _| .fa x _| .fld x _ _ _| .ext x _| .lenS x| .lenV x| .lenM x=> [x]
 | .pick c a b=> [c,a,b]
 | .alloc .. | .mkmap _| .lenC _=> []
 | .build _ r=>r.map (·.2.2)
 | .bsl _ _ r=>r.map (·.2)
 | .st x v _| .bin _ x v| .eq _ _ x v| .ia x v _| .iaA x v _ _| .ixS x v| .ixA x v _ _ _| .lk _ x v _ _| .app _ _ x v _ _=> [x,v]
 | .mkfn _ a c=>a++c
 | .slS x l h=>x::(l.toList++h.toList)
 | .slV _ x l h m=>x::(l.toList++h.toList++m.toList)
 | .mu _ m k v=> [m,k,v]
 | .callf _ as| .mm _ as=>as
 | .callv f as=>f::as
def tmpsOf(xs:List iS):List Nat:=xs.filterMap fun| .t n=>some n| .c _=>none
def looks(a:iz):List Nat:=tmpsOf (BG a.op)++(match a.gd with|some g=> [g.1]|none=> [])
inductive Out where
 |nrm|ext (id:Nat)|ret
 deriving DecidableEq,Inhabited
abbrev qT:=Nat→List T→List iy→Option (T×List iy)
structure Env where
 fn:Nat→Option iC
 ext:Nat→Option (List T→Option T)
 wr:Nat→Option (List T→Option (List T×Option Nat))
def oD(fr:Fr)(n:Nat)(d:Option Nat)(v:T):Option Fr:=
 match d with
 |some d=>if d<n then some (kJ fr d v)else none
 |none=>some fr
def l6:T→Nat→Option T
 | .tup r,j=>if j<100 then r[j]? else match r[j/100-1]? with
   |some (.agg cs)=>cs[j%100]?
   |_=>none
 | .agg cs,j=>cs[j]?
 | .any,_=>none
 |t,_=>some t
def iY:T→Nat→T→T
 | .tup r,j,x=>if j<100 then .tup (r.set j x)else match r[j/100-1]? with
   |some (.agg cs)=> .tup (r.set (j/100-1) (.agg (cs.set (j%100) x)))
   |_=> .tup (r.set (j/100-1) .any)
 | .agg cs,j,x=> .agg (cs.set j x)
 | .any,_,_=> .any
 |_,_,x=>x
def rf:T→Bool
 | .b _| .i .. | .s _| .nilsl| .nilptr| .nilmp| .nilfn=>true
 |_=>false
def sQ:T→Bool
 | .tup r=>r.all fun| .agg cs=>cs.all rf|t=>rf t
 | .agg cs=>cs.all rf
 |t=>rf t
def yI(d j:Nat)(r:T)(st:St)(us:List Up):Option (T×St):=
 match l6 r j with
 |some .nilsl=>some (r,if sQ r then st else st.ups us)
 |some (.sl cs len _)=>
  if cs.all rf=true∧cs.length/len*len=cs.length then
   some (iY r j (.isl .L d (((if sQ (iY r j .nilsl)then st else st.ups us).get .L d).g+1) 0 len (cs.length/len)),
    (if sQ (iY r j .nilsl)then st else st.ups us).up (.L,d,⟨((if sQ (iY r j .nilsl)then st else st.ups us).get .L d).g+1,.cells cs 0 false⟩))
  else none
 |_=>none
def akb(sp:Sp)(k g off:Nat):Option Nat→T
 |none=> .tup []
 |some n=> .isl sp k g off n 1
def Xu(h:List T→Option (List T×Option Nat))(st:St):List T→Option (T×St)
 | [.nilsl]=>match h []with
   |some ([],none)=>some (.tup [],st)
   |some ([],some 0)=>some (.nilsl,st)
   |_=>none
 | [.isl sp k g off len 1]=>match st.get sp k with
   |⟨E,.cells cs wm false⟩=>
    if E=g∧wm≤off∧off+len≤cs.length then
     match h ((cs.drop off).take len)with
     |some (D,r)=>if D.length=len∧D.all single=true∧r.getD 0≤len then some (akb sp k g off r,st.up (sp,k,⟨E,.cells (splice cs off D) wm false⟩))else none
     |none=>none
    else none
   |_=>none
 |_=>none
def jy(E:Env)(D:qT)(d:Nat)(st:St)(f:Nat)(args:List T):Option (T×St):=
 match E.fn f,E.ext f with
 |some af,_=>
  match(jm (fz af.eff iT) args).run st.get st.sh.length with
  |some q=>
   if af.eff then
    (D f q.1 (st.ups q.2).sh).map fun r=>(r.1,{st.ups q.2 with sh:=r.2})
   else match D f q.1 []with
    |some r=>(match af.own with
     |none=>some (r.1,if scalar r.1 then st else st.ups q.2)
     |some j=>yI d j r.1 st q.2)
    |none=>none
  |none=>none
 |none,some g=>
  match(jm (fz false iT) args).run st.get st.sh.length with
  |some q=>(g q.1).map fun r=>(r,st)
  |none=>none
 |none,none=>match E.wr f with
  |some h=>Xu h st args
  |none=>none
def js(E:Env)(D:qT)(n:Nat)(o:iz)(st:St):Option St:=
 let H:Option St:=
  match jL st.rho o.op with
  |some (some c)=>match jy E D (o.d.getD 0) st c.1 c.2 with
   |some r=>(oD st.fr n o.d r.1).map fun fr=>{r.2 with fr}
   |none=>none
  |some none=>none
  |none=>match(jK (o.d.getD 0) st.rho o.op).run st.get st.sh.length with
   |some (.val v ups)=>(oD st.fr n o.d v).map fun fr=>{st.ups ups with fr}
   |none=>none
 match o.gd with
 |none=>H
 |some (j,F)=>match an st.fr j with
  | .b x=>if x=F then H else(oD st.fr n o.d jg).map fun fr=>{st with fr}
  | .any=>none
  |_=>(oD st.fr n o.d jg).map fun fr=>{st with fr}
def iB(E:Env)(r:qT)(n:Nat):List iz→St→Option St
 | [],st=>some st
 |o::D,st=>match js E r n o st with
  |some F=>iB E r n D F
  |none=>none
def iter(f:St→Option (Out×St)):Nat→St→Option (Out×St)
 |0,_=>none
 |n+1,st=>match f st with
  |some (.nrm,D)=>iter f n D
  |r=>r
structure FP where
 all:Bool
 r:List (Sp×Nat)
 w:List (Sp×Nat)
 deriving Inhabited
def nq(xs r:List (Sp×Nat)):Bool:=xs.all fun x=> !r.contains x
def NV(xs:List (Sp×Nat)):Bool:=xs.all fun x=>x.1== .L
def apart(x y:FP):Bool:=
 nq x.w y.r&&nq x.w y.w&&nq x.r y.w&&
 (!x.all||(!y.all&&NV y.r&&NV y.w))&&(!y.all||(NV x.r&&NV x.w))
def kR(us:List Up):List (Sp×Nat):=us.map fun u=>(u.1,u.2.1)
def oe:FP:=⟨false,[],[]⟩
def EH(e:iy):Bool:=match e.ob with| .none=>false|_=>true
def nl(st:St)(us:List Up):Bool:=us.all fun u=>u.1== .L||EH (st.get .S u.2.1)
def mz(E:Env)(D:qT)(d:Nat)(st:St)(f:Nat)(args:List T):Option FP:=
 match E.fn f,E.ext f with
 |some af,_=>
  let q:=jm (fz af.eff iT) args
  match q.run st.get st.sh.length with
  |some p=>if !nl st p.2 then none else
   if af.eff then some ⟨true,q.log st.get st.sh.length,kR p.2⟩else match D f p.1 []with
   |some r=>(match af.own with
    |none=>some ⟨false,q.log st.get st.sh.length,if scalar r.1 then []else kR p.2⟩
    |some _=>some ⟨false,(.L,d)::q.log st.get st.sh.length,(.L,d)::kR p.2⟩)
   |none=>none
  |none=>none
 |none,some _=>some ⟨false,(jm (fz false iT) args).log st.get st.sh.length,[]⟩
 |none,none=>none
def jS(E:Env)(r:qT)(o:iz)(st:St):Option FP:=
 let H:Option FP:=
  match jL st.rho o.op with
  |some (some c)=>mz E r (o.d.getD 0) st c.1 c.2
  |some none=>none
  |none=>
   let q:=jK (o.d.getD 0) st.rho o.op
   match q.run st.get st.sh.length with
   |some (.val _ D)=>if q.asks st.get st.sh.length||nl st D then some ⟨q.asks st.get st.sh.length,q.log st.get st.sh.length,kR D⟩else none
   |none=>none
 match o.gd with
 |none=>H
 |some (j,F)=>match an st.fr j with
  | .b x=>if x=F then H else some oe
  |_=>some oe
def jc(E:Env)(r:qT)(n:Nat):List (List Nat×iz)→List FP→St→Option St
 | [],_,st=>some st
 |(D,o)::H,F,st=>
  match jS E r o st with
  |none=>none
  |some fp=>
   if D.all fun i=>apart (iN ⟨true,[],[]⟩ F i) fp then
    match js E r n o st with
    |some I=>jc E r n H (F++ [fp]) I
    |none=>none
   else none
def BH(r:List iz):List Nat:=r.filterMap (·.d)
def jU:iA→List Nat
 | .region ops=>BH ops
 | .draws ops=>BH (ops.map (·.2))
 | .seq a b=>jU a++jU b
 | .fork r _ b=>BH r++jU b
 | .cond _ a b=>jU a++jU b
 | .block _ a=>jU a
 | .loop a=>jU a
 |_=> []
def zM:List Nat→Fr→Fr
 | [],f=>f
 |k::ks,f=>kJ (zM ks f) k .any
def EI:List Nat→iL iy→iL iy→iL iy
 | [],l,_=>l
 |k::ks,l,r=>iL.set mN (EI ks l r) k ⟨max (iL.get mN l k).g (iL.get mN r k).g,.none⟩
def tJ(ks:List Nat)(s t:St):St:=⟨zM ks s.fr,EI ks s.lh t.lh,s.sh⟩
def EJ(ks:List Nat)(s t:St):Prop:=s.sh=t.sh∧(∀k,k∉ks→an s.fr k=an t.fr k)∧ ∀k,k∉ks→iL.get mN s.lh k=iL.get mN t.lh k
open Classical in
noncomputable def Qq(ks:List Nat):Option (Out×St)→Option (Out×St)→Option (Out×St)
 |some (o,s),some (o',t)=>if o=o'∧EJ ks s t then some (o,tJ ks s t)else none
 |_,_=>none
noncomputable def nS(E:Env)(D:qT)(F n:Nat):iA→St→Option (Out×St)
 | .skip,st=>some (.nrm,st)
 | .region ops,st=>(iB E D n ops st).map fun H=>(.nrm,H)
 | .draws ops,st=>(jc E D n ops [] st).map fun H=>(.nrm,H)
 | .seq a b,st=>match nS E D F n a st with
   |some (.nrm,H)=>nS E D F n b H
   |r=>r
 | .fork I Gy b,st=>match iB E D n I st,iB E D n Gy st with
   |some J,some K=>Qq (BH I++jU b) (nS E D F n b J) (nS E D F n b K)
   |_,_=>none
 | .cond c a b,st=>match st.rho c with
   | .b true=>nS E D F n a st
   | .b false=>nS E D F n b st
   |_=>none
 | .block id a,st=>match nS E D F n a st with
   |some (.ext SZ,H)=>if SZ=id then some (.nrm,H)else some (.ext SZ,H)
   |r=>r
 | .loop a,st=>iter (nS E D F n a) F st
 | .exit id,st=>some (.ext id,st)
 | .ret,st=>some (.ret,st)
def LF(st:St):qS→Option T
 | .tmp t=>some (an st.fr t)
 | .cell t n r=>(II (an st.fr t) n r).run st.get st.sh.length
def oV(st:St):List qS→Option (List T)
 | []=>some []
 |r::D=>match LF st r,oV st D with
  |some v,some E=>some (v::E)
  |_,_=>none
def answer(r:Bool)(vs:List T)(st:St):Option (T×List iy):=
 match(fz r iT (match vs with| [v]=>v|vs=> .tup vs)).run st.get st.sh.length with
 |some p=>some (p.1,(st.ups p.2).sh)
 |none=>none
def sR(j:Nat)(vs:List T)(st:St):Option (T×List iy):=
 match l6 (match vs with| [v]=>v|vs=> .tup vs) j with
 |some .nilsl=>answer false vs st
 |some (.isl .L k g 0 len sz)=>
  (match(fz false iT (iY (match vs with| [v]=>v|vs=> .tup vs) j .nilsl)).run st.get st.sh.length with
  |some p=>(match(st.ups p.2).get .L k with
   |⟨r,.cells cs wm false⟩=>if r=g∧cs.length=len*sz∧len≠0∧(wm=0∨sQ (iY p.1 j .nilsl)=true)then some (iY p.1 j (.sl cs len false),(st.ups p.2).sh)else none
   |_=>none)
  |none=>none)
 |_=>none
def uS(D:Option Nat)(r:Bool)(E:List T)(st:St):Option (T×List iy):=
 match D with
 |none=>answer r E st
 |some j=>if r then none else sR j E st
noncomputable def kM(E:Env):Nat→qT
 |0=>fun _ _ _=>none
 |m+1=>fun f args sh=>
  match E.fn f with
  |none=>none
  |some af=>
   if af.n<args.length then none else
   match nS E (kM E m) m af.n af.code {fr:=qx args,lh:= .nil,sh}with
   |some (.ext _,_)=>none
   |some (_,st)=>match oV st af.res with
    |some r=>uS af.own af.eff r st
    |none=>none
   |none=>none
end Go.Ev
namespace Go.Ev
open Go
def bytesN(b:ByteArray):List Nat:=b.data.toList.map UInt8.toNat
def xu:Value→Option T
 | .bool x=>some (.b x)
 | .int k n=>some (.i k n)
 | .string s=>some (.s (bytesN s))
 | .pointer none=>some .nilptr
 | .slice none 0 0=>some .nilsl
 | .map none=>some .nilmp
 | .nilFunc=>some .nilfn
 | .func (.func f) a c=>match a.toList,c.toList with
   | [],[]=>some (.fn f [] [])
   |_,_=>none
 |_=>none
def pX:List Value→Option (List T)
 | []=>some []
 |v::r=>match xu v,pX r with
  |some t,some ts=>some (t::ts)
  |_,_=>none
def EL:Value→Option T
 | .agg cs=>(pX cs.toList).map .agg
 | .tuple cs=>(pX cs.toList).map .tup
 |v=>xu v
def mO:Operand→Option iS
 | .tmp t=>some (.t t)
 | .const v=>(EL v).map .c
 | .func f=>some (.c (.fn f [] []))
 | .global _=>none
def BI:List Operand→Option (List iS)
 | []=>some []
 |x::xs=>match mO x,BI xs with
  |some y,some r=>some (y::r)
  |_,_=>none
def wc:Option Operand→Option (Option iS)
 |none=>some none
 |some x=>(mO x).map some
def tK(P:Program)(t:TypeId):Option T:=(P.info? t).bind fun i=>i.zero.bind EL
def mC(P:Program)(t:TypeId):Option Nat:=(P.info? t).map (·.size)
def we(P:Program)(t:TypeId):Option Bool:=(P.underlying t).map fun| .struct _| .array _ _=>true|_=>false
def xX(P:Program)(t:TypeId):Option CK:=
 match P.underlying t with
 |some (.int _)=>some .int
 |some .string=>some .str
 |some .bool=>some .bool
 |_=>none
def po(P:Program):Nat→List Field→Option (List CK)
 |_,[]=>some []
 |i,f::r=>if f.offset=i&&f.name != "_" &&(P.info? f.type).map (·.size)==some 1 then match xX P f.type,po P (i+1) r with
  |some k,some ks=>some (k::ks)
  |_,_=>none
  else none
def EM(P:Program)(t:TypeId):Option EK:=
 match P.underlying t with
 |some (.int _)=>some (.one .int)
 |some .string=>some (.one .str)
 |some .bool=>some (.one .bool)
 |some (.slice _)=>some .sl
 |some (.pointer _)=>some .ptr
 |some (.map _ _)=>some .map
 |some (.struct r)=>if !P.eqGuardType P.depth t&& !P.stoodInHeld t then(po P 0 r.toList).map .flat else none
 |some (.array n e)=>if !P.eqGuardType P.depth t&&P.cellsOf e==1 then(xX P e).map fun k=> .flat (List.replicate n k)else none
 |_=>none
def keyOf(P:Program)(t:TypeId):Option EK:=
 match EM P t with
 |some (.one k)=>some (.one k)
 |some (.flat ks)=>match P.underlying t with
  |some (.struct _)=>some (.flat ks)
  |_=>none
 |_=>none
def placesOf(E:List (Nat×Nat)):List (Nat×Operand)→Option (List (Nat×Nat×iS))
 | []=>some []
 |(i,x)::D=>match E[i]?,mO x,placesOf E D with
  |some p,some y,some r=>some ((p.1,p.2,y)::r)
  |_,_,_=>none
def rD(sz:Nat):List (Nat×Operand)→Option (List (Nat×Nat×iS))
 | []=>some []
 |(i,x)::D=>match mO x,rD sz D with
  |some y,some r=>some ((i*sz,sz,y)::r)
  |_,_=>none
def xw:List (Nat×Operand)→Option (List (Nat×iS))
 | []=>some []
 |(i,x)::D=>match mO x,xw D with
  |some y,some r=>some ((i,y)::r)
  |_,_=>none
def IK:Operand→Operand→Bool
 | .tmp a,.tmp b=>a==b
 | .const (.int .i64 a),.const (.int .i64 b)=>a==b
 |_,_=>false
def tL(P:Program)(sh:Nat)(c:Call):Option nO:=
 match c.callee with
 | .value (.func f)=>(BI c.args.toList).map fun as=> .callf f as
 | .value x=>match mO x,BI c.args.toList with
   |some y,some as=>some (.callv y as)
   |_,_=>none
 | .builtin .len=>match c.argTypes[0]?,c.args.toList with
   |some t,[x]=>match P.underlying t,mO x with
    |some .string,some y=>some (.lenS y)
    |some (.slice _),some y=>some (.lenV y)
    |some (.map _ _),some y=>some (.lenM y)
    |some (.array n _),some _=>some (.lenC n)
    |_,_=>none
   |_,_=>none
 | .builtin .append=>match c.argTypes.toList,c.args.toList with
   | [t,u],[x,y]=>match P.underlying t,P.underlying u,mO x,mO y with
     |some (.slice e),some r,some D,some E=>
      (match r with
      | .slice _| .string=>(match P.info? e with
        |some i=>(match i.zero with
         |some z=>if i.size=z.cells.size&&i.size != 0&&i.bytes != 0 then some (.app i.size i.bytes D E (sh==1||sh==3) (sh==2||sh==3))else none
         |none=>none)
        |none=>none)
      |_=>none)
     |_,_,_,_=>none
   |_,_=>none
 | .builtin .min=>(BI c.args.toList).map fun as=> .mm false as
 | .builtin .max=>(BI c.args.toList).map fun as=> .mm true as
 |_=>none
def kq(P:Program)(sh:Nat):Op→Option nO
 | .move x| .assign x=>(mO x).map .mv
 | .pick c a b=>match mO c,mO a,mO b with
   |some c,some a,some b=>some (.pick c a b)
   |_,_,_=>none
 | .alloc t=>match tK P t with
   |some z=>if noTup z then some (.alloc (cellsOf z) (sh==1))else none
   |none=>none
 | .box _ x=>(mO x).map fun y=> .box y (sh==1)
 | .build t H=>match tK P t,P.underlying t with
   |some z,some (.struct E)=>(match E.toList.mapM (fun f=>(P.info? f.type).map fun i=>(f.offset,i.size))with
    |some N=>if noTup z then(placesOf N H.toList).map fun r=> .build (cellsOf z) r else none
    |none=>none)
   |some z,some (.array _ e)=>(match mC P e with|some n=>if noTup z then(rD n H.toList).map fun r=> .build (cellsOf z) r else none|none=>none)
   |_,_=>none
 | .buildSlice t len H=>match P.underlying t with
   |some (.slice e)=>match tK P e,mC P e,xw H.toList with
    |some z,some n,some r=>if noTup z&&n=(cellsOf z).length&&n != 0&&len*n≤16777216 then some (.bsl (cellsOf z) len r)else none
    |_,_,_=>none
   |_=>none
 | .load t x=>match mO x,mC P t,we P t with
   |some y,some n,some F=>some (.ld y n F)
   |_,_,_=>none
 | .store t x v=>match mO x,mO v,mC P t with
   |some y,some u,some n=>some (.st y u n)
   |_,_,_=>none
 | .nilCheck x=>(mO x).map .nck
 | .binOp op t x y _=>match mO x,mO y with
   |some a,some b=>match op,xX P t with
    | .eql,some .bool=>some (.eq false (.one .bool) a b)
    | .neq,some .bool=>some (.eq true (.one .bool) a b)
    |_,some _=>some (.bin op a b)
    | .eql,none=>(EM P t).map fun k=> .eq false k a b
    | .neq,none=>(EM P t).map fun k=> .eq true k a b
    |_,_=>none
   |_,_=>none
 | .unOp op _ x=>(mO x).map (.un op)
 | .convert s t x=>match P.underlying s,P.underlying t,mO x with
   |some (.int _),some (.int k),some y=>some (.cvi k y)
   |_,_,_=>none
 | .makeFunc (.func f) first I=>match BI first.toList,BI I.toList with
   |some a,some c=>some (.mkfn f a c)
   |_,_=>none
 | .makeMap _ none=>some (.mkmap (sh==1))
 | .makeSlice t l c=>match P.underlying t with
   |some (.slice e)=>match P.info? e,tK P e,mO l with
    |some i,some z,some y=>if noTup z&&IK l c&&i.size=(cellsOf z).length&&i.size != 0 then some (.mksl (cellsOf z) i.bytes y (sh==1))else none
    |_,_,_=>none
   |_=>none
 | .slice t x l h m=>match P.underlying t,mO x,wc l,wc h,wc m with
   |some .string,some y,some l,some h,some none=>some (.slS y l h)
   |some (.slice e),some y,some l,some h,some m=>(match mC P e with|some n=>if n != 0&&(m.isNone||h.isSome)then some (.slV n y l h m)else none|none=>none)
   |_,_,_,_,_=>none
 | .fieldAddr s x f=>match P.underlying s,mO x with
   |some (.struct E),some y=>(match E[f]? with
    |some D=>(match mC P D.type with|some n=>if n != 0 then some (.fa y D.offset)else none|none=>none)
    |none=>none)
   |_,_=>none
 | .field s x f=>match P.underlying s,mO x with
   |some (.struct E),some y=>(match E[f]? with
    |some D=>(match mC P D.type,we P D.type with|some n,some F=>some (.fld y D.offset n F)|_,_=>none)
    |none=>none)
   |_,_=>none
 | .indexAddr t x j=>match P.underlying t,mO x,mO j with
   |some (.slice e),some y,some j=>(match mC P e with|some n=>if n != 0 then some (.ia y j n)else none|none=>none)
   |some (.array len e),some y,some j=>(match mC P e with|some n=>if n != 0 then some (.iaA y j len n)else none|none=>none)
   |_,_,_=>none
 | .index t x j=>match P.underlying t,mO x,mO j with
   |some .string,some y,some j=>some (.ixS y j)
   |some (.array len e),some y,some j=>(match mC P e,we P e with|some n,some F=>some (.ixA y j len n F)|_,_=>none)
   |_,_,_=>none
 | .lookup t m k O=>match P.underlying t,mO m,mO k with
   |some (.map J U),some m,some k=>(match keyOf P J,tK P U with|some K,some z=>some (.lk K m k z O)|_,_=>none)
   |_,_,_=>none
 | .mapUpdate t m k v=>match P.underlying t,mO m,mO k,mO v with
   |some (.map J _),some m,some k,some v=>(keyOf P J).map fun K=> .mu K m k v
   |_,_,_,_=>none
 | .extract x j=>(mO x).map fun y=> .ext y j
 | .call c=>tL P sh c
 |_=>none
def akc(hs:List Nat)(d:Option Nat):Nat:=
 match d with
 |some d=>if hs.contains d then(if hs.contains (d+100000)then 3 else 1)else if hs.contains (d+100000)then 2 else 0
 |none=>0
def aid:List Nat→Option Nat
 | []=>none
 |h::hs=>if h<1000000 then aid hs else some (h-1000000)
def wF(P:Program)(hs:List Nat)(ops:Array Oper)(o:Oper):Option iz:=
 match kq P (akc hs o.dst) o.op with
 |some op=>match o.guard with
  |none=>some ⟨o.dst,op,none⟩
  |some (j,r)=>match(ops[j]?).bind (·.dst)with
   |some d=>some ⟨o.dst,op,some (d,r)⟩
   |none=>none
 |none=>none
def lF(P:Program)(hs:List Nat)(ops:Array Oper):List Oper→Option (List iz)
 | []=>some []
 |o::r=>match wF P hs ops o,lF P hs ops r with
  |some a,some as=>some (a::as)
  |_,_=>none
def quiet:nO→Bool
 | .mv _| .pick .. | .build .. | .nck _| .bin .. | .eq .. | .un .. | .cvi .. | .mkfn .. | .slS .. | .slV .. | .fa .. | .fld .. | .ia .. | .iaA .. | .ixS .. | .ixA .. | .ext .. | .lenS _| .lenV _| .lenC _| .mm .. =>true
 |_=>false
def kl(o:Oper):List Nat:=(o.after.toList.filter (Region.binds .any)).map (·.on)
def IL(r:List Nat)(D:List Nat):Nat:=D.foldl (fun m p=>m ||| 2 ^ p ||| iN 0 r p) 0
def rM:List (List Nat)→List Nat→List Nat
 | [],r=>r
 |ps::D,r=>rM D (r++ [IL r ps])
def zN:Nat→List (List Nat)→Bool
 |_,[]=>true
 |i,D::r=>D.all (· <i)&&zN (i+1) r
def nU(x y:iz):Bool:=
 (match x.d with|some d=> !(looks y).contains d&& !(y.d==some d)|none=>true)&&(match y.d with|some d=> !(looks x).contains d|none=>true)
def EN(m:Nat)(as:List iz):List (Nat×iz):=(as.zipIdx.map fun p=>(p.2,p.1)).filter fun p=> !m.testBit p.1
def zO:List Nat→List iz→List iz→Bool
 |_,_,[]=>true
 | [],_,_=>false
 |m::E,r,a::D=>((EN m r).all fun p=>nU p.2 a)&&zO E (r++ [a]) D
def tM:List Nat→List iz→List iz→List (List Nat×iz)
 |m::E,r,a::D=>((if quiet a.op then []else((EN m r).filter fun p=> !quiet p.2.op).map (·.1)),a)::tM E (r++ [a]) D
 |_,_,_=> []
def atn(r D:iz):Bool:=match r,D with
 |⟨none,.st (.t x) (.c (.b true)) 1,none⟩,⟨none,.st (.t y) (.c (.b false)) 1,none⟩=>x==y
 |_,_=>false
def IM(F:List (List Nat)):Bool:=match F with
 | [[],D,E,r]=>D.contains 0&&E.contains 0&&D.all (· <1)&&E.all (· <1)&&r.contains 1&&r.contains 2&&r.all (· <3)
 |_=>false
def Qr(P:Program)(hs:List Nat)(a:Code)(D r:iA):iA:=match a with
 | .region _ ops true=>(match lF P hs ops ops.toList with
   |some [H,E,F,I]=>if IM (ops.toList.map kl)&&atn E F then .fork [H,E,F,I] [H,F,E,I] r else .seq D r
   |_=> .seq D r)
 |_=> .seq D r
def oA(P:Program)(hs:List Nat):Code→Option iA
 | .skip=>some .skip
 | .region _ ops false=>(lF P hs ops ops.toList).map .region
 | .region _ ops true=>
   match lF P hs ops ops.toList with
   |some as=>
    let r:=ops.toList.map kl
    if zN 0 r&&zO (rM r []) [] as then some (.draws (tM (rM r []) [] as))else none
   |none=>none
 | .seq a b=>match oA P hs a,oA P hs b with
   |some D,some E=>some (Qr P hs a D E)
   |_,_=>none
 | .cond c a b=>match mO c,oA P hs a,oA P hs b with
   |some c,some a,some b=>some (.cond c a b)
   |_,_,_=>none
 | .block id a=>(oA P hs a).map (.block id)
 | .loop a=>(oA P hs a).map .loop
 | .exit id=>some (.exit id)
 | .ret=>some .ret
 |_=>none
def uT(P:Program):List ResultVar→Option (List qS)
 | []=>some []
 | .tmp t::r=>(uT P r).map (.tmp t:: ·)
 | .cell a t::r=>match mC P t,we P t,uT P r with
   |some n,some D,some r=>some (.cell a n D::r)
   |_,_,_=>none
def Hj(P:Program)(hs:List Nat)(D:Bool)(r:Func):Option iC:=
 if r.name== "runtime.NumGoroutine" then none else
 match r.body with
 |none=>none
 |some c=>match oA P hs c,uT P r.results.toList with
  |some c,some E=>some ⟨r.ntmps,c,E,D,aid hs⟩
  |_,_=>none
end Go.Ev
namespace Go.Ev
open Go
structure LG where
 blk:Nat
 off:Nat
 ext:Nat
abbrev jf:=Sp→Nat→Nat→LG
abbrev iP:=Nat→Nat→Prop
mutual
def PRel(w:World)(M:iP):T→Value→Prop
 | .b x,v=>v= .bool x
 | .i k n,v=>v= .int k n
 | .s l,v=> ∃H,v= .string H∧bytesN H=l
 | .nilsl,v=>v= .slice none 0 0
 | .sl cs len ex,v=> ∃r off E sp,v= .slice (some ⟨r,off,sp⟩) len E∧len≤E∧(ex=true→E=len)∧(sp=none∨E=0)∧jd w M r off cs
 | .nilptr,v=>v= .pointer none
 | .vp cs,v=> ∃r off,v= .pointer (some ⟨r,off,none⟩)∧jd w M r off cs
 | .nilmp,v=>v= .map none
 | .vm ks K,v=> ∃r F D,v= .map (some r)∧w.heap[r]? =some (.map F D)∧MapKept.Stamped F D∧(∀o,¬M r o)∧PList w M ks (F.toList.map (·.key))∧PList w M K (F.toList.map (·.val))
 | .nilfn,v=>v= .nilFunc
 | .fn f a c,v=> ∃I J,v= .func (.func f) I J∧PList w M a I.toList∧PList w M c J.toList
 | .agg cs,v=> ∃a,v= .agg a∧PList w M cs a.toList∧cs.all single=true
 | .tup cs,v=> ∃a,v= .tuple a∧PList w M cs a.toList
 | .any,_=>True
 | .isl ..,_=>False
 | .ptr ..,_=>False
 | .mp ..,_=>False
def PList(w:World)(M:iP):List T→List Value→Prop
 | [],r=>r= []
 |t::ts,r=> ∃u us,r=u::us∧PRel w M t u∧PList w M ts us
def jd(w:World)(M:iP)(r off:Nat):List T→Prop
 | []=>True
 |c::cs=>(∃v,w.cell? ⟨r,off,none⟩=some v∧ ¬M r off∧PRel w M c v∧single c=true)∧jd w M r (off+1) cs
end
mutual
def iE(β:jf)(G:Sp→Nat→Nat)(w:World)(M:iP):T→Value→Prop
 | .isl sp k g off len sz,v=>g≤G sp k∧ ∃r,v= .slice (some ⟨(β sp k g).blk,(β sp k g).off+off,none⟩) len r∧len≤r∧off+r*sz≤(β sp k g).ext
 | .ptr sp k g off,v=>g≤G sp k∧v= .pointer (some ⟨(β sp k g).blk,(β sp k g).off+off,none⟩)
 | .mp sp k g,v=>g≤G sp k∧v= .map (some (β sp k g).blk)
 | .fn f a c,v=> ∃D E,v= .func (.func f) D E∧iF β G w M a D.toList∧iF β G w M c E.toList
 | .agg cs,v=> ∃a,v= .agg a∧iF β G w M cs a.toList∧cs.all single=true
 | .tup cs,v=> ∃a,v= .tuple a∧iF β G w M cs a.toList
 | .any,_=>True
 | .b x,v=>v= .bool x
 | .i k n,v=>v= .int k n
 | .s l,v=> ∃F,v= .string F∧bytesN F=l
 | .nilsl,v=>v= .slice none 0 0
 | .sl cs len ex,v=>PRel w M (.sl cs len ex) v
 | .nilptr,v=>v= .pointer none
 | .vp cs,v=>PRel w M (.vp cs) v
 | .nilmp,v=>v= .map none
 | .vm ks H,v=>PRel w M (.vm ks H) v
 | .nilfn,v=>v= .nilFunc
def iF(β:jf)(G:Sp→Nat→Nat)(w:World)(M:iP):List T→List Value→Prop
 | [],r=>r= []
 |t::ts,r=> ∃u us,r=u::us∧iE β G w M t u∧iF β G w M ts us
end
structure lG (w:World) (M:iP) (w':World) (M':iP):Prop where
 cell: ∀b o v,w.cell? ⟨b,o,none⟩=some v→ ¬M b o→w'.cell? ⟨b,o,none⟩=some v
 map: ∀(b:Nat) es c,w.heap[b]? =some (.map es c)→(∀o,¬M b o)→w'.heap[b]? =some (.map es c)
 m: ∀b o,b<w.heap.size→M' b o→M b o
theorem zP{w:World}{b o:Nat}{v:Value}(h:w.cell? ⟨b,o,none⟩=some v):b<w.heap.size:=by
 grind [World.cell?]
theorem sS{w:World}{b:Nat}{o:Obj}(h:w.heap[b]? =some o):b<w.heap.size:=by
 grind
mutual
theorem PRel.mono{w w':World}{M M':iP}(k:lG w M w' M'): ∀(t:T) (v:Value),PRel w M t v→PRel w' M' t v
 | .b x,v,h=>by grind [PRel]
 | .i _ n,v,h=>by grind [PRel]
 | .s l,v,h=>by grind [PRel]
 | .nilsl,v,h=>by grind [PRel]
 | .sl cs len ex,v,h=>by
   simp only[PRel]at h ⊢
   obtain⟨r,off,J,sp,D,E,F,K,I⟩:=h
   exact⟨r,off,J,sp,D,E,F,K,jd.mono k r off cs I⟩
 | .nilptr,v,h=>by grind [PRel]
 | .vp cs,v,h=>by
   simp only[PRel]at h ⊢
   obtain⟨r,off,D,I⟩:=h
   exact⟨r,off,D,jd.mono k r off cs I⟩
 | .nilmp,v,h=>by grind [PRel]
 | .vm ks N,v,h=>by
   simp only[PRel]at h ⊢
   obtain⟨r,O,H,D,E,U,F,I,K⟩:=h
   exact⟨r,O,H,D,k.map _ _ _ E F,U,fun o V=>F o (k.m _ _ (sS E) V),PList.mono k ks _ I,PList.mono k N _ K⟩
 | .nilfn,v,h=>by grind [PRel]
 | .fn f a c,v,h=>by
   simp only[PRel]at h ⊢
   obtain⟨W,X,D,E,F⟩:=h
   exact⟨W,X,D,PList.mono k a _ E,PList.mono k c _ F⟩
 | .agg cs,v,h=>by
   simp only[PRel]at h ⊢
   obtain⟨a,D,E,F⟩:=h
   exact⟨a,D,PList.mono k cs _ E,F⟩
 | .tup cs,v,h=>by
   simp only[PRel]at h ⊢
   obtain⟨a,D,E⟩:=h
   exact⟨a,D,PList.mono k cs _ E⟩
 | .any,v,h=>by simp only[PRel]
 | .isl ..,v,h=>by simp only[PRel]at h
 | .ptr ..,v,h=>by simp only[PRel]at h
 | .mp ..,v,h=>by simp only[PRel]at h
theorem PList.mono{w w':World}{M M':iP}(k:lG w M w' M'): ∀(t:List T) (v:List Value),PList w M t v→PList w' M' t v
 | [],v,h=>by grind [PList]
 |t::ts,v,h=>by
  simp only[PList]at h ⊢
  obtain⟨u,us,r,D,E⟩:=h
  exact⟨u,us,r,PRel.mono k t u D,PList.mono k ts us E⟩
theorem jd.mono{w w':World}{M M':iP}(k:lG w M w' M')(r:Nat): ∀(off:Nat) (t:List T),jd w M r off t→jd w' M' r off t
 |off,[],h=>by simp only[jd]
 |off,c::cs,h=>by
  simp only[jd]at h ⊢
  obtain⟨⟨v,D,E,F,H⟩,I⟩:=h
  exact⟨⟨v,k.cell _ _ _ D E,fun J=>E (k.m _ _ (zP D) J),PRel.mono k c v F,H⟩,jd.mono k r (off+1) cs I⟩
end
mutual
theorem iE.mono{β jj:jf}{G G':Sp→Nat→Nat}{w w':World}{M M':iP}(k:lG w M w' M')(GD: ∀sp n g,g≤G sp n→jj sp n g=β sp n g)(E: ∀sp n,G sp n≤G' sp n):
  ∀(t:T) (v:Value),iE β G w M t v→iE jj G' w' M' t v
 | .isl sp n g off len sz,v,h=>by
   grind [iE]
 | .ptr sp n g off,v,h=>by
   grind [iE]
 | .mp sp n g,v,h=>by
   grind [iE]
 | .fn f a c,v,h=>by
   simp only[iE]at h ⊢
   obtain⟨H,I,r,D,F⟩:=h
   exact⟨H,I,r,iF.mono k GD E a _ D,iF.mono k GD E c _ F⟩
 | .agg cs,v,h=>by
   simp only[iE]at h ⊢
   obtain⟨a,r,D,F⟩:=h
   exact⟨a,r,iF.mono k GD E cs _ D,F⟩
 | .tup cs,v,h=>by
   simp only[iE]at h ⊢
   obtain⟨a,r,D⟩:=h
   exact⟨a,r,iF.mono k GD E cs _ D⟩
 | .any,v,h=>by simp only[iE]
 | .b x,v,h=>by grind [iE]
 | .i _ n,v,h=>by grind [iE]
 | .s l,v,h=>by grind [iE]
 | .nilsl,v,h=>by grind [iE]
 | .sl cs len ex,v,h=>by grind [iE,PRel.mono]
 | .nilptr,v,h=>by grind [iE]
 | .vp cs,v,h=>by grind [iE,PRel.mono]
 | .nilmp,v,h=>by grind [iE]
 | .vm ks J,v,h=>by grind [iE,PRel.mono]
 | .nilfn,v,h=>by grind [iE]
theorem iF.mono{β jj:jf}{G G':Sp→Nat→Nat}{w w':World}{M M':iP}(k:lG w M w' M')(GD: ∀sp n g,g≤G sp n→jj sp n g=β sp n g)(r: ∀sp n,G sp n≤G' sp n):
  ∀(t:List T) (v:List Value),iF β G w M t v→iF jj G' w' M' t v
 | [],v,h=>by grind [iF]
 |t::ts,v,h=>by
  simp only[iF]at h ⊢
  obtain⟨u,us,D,E,F⟩:=h
  exact⟨u,us,D,iE.mono k GD r t u E,iF.mono k GD r ts us F⟩
end
mutual
theorem PRel.toV{w:World}{M:iP}(β:jf)(G:Sp→Nat→Nat): ∀(t:T) (v:Value),PRel w M t v→iE β G w M t v
 | .b x,v,h=>by grind [iE,PRel]
 | .i _ n,v,h=>by grind [iE,PRel]
 | .s l,v,h=>by grind [iE,PRel]
 | .nilsl,v,h=>by grind [iE,PRel]
 | .sl cs len ex,v,h=>by grind [iE]
 | .nilptr,v,h=>by grind [iE,PRel]
 | .vp cs,v,h=>by grind [iE]
 | .nilmp,v,h=>by grind [iE,PRel]
 | .vm ks I,v,h=>by grind [iE]
 | .nilfn,v,h=>by grind [iE,PRel]
 | .fn f a c,v,h=>by
   simp only[PRel]at h;simp only[iE]
   obtain⟨F,H,r,D,E⟩:=h
   exact⟨F,H,r,PList.toV β G a _ D,PList.toV β G c _ E⟩
 | .agg cs,v,h=>by
   simp only[PRel]at h;simp only[iE]
   obtain⟨a,r,D,E⟩:=h
   exact⟨a,r,PList.toV β G cs _ D,E⟩
 | .tup cs,v,h=>by
   simp only[PRel]at h;simp only[iE]
   obtain⟨a,r,D⟩:=h
   exact⟨a,r,PList.toV β G cs _ D⟩
 | .any,v,h=>by simp only[iE]
 | .isl ..,v,h=>by simp only[PRel]at h
 | .ptr ..,v,h=>by simp only[PRel]at h
 | .mp ..,v,h=>by simp only[PRel]at h
theorem PList.toV{w:World}{M:iP}(β:jf)(G:Sp→Nat→Nat): ∀(t:List T) (v:List Value),PList w M t v→iF β G w M t v
 | [],v,h=>by grind [iF,PList]
 |t::ts,v,h=>by
  simp only[PList]at h;simp only[iF]
  obtain⟨u,us,r,D,E⟩:=h
  exact⟨u,us,r,PRel.toV β G t u D,PList.toV β G ts us E⟩
end
theorem iF.length{β:jf}{G:Sp→Nat→Nat}{w:World}{M:iP}: ∀(t:List T) (v:List Value),iF β G w M t v→t.length=v.length
 | [],v,h=>by grind [iF]
 |t::ts,v,h=>by
  simp only[iF]at h
  obtain⟨u,us,rfl,_,r⟩:=h
  simp[iF.length ts us r]
theorem PList.length{w:World}{M:iP}: ∀(t:List T) (v:List Value),PList w M t v→t.length=v.length
 | [],v,h=>by grind [PList]
 |t::ts,v,h=>by
  simp only[PList]at h
  obtain⟨u,us,rfl,_,r⟩:=h
  simp[PList.length ts us r]
def zQ(β:jf)(G:Sp→Nat→Nat)(w:World)(M:iP)(ts:List T)(D:List Value):Prop:=
 ∀r G',(∀k g,g≤G .S k→r .S k g=β .S k g)→(∀k,G .S k≤G' .S k)→iF r G' w M ts D
def qy(sp:Sp)(bx:Bool)(β:jf)(G:Sp→Nat→Nat)(w:World)(M:iP)(ts:List T)(r:List Value):Prop:=
 match bx,sp with
 |false,_=>PList w M ts r
 |true,.L=>iF β G w M ts r
 |true,.S=>zQ β G w M ts r
theorem zQ.toV{β:jf}{G:Sp→Nat→Nat}{w:World}{M:iP}{ts:List T}{r:List Value}(h:zQ β G w M ts r):iF β G w M ts r:=h β G (fun _ _ _=>rfl) (fun _=>Nat.le_refl _)
theorem zQ.mono{β jj:jf}{G G':Sp→Nat→Nat}{w w':World}{M M':iP}{ts:List T}{r:List Value}(k:lG w M w' M')(GD: ∀n g,g≤G .S n→jj .S n g=β .S n g)(D: ∀n,G .S n≤G' .S n)(h:zQ β G w M ts r):zQ jj G' w' M' ts r:=
 fun b g F H=>iF.mono k (fun _ _ _ _=>rfl) (fun _ _=>Nat.le_refl _) _ _ (h b g (fun n x E=>(F n x (Nat.le_trans E (D n))).trans (GD n x E)) (fun n=>Nat.le_trans (D n) (H n)))
theorem qy.toV{sp:Sp}{bx:Bool}{β:jf}{G:Sp→Nat→Nat}{w:World}{M:iP}{ts:List T}{r:List Value}(h:qy sp bx β G w M ts r):iF β G w M ts r:=by
 cases bx
 ·exact PList.toV β G _ _ h
 ·cases sp
  ·exact h
  ·exact zQ.toV h
theorem qy.ofP{sp:Sp}{bx:Bool}{β:jf}{G:Sp→Nat→Nat}{w:World}{M:iP}{ts:List T}{r:List Value}(h:PList w M ts r):qy sp bx β G w M ts r:=by
 cases bx
 ·exact h
 ·cases sp
  ·exact PList.toV β G _ _ h
  ·exact fun D G' _ _=>PList.toV D G' _ _ h
theorem qy.mono{sp:Sp}{bx:Bool}{β jj:jf}{G G':Sp→Nat→Nat}{w w':World}{M M':iP}{ts:List T}{r:List Value}(k:lG w M w' M')(GD: ∀sp n g,g≤G sp n→jj sp n g=β sp n g)(D: ∀sp n,G sp n≤G' sp n)
  (h:qy sp bx β G w M ts r):qy sp bx jj G' w' M' ts r:=by
 cases bx
 ·exact PList.mono k _ _ h
 ·cases sp
  ·exact iF.mono k GD D _ _ h
  ·exact zQ.mono k (GD .S) (D .S) h
abbrev St.gens(st:St)(sp:Sp)(k:Nat):Nat:=(st.get sp k).g
def live(e:iy):Prop:=match e.ob with| .none=>False|_=>True
def lM(β:jf)(G:Sp→Nat→Nat)(w:World)(M:iP)(sp:Sp)(k:Nat)(e:iy):Prop:=
 match e.ob with
 | .none=>True
 | .cells cs wm bx=> ∃c el fz,w.heap[(β sp k e.g).blk]? =some (.cells c el fz)∧(β sp k e.g).off+(β sp k e.g).ext≤c.size∧cs.length≤(β sp k e.g).ext∧
     fz=(0,0)∧
     qy sp bx β G w M cs ((c.toList.drop (β sp k e.g).off).take cs.length)∧
     (∀j,wm≤j→j<(β sp k e.g).ext→M (β sp k e.g).blk ((β sp k e.g).off+j))∧cs.all single=true∧wm≤cs.length
 | .map ks E fz=> ∃D r,w.heap[(β sp k e.g).blk]? =some (.map D r)∧MapKept.Stamped D r∧PList w M ks (D.toList.map (·.key))∧PList w M E (D.toList.map (·.val))∧(fz=false→ ∀o,M (β sp k e.g).blk o)
structure mQ where
 w:World
 M:iP
 SB:Nat→Prop
structure jo (B:mQ) (st:St) (w:World) (β:jf) (M:iP):Prop where
 obj: ∀sp k,lM β st.gens w M sp k (st.get sp k)
 dist: ∀sp k lp k',live (st.get sp k)→live (st.get lp k')→(β sp k (st.gens sp k)).blk=(β lp k' (st.gens lp k')).blk→sp=lp∧k=k'
 mlt: ∀b o,M b o→b<w.heap.size
 lblk: ∀k,live (st.get .L k)→B.w.heap.size≤(β .L k (st.gens .L k)).blk
 sblk: ∀k,live (st.get .S k)→B.SB (β .S k (st.gens .S k)).blk∨B.w.heap.size≤(β .S k (st.gens .S k)).blk
 os:w.os=B.w.os
 tape:w.tape=B.w.tape
 output:w.output=B.w.output
 size:B.w.heap.size≤w.heap.size
 same: ∀b,b<B.w.heap.size→ ¬B.SB b→w.heap[b]? =B.w.heap[b]?
 keep:lG B.w B.M w M
 msup: ∀b o,b<B.w.heap.size→ ¬B.SB b→B.M b o→M b o
structure Tr (st:St) (w:World) (β:jf) (M:iP) (jz:St) (w':World) (jj:jf) (M':iP):Prop where
 keep:lG w M w' M'
 beta: ∀sp k g,g≤st.gens sp k→jj sp k g=β sp k g
 gens: ∀sp k,st.gens sp k≤jz.gens sp k
theorem lG.refl(w:World)(M:iP):lG w M w M:=⟨fun _ _ _ h _=>h,fun _ _ _ h _=>h,fun _ _ _ h=>h⟩
theorem lG.trans{w w' D:World}{M M' M'':iP}(a:lG w M w' M')(b:lG w' M' D M'')(hs:w.heap.size≤w'.heap.size):lG w M D M'':=
 ⟨fun x o v h r=>b.cell x o v (a.cell x o v h r) (fun E=>r (a.m _ _ (zP h) E)),
  fun x F c h r=>b.map x F c (a.map x F c h r) (fun o E=>r o (a.m _ _ (sS h) E)),
  fun x o h r=>a.m x o h (b.m x o (Nat.lt_of_lt_of_le h hs) r)⟩
theorem Tr.refl(st:St)(w:World)(β:jf)(M:iP):Tr st w β M st w β M:=⟨.refl w M,fun _ _ _ _=>rfl,fun _ _=>Nat.le_refl _⟩
theorem Tr.trans{st E r:St}{w w' D:World}{β jj atr:jf}{M M' M'':iP}(a:Tr st w β M E w' jj M')(b:Tr E w' jj M' r D atr M'')(hs:w.heap.size≤w'.heap.size):
  Tr st w β M r D atr M'':=
 ⟨a.keep.trans b.keep hs,fun sp k g h=>(b.beta sp k g (Nat.le_trans h (a.gens sp k))).trans (a.beta sp k g h),fun sp k=>Nat.le_trans (a.gens sp k) (b.gens sp k)⟩
theorem Tr.val{st r:St}{w w':World}{β jj:jf}{M M':iP}(a:Tr st w β M r w' jj M'){t:T}{v:Value}(h:iE β st.gens w M t v):iE jj r.gens w' M' t v:=
 iE.mono a.keep a.beta a.gens t v h
structure pt (st:St) (a:Act) (w:World) (β:jf) (M:iP) (n:Nat):Prop where
 size:a.tmps.size=n
 defers:a.defers= []
 slot: ∀t,iE β st.gens w M (an st.fr t) (a.tmps.getD t undef)
end Go.Ev
namespace Go.Ev
open Go
theorem mX(st:St)(sp:Sp)(k:Nat)(e:iy)(r:Sp)(k':Nat):
  (st.up (sp,k,e)).get r k'=if r=sp∧k'=k then e else st.get r k':=by
 cases sp <;> cases r <;> simp[St.up,St.get,iM,iR,tI,iL.get_set]
theorem ml(st:St)(sp:Sp)(k:Nat)(e:iy)(r:Sp)(k':Nat):
  (st.up (sp,k,e)).gens r k'=if r=sp∧k'=k then e.g else st.gens r k':=by
 unfold St.gens;rw[mX];split <;> rfl
theorem heap_alloc(w:World)(o:Obj)(b:Nat):(w.alloc o).heap[b]? =if b=w.heap.size then some o else w.heap[b]? :=by
 show(w.heap.push o)[b]? =_
 grind
theorem pv{w w':World}{b o:Nat}(h:w'.heap[b]? =w.heap[b]?):w'.cell? ⟨b,o,none⟩=w.cell? ⟨b,o,none⟩:=by
 unfold World.cell?;rw[h]
theorem lM.mono{β jj:jf}{G G':Sp→Nat→Nat}{w w':World}{M M':iP}{sp:Sp}{n:Nat}{e:iy}(k:lG w M w' M')(GD: ∀sp n g,g≤G sp n→jj sp n g=β sp n g)(W: ∀sp n,G sp n≤G' sp n)
  (K:e.g≤G sp n) (I:live e→w'.heap[(β sp n e.g).blk]? =w.heap[(β sp n e.g).blk]?) (J:live e→ ∀o,M (β sp n e.g).blk o→M' (β sp n e.g).blk o)
  (h:lM β G w M sp n e):lM jj G' w' M' sp n e:=by
 unfold lM at h ⊢
 rw[GD _ _ _ K]
 obtain⟨g,ob⟩:=e
 cases ob with
 |none=>trivial
 |cells cs wm bx=>
  obtain⟨c,el,fz,D,E,F,H,X,N,O⟩:=h
  refine⟨c,el,fz,(I trivial).trans D,E,F,H, ?_,fun j a b=>J trivial _ (N j a b),O⟩
  grind [qy.mono]
 |map ks Y fz=>
  obtain⟨U,r,D,V,E,F,H⟩:=h
  exact⟨U,r,(I trivial).trans D,V,PList.mono k _ _ E,PList.mono k _ _ F,fun a o=>J trivial o (H a o)⟩
theorem jo.lt{B:mQ}{st:St}{w:World}{β:jf}{M:iP}(h:jo B st w β M){sp:Sp}{k:Nat}(r:live (st.get sp k)):(β sp k (st.gens sp k)).blk<w.heap.size:=by
 have:=h.obj sp k
 unfold lM at this
 unfold St.gens
 generalize st.get sp k=e at*
 obtain⟨g,ob⟩:=e
 cases ob with
 |none=>exact r.elim
 |cells cs wm bx=>grind
 |map ks D fz=>grind
theorem wG(w:World)(M:iP)(o:Obj):lG w M (w.alloc o) M:=
 ⟨fun b off v h _=>by rw[pv (w:=w) (by rw[heap_alloc,if_neg (Nat.ne_of_lt (zP h))])];exact h,
  fun b r c h _=>by rw[heap_alloc,if_neg (Nat.ne_of_lt (sS h))];exact h,fun _ _ _ h=>h⟩
theorem uU(w:World)(M:iP)(o:Obj):lG w M (w.alloc o) (fun b x=>M b x∨b=w.heap.size):=
 ⟨(wG w M o).cell,(wG w M o).map,fun _ _ r h=>h.resolve_right (Nat.ne_of_lt r)⟩
theorem akd{B:mQ}{st:St}{w:World}{β:jf}{M:iP}(h:jo B st w β M)(o:Obj):
  jo B st (w.alloc o) β M∧Tr st w β M st (w.alloc o) β M:=by
 have r:=wG w M o
 have hs:w.heap.size≤(w.alloc o).heap.size:=by show _≤(w.heap.push o).size;simp
 refine⟨⟨fun sp k=> ?_,h.dist,fun b x D=>Nat.lt_of_lt_of_le (h.mlt b x D) hs,h.lblk,h.sblk,h.os,h.tape,h.output,Nat.le_trans h.size hs,fun b E F=> ?_,h.keep.trans r h.size,h.msup⟩,r,fun _ _ _ _=>rfl,fun _ _=>Nat.le_refl _⟩
 ·exact lM.mono r (fun _ _ _ _=>rfl) (fun _ _=>Nat.le_refl _) (Nat.le_refl _) (fun H=>by rw[heap_alloc,if_neg (Nat.ne_of_lt (h.lt H))]) (fun _ _ D=>D) (h.obj sp k)
 ·rw[heap_alloc,if_neg (by have:=h.size;omega)];exact h.same b E F
theorem IN{B:mQ}{st:St}{w:World}{β:jf}{M:iP}(h:jo B st w β M)(n:Nat):
  jo B st {w with drawn:=n} β M∧Tr st w β M st {w with drawn:=n} β M:=by
 have r:lG w M {w with drawn:=n} M:=⟨fun _ _ _ h _=>h,fun _ _ _ h _=>h,fun _ _ _ h=>h⟩
 refine⟨⟨fun sp k=> ?_,h.dist,h.mlt,h.lblk,h.sblk,h.os,h.tape,h.output,h.size,h.same,h.keep.trans r h.size,h.msup⟩,r,fun _ _ _ _=>rfl,fun _ _=>Nat.le_refl _⟩
 exact lM.mono r (fun _ _ _ _=>rfl) (fun _ _=>Nat.le_refl _) (Nat.le_refl _) (fun _=>rfl) (fun _ _ D=>D) (h.obj sp k)
def oI(β:jf)(sp:Sp)(k g:Nat)(s:LG):jf:=fun r k' D=>if r=sp∧k'=k∧D=g then s else β r k' D
theorem jT(β:jf)(sp:Sp)(k g:Nat)(s:LG):oI β sp k g s sp k g=s:=by simp[oI]
theorem zR(β:jf)(sp:Sp)(k g:Nat)(s:LG){r:Sp}{k' D:Nat}(h: ¬(r=sp∧k'=k∧D=g)):oI β sp k g s r k' D=β r k' D:=by grind [oI]
theorem Xv{B:mQ}{st:St}{w:World}{β:jf}{M:iP}(h:jo B st w β M)(sp:Sp)(k g:Nat)(hg:st.gens sp k<g)(o:Obj)(ext:Nat)(ob:Ob)
  (ho:lM (oI β sp k g ⟨w.heap.size,0,ext⟩) (st.up (sp,k,⟨g,ob⟩)).gens (w.alloc o) (fun b x=>M b x∨b=w.heap.size) sp k ⟨g,ob⟩):
  jo B (st.up (sp,k,⟨g,ob⟩)) (w.alloc o) (oI β sp k g ⟨w.heap.size,0,ext⟩) (fun b x=>M b x∨b=w.heap.size)∧
  Tr st w β M (st.up (sp,k,⟨g,ob⟩)) (w.alloc o) (oI β sp k g ⟨w.heap.size,0,ext⟩) (fun b x=>M b x∨b=w.heap.size):=by
 have U:=uU w M o
 have hs:w.heap.size≤(w.alloc o).heap.size:=by show _≤(w.heap.push o).size;simp
 have N: ∀r k' V,V≤st.gens r k'→oI β sp k g ⟨w.heap.size,0,ext⟩ r k' V=β r k' V:=by
  grind [zR]
 have Y: ∀r k',st.gens r k'≤(st.up (sp,k,⟨g,ob⟩)).gens r k':=by
  intro r k'
  rw[ml]
  grind
 have O: ∀r k',(oI β sp k g ⟨w.heap.size,0,ext⟩ r k' ((st.up (sp,k,⟨g,ob⟩)).gens r k'))=if r=sp∧k'=k then⟨w.heap.size,0,ext⟩else β r k' (st.gens r k'):=by
  grind [ml,jT]
 refine⟨⟨fun r k'=> ?_,fun W Z X k2 F H E=> ?_,fun b x I=> ?_,fun k' D=> ?_,fun k' D=> ?_,h.os,h.tape,h.output,Nat.le_trans h.size hs,fun b N hn=> ?_,h.keep.trans U h.size,fun b x h1 h2 h3=> .inl (h.msup b x h1 h2 h3)⟩,U,N,Y⟩
 ·rw[mX]
  split
  ·grind
  ·exact lM.mono U N Y (Nat.le_refl _) (fun D=>by rw[heap_alloc,if_neg (Nat.ne_of_lt (h.lt D))]) (fun _ _ I=> .inl I) (h.obj r k')
 ·rw[O,O]at E
  rw[mX]at F H
  by_cases J:W=sp∧Z=k <;> by_cases K:X=sp∧k2=k
  ·grind
  ·rw[if_pos J,if_neg K]at E;rw[if_neg K]at H
   exact absurd E.symm (Nat.ne_of_lt (h.lt H))
  ·rw[if_neg J,if_pos K]at E;rw[if_neg J]at F
   exact absurd E (Nat.ne_of_lt (h.lt F))
  ·rw[if_neg J,if_neg K]at E;rw[if_neg J]at F;rw[if_neg K]at H
   exact h.dist _ _ _ _ F H E
 ·rcases I with I|rfl
  ·exact Nat.lt_of_lt_of_le (h.mlt b x I) hs
  ·simp_all
 ·rw[O];rw[mX]at D
  split
  ·exact h.size
  ·rename_i e;rw[if_neg e]at D;exact h.lblk k' D
 ·rw[O];rw[mX]at D
  split
  ·exact .inr h.size
  ·rename_i e;rw[if_neg e]at D;exact h.sblk k' D
 ·rw[heap_alloc,if_neg (by have:=h.size;omega)];exact h.same b N hn
def setBlock(w:World)(b:Nat)(o:Obj):World:={w with heap:=w.heap.setIfInBounds b o}
theorem lb(w:World)(b:Nat)(o:Obj)(x:Nat):(setBlock w b o).heap[x]? =if x=b∧b<w.heap.size then some o else w.heap[x]? :=by
 grind [setBlock]
theorem lX(w:World)(b:Nat)(o:Obj):(setBlock w b o).heap.size=w.heap.size:=by simp[setBlock]
theorem Qs{B:mQ}{st:St}{w:World}{β:jf}{M M':iP}(h:jo B st w β M)(sp:Sp)(k g:Nat)(ob:Ob)(V:live (st.get sp k))(hg:st.gens sp k≤g)(o:Obj)
  (EO: ∀b x,M' b x→M b x) (E: ∀b x,b≠(β sp k (st.gens sp k)).blk→M b x→M' b x)
  (J:lG w M (setBlock w (β sp k (st.gens sp k)).blk o) M')
  (Cx: ¬B.w.heap.size≤(β sp k (st.gens sp k)).blk→B.SB (β sp k (st.gens sp k)).blk)
  (ho:lM (oI β sp k g (β sp k (st.gens sp k))) (st.up (sp,k,⟨g,ob⟩)).gens (setBlock w (β sp k (st.gens sp k)).blk o) M' sp k ⟨g,ob⟩):
  jo B (st.up (sp,k,⟨g,ob⟩)) (setBlock w (β sp k (st.gens sp k)).blk o) (oI β sp k g (β sp k (st.gens sp k))) M'∧
  Tr st w β M (st.up (sp,k,⟨g,ob⟩)) (setBlock w (β sp k (st.gens sp k)).blk o) (oI β sp k g (β sp k (st.gens sp k))) M':=by
 have F: ∀r k' K,K≤st.gens r k'→oI β sp k g (β sp k (st.gens sp k)) r k' K=β r k' K:=by
  grind [jT,Nat.le_antisymm,zR]
 have O: ∀r k',st.gens r k'≤(st.up (sp,k,⟨g,ob⟩)).gens r k':=by
  intro r k'
  rw[ml]
  grind
 have H: ∀r k',(oI β sp k g (β sp k (st.gens sp k)) r k' ((st.up (sp,k,⟨g,ob⟩)).gens r k'))=β r k' (st.gens r k'):=by
  grind [ml,jT]
 have Hq: ∀r k',live ((st.up (sp,k,⟨g,ob⟩)).get r k')→live (st.get r k'):=by
  grind [mX]
 refine⟨⟨fun r k'=> ?_,fun W k1 X k2 Y Z I=> ?_,fun b x N=> ?_,fun k' D=> ?_,fun k' D=> ?_,h.os,h.tape,h.output, ?_,fun b F hn=> ?_,h.keep.trans J h.size,fun b x h1 h2 h3=> ?_⟩,J,F,O⟩
 ·by_cases e:r=sp∧k'=k
  ·grind [mX]
  ·rw[mX,if_neg e]
   have U:live (st.get r k')→(β r k' (st.gens r k')).blk≠(β sp k (st.gens sp k)).blk:=fun l I=>e (h.dist _ _ _ _ l V I)
   exact lM.mono J F O (Nat.le_refl _) (fun l=>by rw[lb,if_neg (fun x=>U l x.1)]) (fun l x N=>E _ _ (U l) N) (h.obj r k')
 ·rw[H,H]at I;exact h.dist _ _ _ _ (Hq _ _ Y) (Hq _ _ Z) I
 ·rw[lX];exact h.mlt b x (EO b x N)
 ·rw[H];exact h.lblk k' (Hq _ _ D)
 ·rw[H];exact h.sblk k' (Hq _ _ D)
 ·rw[lX];exact h.size
 ·rw[lb,if_neg]
  ·exact h.same b F hn
  grind
 ·refine E b x ?_ (h.msup b x h1 h2 h3)
  grind
theorem jo.base{B:mQ}{st:St}{w:World}{β:jf}{M:iP}(h:jo B st w β M){sp:Sp}{k:Nat}(r:live (st.get sp k)):
  ¬B.w.heap.size≤(β sp k (st.gens sp k)).blk→B.SB (β sp k (st.gens sp k)).blk:=by
 intro D
 cases sp with
 |L=>exact absurd (h.lblk k r) D
 |S=>exact(h.sblk k r).resolve_right D
theorem ql{w:World}{b:Nat}{o:Obj}(h:w.heap[b]? =some o):setBlock w b o=w:=by
 unfold setBlock
 have:w.heap.setIfInBounds b o=w.heap:=by
  grind
 rw[this]
theorem tN(β:jf)(sp:Sp)(k g:Nat):oI β sp k g (β sp k g)=β:=by
 grind [oI]
def Hr(M:iP)(s:LG)(n:Nat):iP:=fun b x=>M b x∧ ¬(b=s.blk∧s.off≤x∧x<s.off+n)
def Qt(M:iP)(r:Nat):iP:=fun b x=>M b x∧b≠r
theorem kY{w:World}{M M':iP}(h: ∀b x,M' b x→M b x):lG w M w M':=⟨fun _ _ _ h _=>h,fun _ _ _ h _=>h,fun b x _ r=>h b x r⟩
theorem EP{B:mQ}{st:St}{w:World}{β:jf}{M:iP}(h:jo B st w β M){sp:Sp}{k g wm:Nat}{cs:List T}{bx:Bool}(E:st.get sp k=⟨g,.cells cs wm bx⟩):
  jo B (st.up (sp,k,⟨g,.cells cs cs.length bx⟩)) w β (Hr M (β sp k g) cs.length)∧
  Tr st w β M (st.up (sp,k,⟨g,.cells cs cs.length bx⟩)) w β (Hr M (β sp k g) cs.length):=by
 have D:st.gens sp k=g:=by unfold St.gens;rw[E]
 have K:live (st.get sp k):=by rw[E];trivial
 have F:=h.obj sp k
 rw[E]at F
 unfold lM at F
 obtain⟨c,el,fz,H,V,W,X,Y,Z,N⟩:=F
 have EO: ∀b x,Hr M (β sp k g) cs.length b x→M b x:=fun _ _ I=>I.1
 have O:=kY (w:=w) EO
 have r:=Qs (M':=Hr M (β sp k g) cs.length) h sp k g (.cells cs cs.length bx) K (Nat.le_of_eq D) (.cells c el fz) EO
  (fun b x hb I=>⟨I,fun J=>hb (by rw[D];exact J.1)⟩) (by rw[D,ql H];exact O) (h.base K)
 rw[D,ql H,tN]at r
 refine r ⟨c,el,fz,H,V,W,X, ?_,fun j a b=>⟨Z j (Nat.le_trans N.2 a) b,fun J=>by have:=J.2.2;dsimp only at a b this;omega⟩,N.1,Nat.le_refl _⟩
 have hG: ∀U k',st.gens U k'≤(st.up (sp,k,⟨g,.cells cs cs.length bx⟩)).gens U k':=by
  simp_all[ml,Nat.le_of_eq,Nat.le_refl]
 exact qy.mono O (fun _ _ _ _=>rfl) hG Y
end Go.Ev
namespace Go.Ev
open Go
theorem LH{B:mQ}{st:St}{w:World}{β:jf}{M:iP}(h:jo B st w β M){sp:Sp}{k g:Nat}{ks E:List T}{f:Bool}(H:st.get sp k=⟨g,.map ks E f⟩):
  jo B (st.up (sp,k,⟨g,.map ks E true⟩)) w β (Qt M (β sp k g).blk)∧
  Tr st w β M (st.up (sp,k,⟨g,.map ks E true⟩)) w β (Qt M (β sp k g).blk):=by
 have F:st.gens sp k=g:=by show(st.get sp k).g=g;rw[H]
 have O:live (st.get sp k):=by rw[H];trivial
 have I:=h.obj sp k
 rw[H]at I
 unfold lM at I
 obtain⟨U,r,J,W,X,Y,Z⟩:=I
 have EO: ∀b x,Qt M (β sp k g).blk b x→M b x:=fun _ _ K=>K.1
 have N:=kY (w:=w) EO
 have D:=Qs (M':=Qt M (β sp k g).blk) h sp k g (.map ks E true) O (Nat.le_of_eq F) (.map U r) EO
  (fun b x V K=>⟨K,by rw[F]at V;exact V⟩) (by rw[F,ql J];exact N) (h.base O)
 rw[F,ql J,tN]at D
 exact D ⟨U,r,J,W,PList.mono N _ _ X,PList.mono N _ _ Y,fun e=>by cases e⟩
theorem PList.get{w:World}{M:iP}: ∀{ts:List T} {r:List Value},PList w M ts r→ ∀{j:Nat} {t:T},ts[j]? =some t→ ∃v,r[j]? =some v∧PRel w M t v
 | [],r,h,j,t,D=>by simp at D
 |x::xs,r,h,j,t,D=>by
  simp only[PList]at h
  obtain⟨u,us,rfl,F,E⟩:=h
  cases j with
  |zero=>grind
  |succ j=>simp at D ⊢; exact PList.get E D
theorem iF.get{β:jf}{G:Sp→Nat→Nat}{w:World}{M:iP}: ∀{ts:List T} {r:List Value},iF β G w M ts r→ ∀{j:Nat} {t:T},ts[j]? =some t→ ∃v,r[j]? =some v∧iE β G w M t v
 | [],r,h,j,t,D=>by simp at D
 |x::xs,r,h,j,t,D=>by
  simp only[iF]at h
  obtain⟨u,us,rfl,F,E⟩:=h
  cases j with
  |zero=>grind
  |succ j=>simp at D ⊢; exact iF.get E D
theorem iF.drop{β:jf}{G:Sp→Nat→Nat}{w:World}{M:iP}: ∀{ts:List T} {r:List Value} (n:Nat),iF β G w M ts r→iF β G w M (ts.drop n) (r.drop n)
 |ts,r,0,h=>by simpa using h
 | [],r,n+1,h=>by grind [iF]
 |x::xs,r,n+1,h=>by
  simp only[iF]at h
  obtain⟨u,us,rfl,E,D⟩:=h
  simpa using iF.drop n D
theorem iF.take{β:jf}{G:Sp→Nat→Nat}{w:World}{M:iP}: ∀{ts:List T} {r:List Value} (n:Nat),iF β G w M ts r→iF β G w M (ts.take n) (r.take n)
 |ts,r,0,h=>by simp[iF]
 | [],r,n+1,h=>by grind [iF]
 |x::xs,r,n+1,h=>by
  simp only[iF]at h
  obtain⟨u,us,rfl,D,E⟩:=h
  simp only[List.take_succ_cons,iF]
  exact⟨u,_,rfl,D,iF.take n E⟩
theorem PList.drop{w:World}{M:iP}: ∀{ts:List T} {r:List Value} (n:Nat),PList w M ts r→PList w M (ts.drop n) (r.drop n)
 |ts,r,0,h=>by simpa using h
 | [],r,n+1,h=>by grind [PList]
 |x::xs,r,n+1,h=>by
  simp only[PList]at h
  obtain⟨u,us,rfl,E,D⟩:=h
  simpa using PList.drop n D
theorem PList.take{w:World}{M:iP}: ∀{ts:List T} {r:List Value} (n:Nat),PList w M ts r→PList w M (ts.take n) (r.take n)
 |ts,r,0,h=>by simp[PList]
 | [],r,n+1,h=>by grind [PList]
 |x::xs,r,n+1,h=>by
  simp only[PList]at h
  obtain⟨u,us,rfl,D,E⟩:=h
  simp only[List.take_succ_cons,PList]
  exact⟨u,_,rfl,D,PList.take n E⟩
theorem PList.append{w:World}{M:iP}: ∀{ts ER:List T} {r D:List Value},PList w M ts r→PList w M ER D→PList w M (ts++ER) (r++D)
 | [],ER,r,D,h,E=>by grind [PList]
 |x::xs,ER,r,D,h,E=>by
  simp only[PList]at h
  obtain⟨u,us,rfl,F,H⟩:=h
  simp only[List.cons_append,PList]
  exact⟨u,_,rfl,F,PList.append H E⟩
theorem iF.append{β:jf}{G:Sp→Nat→Nat}{w:World}{M:iP}: ∀{ts ER:List T} {r D:List Value},iF β G w M ts r→iF β G w M ER D→iF β G w M (ts++ER) (r++D)
 | [],ER,r,D,h,E=>by grind [iF]
 |x::xs,ER,r,D,h,E=>by
  simp only[iF]at h
  obtain⟨u,us,rfl,F,H⟩:=h
  simp only[List.cons_append,iF]
  exact⟨u,_,rfl,F,iF.append H E⟩
theorem jd.of{w:World}{M:iP}{r:Nat}{c:Array Value}{el:TypeId}{fz:Nat×Nat}(F:w.heap[r]? =some (.cells c el fz)):
  ∀(ts:List T) (off:Nat),PList w M ts ((c.toList.drop off).take ts.length)→(∀x,off≤x→x<off+ts.length→ ¬M r x)→ts.all single=true→jd w M r off ts
 | [],off,_,_,_=>by simp only[jd]
 |t::ts,off,h,H,hs=>by
  simp only[PList,List.length_cons]at h
  obtain⟨u,us,D,I,J⟩:=h
  simp only[List.all_cons,Bool.and_eq_true]at hs
  have Xw:w.cell? ⟨r,off,none⟩=some u:=by
   unfold World.cell?;rw[F]
   have:((c.toList.drop off).take (ts.length+1))[0]? =some u:=by rw[D];rfl
   grind
  have E:us=(c.toList.drop (off+1)).take ts.length:=by
   apply List.ext_getElem?
   intro j
   have:=congrArg (fun l=>l[j+1]?) D
   grind
  simp only[jd]
  exact⟨⟨u,Xw,H off (Nat.le_refl _) (by simp),I,hs.1⟩,jd.of F ts (off+1) (E▸J) (fun x D I=>H x (by omega) (by simp;omega)) hs.2⟩
def Qu(e:iy):iy:=
 match e.ob with
 | .cells cs _ bx=>⟨e.g,.cells cs cs.length bx⟩
 | .map ks r _=>⟨e.g,.map ks r true⟩
 | .none=>e
def Fz(st r:St):Prop:=r.fr=st.fr∧r.sh.length=st.sh.length∧ ∀sp k,r.get sp k=st.get sp k∨r.get sp k=Qu (st.get sp k)
theorem Fz.refl(st:St):Fz st st:=⟨rfl,rfl,fun _ _=> .inl rfl⟩
theorem acM(e:iy):(Qu e).g=e.g:=by grind [Qu]
theorem Fz.gens{st r:St}(h:Fz st r):r.gens=st.gens:=by
 funext sp k
 rcases h.2.2 sp k with e|e
 ·grind
 ·grind [acM]
theorem jQ(l:List iy)(k:Nat)(e:iy)(h:k<l.length):(iR l k e).length=l.length:=by
 unfold iR
 induction l generalizing k with
 |nil=>simp at h
 |cons x xs ih=>
  cases k with
  |zero=>simp[tq]
  |succ k=>grind [tq,List.length_cons]
theorem Hs{l:List iy}{k:Nat}(h:l.length≤k):iM l k=mN:=by
 unfold iM
 induction l generalizing k with
 |nil=>simp[iN]
 |cons x xs ih=>
  cases k with
  |zero=>simp at h
  |succ k=>grind [iN]
theorem Qv{st:St}{k:Nat}(h:live (st.get .S k)):k<st.sh.length:=by
 rcases Nat.lt_or_ge k st.sh.length with h'|h'
 ·exact h'
 ·simp only[St.get,Hs h']at h;exact h.elim
theorem Fz.up{st r:St}(h:Fz st r){sp:Sp}{k:Nat}{e:iy}(D:st.get sp k=e)(E:live e):Fz st (r.up (sp,k,Qu e)):=by
 refine⟨?_, ?_,fun F k'=> ?_⟩
 ·rw[←h.1];cases sp <;> rfl
 ·rw[←h.2.1]
  cases sp with
  |L=>rfl
  |S=>
   have H:k<r.sh.length:=by rw[h.2.1];exact Qv (D▸E)
   simp[St.up,jQ _ _ _ H]
 ·rw[mX]
  split
  ·grind
  ·exact h.2.2 F k'
def uV(keep:Bool)(β:jf)(G:Sp→Nat→Nat)(w:World)(M:iP)(t:T)(v:Value):Prop:=
 if keep then∀r G',(∀k g,g≤G .S k→r .S k g=β .S k g)→(∀k,G .S k≤G' .S k)→iE r G' w M t v else PRel w M t v
def pw(keep:Bool)(β:jf)(G:Sp→Nat→Nat)(w:World)(M:iP)(t:List T)(v:List Value):Prop:=
 if keep then∀r G',(∀k g,g≤G .S k→r .S k g=β .S k g)→(∀k,G .S k≤G' .S k)→iF r G' w M t v else PList w M t v
theorem uV.ofP{keep:Bool}{β:jf}{G:Sp→Nat→Nat}{w:World}{M:iP}{t:T}{v:Value}(h:PRel w M t v):uV keep β G w M t v:=by
 cases keep
 ·exact h
 ·exact fun r G' _ _=>PRel.toV r G' t v h
theorem uV.toV{keep:Bool}{β:jf}{G:Sp→Nat→Nat}{w:World}{M:iP}{t:T}{v:Value}(h:uV keep β G w M t v):iE β G w M t v:=by
 cases keep
 ·exact PRel.toV β G t v h
 ·exact h β G (fun _ _ _=>rfl) (fun _=>Nat.le_refl _)
theorem pw.toV{keep:Bool}{β:jf}{G:Sp→Nat→Nat}{w:World}{M:iP}{t:List T}{v:List Value}(h:pw keep β G w M t v):iF β G w M t v:=by
 cases keep
 ·exact PList.toV β G t v h
 ·exact h β G (fun _ _ _=>rfl) (fun _=>Nat.le_refl _)
theorem uV.mono{keep:Bool}{β:jf}{G:Sp→Nat→Nat}{w w':World}{M M':iP}{t:T}{v:Value}(k:lG w M w' M')(h:uV keep β G w M t v):uV keep β G w' M' t v:=by
 cases keep
 ·exact PRel.mono k t v h
 ·exact fun r G' a b=>iE.mono k (fun _ _ _ _=>rfl) (fun _ _=>Nat.le_refl _) t v (h r G' a b)
theorem pw.mono{keep:Bool}{β:jf}{G:Sp→Nat→Nat}{w w':World}{M M':iP}{t:List T}{v:List Value}(k:lG w M w' M')(h:pw keep β G w M t v):pw keep β G w' M' t v:=by
 cases keep
 ·exact PList.mono k t v h
 ·exact fun r G' a b=>iF.mono k (fun _ _ _ _=>rfl) (fun _ _=>Nat.le_refl _) t v (h r G' a b)
theorem pw.nil{keep:Bool}{β:jf}{G:Sp→Nat→Nat}{w:World}{M:iP}:pw keep β G w M [] []:=by
 cases keep
 ·exact(by simp[PList]:PList w M [] [])
 ·exact fun r G' _ _=>by simp[iF]
theorem pw.cons{keep:Bool}{β:jf}{G:Sp→Nat→Nat}{w:World}{M:iP}{t:T}{v:Value}{ts:List T}{r:List Value}(h:uV keep β G w M t v)(D:pw keep β G w M ts r):pw keep β G w M (t::ts) (v::r):=by
 cases keep
 ·show PList w M (t::ts) (v::r)
  simp only[PList];exact⟨v,r,rfl,h,D⟩
 ·exact fun E G' a b=>by simp only[iF];exact⟨v,r,rfl,h E G' a b,D E G' a b⟩
theorem Q.run_bind{α γ:Type}(h:Sp→Nat→iy)(nx:Nat): ∀(q:Q α) (f:α→Q γ),(q.bind f).run h nx=(q.run h nx).bind fun a=>(f a).run h nx
 | .ret a,f=>by simp[Q.bind,Q.run]
 | .fail,f=>by simp[Q.bind,Q.run]
 | .rd sp k g,f=>by simp_all[Q.bind,Q.run,Q.run_bind]
 | .new g,f=>by simp_all[Q.bind,Q.run,Q.run_bind]
theorem lJ(st:St)(a b:List Up):st.ups (a++b)=(st.ups a).ups b:=by
 induction a generalizing st with
 |nil=>rfl
 |cons x xs ih=>grind [St.ups]
def atu(keep:Bool)(st:St)(q:Q (T×List Up))(t:T):Prop:=
 ∀(B:mQ) (r:St) (w:World) (β:jf) (M:iP) (v:Value) (D:T) (us:List Up) (nx:Nat),Fz st r→jo B r w β M→iE β st.gens w M t v→q.run st.get nx=some (D,us)→
  ∃M',jo B (r.ups us) w β M'∧Fz st (r.ups us)∧(∀b x,M' b x→M b x)∧uV keep β st.gens w M' D v∧(single t=true→single D=true)
def atv(keep:Bool)(st:St)(q:Q (List T×List Up))(ts:List T):Prop:=
 ∀(B:mQ) (r:St) (w:World) (β:jf) (M:iP) (D:List Value) (ER:List T) (us:List Up) (nx:Nat),Fz st r→jo B r w β M→iF β st.gens w M ts D→q.run st.get nx=some (ER,us)→
  ∃M',jo B (r.ups us) w β M'∧Fz st (r.ups us)∧(∀b x,M' b x→M b x)∧pw keep β st.gens w M' ER D∧(ts.all single=true→ER.all single=true)∧ER.length=ts.length
theorem qm{keep:Bool}{st:St}{f:T→Q (T×List Up)}(N: ∀t,atu keep st (f t) t): ∀ts,atv keep st (jm f ts) ts
 | []=>by
   intro B E w β M W ER us nx F h D r
   simp only[iF]at D;subst D
   simp[jm,Q.run]at r
   obtain⟨rfl,rfl⟩:=r
   exact⟨M,h,F,fun _ _ h=>h,pw.nil,fun h=>h,rfl⟩
 |t::ts=>by
  intro B E w β M W ER us nx F h D r
  simp only[iF]at D
  obtain⟨u,O,rfl,X,Y⟩:=D
  simp only[jm,Q.run_bind]at r
  cases H:(f t).run st.get nx with
  |none=>simp[H]at r
  |some p=>
   obtain⟨Z,LI⟩:=p
   simp only[H,Option.bind_some]at r
   cases I:(jm f ts).run st.get nx with
   |none=>simp[I]at r
   |some q=>
    obtain⟨J,K⟩:=q
    simp only[I,Option.bind_some,Q.run,Option.some.injEq,Prod.mk.injEq]at r
    obtain⟨rfl,rfl⟩:=r
    obtain⟨M1,a1,a2,U,a4,a5⟩:=N t B E w β M u Z LI nx F h X H
    have k1:=kY (w:=w) U
    obtain⟨M2,b1,b2,V,b4,b5,b6⟩:=qm N ts B (E.ups LI) w β M1 O J K nx a2 a1 (iF.mono k1 (fun _ _ _ _=>rfl) (fun _ _=>Nat.le_refl _) ts O Y) I
    refine⟨M2,by rw[lJ];exact b1,by rw[lJ];exact b2,fun b x hm=>U b x (V b x hm),pw.cons (a4.mono (kY V)) b4, ?_,by simp[b6]⟩
    grind
theorem oJ{cs:List T}(h:cs.all single=true)(a n:Nat):((cs.drop a).take n).all single=true:=by
 grind
theorem Cy(keep:Bool)(st:St): ∀(n:Nat) (t:T),atu keep st (fz keep n t) t:=by
 intro n
 induction n generalizing keep with
 |zero=>intro t B F w β M v t' us nx _ _ _ r;simp[fz,Q.run]at r
 |succ n ih=>
  intro t B F w β M v t' us nx H h V r
  have plain:(t',us)=(t,[])→(PRel w M t v)→ ∃M',jo B (F.ups us) w β M'∧Fz st (F.ups us)∧(∀b x,M' b x→M b x)∧uV keep β st.gens w M' t' v∧(single t=true→single t'=true):=by
   intro e hp
   simp only[Prod.mk.injEq]at e
   obtain⟨rfl,rfl⟩:=e
   exact⟨M,h,H,fun _ _ h=>h,uV.ofP hp,fun h=>h⟩
  cases t with
  |b x=>grind [fz,Q.run,iE,PRel]
  |i k x=>grind [fz,Q.run,iE,PRel]
  |s x=>grind [fz,Q.run,iE,PRel]
  |nilsl=>grind [fz,Q.run,iE,PRel]
  |sl cs len ex=>grind [fz,Q.run,iE]
  |nilptr=>grind [fz,Q.run,iE,PRel]
  |vp cs=>grind [fz,Q.run,iE]
  |nilmp=>grind [fz,Q.run,iE,PRel]
  |vm ks vs=>grind [fz,Q.run,iE]
  |nilfn=>grind [fz,Q.run,iE,PRel]
  |any=>grind [fz,Q.run,PRel]
  |fn f a c=>
   simp only[iE]at V
   obtain⟨fa,fc,rfl,h1,h2⟩:=V
   simp only[fz,Q.run_bind]at r
   cases D:(jm (fz keep n) a).run st.get nx with
   |none=>simp[D]at r
   |some p=>
    obtain⟨a1,LI⟩:=p
    simp only[D,Option.bind_some]at r
    cases h4:(jm (fz keep n) c).run st.get nx with
    |none=>simp[h4]at r
    |some q=>
     obtain⟨c2,us2⟩:=q
     simp only[h4,Option.bind_some,Q.run,Option.some.injEq,Prod.mk.injEq]at r
     obtain⟨rfl,rfl⟩:=r
     obtain⟨M1,x1,Y,x3,Z,x5,_⟩:=qm (fun t=>ih keep t) a B F w β M _ a1 LI nx H h h1 D
     have k1:=kY (w:=w) x3
     obtain⟨M2,y1,y2,y3,y4,y5,_⟩:=qm (fun t=>ih keep t) c B (F.ups LI) w β M1 _ c2 us2 nx Y x1 (iF.mono k1 (fun _ _ _ _=>rfl) (fun _ _=>Nat.le_refl _) _ _ h2) h4
     refine⟨M2,by rw[lJ];exact y1,by rw[lJ];exact y2,fun b x I=>x3 b x (y3 b x I), ?_,fun _=>rfl⟩
     have E:=pw.mono (kY (w:=w) y3) Z
     cases keep
     ·show PRel w M2 (.fn f a1 c2) (.func (.func f) fa fc)
      simp only[PRel];exact⟨fa,fc,rfl,E,y4⟩
     ·exact fun jj G' p q=>by simp only[iE];exact⟨fa,fc,rfl,E jj G' p q,y4 jj G' p q⟩
  |agg cs=>
   simp only[iE]at V
   obtain⟨a,rfl,h1,h2⟩:=V
   simp only[fz,Q.run_bind]at r
   cases D:(jm (fz keep n) cs).run st.get nx with
   |none=>simp[D]at r
   |some p=>
    obtain⟨a1,LI⟩:=p
    simp only[D,Option.bind_some,Q.run,Option.some.injEq,Prod.mk.injEq]at r
    obtain⟨rfl,rfl⟩:=r
    obtain⟨M1,x1,Y,x3,Z,x5,_⟩:=qm (fun t=>ih keep t) cs B F w β M _ a1 LI nx H h h1 D
    refine⟨M1,x1,Y,x3, ?_,fun h=>h⟩
    cases keep
    ·show PRel w M1 (.agg a1) (.agg a)
     simp only[PRel];exact⟨a,rfl,Z,x5 h2⟩
    ·exact fun jj G' p q=>by simp only[iE];exact⟨a,rfl,Z jj G' p q,x5 h2⟩
  |tup cs=>
   simp only[iE]at V
   obtain⟨a,rfl,h1⟩:=V
   simp only[fz,Q.run_bind]at r
   cases D:(jm (fz keep n) cs).run st.get nx with
   |none=>simp[D]at r
   |some p=>
    obtain⟨a1,LI⟩:=p
    simp only[D,Option.bind_some,Q.run,Option.some.injEq,Prod.mk.injEq]at r
    obtain⟨rfl,rfl⟩:=r
    obtain⟨M1,x1,Y,x3,Z,x5,_⟩:=qm (fun t=>ih keep t) cs B F w β M _ a1 LI nx H h h1 D
    refine⟨M1,x1,Y,x3, ?_,fun h=>h⟩
    cases keep
    ·show PRel w M1 (.tup a1) (.tuple a)
     simp only[PRel];exact⟨a,rfl,Z⟩
    ·exact fun jj G' p q=>by simp only[iE];exact⟨a,rfl,Z jj G' p q⟩
  |isl sp k g off len sz=>
   simp only[fz]at r
   by_cases W:(keep&&sp== .S)=true
   ·simp only[W,if_true,Q.run,Option.some.injEq,Prod.mk.injEq]at r
    obtain⟨rfl,rfl⟩:=r
    simp only[Bool.and_eq_true,beq_iff_eq]at W
    obtain⟨rfl,rfl⟩:=W
    refine⟨M,h,H,fun _ _ h=>h,fun jj G' p q=> ?_,fun h=>h⟩
    grind [iE]
   ·rw[if_neg W]at r
    simp only[Q.run]at r
    split at r
    ·rename_i hg
     generalize J:st.get sp k=e at r hg
     obtain⟨X,ob⟩:=e
     dsimp only at hg;subst hg
     cases ob with
     |none=>simp[Q.run]at r
     |map _ _ _=>simp[Q.run]at r
     |cells cs wm bx=>
      cases bx with
      |true=>
       dsimp only at r
       split at r
       ·rename_i hle
        simp only[Q.run_bind]at r
        cases D:(jm (fz false n) ((cs.drop off).take (len*sz))).run st.get nx with
        |none=>simp[D]at r
        |some p=>
         obtain⟨c1,LI⟩:=p
         simp only[D,Option.bind_some,Q.run,Option.some.injEq,Prod.mk.injEq]at r
         obtain⟨rfl,rfl⟩:=r
         have gg:F.gens=st.gens:=H.gens
         have N: ∃U1,F.get sp k=⟨X,.cells cs U1 true⟩:=by
          rcases H.2.2 sp k with x|x
          ·exact⟨wm,by rw[x,J]⟩
          ·exact⟨cs.length,by rw[x,J];rfl⟩
         obtain⟨wm0,N⟩:=N
         have O:=h.obj sp k
         rw[N]at O
         unfold lM at O
         obtain⟨c,el,fzz,o1,o2,o3,o4,o5,o6,o7,o8⟩:=O
         dsimp only at o1 o2 o3 o4 o5 o6
         have o5':iF β st.gens w M cs ((c.toList.drop (β sp k X).off).take cs.length):=by
          rw[←gg]
          exact o5.toV
         have K:((cs.drop off).take (len*sz)).length=len*sz:=by simp;omega
         obtain⟨M1,x1,Y,x3,Z,x5,x6⟩:=qm (fun t=>ih false t) ((cs.drop off).take (len*sz)) B F w β M _ c1 LI nx H h (iF.take (len*sz) (iF.drop off o5')) D
         have GF: ∃U1,(F.ups LI).get sp k=⟨X,.cells cs U1 true⟩:=by
          rcases Y.2.2 sp k with x|x
          ·exact⟨wm,by rw[x,J]⟩
          ·exact⟨cs.length,by rw[x,J];rfl⟩
         obtain⟨U1,GF⟩:=GF
         obtain⟨r1,r2⟩:=EP x1 GF
         have U:=Y.up J trivial
         rw[lJ]
         refine⟨_,r1,U,fun b x I=>x3 b x I.1, ?_,fun _=>rfl⟩
         apply uV.ofP
         simp only[iE]at V
         obtain⟨Xx,cap,rfl,IP,hv3⟩:=V
         simp only[PRel]
         refine⟨_,_,cap,none,rfl,IP,(fun e=>by cases e),.inl rfl, ?_⟩
         have E:PList w (Hr M1 (β sp k X) cs.length) c1 (((c.toList.drop (β sp k X).off).take cs.length).drop off |>.take (len*sz)):=PList.mono r2.keep _ _ Z
         refine jd.of o1 _ _ ?_ ?_ (x5 (oJ o7 _ _))
         ·rw[x6,K]
          rw[List.drop_take,List.drop_drop,List.take_take]at E
          have e:min (len*sz) (cs.length-off)=len*sz:=by omega
          rw[e]at E
          exact E
         ·intro x h1 h2 I
          rw[x6,K]at h2
          exact I.2 ⟨rfl,by omega,by omega⟩
       ·simp[Q.run]at r
      |false=>
       dsimp only at r
       split at r
       ·rename_i hle
        simp only[Q.run,Option.some.injEq,Prod.mk.injEq]at r
        obtain⟨rfl,rfl⟩:=r
        have GF: ∃U1,F.get sp k=⟨X,.cells cs U1 false⟩:=by
         rcases H.2.2 sp k with x|x
         ·exact⟨wm,by rw[x,J]⟩
         ·exact⟨cs.length,by rw[x,J];rfl⟩
        obtain⟨U1,GF⟩:=GF
        obtain⟨r1,r2⟩:=EP h GF
        have U:=H.up J trivial
        refine⟨_,r1,U,fun b x I=>I.1, ?_,fun _=>rfl⟩
        apply uV.ofP
        have O:=r1.obj sp k
        rw[mX,if_pos ⟨rfl,rfl⟩]at O
        unfold lM at O
        obtain⟨c,el,fzz,o1,o2,o3,o4,o5,o6,o7,o8⟩:=O
        dsimp only at o1 o2 o3 o4 o5 o6
        simp only[iE]at V
        obtain⟨Xx,cap,rfl,IP,hv3⟩:=V
        simp only[PRel]
        refine⟨_,_,cap,none,rfl,IP,(fun e=>by cases e),.inl rfl, ?_⟩
        have K:((cs.drop off).take (len*sz)).length=len*sz:=by simp;omega
        refine jd.of o1 _ _ ?_ ?_ (oJ o7 _ _)
        ·have:=PList.take (len*sz) (PList.drop off o5)
         rw[List.drop_take,List.drop_drop,List.take_take]at this
         rw[K]
         have e:min (len*sz) (cs.length-off)=len*sz:=by omega
         rw[e]at this
         exact this
        ·intro x h1 h2 I
         rw[K]at h2
         exact I.2 ⟨rfl,by omega,by omega⟩
       ·simp[Q.run]at r
    ·simp[Q.run]at r
  |ptr sp k g off=>
   simp only[fz]at r
   by_cases W:(keep&&sp== .S)=true
   ·simp only[W,if_true,Q.run,Option.some.injEq,Prod.mk.injEq]at r
    obtain⟨rfl,rfl⟩:=r
    simp only[Bool.and_eq_true,beq_iff_eq]at W
    obtain⟨rfl,rfl⟩:=W
    refine⟨M,h,H,fun _ _ h=>h,fun jj G' p q=> ?_,fun h=>h⟩
    grind [iE]
   ·rw[if_neg W]at r
    simp only[Q.run]at r
    split at r
    ·rename_i hg
     generalize J:st.get sp k=e at r hg
     obtain⟨X,ob⟩:=e
     dsimp only at hg;subst hg
     cases ob with
     |none=>simp[Q.run]at r
     |map _ _ _=>simp[Q.run]at r
     |cells cs wm bx=>
      dsimp only at r
      simp only[Q.run_bind]at r
      cases D:(jm (fz false n) (cs.drop off)).run st.get nx with
      |none=>simp[D]at r
      |some p=>
       obtain⟨c1,LI⟩:=p
       simp only[D,Option.bind_some,Q.run,Option.some.injEq,Prod.mk.injEq]at r
       obtain⟨rfl,rfl⟩:=r
       have gg:F.gens=st.gens:=H.gens
       have N: ∃U1,F.get sp k=⟨X,.cells cs U1 bx⟩:=by
        rcases H.2.2 sp k with x|x
        ·exact⟨wm,by rw[x,J]⟩
        ·exact⟨cs.length,by rw[x,J];rfl⟩
       obtain⟨wm0,N⟩:=N
       have O:=h.obj sp k
       rw[N]at O
       unfold lM at O
       obtain⟨c,el,fzz,o1,o2,o3,o4,o5,o6,o7,o8⟩:=O
       dsimp only at o1 o2 o3 o4 o5 o6
       have o5':iF β st.gens w M cs ((c.toList.drop (β sp k X).off).take cs.length):=by
        rw[←gg]
        exact o5.toV
       obtain⟨M1,x1,Y,x3,Z,x5,x6⟩:=qm (fun t=>ih false t) (cs.drop off) B F w β M _ c1 LI nx H h (iF.drop off o5') D
       have GF: ∃U1,(F.ups LI).get sp k=⟨X,.cells cs U1 bx⟩:=by
        rcases Y.2.2 sp k with x|x
        ·exact⟨wm,by rw[x,J]⟩
        ·exact⟨cs.length,by rw[x,J];rfl⟩
       obtain⟨U1,GF⟩:=GF
       obtain⟨r1,r2⟩:=EP x1 GF
       have U:=Y.up J trivial
       rw[lJ]
       refine⟨_,r1,U,fun b x I=>x3 b x I.1, ?_,fun _=>rfl⟩
       apply uV.ofP
       simp only[iE]at V
       obtain⟨Xx,rfl⟩:=V
       simp only[PRel]
       refine⟨_,_,rfl, ?_⟩
       have E:PList w (Hr M1 (β sp k X) cs.length) c1 ((List.drop off ((c.toList.drop (β sp k X).off).take cs.length))):=PList.mono r2.keep _ _ Z
       refine jd.of o1 _ _ ?_ ?_ (x5 (by rw[List.all_eq_true]at o7 ⊢; exact fun x hx=>o7 x (List.mem_of_mem_drop hx)))
       ·rw[x6,List.length_drop]
        rw[List.drop_take,List.drop_drop]at E
        exact E
       ·intro x h1 h2 I
        rw[x6,List.length_drop]at h2
        exact I.2 ⟨rfl,by omega,by omega⟩
    ·simp[Q.run]at r
  |mp sp k g=>
   simp only[fz]at r
   by_cases W:(keep&&sp== .S)=true
   ·simp only[W,if_true,Q.run,Option.some.injEq,Prod.mk.injEq]at r
    obtain⟨rfl,rfl⟩:=r
    simp only[Bool.and_eq_true,beq_iff_eq]at W
    obtain⟨rfl,rfl⟩:=W
    refine⟨M,h,H,fun _ _ h=>h,fun jj G' p q=> ?_,fun h=>h⟩
    grind [iE]
   ·rw[if_neg W]at r
    simp only[Q.run]at r
    split at r
    ·rename_i hg
     generalize J:st.get sp k=e at r hg
     obtain⟨X,ob⟩:=e
     dsimp only at hg;subst hg
     cases ob with
     |none=>simp[Q.run]at r
     |cells _ _ _=>simp[Q.run]at r
     |map ks vs f=>
      simp only[Q.run,Option.some.injEq,Prod.mk.injEq]at r
      obtain⟨rfl,rfl⟩:=r
      have GF: ∃f',F.get sp k=⟨X,.map ks vs f'⟩:=by
       rcases H.2.2 sp k with x|x
       ·grind
       ·exact⟨true,by rw[x,J];rfl⟩
      obtain⟨f',GF⟩:=GF
      obtain⟨r1,r2⟩:=LH h GF
      have U:=H.up J trivial
      refine⟨_,r1,U,fun b x I=>I.1, ?_,fun _=>rfl⟩
      apply uV.ofP
      have O:=r1.obj sp k
      rw[mX,if_pos ⟨rfl,rfl⟩]at O
      unfold lM at O
      obtain⟨es,clock,o1,ost,o2,o3,o4⟩:=O
      simp only[iE]at V
      obtain⟨Xx,rfl⟩:=V
      simp only[PRel]
      exact⟨_,es,clock,rfl,o1,ost,fun o I=>I.2 rfl,o2,o3⟩
    ·simp[Q.run]at r
end Go.Ev
namespace Go.Ev
open Go
abbrev ol(d s n:Nat)(a:Bool):iz:=⟨some d,.ld (.t s) n a,none⟩
abbrev ob(d:Nat)(o:BinOp)(x y:iS):iz:=⟨some d,.bin o x y,none⟩
abbrev on(d s:Nat):iz:=⟨some d,.lenV (.t s),none⟩
end Go.Ev
