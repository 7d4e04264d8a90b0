/- A program that makes the codes out of the model's functions. Conditions: none. -/
import Derived.Test.YtnkgnjecmfkcfaaGreatEvF
import Derived.Test.YtnkgnjecmfkcfaaGreatChecked
import Derived.KernelRfl
set_option maxRecDepth 100000
set_option maxHeartbeats 16000000
set_option linter.all false
namespace Go.Proofs.YtnkgnjecmfkcfaaGreat
open Go Go.Ev
def ad8:Out.ret≠ .nrm:=yv
def tS{k:Nat}:Out.ext k≠ .nrm:=yv
abbrev aL:=Gk Tryz.prog
def aB{f:Nat}{af:ai}{fn:Func}(h:Tryz.prog.funcs[f]? =some fn)(k:EP Tryz.prog [] af.eff fn=some af:=by kernel_rfl):aL f af:=⟨[],fn,h,k⟩
def gIk:Nat→IntKind
 |0=> .i64
 |1=> .u8
 |2=> .u64
 |3=> .i32
 |4=> .u32
 |5=> .i8
 |6=> .i16
 |_=> .u16
def gKi:IntKind→Nat
 | .i64=>0
 | .u8=>1
 | .u64=>2
 | .i32=>3
 | .u32=>4
 | .i8=>5
 | .i16=>6
 | .u16=>7
def gKd(k:Nat):TypeDesc→Nat
 | .int k=>1+16*gKi k
 | .string=>2
 | .bool=>3
 | .slice e=>4+16*e
 | .array n e=>5+16*e+72057594037927936*n
 | .struct fs=>6+16*k+72057594037927936*fs.size
 | .pointer _=>7
 | .map k e=>8+16*k+72057594037927936*e
 | .func _ _ _=>9
 |_=>0
def gFs:List Field→Nat→Nat→Nat
 | [],_,r=>r
 |f::l,i,r=>gFs l (i+1) (r ||| (f.offset+65536*f.type) <<< (32*i))
def gM(P:Array TypeInfo):List TypeInfo→Nat→Nat→Nat→Nat→Nat×Nat
 | [],_,r,_,f=>(r,f)
 |t::l,i,r,k,f=>match(match t.desc with
   | .named _ u=>(match P[u]? with|some j=>j.desc|none=> .invalid)
   |d=>d)with
  | .struct fs=>gM P l (i+1) (r ||| (6+16*k+1048576*t.size+68719476736*t.bytes+72057594037927936*fs.size) <<< (96*i)) (k+fs.size) (gFs fs.toList k f)
  |d=>gM P l (i+1) (r ||| (gKd k d+1048576*t.size+68719476736*t.bytes) <<< (96*i)) k f
def gTS:{c:Nat×Nat // gM Tryz.prog.types Tryz.prog.types.toList 0 0 0 0=c}:=⟨_,by cbv⟩
def gT:=gTS.1.1
def gFT:=gTS.1.2
def gQ(t s m:Nat):Nat:=(gT >>> (96*t+s))%m
def gU(t:Nat):Nat:=gQ t 0 16
def gE(t:Nat):Nat:=gQ t 4 65536
def gS(t:Nat):Nat:=gQ t 20 65536
def gBy(t:Nat):Nat:=gQ t 36 1048576
def gN(t:Nat):Nat:=gQ t 56 65536
def gA(t:Nat):Bool:=match gU t with|5|6=>true|_=>false
def gFd(s f:Nat):Nat×Nat:=let x:=gFT >>> (32*(gE s+f));(x%65536,(x >>> 16)%65536)
def gZf:Nat→Nat→List T
 |0,_=> []
 |n+1,t=>match gU t with
  |1=> [.i (gIk (gE t)) 0]
  |2=> [.s []]
  |3=> [.b false]
  |4=> [.nilsl]
  |5=>(List.replicate (gN t) (gZf n (gE t))).flatten
  |6=>(List.range (gN t)).flatMap fun f=>gZf n (gFd t f).2
  |7=> [.nilptr]
  |8=> [.nilmp]
  |_=> [.nilfn]
def gZ(t:Nat):List T:=gZf 9 t
def gD(x:Operand):aV:=(eV x).getD (.c .any)
def gDs(x:Array Operand):List aV:=(vh x.toList).getD []
def gK(t:Nat):CK:=match gU t with|2=> .str|3=> .bool|_=> .int
def gP(t:Nat):Nat×Operand→Nat×Nat×aV:=match gU t with
 |6=>fun p=>((gFd t p.1).1,gS (gFd t p.1).2,gD p.2)
 |_=>fun p=>(p.1*gS (gE t),gS (gE t),gD p.2)
def gEk(t:Nat):EK:=match gU t with
 |4=> .sl
 |6=> .flat ((List.range (gN t)).map fun f=>gK (gFd t f).2)
 |7=> .ptr
 |8=> .map
 |_=> .one (gK t)
def gB(op:BinOp)(t:Nat)(a b:aV):mP:=match gU t,op with
 |1,_|2,_=> .bin op a b
 |_,.eql=> .eq false (gEk t) a b
 |_,.neq=> .eq true (gEk t) a b
 |_,_=> .bin op a b
def gCl(sh:Nat)(t:List Nat)(x:List aV):Callee→mP
 | .value (.func f)=> .callf f x
 | .value y=> .callv (gD y) x
 | .builtin .len=>match x,t with
   | [y],t::_=>match gU t with
     |2=> .lenS y
     |8=> .lenM y
     |5=> .lenC (gN t)
     |_=> .lenV y
   |_,_=> .lenC 0
 | .builtin .append=>match x,t with
   | [y,z],t::_=> .app (gS (gE t)) (gBy (gE t)) y z (sh==1||sh==3) (sh==2||sh==3)
   |_,_=> .lenC 0
 | .builtin .min=> .mm false x
 |_=> .mm true x
def gO(sh:Nat):Op→mP
 | .move x| .assign x=> .mv (gD x)
 | .pick c a b=> .pick (gD c) (gD a) (gD b)
 | .alloc t=> .alloc (gZ t) (sh==1)
 | .box _ x=> .box (gD x) (sh==1)
 | .build t ps=> .build (gZ t) (ps.toList.map (gP t))
 | .buildSlice t len ps=> .bsl (gZ (gE t)) len (ps.toList.map fun p=>(p.1,gD p.2))
 | .load t x=> .ld (gD x) (gS t) (gA t)
 | .store t x v=> .st (gD x) (gD v) (gS t)
 | .nilCheck x=> .nck (gD x)
 | .binOp op t x y _=>gB op t (gD x) (gD y)
 | .unOp op _ x=> .un op (gD x)
 | .convert _ t x=>match gU t with
   |1=> .cvi (gIk (gE t)) (gD x)
   |_=> .b2s (gD x)
 | .makeFunc (.func f) a c=> .mkfn f (gDs a) (gDs c)
 | .makeSlice t l _=> .mksl (gZ (gE t)) (gBy (gE t)) (gD l) (sh==1)
 | .slice t x l h m=>match gU t with
   |2=> .slS (gD x) (l.map gD) (h.map gD)
   |_=> .slV (gS (gE t)) (gD x) (l.map gD) (h.map gD) (m.map gD)
 | .fieldAddr s x f=> .fa (gD x) (gFd s f).1
 | .field s x f=> .fld (gD x) (gFd s f).1 (gS (gFd s f).2) (gA (gFd s f).2)
 | .indexAddr t x j=>match gU t with
   |5=> .iaA (gD x) (gD j) (gN t) (gS (gE t))
   |_=> .ia (gD x) (gD j) (gS (gE t))
 | .index t x j=>match gU t with
   |5=> .ixA (gD x) (gD j) (gN t) (gS (gE t)) (gA (gE t))
   |_=> .ixS (gD x) (gD j)
 | .extract x j=> .ext (gD x) j
 | .makeMap _ _=> .mkmap (sh==1)
 | .lookup t m k w=> .lk (gEk (gE t)) (gD m) (gD k) (match gA (gN t),gZ (gN t)with
   |false,x::_=>x
   |_,l=> .agg l) w
 | .mapUpdate t m k v=> .mu (gEk (gE t)) (gD m) (gD k) (gD v)
 | .call c=>gCl sh c.argTypes.toList (gDs c.args) c.callee
 |_=> .lenC 0
def gOs(hs:List Nat)(ops:Array Oper):List aG:=ops.toList.map fun o=>⟨o.dst,gO (WN hs o.dst) o.op,match o.guard with
 |some (j,w)=>some (((ops[j]?).bind (·.dst)).getD 0,w)
 |none=>none⟩
def gL(i:Nat):List (Nat×ak)→ak
 | []=> .skip
 |p::l=>bif Nat.beq i p.1 then p.2 else gL i l
def gLh(i:Nat):List (Nat×ak)→Bool
 | []=>false
 |p::l=>bif Nat.beq i p.1 then true else gLh i l
def gPm(c:Nat):Nat→List Edge→Nat
 |m,[]=>m
 |m,e::r=>match e.ground with
  | .textOnly _| .gcOnly _=>gPm c m r
  |_=>gPm c (m ||| 2 ^ e.on ||| (c >>> (128*e.on))%340282366920938463463374607431768211456) r
def gDw:Nat→Nat→List Nat→List Oper→List aG→List (List Nat×aG)
 |i,c,q,o::r,a::s=>let m:=gPm c 0 o.after.toList
  match quiet a.op with
  |true=>([],a)::gDw (i+1) (c ||| m <<< (128*i)) q r s
  |false=>(q.filter fun j=> !m.testBit j,a)::gDw (i+1) (c ||| m <<< (128*i)) (q++ [i]) r s
 |_,_,_,_,_=> []
def gDr(hs:List Nat)(ops:Array Oper):List (List Nat×aG):=gDw 0 0 [] ops.toList (gOs hs ops)
def gX(x:ak):List (List Nat×aG)→ak
 | [p,q,r,s]=>bif aiJ q.2 r.2 then .fork [p.2,q.2,r.2,s.2] [p.2,r.2,q.2,s.2] x else .seq (.draws [p,q,r,s]) x
 |l=> .seq (.draws l) x
def gC(hs:List Nat)(L:List (Nat×ak)):Code→ak
 | .region _ ops d=>match d with
   |false=> .region (gOs hs ops)
   |true=> .draws (gDr hs ops)
 | .seq a b=>match a with
   | .region k ops true=>match gLh (k+1000) L with
     |false=>gX (gC hs L b) (gDr hs ops)
     |true=>gL (k+1000) L
   |a=> .seq (gC hs L a) (gC hs L b)
 | .cond c a b=> .cond (gD c) (gC hs L a) (gC hs L b)
 | .block id a=>match a with
   | .loop _=> .block id (.loop (gL id L))
   |a=> .block id (gC hs L a)
 | .exit id=> .exit id
 | .ret=> .ret
 |_=> .skip
def gFi(i:Nat):Code→Code
 | .seq a b=>match a with
   | .region k o d=>bif Nat.beq i (k+1000)then .seq (.region k o d) b else gFi i b
   |a=>match gFi i a with| .skip=>gFi i b|c=>c
 | .cond _ a b=>match gFi i a with| .skip=>gFi i b|c=>c
 | .block id a=>match a with
   | .loop a=>bif Nat.beq i id then a else gFi i a
   |a=>gFi i a
 |_=> .skip
def gR:ResultVar→tT
 | .tmp t=> .tmp t
 | .cell a t=> .cell a (gS t) (gA t)
def gF(hs:List Nat)(e:Bool)(f:Func)(L:List (Nat×ak)):ai:=⟨f.ntmps,gC hs L (f.body.getD .skip),f.results.toList.map gR,e,WO hs⟩
def gW(hs:List Nat)(i:Nat)(f:Func)(L:List (Nat×ak)):ak:=gC hs L (gFi i (f.body.getD .skip))
abbrev N0{α:Type}(x:List (Nat×ak)→α):={c:α // x []=c}
abbrev N1{α:Type}(i:Nat)(f:List (Nat×ak)→α):={g:ak→α // ∀x,f [(i,x)]=g x}
abbrev N2{α:Type}(i j:Nat)(f:List (Nat×ak)→α):={g:ak→ak→α // ∀x y,f [(i,x),(j,y)]=g x y}
abbrev N3{α:Type}(i j k:Nat)(f:List (Nat×ak)→α):={g:ak→ak→ak→α // ∀x y z,f [(i,x),(j,y),(k,z)]=g x y z}
abbrev N4{α:Type}(i j k l:Nat)(f:List (Nat×ak)→α):={g:ak→ak→ak→ak→α // ∀x y z w,f [(i,x),(j,y),(k,z),(l,w)]=g x y z w}
abbrev N7{α:Type}(i j k l m n o:Nat)(f:List (Nat×ak)→α):={g:ak→ak→ak→ak→ak→ak→ak→α // ∀x y z w v u t,f [(i,x),(j,y),(k,z),(l,w),(m,v),(n,u),(o,t)]=g x y z w v u t}
end Go.Proofs.YtnkgnjecmfkcfaaGreat
