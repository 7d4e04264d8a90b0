/- Contracts as trees; what is wrong with a contract: plain definitions. The program's check of a contract's form: rules, windows. The program's check of a contract's form. Conditions: the theorems' own. -/
import Derived.Test.YtfenhjpkomldcaaGreatM13
import Derived.KernelRfl
set_option maxRecDepth 100000
set_option linter.unusedSimpArgs false
set_option linter.unusedVariables false
set_option maxHeartbeats 16000000
namespace Go.Proofs.YtfenhjpkomldcaaGreat
open Go Go.Ev
def lP{α:Type}(R:α→List T→Prop):List α→List T→Prop
 | [],cs=>cs= []
 |x::xs,cs=> ∃c r,cs=c++r∧R x c∧lP R xs r
section
variable{α:Type}{R:α→List T→Prop}{k:Nat}
end
structure Ru where
 sc:Int
 nm:List Nat
 x:Ex
structure Co where
 sc:Int
 x:Ex
structure Li where
 nm:List Nat
 me:List Nat
 mo:Int
 da:Int
structure Of where
 nm:List Nat
 ct:Int
 da:Int
def RuR(u:Ru)(c:List T):Prop:= ∃a cc,c= [.i .i64 u.sc,.s u.nm,.i .i64 u.x.op,.i .i64 u.x.num,.s u.x.name,a]∧aN a u.x.args.length cc∧aL u.x.args cc
def CoR(u:Co)(c:List T):Prop:= ∃a cc,c= [.i .i64 u.sc,.i .i64 u.x.op,.i .i64 u.x.num,.s u.x.name,a]∧aN a u.x.args.length cc∧aL u.x.args cc
def LiR(u:Li)(c:List T):Prop:=c= [.s u.nm,.s u.me,.i .i64 u.mo,.i .i64 u.da]
def OfR(u:Of)(c:List T):Prop:=c= [.s u.nm,.i .i64 u.ct,.i .i64 u.da]
structure Ct where
 rp:Int
 rl:Int
 cn:Int
 st:Int
 ly:Int
 nf:Int
 nt:Int
 cs:Cs
 ru:List Ru
 co:List Co
 cr:List Ex
 li:List Li
 fs:List Of
 gu:Int
def NZ(n lo hi:Int):Bool:=decide (lo≤n)&&decide (n≤hi)
def Qt(c:Ct):Bool:=NZ c.rp 0 1440&&(NZ c.rl 0 1440&&(NZ c.cn 0 1440&&(NZ c.st c.cn 1440&&(NZ c.ly 0 10080&&(NZ c.nf 0 1439&&(NZ c.nt 0 1439&&NZ c.gu 0 599999))))))
def U7(c:Ct):Bool:=decide (c.cs.length≤32)&&(decide (c.ru.length≤40)&&(decide (c.co.length≤16)&&(decide (c.cr.length≤1)&&(decide (c.li.length≤16)&&decide (c.fs.length≤16)))))
end Go.Proofs.YtfenhjpkomldcaaGreat
namespace Go.Proofs.YtfenhjpkomldcaaGreat
open Go Go.Ev
def N0(x:Ex):Prop:=0≤x.nodes∧x.sm
end Go.Proofs.YtfenhjpkomldcaaGreat
namespace Go.Proofs.YtfenhjpkomldcaaGreat
open Go Go.Ev
structure BZ (c:Ct) (a7 a8 a9 oJ oK oL:T):Prop where
 h7: ∃cc,aN a7 c.cs.length cc∧df c.cs cc
 h8: ∃cc,aN a8 c.ru.length cc∧lP RuR c.ru cc
 h9: ∃cc,aN a9 c.co.length cc∧lP CoR c.co cc
 Rl: ∃cc,aN oJ c.cr.length cc∧aL c.cr cc
 HQ: ∃cc,aN oK c.li.length cc∧lP LiR c.li cc
 h12: ∃cc,aN oL c.fs.length cc∧lP OfR c.fs cc
structure su (c:Ct):Prop where
 s7:DQ c.cs∧c.cs.length≤gi
 s8:(∀u∈c.ru,N0 u.x)∧c.ru.length≤gi
 s9:(∀u∈c.co,N0 u.x)∧c.co.length≤gi
 s10:(∀x∈c.cr,N0 x)∧c.cr.length≤gi
 s11:c.li.length≤gi
 s12:c.fs.length≤gi
section
variable(c:Ct)(a7 a8 a9 oJ oK oL:T)(hT:BZ c a7 a8 a9 oJ oK oL)(hS:su c)
include hT hS
end
end Go.Proofs.YtfenhjpkomldcaaGreat
