/- A tree evaluator over the model, proved against it (part F): where it answers, the call returns that answer. Conditions: none beyond its theorems' own. -/
import Derived.Test.YtfenhjpkomldcaaGreatEvE
set_option linter.unusedSimpArgs false
set_option linter.unusedVariables false
namespace Go.Ev
open Go
theorem froz_b{x:Bool}:froz (.b x)=true:=nr rfl
theorem froz_i{k:IntKind}{n:Int}:froz (.i k n)=true:=nr rfl
theorem froz_s{l:List Nat}:froz (.s l)=true:=nr rfl
theorem froz_nilsl:froz .nilsl=true:=nr rfl
theorem froz_sl{cs:List T}{n:Nat}{e:Bool}:froz (.sl cs n e)=true:=nr rfl
theorem froz_vp{cs:List T}:froz (.vp cs)=true:=nr rfl
theorem froz_vm{a b:List T}:froz (.vm a b)=true:=nr rfl
theorem froz_agg{cs:List T}:froz (.agg cs)=cs.all froz1:=nr rfl
theorem froz_tup{cs:List T}:froz (.tup cs)=cs.all froz1:=nr rfl
theorem froz_fn{f:Nat}{a c:List T}:froz (.fn f a c)=(a.all froz1&&c.all froz1):=nr rfl
theorem froz1_b{x:Bool}:froz1 (.b x)=true:=nr rfl
theorem froz1_i{k:IntKind}{n:Int}:froz1 (.i k n)=true:=nr rfl
theorem froz1_s{l:List Nat}:froz1 (.s l)=true:=nr rfl
theorem froz1_nilsl:froz1 .nilsl=true:=nr rfl
theorem froz1_sl{cs:List T}{n:Nat}{e:Bool}:froz1 (.sl cs n e)=true:=nr rfl
theorem cells_agg{cs:List T}:cellsOf (.agg cs)=cs:=nr rfl
theorem cells_i{k:IntKind}{n:Int}:cellsOf (.i k n)= [.i k n]:=nr rfl
theorem cells_s{l:List Nat}:cellsOf (.s l)= [.s l]:=nr rfl
theorem cells_nilsl:cellsOf .nilsl= [.nilsl]:=nr rfl
theorem cells_sl{cs:List T}{n:Nat}{e:Bool}:cellsOf (.sl cs n e)= [.sl cs n e]:=nr rfl
theorem cells_isl{sp:Sp}{a b c d e:Nat}:cellsOf (.isl sp a b c d e)= [.isl sp a b c d e]:=nr rfl
theorem cells_ptr{sp:Sp}{a b c:Nat}:cellsOf (.ptr sp a b c)= [.ptr sp a b c]:=nr rfl
theorem cells_mp{sp:Sp}{a b:Nat}:cellsOf (.mp sp a b)= [.mp sp a b]:=nr rfl
theorem noTup_agg{cs:List T}:noTup (.agg cs)=true:=nr rfl
theorem noTup_i{k:IntKind}{n:Int}:noTup (.i k n)=true:=nr rfl
theorem noTup_s{l:List Nat}:noTup (.s l)=true:=nr rfl
theorem noTup_nilsl:noTup .nilsl=true:=nr rfl
theorem noTup_sl{cs:List T}{n:Nat}{e:Bool}:noTup (.sl cs n e)=true:=nr rfl
theorem noTup_isl{sp:Sp}{a b c d e:Nat}:noTup (.isl sp a b c d e)=true:=nr rfl
theorem noTup_ptr{sp:Sp}{a b c:Nat}:noTup (.ptr sp a b c)=true:=nr rfl
theorem noTup_mp{sp:Sp}{a b:Nat}:noTup (.mp sp a b)=true:=nr rfl
theorem notS_sl{cs:List T}{n:Nat}{e:Bool}:notS (.sl cs n e)=true:=nr rfl
theorem notS_mp{a b:Nat}:notS (.mp .L a b)=true:=nr rfl
theorem lenI_nil:lenI .nilsl=some (.i .i64 0):=nr rfl
theorem lenI_sl{cs:List T}{n:Nat}{e:Bool}:lenI (.sl cs n e)=some (.i .i64 n):=nr rfl
theorem lenI_isl{sp:Sp}{a b c d e:Nat}:lenI (.isl sp a b c d e)=some (.i .i64 d):=nr rfl
theorem scalar_b{x:Bool}:scalar (.b x)=true:=nr rfl
theorem scalar_i{k:IntKind}{n:Int}:scalar (.i k n)=true:=nr rfl
section
variable{lh:Tri Ent}{sh:List Ent}{m g off k:Nat}{ag:Bool}
theorem ldV_vp{cs:List T}:ldV lh sh (.vp cs) m ag=Ev.part cs 0 m ag:=rfl
theorem ldV_L:ldV lh sh (.ptr .L k g off) m ag=ldE (getO lh k) g off m ag:=rfl
theorem ldV_S:ldV lh sh (.ptr .S k g off) m ag=ldE (getE sh k) g off m ag:=rfl
theorem faV_vp{cs:List T}:faV (.vp cs) off=if off≤cs.length then some (.vp (cs.drop off))else none:=rfl
theorem faV_ptr{sp:Sp}{o:Nat}:faV (.ptr sp k g o) off=some (.ptr sp k g (o+off)):=rfl
theorem fldV_agg{cs:List T}:fldV (.agg cs) off m ag=Ev.part cs off m ag:=rfl
theorem nckV_vp{cs:List T}:nckV (.vp cs)=some (.vp cs):=rfl
theorem nckV_ptr{sp:Sp}{o:Nat}:nckV (.ptr sp k g o)=some (.ptr sp k g o):=rfl
theorem nckV_fn{f:Nat}{a c:List T}:nckV (.fn f a c)=some (.fn f a c):=rfl
theorem extV_tup{vs:List T}:extV (.tup vs) m=vs[m]? :=rfl
theorem lenSV_s{l:List Nat}:lenSV (.s l)=some (.i .i64 l.length):=rfl
theorem cviV_i{kk kk':IntKind}{n:Int}:cviV kk (.i kk' n)=some (.i kk (wr kk n)):=rfl
theorem islV_cells{m k g g' off len sz wm:Nat}{lh:Tri Ent}{sh:List Ent}{cs:List T}:islV m lh sh k ⟨g',.cells cs wm false⟩ g off len sz=if g'=g∧off+len*sz≤cs.length then some (.sl ((cs.drop off).take (len*sz)) len false,[(.L,k,⟨g,.cells cs cs.length false⟩)])else none:=rfl
theorem mpV_map{k g g':Nat}{ks vs:List T}{z:Bool}:mpV k ⟨g',.map ks vs z⟩ g=if g'=g then some (.vm ks vs,[(.L,k,⟨g,.map ks vs true⟩)])else none:=rfl
theorem slE_cells{sz g g' off len wm:Nat}{cs:List T}:slE sz ⟨g',.cells cs wm false⟩ g off len=if g'=g∧off+len*sz≤cs.length then some (len,(cs.drop off).take (len*sz))else none:=rfl
theorem appE_cells{g g' off len sz sz' bytes wm:Nat}{p:Nat×List T}{cs:List T}:appE lh k ⟨g',.cells cs wm false⟩ g off len sz sz' bytes p=if sz'=sz∧off=0∧(len+p.1)*bytes≤roomy∧g'=g∧len*sz=cs.length then some (.isl .L k (g+1) 0 (len+p.1) sz,setO lh k ⟨g+1,.cells (cs++p.2) wm false⟩)else none:=rfl
theorem appV_nil{d sz bytes n:Nat}{cs:List T}:appV lh d sz bytes .nilsl (n+1,cs)=if(n+1)*bytes≤roomy then some (.isl .L d ((getO lh d).g+1) 0 (n+1) sz,setO lh d ⟨(getO lh d).g+1,.cells cs 0 false⟩)else none:=by
 unfold appV;rw[if_neg (Nat.succ_ne_zero n)]
theorem appV_sl{d sz bytes n len:Nat}{cs cs':List T}:appV lh d sz bytes (.sl cs' len true) (n+1,cs)=if cs'.length=len*sz∧(len+(n+1))*bytes≤roomy then some (.isl .L d ((getO lh d).g+1) 0 (len+(n+1)) sz,setO lh d ⟨(getO lh d).g+1,.cells (cs'++cs) 0 false⟩)else none:=by
 unfold appV;rw[if_neg (Nat.succ_ne_zero n)]
theorem appV_isl{d sz sz' bytes n g off len:Nat}{cs:List T}:appV lh d sz bytes (.isl .L k g off len sz') (n+1,cs)=appE lh k (getO lh k) g off len sz sz' bytes (n+1,cs):=by
 unfold appV;rw[if_neg (Nat.succ_ne_zero n)]
end
def ints(xs:List Int):List T:=xs.map (T.i .i64)
theorem ints_len(xs:List Int):(ints xs).length=xs.length:=by simp[ints]
theorem ints_drop(xs:List Int)(k:Nat)(hk:k<xs.length):(ints xs).drop k=T.i .i64 xs[k]::(ints xs).drop (k+1):=by
 rw[List.drop_eq_getElem_cons (by rw[ints_len];exact hk)];simp[ints]
def IsSl(v:T)(n:Nat)(cs:List T):Prop:=(v= .nilsl∧n=0∧cs= [])∨ ∃ex,v= .sl cs n ex
theorem IsSl.len{v:T}{n:Nat}{cs:List T}(h:IsSl v n cs):lenT v=some n:=by
 rcases h with⟨rfl,rfl,_⟩|⟨ex,rfl⟩ <;> rfl
theorem IsSl.lenI{v:T}{n:Nat}{cs:List T}(h:IsSl v n cs):lenI v=some (.i .i64 (n:Int)):=lenI_of h.len
theorem IsSl.froz1{v:T}{n:Nat}{cs:List T}(h:IsSl v n cs):froz1 v=true:=by
 rcases h with⟨rfl,_,_⟩|⟨ex,rfl⟩ <;> rfl
theorem IsSl.froz{v:T}{n:Nat}{cs:List T}(h:IsSl v n cs):froz v=true:=by
 rcases h with⟨rfl,_,_⟩|⟨ex,rfl⟩ <;> rfl
theorem IsSl.cells{v:T}{n:Nat}{cs:List T}(h:IsSl v n cs):cellsOf v= [v]:=by
 rcases h with⟨rfl,_,_⟩|⟨ex,rfl⟩ <;> rfl
theorem IsSl.noTup{v:T}{n:Nat}{cs:List T}(h:IsSl v n cs):noTup v=true:=by
 rcases h with⟨rfl,_,_⟩|⟨ex,rfl⟩ <;> rfl
theorem IsSl.ia{v:T}{n sz k:Nat}{cs:List T}{kk:IntKind}(h:IsSl v n cs)(hc:cs.length=n*sz)(hk:k<n):iaV v (.i kk (k:Int)) sz=some (.vp (cs.drop (k*sz))):=by
 rcases h with⟨rfl,rfl,_⟩|⟨ex,rfl⟩
 ·omega
 ·have h3:(k+1)*sz≤cs.length:=by rw[hc];exact Nat.mul_le_mul_right sz hk
  rw[iaV_sl,Int.toNat_natCast,if_pos ⟨Int.natCast_nonneg k,hk,h3⟩]
end Go.Ev
namespace Go.Ev
open Go
section
variable(E:Env)(n:Nat)(b:ACode)(fr:Fr)(lh:Tri Ent)(sh:List Ent)
noncomputable def frL:Fr:=match DC E n (.loop b) ⟨fr,lh,sh⟩with|some (_,st)=>st.fr|none=>fr
noncomputable def lhL:Tri Ent:=match DC E n (.loop b) ⟨fr,lh,sh⟩with|some (_,st)=>st.lh|none=>lh
noncomputable def shL:List Ent:=match DC E n (.loop b) ⟨fr,lh,sh⟩with|some (_,st)=>st.sh|none=>sh
end
section
variable{E:Env}{n:Nat}{b:ACode}{fr:Fr}{lh:Tri Ent}{sh:List Ent}{o:Out}
theorem frL_pres{s:Nat}(h:(wrC (.loop b)).contains s=false):getF (frL E n b fr lh sh) s=getF fr s:=by
 unfold frL
 cases hd:DC E n (.loop b) ⟨fr,lh,sh⟩with
 |none=>rfl
 |some p=>obtain⟨o,st⟩:=p;exact DC_pres hd s h
def wrM:List Nat→Nat
 | []=>0
 |s::ss=>(1 <<< s) ||| wrM ss
theorem wrM_bit(s:Nat): ∀l:List Nat,s∈l→(wrM l).testBit s=true
 | [],h=>by simp at h
 |x::xs,h=>by
  rw[wrM,Nat.testBit_or]
  rcases List.mem_cons.1 h with h|h
  ·subst h
   have:(1 <<< s).testBit s=true:=by simp[Nat.testBit_shiftLeft]
   rw[this];rfl
  ·rw[wrM_bit s xs h];simp
theorem frL_presM{s:Nat}(h:(wrM (wrC (.loop b)) >>> s)%2=0):getF (frL E n b fr lh sh) s=getF fr s:=by
 refine frL_pres ?_
 cases hc:(wrC (.loop b)).contains s with
 |false=>rfl
 |true=>
  have h1:=wrM_bit s _ (List.contains_iff_mem.1 hc)
  rw[Nat.testBit,Nat.and_comm,Nat.and_one_is_mod,h]at h1
  simp at h1
theorem loop_fix{lh':Tri Ent}{sh':List Ent}{P:Fr→Prop}(h: ∃fr',DC E n (.loop b) ⟨fr,lh,sh⟩=some (o,⟨fr',lh',sh'⟩)∧P fr'):
  DC E n (.loop b) ⟨fr,lh,sh⟩=some (o,⟨frL E n b fr lh sh,lh',sh'⟩)∧P (frL E n b fr lh sh):=by
 obtain⟨fr',h1,h2⟩:=h
 have:frL E n b fr lh sh=fr':=by unfold frL;rw[h1]
 rw[this];exact⟨h1,h2⟩
theorem loop_fix3{P:Fr→Tri Ent→List Ent→Prop}(h: ∃fr' lh' sh',DC E n (.loop b) ⟨fr,lh,sh⟩=some (o,⟨fr',lh',sh'⟩)∧P fr' lh' sh'):
  DC E n (.loop b) ⟨fr,lh,sh⟩=some (o,⟨frL E n b fr lh sh,lhL E n b fr lh sh,shL E n b fr lh sh⟩)∧P (frL E n b fr lh sh) (lhL E n b fr lh sh) (shL E n b fr lh sh):=by
 obtain⟨fr',lh',sh',h1,h2⟩:=h
 have e1:frL E n b fr lh sh=fr':=by unfold frL;rw[h1]
 have e2:lhL E n b fr lh sh=lh':=by unfold lhL;rw[h1]
 have e3:shL E n b fr lh sh=sh':=by unfold shL;rw[h1]
 rw[e1,e2,e3];exact⟨h1,h2⟩
end
end Go.Ev
namespace Go.Ev
open Go
theorem and_mask(m:Nat)(hm:m≤62)(a:Int):Ev.bin .and (.i .i64 a) (.i .i64 (2 ^ m-1))=some (.i .i64 (a%2 ^ m)):=by
 have h2:(2:Int) ^ m=((2 ^ m:Nat):Int):=by norm_cast
 have hpos:0<2 ^ m:=Nat.two_pow_pos m
 have hle:2 ^ m≤2 ^ 62:=Nat.pow_le_pow_right (by omega) hm
 have hmask:(BitVec.ofInt 64 ((2:Int) ^ m-1)).toNat=2 ^ m-1:=by
  rw[BitVec.toNat_ofInt,h2]
  have:((2 ^ m:Nat):Int)-1=((2 ^ m-1:Nat):Int):=by omega
  rw[this]
  have h3:((2 ^ m-1:Nat):Int)%((2 ^ 64:Nat):Int)=((2 ^ m-1:Nat):Int):=Int.emod_eq_of_lt (by omega) (by omega)
  rw[h3];rfl
 have hand:(BitVec.ofInt 64 a &&& BitVec.ofInt 64 ((2:Int) ^ m-1)).toNat=(a%2 ^ m).toNat:=by
  rw[BitVec.toNat_and,hmask,Nat.and_two_pow_sub_one_eq_mod,BitVec.toNat_ofInt]
  have hnn:0≤a%((2 ^ 64:Nat):Int):=Int.emod_nonneg _ (by omega)
  have h4:(a%((2 ^ 64:Nat):Int))%((2 ^ m:Nat):Int)=a%((2 ^ m:Nat):Int):=Int.emod_emod_of_dvd a (by
   have:(2 ^ m:Nat)∣2 ^ 64:=Nat.pow_dvd_pow 2 (by omega)
   exact Int.natCast_dvd_natCast.2 this)
  have h5:(((a%((2 ^ 64:Nat):Int)).toNat%2 ^ m:Nat):Int)=a%((2 ^ m:Nat):Int):=by
   rw[Int.natCast_emod,Int.toNat_of_nonneg hnn,h4]
  rw[h2,←h5];exact(Int.toNat_natCast _).symm
 have hb:(IntKind.i64).bits=64:=rfl
 simp only[Ev.bin,if_true,binI]
 have hr0:0≤a%2 ^ m:=by rw[h2];exact Int.emod_nonneg _ (by omega)
 have hr1:a%2 ^ m<2 ^ m:=by rw[h2];exact Int.emod_lt_of_pos _ (by omega)
 have hw:IntKind.wrap .i64 ((BitVec.ofInt (IntKind.i64).bits a &&& BitVec.ofInt (IntKind.i64).bits ((2:Int) ^ m-1)).toNat:Int)=a%2 ^ m:=by
  show IntKind.wrap .i64 (((BitVec.ofInt 64 a &&& BitVec.ofInt 64 ((2:Int) ^ m-1)).toNat:Nat):Int)=_
  rw[hand,Int.toNat_of_nonneg hr0]
  unfold IntKind.wrap
  simp only[hb]
  have h6:(a%2 ^ m)%(2 ^ 64:Int)=a%2 ^ m:=Int.emod_eq_of_lt hr0 (by
   have:(2:Int) ^ m≤2 ^ 62:=by rw[h2];exact_mod_cast hle
   omega)
  rw[h6,if_neg]
  intro hc
  simp only[Bool.and_eq_true,decide_eq_true_eq,ge_iff_le]at hc
  have:(2:Int) ^ m≤2 ^ 62:=by rw[h2];exact_mod_cast hle
  have h7:=hc.2
  omega
 rw[hw]
section
variable{a:Int}
theorem and_3:Ev.bin .and (.i .i64 a) (.i .i64 3)=some (.i .i64 (a%4)):=and_mask 2 (by omega) a
theorem and_255:Ev.bin .and (.i .i64 a) (.i .i64 255)=some (.i .i64 (a%256)):=and_mask 8 (by omega) a
theorem and_65535:Ev.bin .and (.i .i64 a) (.i .i64 65535)=some (.i .i64 (a%65536)):=and_mask 16 (by omega) a
theorem shr_lit{k k':IntKind}{b:Int}:Ev.bin .shr (.i k a) (.i k' b)=if b<0 then none else some (.i k (a.fdiv (2 ^ (min b.toNat k.bits)))):=by
 simp only[Ev.bin,shiftI]
end
theorem wru64{n:Int}(h:0≤n∧n≤18446744073709551615):wr .u64 n=n:=by unfold wr lo hi;exact if_pos h
theorem tmod_nn{a b:Int}(h:0≤a):a.tmod b=a%b:=Int.tmod_eq_emod_of_nonneg h
end Go.Ev
namespace Go.Ev
open Go
theorem apart_no_r(x:FP):apart x noFP=true:=by
 obtain⟨a,r,w⟩:=x
 simp[apart,apart1,noFP,noS]
theorem apart_no_l(x:FP):apart noFP x=true:=by
 obtain⟨a,r,w⟩:=x
 simp[apart,apart1,noFP,noS]
theorem apart_ff{r r' w w':List (Sp×Nat)}:apart ⟨false,r,w⟩ ⟨false,r',w'⟩=(apart1 w r'&&apart1 w w'&&apart1 r w'):=by
 simp[apart]
theorem apart1_nil{ys:List (Sp×Nat)}:apart1 [] ys=true:=rfl
theorem apart1_cons{x:Sp×Nat}{xs ys:List (Sp×Nat)}:apart1 (x::xs) ys=(!ys.contains x&&apart1 xs ys):=rfl
theorem has_nil{x:Sp×Nat}:([]:List (Sp×Nat)).contains x=false:=rfl
theorem has_cons{a c:Sp}{b d:Nat}{ys:List (Sp×Nat)}:((c,d)::ys).contains (a,b)=((decide (a=c)&&decide (b=d))||ys.contains (a,b)):=by
 rw[List.contains_cons]
 have:((a,b)==(c,d))=(decide (a=c)&&decide (b=d)):=by
  cases a <;> cases c <;> by_cases h:b=d <;> simp[h]
 rw[this]
def pureOp:AOp→Bool
 | .mv _| .pick .. | .bin .. | .eq .. | .un .. | .cvi .. | .mkfn .. | .build .. | .slS .. | .fa .. | .fld .. | .ia .. | .iaA .. | .ixS .. | .ixA .. | .ext .. | .lenS _| .lenV _| .lenC _| .mm .. | .nck _=>true
 | .slV _ _ _ _ none=>true
 |_=>false
theorem pure_mv{x:Opd}:pureOp (.mv x)=true:=nr rfl
theorem pure_pick{c a b:Opd}:pureOp (.pick c a b)=true:=nr rfl
theorem pure_bin{o:BinOp}{x y:Opd}:pureOp (.bin o x y)=true:=nr rfl
theorem pure_un{o:UnOp}{x:Opd}:pureOp (.un o x)=true:=nr rfl
theorem pure_build{z:List T}{ps:List (Nat×Nat×Opd)}:pureOp (.build z ps)=true:=nr rfl
theorem pure_fa{x:Opd}{o:Nat}:pureOp (.fa x o)=true:=nr rfl
theorem pure_ia{x y:Opd}{m:Nat}:pureOp (.ia x y m)=true:=nr rfl
theorem pure_ext{x:Opd}{j:Nat}:pureOp (.ext x j)=true:=nr rfl
theorem pure_lenV{x:Opd}:pureOp (.lenV x)=true:=nr rfl
theorem pure_mm{g:Bool}{as:List Opd}:pureOp (.mm g as)=true:=nr rfl
theorem pure_nck{x:Opd}:pureOp (.nck x)=true:=nr rfl
def Q.plain:Q Res→Prop
 | .ret (.val _ ups)=>ups= []
 | .fail=>True
 | .rd _ _ _=>False
 | .new _=>False
theorem Q.plain_run{h:Sp→Nat→Ent}{nx:Nat}: ∀(q:Q Res),q.plain→ ∀{v:T} {ups:List Up},q.run h nx=some (.val v ups)→ups= []∧q.asks h nx=false∧q.log h nx= []
 | .ret (.val _ _),hc,v,ups,hr=>by simp[Q.run]at hr;obtain⟨rfl,rfl⟩:=hr;exact⟨hc,rfl,rfl⟩
 | .fail,hc,v,ups,hr=>by simp[Q.run]at hr
 | .rd sp k f,hc,v,ups,hr=>hc.elim
 | .new f,hc,v,ups,hr=>hc.elim
theorem plain_val{o:Option T}:(val o).plain:=by cases o <;> simp[val,Q.plain]
theorem plain_op{d:Nat}{ρ:Opd→T}{op:AOp}(h:pureOp op=true):(opQ d ρ op).plain∧callOf ρ op=none:=by
 refine⟨?_,by cases op <;> first|rfl|(simp[pureOp]at h)⟩
 cases op with
 |mv x=>exact rfl
 |pick c a b=>simp only[opQ];split <;> simp[Q.plain]
 |bin op x y=>exact plain_val
 |eq neg k x y=>exact plain_val
 |un op x=>exact plain_val
 |cvi k x=>simp only[opQ];split <;> simp[Q.plain]
 |mkfn f a c=>exact rfl
 |build z ps=>
  simp only[opQ]
  by_cases hb:(ps.all fun p=>decide ((cellsOf (ρ p.2.2)).length=p.2.1)&&noTup (ρ p.2.2))=true
  ·rw[if_pos hb];exact plain_val
  ·rw[if_neg hb];trivial
 |slS x l h=>
  simp only[opQ]
  split
  ·split
   ·split <;> simp[Q.plain]
   ·trivial
  ·trivial
 |fa x off=>
  simp only[opQ]
  split
  ·split <;> simp[Q.plain]
  ·exact rfl
  ·trivial
 |fld x off m ag=>
  simp only[opQ]
  split
  ·exact plain_val
  ·trivial
 |ia x ix sz=>
  simp only[opQ]
  split
  ·split <;> simp[Q.plain]
  ·split <;> simp[Q.plain]
  ·trivial
 |iaA x ix len sz=>
  simp only[opQ]
  split
  ·split <;> simp[Q.plain]
  ·split <;> simp[Q.plain]
  ·trivial
 |ixS x ix=>
  simp only[opQ]
  split
  ·split <;> simp[Q.plain]
  ·trivial
 |ixA x ix len sz ag=>
  simp only[opQ]
  split
  ·split
   ·exact plain_val
   ·trivial
  ·trivial
 |ext x j=>
  simp only[opQ]
  split
  ·exact plain_val
  ·trivial
 |lenS x=>simp only[opQ];split <;> simp[Q.plain]
 |lenV x=>exact plain_val
 |lenC m=>exact rfl
 |mm b as=>
  simp only[opQ]
  split
  ·exact plain_val
  ·trivial
 |nck x=>simp only[opQ];split <;> simp[Q.plain]
 |slV sz x l h mx=>
  cases mx with
  |some m=>simp[pureOp]at h
  |none=>
   simp only[opQ]
   split
   ·trivial
   ·split
    ·unfold slVAt
     split
     ·split <;> simp[Q.bind,Q.plain]
     ·split <;> simp[Q.bind,Q.plain]
     ·split <;> simp[Q.bind,Q.plain]
     ·trivial
    ·rename_i hh;exact absurd hh (by simp)
    ·trivial
 |_=>simp[pureOp]at h
def ke(E:Env)(call:Orc)(n:Nat)(ds:List (List Nat×AOper))(fps:List FP)(x:Option St):Option St:=x.bind (evDraw E call n ds fps)
def meets(u:List Nat)(fps:List FP)(fp:FP):Bool:=u.all fun i=>apart (getL ⟨true,[],[]⟩ fps i) fp
section
variable{E:Env}{call:Orc}{n:Nat}{fr:Fr}{lh:Tri Ent}{sh:List Ent}{ds:List (List Nat×AOper)}{fps:List FP}{u:List Nat}{d:Option Nat}
theorem ke_some{st:St}:ke E call n ds fps (some st)=evDraw E call n ds fps st:=rfl
theorem ke_none:ke E call n ds fps none=none:=rfl
theorem ke_ite{c:Prop}[Decidable c]{x y:Option St}:ke E call n ds fps (if c then x else y)=if c then ke E call n ds fps x else ke E call n ds fps y:=by split <;> rfl
theorem meets_nil{fp:FP}:meets [] fps fp=true:=rfl
theorem meets_cons{i:Nat}{fp:FP}:meets (i::u) fps fp=(apart (getL ⟨true,[],[]⟩ fps i) fp&&meets u fps fp):=rfl
theorem meets_no:meets u fps noFP=true:=by
 unfold meets
 rw[List.all_eq_true]
 intro i _
 exact apart_no_r _
theorem DC_drawsK{st:St}:DC E n (.draws ds) st=(evDraw E (DCall E) n ds [] st).map fun st'=>(.nrm,st'):=DC_draws
theorem d_of{o:AOper}{fp:FP}{st:St}(h:evOper E call n o st≠none→operFP E call o st=some fp):
  evDraw E call n ((u,o)::ds) fps st=if meets u fps fp=true then ke E call n ds (fps++ [fp]) (evOps E call n [o] st)else none:=by
 simp only[evDraw]
 unfold meets ke
 cases ho:evOper E call n o st with
 |none=>
  have h1:evOps E call n [o] st=none:=by simp only[evOps,ho]
  rw[h1]
  cases operFP E call o st with
  |none=>simp
  |some fp'=>simp
 |some s=>
  have h1:evOps E call n [o] st=some s:=by simp only[evOps,ho]
  rw[h1,h (by rw[ho];simp)]
  rfl
theorem fp_q{op:AOp}{st:St}{q:Q Res}(hco:callOf st.rho op=none)(hq:opQ (d.getD 0) st.rho op=q)(hne:evOper E call n ⟨d,op,none⟩ st≠none):
  ∃v ups,q.run st.get st.sh.length=some (.val v ups)∧((q.asks st.get st.sh.length||inB st ups)=true→operFP E call ⟨d,op,none⟩ st=some ⟨q.asks st.get st.sh.length,q.log st.get st.sh.length,upKeys ups⟩):=by
 subst hq
 unfold evOper at hne
 simp only[hco]at hne
 cases hh:(opQ (d.getD 0) st.rho op).run st.get st.sh.length with
 |none=>simp only[hh]at hne;exact absurd rfl hne
 |some r=>
  obtain⟨v,ups⟩:=r
  refine⟨v,ups,rfl,fun ha=> ?_⟩
  unfold operFP
  simp only[hco,hh]
  rw[if_pos ha]
theorem d_pure{op:AOp}(hp:pureOp op=true):evDraw E call n ((u,⟨d,op,none⟩)::ds) fps ⟨fr,lh,sh⟩=ke E call n ds (fps++ [noFP]) (evOps E call n [⟨d,op,none⟩] ⟨fr,lh,sh⟩):=by
 rw[d_of (fp:=noFP),meets_no,if_pos rfl]
 intro hne
 obtain⟨hq,hco⟩:=plain_op (d:=d.getD 0) (ρ:=(St.mk fr lh sh).rho) hp
 unfold evOper at hne
 unfold operFP
 simp only[hco]at hne ⊢
 cases hh:(opQ (d.getD 0) (St.mk fr lh sh).rho op).run (St.mk fr lh sh).get sh.length with
 |none=>simp only[hh]at hne;exact absurd rfl hne
 |some r=>
  obtain⟨v,ups⟩:=r
  obtain⟨rfl,ha,hl⟩:=Q.plain_run _ hq hh
  simp only[ha,hl,inB,List.all_nil,Bool.or_true,if_true,upKeys,List.map_nil]
  rfl
def ldLog:T→List (Sp×Nat)
 | .ptr sp k _ _=> [(sp,k)]
 |_=> []
theorem ldLog_vp{cs:List T}:ldLog (.vp cs)= []:=rfl
theorem ldLog_ptr{sp:Sp}{k g off:Nat}:ldLog (.ptr sp k g off)= [(sp,k)]:=rfl
theorem Q.log_bind{α β:Type}{h:Sp→Nat→Ent}{nx:Nat}{f:α→Q β}(hf: ∀a,(f a).log h nx= []): ∀q:Q α,(q.bind f).log h nx=q.log h nx
 | .ret a=>hf a
 | .fail=>rfl
 | .rd sp k g=>by show(sp,k)::((g (h sp k)).bind f).log h nx=(sp,k)::(g (h sp k)).log h nx;rw[Q.log_bind hf (g (h sp k))]
 | .new g=>Q.log_bind hf (g nx)
theorem d_ld{x:Opd}{m:Nat}{ag:Bool}:evDraw E call n ((u,⟨d,.ld x m ag,none⟩)::ds) fps ⟨fr,lh,sh⟩=
  if meets u fps ⟨false,ldLog (rd fr x),[]⟩=true then ke E call n ds (fps++ [⟨false,ldLog (rd fr x),[]⟩]) (evOps E call n [⟨d,.ld x m ag,none⟩] ⟨fr,lh,sh⟩)else none:=by
 refine d_of ?_
 intro hne
 obtain⟨hq,hco⟩:=calm_op (d:=d.getD 0) (ρ:=(St.mk fr lh sh).rho) (op:= .ld x m ag) rfl
 unfold evOper at hne
 unfold operFP
 simp only[hco]at hne ⊢
 cases hh:(opQ (d.getD 0) (St.mk fr lh sh).rho (.ld x m ag)).run (St.mk fr lh sh).get sh.length with
 |none=>simp only[hh]at hne;exact absurd rfl hne
 |some r=>
  obtain⟨v,ups⟩:=r
  obtain⟨rfl,ha⟩:=Q.calm_run _ hq hh
  have hl:(opQ (d.getD 0) (St.mk fr lh sh).rho (.ld x m ag)).log (St.mk fr lh sh).get sh.length=ldLog (rd fr x):=by
   rw[rho_eq]
   simp only[opQ]
   rw[Q.log_bind (fun a=>rfl)]
   unfold ldAt ldLog
   cases hx:rd fr x <;> try rfl
   ·simp only[];generalize Ev.part _ _ _ _=o;cases o <;> rfl
   ·rename_i sp k g off
    simp only[Q.log]
    congr 1
    generalize (St.mk fr lh sh).get sp k=e
    obtain⟨g',ob⟩:=e
    by_cases hg:g'=g
    ·cases ob with
     |cells cs wm bx=>simp only[hg,if_true];generalize Ev.part _ _ _ _=o;cases o <;> rfl
     |_=>simp only[hg,if_true];rfl
    ·simp only[hg,if_false];rfl
  simp only[ha,hl,inB,List.all_nil,Bool.or_true,if_true,upKeys,List.map_nil]
theorem log_froz1{keep:Bool}{m:Nat}{h:Sp→Nat→Ent}{nx:Nat}: ∀(ts:List T),ts.all froz=true→(mapQ (fz keep (m+2)) ts).log h nx= []
 | [],_=>rfl
 |t::ts,hh=>by
  simp only[List.all_cons,Bool.and_eq_true]at hh
  simp only[mapQ,fz_froz hh.1,Q.bind]
  rw[Q.log_bind (fun a=>rfl),log_froz1 ts hh.2]
theorem d_call{f:Nat}{af:AFunc}{as:List Opd}(hf:E.fn f=some af)(he:af.eff=false)(hw:af.own=none)(hz:(as.map (rd fr)).all froz=true):
  evDraw E call n ((u,⟨d,.callf f as,none⟩)::ds) fps ⟨fr,lh,sh⟩=ke E call n ds (fps++ [noFP]) (evOps E call n [⟨d,.callf f as,none⟩] ⟨fr,lh,sh⟩):=by
 rw[d_of (fp:=noFP),meets_no,if_pos rfl]
 intro hne
 unfold evOper at hne
 unfold operFP
 have hco:callOf (St.mk fr lh sh).rho (.callf f as)=some (some (f,as.map (rd fr))):=by rw[rho_eq];rfl
 simp only[hco]at hne ⊢
 rw[doCall_T hf he hw hz]at hne
 unfold callFP
 have h1:(mapQ (fz af.eff fzFuel) (as.map (rd fr))).run (St.mk fr lh sh).get sh.length=some (as.map (rd fr),[]):=by
  have:=fzL_froz (lh:=lh) (sh:=sh) (keep:=af.eff) hz
  unfold fzL at this
  rw[get_fr];exact this
 simp only[hf]
 rw[h1]
 simp only[inB,List.all_nil,Bool.not_true,Bool.false_eq_true,if_false,he,hw]
 cases hc:call f (as.map (rd fr)) []with
 |none=>rw[hc]at hne;exact absurd rfl hne
 |some r=>
  simp only[upKeys,List.map_nil,ite_self]
  have:(mapQ (fz false fzFuel) (as.map (rd fr))).log (St.mk fr lh sh).get sh.length= []:=log_froz1 _ hz
  rw[this];rfl
theorem d_bsl{z:List T}{len:Nat}{ps:List (Nat×Opd)}(hz:(ps.map fun p=>rd fr p.2).all froz=true):
  evDraw E call n ((u,⟨d,.bsl z len ps,none⟩)::ds) fps ⟨fr,lh,sh⟩=ke E call n ds (fps++ [noFP]) (evOps E call n [⟨d,.bsl z len ps,none⟩] ⟨fr,lh,sh⟩):=by
 rw[d_of (fp:=noFP),meets_no,if_pos rfl]
 intro hne
 have h1:mapQ (fz false fzFuel) (ps.map fun p=>rd fr p.2)= .ret (ps.map (fun p=>rd fr p.2),[]):=by
  have: ∀(ts:List T),ts.all froz=true→mapQ (fz false fzFuel) ts= .ret (ts,[]):=by
   intro ts
   induction ts with
   |nil=>intro _;rfl
   |cons t ts ih=>
    intro hh
    simp only[List.all_cons,Bool.and_eq_true]at hh
    rw[mapQ,ih hh.2]
    unfold fzFuel
    rw[fz_froz hh.1];rfl
  exact this _ hz
 obtain⟨v,ups,hr,hfp⟩:=fp_q (q:=if((ps.map fun p=>rd fr p.2).all fun v=>decide ((cellsOf v).length=z.length)&&noTup v)=true then(match fills (repl z len) ((ps.map fun p=>p.1*z.length).zip ((ps.map fun p=>rd fr p.2).map cellsOf))with|some cs=>Q.ret (.val (.sl cs len true) [])|none=> .fail)else .fail) (by rfl) (by rw[rho_eq];simp only[opQ];rw[h1];rfl) hne
 split at hr
 ·split at hr
  ·simp[Q.run]at hr
   obtain⟨rfl,rfl⟩:=hr
   rename_i hb _ _ hfl
   rw[if_pos hb,hfl]at hfp
   exact hfp rfl
  ·simp[Q.run]at hr
 ·simp[Q.run]at hr
theorem d_alloc{dd:Nat}{z:List T}:evDraw E call n ((u,⟨some dd,.alloc z false,none⟩)::ds) fps ⟨fr,lh,sh⟩=
  if meets u fps ⟨false,[(.L,dd)],[(.L,dd)]⟩=true then ke E call n ds (fps++ [⟨false,[(.L,dd)],[(.L,dd)]⟩]) (evOps E call n [⟨some dd,.alloc z false,none⟩] ⟨fr,lh,sh⟩)else none:=
 d_of fun _=>rfl
theorem d_mksl{dd:Nat}{z:List T}{bytes:Nat}{x:Opd}:evDraw E call n ((u,⟨some dd,.mksl z bytes x false,none⟩)::ds) fps ⟨fr,lh,sh⟩=
  if meets u fps ⟨false,[(.L,dd)],[(.L,dd)]⟩=true then ke E call n ds (fps++ [⟨false,[(.L,dd)],[(.L,dd)]⟩]) (evOps E call n [⟨some dd,.mksl z bytes x false,none⟩] ⟨fr,lh,sh⟩)else none:=by
 refine d_of fun hne=> ?_
 cases ha:asNat (rd fr x)with
 |none=>
  obtain⟨v,ups,hr,hfp⟩:=fp_q (q:= .fail) (by rfl) (by rw[rho_eq];simp only[opQ,ha]) hne
  simp[Q.run]at hr
 |some k=>
  obtain⟨v,ups,hr,hfp⟩:=fp_q (q:=if k*bytes≤roomy&&k≤roomy then newOb dd false (.cells (repl z k) 0 false) (fun sp k' g=> .isl sp k' g 0 k z.length)else .fail) (by rfl) (by rw[rho_eq];simp only[opQ,ha];rfl) hne
  split at hr
  ·rename_i hb
   rw[if_pos hb]at hfp
   simp[newOb,Q.run]at hr
   obtain⟨rfl,rfl⟩:=hr
   exact hfp rfl
  ·simp[Q.run]at hr
def isLp:T→Bool
 | .ptr .L .. =>true
 |_=>false
theorem isLp_ptr{k g off:Nat}:isLp (.ptr .L k g off)=true:=nr rfl
theorem d_st{x v:Opd}{m:Nat}(hx:isLp (rd fr x)=true)(hz:froz (rd fr v)=true):evDraw E call n ((u,⟨none,.st x v m,none⟩)::ds) fps ⟨fr,lh,sh⟩=
  if meets u fps ⟨false,ldLog (rd fr x),ldLog (rd fr x)⟩=true then ke E call n ds (fps++ [⟨false,ldLog (rd fr x),ldLog (rd fr x)⟩]) (evOps E call n [⟨none,.st x v m,none⟩] ⟨fr,lh,sh⟩)else none:=by
 refine d_of fun hne=> ?_
 cases hx':rd fr x with
 |ptr sp k g off=>
  cases sp with
  |S=>rw[hx']at hx;simp[isLp]at hx
  |L=>
   by_cases hb:(decide ((cellsOf (rd fr v)).length≠m)|| !noTup (rd fr v))=true
   ·obtain⟨w,ups,hr,hfp⟩:=fp_q (q:= .fail) (by rfl) (by rw[rho_eq];simp only[opQ,stAt,hx'];rw[if_pos hb]) hne
    simp[Q.run]at hr
   ·obtain⟨w,ups,hr,hfp⟩:=fp_q (q:= .rd .L k (stQf k g off m (rd fr v))) (by rfl) (by rw[rho_eq];simp only[opQ,stAt,hx'];rw[if_neg hb];rfl) hne
    simp only[Q.run,Q.log,Q.asks,stget_L]at hr hfp
    generalize getO lh k=e at hr hfp
    obtain⟨g',ob⟩:=e
    unfold stQf at hr hfp
    by_cases hg:g'=g
    ·cases ob with
     |none=>simp[hg,Q.run]at hr
     |map ks vs z=>simp[hg,Q.run]at hr
     |cells cs wm bx=>
      simp only[hg,if_true]at hr hfp
      split at hr
      ·rename_i hc
       rw[if_pos hc]at hfp
       cases bx with
       |true=>
        simp[Q.run]at hr
        obtain⟨rfl,rfl⟩:=hr
        exact hfp rfl
       |false=>
        unfold fzFuel at hr hfp
        simp only[Bool.false_and,Bool.false_eq_true,if_false]at hr hfp
        rw[fz_froz hz]at hr hfp
        simp only[Q.bind]at hr hfp
        split at hr
        ·simp[Q.run]at hr
        ·rename_i hd
         rw[if_neg hd]at hfp
         simp[Q.run]at hr
         obtain⟨rfl,rfl⟩:=hr
         exact hfp rfl
      ·simp[Q.run]at hr
    ·simp only[hg,if_false,Q.run]at hr
     cases hr
 |_=>rw[hx']at hx;simp[isLp]at hx
theorem d_gpass{op:AOp}{j:Nat}{w:Bool}(h:getF fr j= .b w):evDraw E call n ((u,⟨d,op,some (j,w)⟩)::ds) fps ⟨fr,lh,sh⟩=evDraw E call n ((u,⟨d,op,none⟩)::ds) fps ⟨fr,lh,sh⟩:=by
 simp only[evDraw,operFP,evOper,h,if_true]
theorem d_gpassT{op:AOp}{j:Nat}(h:getF fr j= .b true):evDraw E call n ((u,⟨d,op,some (j,true)⟩)::ds) fps ⟨fr,lh,sh⟩=evDraw E call n ((u,⟨d,op,none⟩)::ds) fps ⟨fr,lh,sh⟩:=d_gpass h
theorem d_gskip{op:AOp}{j:Nat}{w:Bool}(hd:okD n d)(h:getF fr j= .b (!w)∨getF fr j=undefT):evDraw E call n ((u,⟨d,op,some (j,w)⟩)::ds) fps ⟨fr,lh,sh⟩=evDraw E call n ds (fps++ [noFP]) ⟨setD fr d undefT,lh,sh⟩:=by
 have hfp:operFP E call ⟨d,op,some (j,w)⟩ ⟨fr,lh,sh⟩=some noFP:=by
  unfold operFP
  rcases h with h|h
  ·simp only[h];rw[if_neg (by cases w <;> simp)]
  ·simp only[h,undefT]
 rw[d_of (fp:=noFP) (fun _=>hfp),meets_no,if_pos rfl]
 rcases h with h|h
 ·rw[g_skip hd h];rfl
 ·rw[g_undef hd h];rfl
theorem d_gskipT{dd:Nat}{op:AOp}{j:Nat}(hd:dd<n)(h:getF fr j= .b false):evDraw E call n ((u,⟨some dd,op,some (j,true)⟩)::ds) fps ⟨fr,lh,sh⟩=evDraw E call n ds (fps++ [noFP]) ⟨setF fr dd undefT,lh,sh⟩:=d_gskip (d:=some dd) hd (Or.inl h)
end
end Go.Ev
namespace Go.Ev
open Go
def fzW(m:Nat)(lh:Tri Ent)(sh:List Ent)(keep:Bool)(v:T):Option (T×List Up):=(fz keep (m+1) v).run (St.mk .nil lh sh).get sh.length
def fzWL(m:Nat)(lh:Tri Ent)(sh:List Ent)(keep:Bool)(vs:List T):Option (List T×List Up):=(mapQ (fz keep (m+1)) vs).run (St.mk .nil lh sh).get sh.length
section
variable{m:Nat}{lh:Tri Ent}{sh:List Ent}{keep:Bool}
theorem fzW_froz1{v:T}(h:froz1 v=true):fzW m lh sh keep v=some (v,[]):=by unfold fzW;rw[fz_froz1 h];rfl
theorem fzW_isl{k g off len sz:Nat}:fzW m lh sh keep (.isl .L k g off len sz)=islV m lh sh k (getO lh k) g off len sz:=by
 cases keep <;> exact islQ (getO lh k)
theorem fzWL_nil:fzWL m lh sh keep []=some ([],[]):=rfl
theorem fzWL_cons{v:T}{vs:List T}:fzWL m lh sh keep (v::vs)=(fzW m lh sh keep v).bind fun p=>(fzWL m lh sh keep vs).bind fun q=>some (p.1::q.1,p.2++q.2):=by
 unfold fzWL fzW
 rw[mapQ,bind_run]
 congr 1
 funext p
 rw[bind_run]
 rfl
theorem fzV_aggK{cs:List T}:fzV lh sh keep (.agg cs)=(fzWL 6 lh sh keep cs).map fun q=>(.agg q.1,q.2):=fzV_agg
theorem fzV_tupK{cs:List T}:fzV lh sh keep (.tup cs)=(fzWL 6 lh sh keep cs).map fun q=>(.tup q.1,q.2):=fzV_tup
theorem fzW_aggK{cs:List T}:fzW (m+1) lh sh keep (.agg cs)=(fzWL m lh sh keep cs).map fun q=>(.agg q.1,q.2):=by
 unfold fzW fzWL
 rw[fz_agg,bind_run]
 cases (mapQ (fz keep (m+1)) cs).run (St.mk .nil lh sh).get sh.length <;> rfl
theorem ansV_gen{eff:Bool}{v:T}:ansV lh sh eff [v]=(fzV lh sh eff v).map fun p=>(p.1,((St.mk .nil lh sh).ups p.2).sh):=rfl
theorem ansV_gen2{eff:Bool}{v u:T}{vs:List T}:ansV lh sh eff (v::u::vs)=(fzV lh sh eff (.tup (v::u::vs))).map fun p=>(p.1,((St.mk .nil lh sh).ups p.2).sh):=rfl
theorem stB_rowG{k g g' off m wm:Nat}{cs:List T}{v:T}:stB lh sh k ⟨g',.cells cs wm false⟩ g off v m=if g'=g∧(cellsOf v).length=m∧noTup v=true∧wm≤off∧off+m≤cs.length then
   (fzV lh sh false v).bind fun p=>if hits p.2 .L k=true∨noTup p.1=false∨(cellsOf p.1).length≠m then none else some (((St.mk .nil lh sh).ups (p.2++ [(.L,k,⟨g,.cells (splice cs off (cellsOf p.1)) wm false⟩)])).lh,((St.mk .nil lh sh).ups (p.2++ [(.L,k,⟨g,.cells (splice cs off (cellsOf p.1)) wm false⟩)])).sh)
  else none:=rfl
end
theorem eqT_s{x y:List Nat}:eqT (.one .str) (.s x) (.s y)=some (decide (x=y)):=by
 simp only[eqT,eqCell,Bool.beq_eq_decide_eq]
theorem eqT_i{k:IntKind}{x y:Int}:eqT (.one .int) (.i k x) (.i k y)=some (decide (x=y)):=by
 simp only[eqT,eqCell,if_true,Bool.beq_eq_decide_eq]
theorem key_s{x:List Nat}:isKey (.one .str) (.s x)=true:=nr rfl
theorem key_i{k:IntKind}{x:Int}:isKey (.one .int) (.i k x)=true:=nr rfl
theorem find_nil{kk:EK}{k:T}:findI kk k []=some none:=rfl
def findS(r:Option Bool)(rest:Option (Option Nat)):Option (Option Nat):=
 match r with
 |some true=>some (some 0)
 |some false=>rest.map fun r=>r.map (· +1)
 |none=>none
theorem find_cons{kk:EK}{k x:T}{xs:List T}:findI kk k (x::xs)=findS (eqT kk k x) (findI kk k xs):=rfl
def lkF(vs:List T)(z:T)(ok:Bool)(r:Option (Option Nat)):Option T:=
 match r with
 |some (some i)=>vs[i]?.map fun v=>if ok=true then .tup [v,.b true]else v
 |some none=>some (if ok=true then .tup [z,.b false]else z)
 |none=>none
theorem lkIn_eq{kk:EK}{ks vs:List T}{k z:T}{ok:Bool}(h:isKey kk k=true):lkIn kk ks vs k z ok=lkF vs z ok (findI kk k ks):=by
 unfold lkIn lkF
 simp only[h,Bool.not_true,Bool.false_eq_true,if_false]
 cases findI kk k ks with
 |none=>rfl
 |some o=>cases o <;> rfl
theorem lkF_some{vs:List T}{z:T}{ok:Bool}{i:Nat}:lkF vs z ok (some (some i))=vs[i]?.map fun v=>if ok=true then .tup [v,.b true]else v:=rfl
theorem lkF_none{vs:List T}{z:T}{ok:Bool}:lkF vs z ok (some none)=some (if ok=true then .tup [z,.b false]else z):=rfl
def putF(ks vs:List T)(k v:T)(r:Option (Option Nat)):Option (List T×List T):=
 match r with
 |some (some i)=>some (ks.set i k,vs.set i v)
 |some none=>some (ks++ [k],vs++ [v])
 |none=>none
theorem putK_eq{kk:EK}{ks vs:List T}{k v:T}:putK kk k v ks vs=putF ks vs k v (findI kk k ks):=by
 unfold putK putF
 cases findI kk k ks with
 |none=>rfl
 |some o=>cases o <;> rfl
theorem putF_some{ks vs:List T}{k v:T}{i:Nat}:putF ks vs k v (some (some i))=some (ks.set i k,vs.set i v):=rfl
theorem putF_none{ks vs:List T}{k v:T}:putF ks vs k v (some none)=some (ks++ [k],vs++ [v]):=rfl
theorem lkE_map{g g':Nat}{ks vs:List T}{z:Bool}{ek:EK}{k u:T}{ok:Bool}:lkE ⟨g',.map ks vs z⟩ g ek k u ok=if g'=g then lkIn ek ks vs k u ok else none:=rfl
theorem muE_map{lh:Tri Ent}{kk g g':Nat}{ks vs:List T}{ek:EK}{k v:T}:muE lh kk ⟨g',.map ks vs false⟩ g ek k v=if g'=g∧isKey ek k=true then(putK ek k v ks vs).map fun q=>setO lh kk ⟨g,.map q.1 q.2 false⟩else none:=rfl
end Go.Ev
namespace Go.Ev
open Go
section
variable{E:Env}{call:Orc}{n:Nat}{fr:Fr}{lh:Tri Ent}{sh:List Ent}{os:List AOper}{d:Nat}
theorem o_allocS{z:List T}(hd:d<n):evOps E call n (⟨some d,.alloc z true,none⟩::os) ⟨fr,lh,sh⟩=evOps E call n os ⟨setF fr d (.ptr .S sh.length 1 0),lh,setE sh sh.length ⟨1,.cells z 0 true⟩⟩:=by
 rw[e_one (by rfl) (show okD n (some d)from hd)];rfl
theorem o_mkmapS(hd:d<n):evOps E call n (⟨some d,.mkmap true,none⟩::os) ⟨fr,lh,sh⟩=evOps E call n os ⟨setF fr d (.mp .S sh.length 1),lh,setE sh sh.length ⟨1,.map [] [] false⟩⟩:=by
 rw[e_one (by rfl) (show okD n (some d)from hd)];rfl
theorem getE_zero{e:Ent}{l:List Ent}:getE (e::l) 0=e:=rfl
theorem getE_succ{e:Ent}{l:List Ent}{k:Nat}:getE (e::l) (k+1)=getE l k:=rfl
theorem getE_nil{k:Nat}:getE [] k=noEnt:=rfl
theorem setE_nil{v:Ent}:setE [] 0 v= [v]:=rfl
theorem setE_zero{e v:Ent}{l:List Ent}:setE (e::l) 0 v=v::l:=rfl
theorem setE_succ{e v:Ent}{l:List Ent}{k:Nat}:setE (e::l) (k+1) v=e::setE l k v:=rfl
def stBS(lh:Tri Ent)(sh:List Ent)(k:Nat)(e:Ent)(g off:Nat)(v:T)(m:Nat):Option (Tri Ent×List Ent):=
 match e with
 |⟨g',.cells cs wm bx⟩=>if g'=g∧(cellsOf v).length=m∧noTup v=true∧wm≤off∧off+m≤cs.length then some (lh,setE sh k ⟨g,.cells (splice cs off (cellsOf v)) wm bx⟩)else none
 |_=>none
def stQS(k g off m:Nat)(v:T)(e:Ent):Q Res:=if e.g=g then match e.ob with
     | .cells cs wm bx=>if wm≤off&&off+m≤cs.length then
         (if bx&&Sp.S== .L then .ret (.val undefT [(Sp.S,k,⟨g,.cells (splice cs off (cellsOf v)) wm bx⟩)])
         else(fz (bx&&Sp.S== .S) fzFuel v).bind fun p=>if hits p.2 .S k|| !noTup p.1||(cellsOf p.1).length≠m then .fail else .ret (.val undefT (p.2++ [(Sp.S,k,⟨g,.cells (splice cs off (cellsOf p.1)) wm bx⟩)])))
       else .fail
     |_=> .fail
    else .fail
theorem stQS_eq{k g off m:Nat}{v:T}(e:Ent)(h1:(cellsOf v).length=m)(h2:noTup v=true)(hz:froz v=true):upRes lh sh (Q.run (St.mk .nil lh sh).get sh.length (stQS k g off m v e))=stBS lh sh k e g off v m:=by
 obtain⟨g',ob⟩:=e
 unfold stBS stQS
 by_cases hg:g'=g
 ·subst hg
  cases ob with
  |none=>simp[Q.run,upRes]
  |map ks vs z=>simp[Q.run,upRes]
  |cells cs wm bx=>
   by_cases hb:wm≤off∧off+m≤cs.length
   ·have hb':(decide (wm≤off)&&decide (off+m≤cs.length))=true:=by simp[hb.1,hb.2]
    have hbx:(bx&&Sp.S==Sp.L)=false:=by cases bx <;> rfl
    unfold fzFuel
    simp only[if_true,hb',hbx,Bool.false_eq_true,if_false]
    rw[fz_froz hz]
    have hno:(hits [] Sp.S k|| !noTup v||decide ((cellsOf v).length≠m))=false:=by simp[hits,h1,h2]
    simp only[Q.bind,hno,Bool.false_eq_true,if_false,Q.run,upRes]
    rw[if_pos ⟨trivial,h1,h2,hb⟩]
    rfl
   ·have hb':(decide (wm≤off)&&decide (off+m≤cs.length))=false:=by
     cases hx:(decide (wm≤off)&&decide (off+m≤cs.length))with
     |false=>rfl
     |true=>simp at hx;exact absurd hx hb
    simp only[if_true,hb',Bool.false_eq_true,if_false,Q.run,upRes]
    rw[if_neg (by rintro⟨_,_,_,a⟩;exact hb a)]
 ·cases ob with
  |none=>simp[hg,Q.run,upRes]
  |map ks vs z=>simp[hg,Q.run,upRes]
  |cells cs wm bx=>simp[hg,Q.run,upRes]
theorem stV_S{k g off m:Nat}{v:T}(hz:froz v=true):stV lh sh (.ptr .S k g off) v m=stBS lh sh k (getE sh k) g off v m:=by
 by_cases h1:(cellsOf v).length=m
 ·cases h2:noTup v with
  |false=>
   unfold stV stAt
   have:(decide ((cellsOf v).length≠m)|| !noTup v)=true:=by simp[h2]
   simp only[this,if_true,Q.run]
   unfold stBS
   split <;> simp[h2]
  |true=>
   unfold stV stAt
   have:(decide ((cellsOf v).length≠m)|| !noTup v)=false:=by simp[h1,h2]
   simp only[this,Bool.false_eq_true,if_false]
   exact stQS_eq (getE sh k) h1 h2 hz
 ·unfold stV stAt
  have:(decide ((cellsOf v).length≠m)|| !noTup v)=true:=by simp[h1]
  simp only[this,if_true,Q.run]
  unfold stBS
  split <;> simp[h1]
theorem stBS_cells{k g g' off m wm:Nat}{cs:List T}{bx:Bool}{v:T}:stBS lh sh k ⟨g',.cells cs wm bx⟩ g off v m=if g'=g∧(cellsOf v).length=m∧noTup v=true∧wm≤off∧off+m≤cs.length then some (lh,setE sh k ⟨g,.cells (splice cs off (cellsOf v)) wm bx⟩)else none:=rfl
end
section
variable{E:Env}{call:Orc}{n:Nat}{fr:Fr}{lh:Tri Ent}{sh:List Ent}{ds:List (List Nat×AOper)}{fps:List FP}{u:List Nat}{d:Option Nat}
def lkLog:T→List (Sp×Nat)
 | .mp sp k _=> [(sp,k)]
 |_=> []
theorem lkLog_mp{sp:Sp}{k g:Nat}:lkLog (.mp sp k g)= [(sp,k)]:=rfl
theorem lkLog_vm{a b:List T}:lkLog (.vm a b)= []:=rfl
theorem log_val{h:Sp→Nat→Ent}{nx:Nat}{o:Option T}:(val o).log h nx= []:=by cases o <;> rfl
theorem d_lk{ek:EK}{m k:Opd}{z:T}{ok:Bool}:evDraw E call n ((u,⟨d,.lk ek m k z ok,none⟩)::ds) fps ⟨fr,lh,sh⟩=
  if meets u fps ⟨false,lkLog (rd fr m),[]⟩=true then ke E call n ds (fps++ [⟨false,lkLog (rd fr m),[]⟩]) (evOps E call n [⟨d,.lk ek m k z ok,none⟩] ⟨fr,lh,sh⟩)else none:=by
 refine d_of fun hne=> ?_
 obtain⟨hq,hco⟩:=calm_op (d:=d.getD 0) (ρ:=(St.mk fr lh sh).rho) (op:= .lk ek m k z ok) rfl
 obtain⟨v,ups,hr,hfp⟩:=fp_q hco rfl hne
 obtain⟨rfl,ha⟩:=Q.calm_run _ hq hr
 have hl:(opQ (d.getD 0) (St.mk fr lh sh).rho (.lk ek m k z ok)).log (St.mk fr lh sh).get sh.length=lkLog (rd fr m):=by
  rw[rho_eq]
  simp only[opQ]
  unfold lkLog
  cases hx:rd fr m <;> try rfl
  ·simp only[];split <;> rfl
  ·exact log_val
  ·rename_i sp kk g
   simp only[Q.log]
   congr 1
   generalize (St.mk fr lh sh).get sp kk=e
   obtain⟨g',ob⟩:=e
   by_cases hg:g'=g
   ·cases ob with
    |map ks vs zz=>simp only[hg,if_true];exact log_val
    |_=>simp only[hg,if_true];rfl
   ·simp only[hg,if_false];rfl
 have:=hfp (by rw[ha];simp[inB])
 rw[this,ha,hl];rfl
end
section
variable{E:Env}{call:Orc}{n:Nat}{fr:Fr}{lh:Tri Ent}{sh:List Ent}{ds:List (List Nat×AOper)}{fps:List FP}{d:Option Nat}
theorem inB_L{st:St}{k:Nat}{e:Ent}:inB st [(.L,k,e)]=true:=rfl
def noU:List (List Nat×AOper)→Bool
 | []=>true
 |(u,_)::ds=>u.isEmpty&&noU ds
theorem noU_nil:noU []=true:=nr rfl
theorem noU_cons{o:AOper}{ds:List (List Nat×AOper)}:noU (([],o)::ds)=noU ds:=nr rfl
theorem draw_noU: ∀(ds:List (List Nat×AOper)) (fps fps':List FP) (st:St),noU ds=true→evDraw E call n ds fps st=evDraw E call n ds fps' st
 | [],_,_,_,_=>rfl
 |(u,o)::ds,fps,fps',st,h=>by
  simp only[noU,Bool.and_eq_true,List.isEmpty_iff]at h
  obtain⟨rfl,h⟩:=h
  simp only[evDraw,List.all_nil,if_true]
  cases operFP E call o st with
  |none=>rfl
  |some fp=>
   simp only[]
   cases evOper E call n o st with
   |none=>rfl
   |some s=>exact draw_noU ds _ _ s h
end
end Go.Ev
