/- A task counted in a state, by the model, as the evaluator meets it. Conditions: none. -/
import Derived.Test.YtnkgnjecmfkcfaaGreatExt
import Derived.Test.YtnkgnjecmfkcfaaGreatCnt
import Derived.Test.YtnkgnjecmfkcfaaGreatEvG
set_option maxRecDepth 100000
set_option linter.all false
namespace Go.Proofs
open Go Go.Ev Go.RowKit
def strsE:List T→Option (List (List Nat))
 | []=>some []
 | .s l::cs=>(strsE cs).map (l:: ·)
 |_::_=>none
def ascN:List (List Nat)→Bool
 | []=>true
 |x::r=>(match r with| []=>true|y::_=>lessN x y)&&ascN r
def insS(s:List Nat):List (List Nat)→List (List Nat)
 | []=> [s]
 |x::r=>if lessN x s then x::insS s r else if x=s then x::r else s::x::r
def tysL:T→Option (List (List Nat))
 | .nilsl=>some []
 | .sl cs n _=>if cs.length=n then strsE cs else none
 |_=>none
def slS(t:T)(L:List (List Nat)):T:=match t with| .nilsl=> .nilsl|_=> .sl (L.map T.s) L.length false
def flAt(fT:T)(k:Int):Option (Int×Int×List Nat):=match iaV fT (.i .i64 k) 9 with
 |some (.vp (_::_::_:: .i .i64 d:: .i .i64 a:: .s t::_))=>some (d,a,t)
 |_=>none
def countE:List T→Option T
 | [.vp (_::_::fT::_),.agg [.i .i64 f0,.b f1,.i .i64 _,.b _,.i .i64 lg,.i .i64 hd,.i .i64 bl,.i .i64 lo,.i .i64 so,ty],.agg [.i .i64 kf,.b kh]]=>
   match tysL ty with
   |some L=>if ascN L&&decide (L.length≤1000)then
     if kh then some (.agg [.i .i64 f0,.b f1,.i .i64 kf,.b true,.i .i64 lg,.i .i64 (wr .i64 (hd+1)),.i .i64 bl,.i .i64 lo,.i .i64 so,slS ty L])
     else match flAt fT kf with
      |some (d,a,t)=>some (.agg [.i .i64 f0,.b f1,.i .i64 kf,.b false,.i .i64 (wr .i64 (lg+1)),.i .i64 hd,.i .i64 (wr .i64 (bl+wr .i64 (a-d))),.i .i64 lo,.i .i64 so,.sl ((insS t L).map T.s) (insS t L).length false])
      |none=>none
    else none
   |none=>none
 |_=>none
theorem lb_irr: ∀a:List UInt8,Op.bytesLess a a=false
 | []=>rfl
 |x::a=>by simp[Op.bytesLess,lb_irr a]
theorem lb_trans: ∀a b c:List UInt8,Op.bytesLess a b=true→Op.bytesLess b c=true→Op.bytesLess a c=true
 | [],[],_,h,_=>by simp[Op.bytesLess]at h
 | [],_::_,[],_,h=>by simp[Op.bytesLess]at h
 | [],_::_,_::_,_,_=>by simp[Op.bytesLess]
 |x::a,[],_,h,_=>by simp[Op.bytesLess]at h
 |x::a,y::b,[],_,h=>by simp[Op.bytesLess]at h
 |x::a,y::b,z::c,h1,h2=>by
  simp only[Op.bytesLess,Bool.or_eq_true,Bool.and_eq_true,decide_eq_true_eq,beq_iff_eq]at h1 h2 ⊢
  rcases h1 with h1|⟨rfl,h1⟩
  ·rcases h2 with h2|⟨rfl,h2⟩
   ·exact .inl (Nat.lt_trans h1 h2)
   ·exact .inl h1
  ·rcases h2 with h2|⟨rfl,h2⟩
   ·exact .inl h2
   ·exact .inr ⟨rfl,lb_trans a b c h1 h2⟩
theorem lb_N(x y:ByteArray):lessN (bytesN x) (bytesN y)=Op.bytesLess x.toList y.toList:=by rw[bytesN_toList,bytesN_toList,less_map]
theorem bN_inj{x y:ByteArray}(h:bytesN x=bytesN y):x=y:=by
 unfold bytesN at h
 have:x.data.toList=y.data.toList:=(List.map_inj_right (fun a b e=>UInt8.toNat_inj.1 e)).1 h
 cases x;cases y;simp at this;rw[this]
theorem asc_all: ∀(r:List ByteArray) (x:ByteArray),ascN ((x::r).map bytesN)=true→(∀y∈r,Op.bytesLess x.toList y.toList=true)∧ascN (r.map bytesN)=true
 | [],x,_=>⟨(fun y hy=>by cases hy),rfl⟩
 |z::r,x,h=>by
  have h':(lessN (bytesN x) (bytesN z)&&ascN ((z::r).map bytesN))=true:=h
  rw[Bool.and_eq_true,lb_N]at h'
  obtain⟨h1,h2⟩:=asc_all r z h'.2
  refine⟨fun y hy=> ?_,h'.2⟩
  rcases List.mem_cons.1 hy with rfl|hy
  ·exact h'.1
  ·exact lb_trans _ _ _ h'.1 (h1 y hy)
theorem ins_at(ty:ByteArray): ∀ss:List ByteArray,ascN (ss.map bytesN)=true→ ∃q,AtC ss ty q∧(if ss[q]? =some ty then ss else ss.take q++ty::ss.drop q).map bytesN=insS (bytesN ty) (ss.map bytesN)
 | [],_=>⟨0,⟨Nat.le_refl _,fun t h=>by omega,fun t _=>by simp[lb_irr]⟩,by simp[insS]⟩
 |x::r,h=>by
  obtain⟨h1,h2⟩:=asc_all r x h
  by_cases hx:Op.bytesLess x.toList ty.toList=true
  ·obtain⟨q,⟨a1,a2,a3⟩,b⟩:=ins_at ty r h2
   refine⟨q+1,⟨by simpa using a1,fun t ht=> ?_,fun t ht=> ?_⟩, ?_⟩
   ·cases t with
    |zero=>simpa using hx
    |succ t=>simpa using a2 t (by omega)
   ·cases t with
    |zero=>omega
    |succ t=>simpa using a3 t (by omega)
   ·rw[List.getElem?_cons_succ,List.map_cons,insS,lb_N,if_pos hx,←b]
    split
    ·rfl
    ·rfl
  ·have hx':Op.bytesLess x.toList ty.toList=false:=by simpa using hx
   refine⟨0,⟨Nat.zero_le _,fun t ht=>by omega,fun t _=> ?_⟩, ?_⟩
   ·by_cases ht:t<(x::r).length
    ·rw[List.getD_eq_getElem?_getD,List.getElem?_eq_getElem ht,Option.getD_some]
     cases t with
     |zero=>exact hx'
     |succ t=>
      cases hc:Op.bytesLess (x::r)[t+1].toList ty.toList with
      |false=>rfl
      |true=>exact absurd (lb_trans _ _ _ (h1 _ (List.getElem_mem (by simpa using ht))) hc) hx
    ·rw[List.getD_eq_getElem?_getD,List.getElem?_eq_none (by omega),Option.getD_none,lb_irr]
   ·rw[List.getElem?_cons_zero,List.map_cons,insS,lb_N,if_neg hx]
    by_cases e:x=ty
    ·rw[if_pos (by rw[e]),if_pos (by rw[e])];rfl
    ·rw[if_neg (fun h=>e (Option.some.inj h)),if_neg (fun h=>e (bN_inj h))];rfl
theorem strs_cells{w:World}{M:MSet}{b:Nat}: ∀{cs:List T} {L:List (List Nat)} {o:Nat},strsE cs=some L→PCells w M b o cs→ ∃ss:List ByteArray,ss.map bytesN=L∧ss.length=cs.length∧ ∀j,j<ss.length→w.cell? ⟨b,o+j,none⟩=some (.string (ss.getD j ByteArray.empty))
 | [],L,o,h,_=>by simp[strsE]at h;subst h;exact⟨[],rfl,rfl,fun j h=>by simp at h⟩
 | .s x::cs,L,o,h,hp=>by
   simp only[strsE,Option.map_eq_some_iff]at h
   obtain⟨L',h1,rfl⟩:=h
   simp only[PCells,PRel]at hp
   obtain⟨⟨v,hv,_,⟨bs,rfl,rfl⟩,_⟩,h3⟩:=hp
   obtain⟨ss,e1,e2,e3⟩:=strs_cells h1 h3
   refine⟨bs::ss,by rw[List.map_cons,e1],by simp[e2],fun j hj=> ?_⟩
   cases j with
   |zero=>exact hv
   |succ j=>
    have:=e3 j (by simpa using hj)
    rw[show o+(j+1)=o+1+j by omega,this];rfl
 | .b _::_,_,_,h,_| .i _ _::_,_,_,h,_| .nilsl::_,_,_,h,_| .sl _ _ _::_,_,_,h,_| .isl _ _ _ _ _ _::_,_,_,h,_| .nilptr::_,_,_,h,_| .vp _::_,_,_,h,_| .ptr _ _ _ _::_,_,_,h,_| .nilmp::_,_,_,h,_| .vm _ _::_,_,_,h,_| .mp _ _ _::_,_,_,h,_| .nilfn::_,_,_,h,_| .fn _ _ _::_,_,_,h,_| .agg _::_,_,_,h,_| .tup _::_,_,_,h,_| .any::_,_,_,h,_=>by simp[strsE]at h
def strs_rel{w:World}{M:MSet}{ty:T}{L:List (List Nat)}{v:Value}(h:tysL ty=some L)(hv:PRel w M ty v)(hl:L.length≤1000): ∃(va:Option Addr) (vn vc:Nat) (ss:List ByteArray),v= .slice va vn vc∧ss.map bytesN=L∧Strs w v ss∧(ty= .nilsl↔v= .slice none 0 0):=by
 unfold tysL at h
 split at h
 ·simp only[PRel]at hv
  cases h
  exact⟨none,0,0,[],hv,rfl,.inl ⟨hv,rfl⟩,by simp[hv]⟩
 ·rename_i cs n ex
  split at h
  ·rename_i hn
   simp only[PRel]at hv
   obtain⟨b,o,c,sp,rfl,hc,_,hsp,hp⟩:=hv
   obtain⟨ss,e1,e2,e3⟩:=strs_cells h hp
   have hsl:ss.length=n:=by rw[e2,hn]
   refine⟨_,_,_,ss,rfl,e1,.inr ⟨b,o,c,sp,by rw[hsl],by rw[←e1,List.length_map]at hl;exact hl,hsp.imp id (fun h=>by omega),e3⟩,by simp⟩
  ·cases h
 ·cases h
def own_prel{w:World}{base:Nat}{va:Option Addr}{c:Nat}{ss:List ByteArray}(h:w.ownsRow base 9 1 (.slice va ss.length c) ss.length (ss.map Value.string))(hn:va≠none):PRel w (fun b _=>b<base) (.sl ((ss.map bytesN).map T.s) ss.length false) (.slice va ss.length c):=by
 rcases h.2 with⟨h,_⟩|⟨g,cap,cur,hv,hb,hh,hc,_,hz,ht⟩
 ·simp at h;exact absurd h.1 hn
 ·simp only[Value.slice.injEq]at hv
  obtain⟨rfl,_,rfl⟩:=hv
  simp only[PRel]
  refine⟨g,0,c,none,rfl,hc,(fun h=>by cases h),.inl rfl, ?_⟩
  have main: ∀(m:Nat) (k:Nat),ss.length-k=m→k≤ss.length→PCells w (fun b _=>b<base) g k (((ss.drop k).map bytesN).map T.s):=by
   intro m
   induction m with
   |zero=>intro k h1 h2;rw[List.drop_of_length_le (by omega)];simp only[List.map_nil,PCells]
   |succ m ih=>
    intro k h1 h2
    rw[List.drop_eq_getElem_cons (by omega),List.map_cons,List.map_cons,PCells]
    refine⟨⟨.string ss[k], ?_,by omega,by simp only[PRel];exact⟨_,rfl,rfl⟩,rfl⟩,ih (k+1) (by omega) (by omega)⟩
    refine cell_in hh ?_
    have:(cur.toList.take (ss.length*1))[k]? =some (.string ss[k]):=by rw[ht,List.getElem?_map,List.getElem?_eq_getElem (by omega)];rfl
    rw[List.getElem?_take_of_lt (by omega),Array.getElem?_toList]at this
    exact this
  have:=main _ 0 rfl (Nat.zero_le _)
  rwa [List.drop_zero]at this
def Tryz.cntOk:ExtOk Tryz.prog 76 countE:=by
 refine⟨⟨_,Tryz.func76,by kernel_rfl,by kernel_rfl⟩, ?_⟩
 intro args r hr w M cargs hM hp
 unfold countE at hr
 split at hr
 case h_2=>cases hr
 case h_1 z1 z2 fT rest f0 f1 l0 l1 lg hd bl lo so ty kf kh=>
 split at hr
 case h_2=>cases hr
 case h_1 L hL=>
 split at hr
 case isFalse=>cases hr
 case isTrue hb=>
 simp only[Bool.and_eq_true,decide_eq_true_eq]at hb
 simp only[PList,PRel]at hp
 obtain⟨u,us,hc,⟨B,o,rfl,hcells⟩,u2,us2,rfl,⟨A2,rfl,h2,_⟩,u3,us3,rfl,⟨A3,rfl,h3,_⟩,rfl⟩:=hp
 obtain⟨_,_,e20,rfl,_,_,rfl,rfl,_,_,rfl,rfl,_,_,rfl,rfl,_,_,rfl,rfl,_,_,rfl,rfl,_,_,rfl,rfl,_,_,rfl,rfl,_,_,rfl,rfl,vT,_,rfl,hvT,rfl⟩:=h2
 obtain⟨_,_,e30,rfl,_,_,rfl,rfl,rfl⟩:=h3
 obtain⟨va,vn,vc,ss,rfl,rfl,hS,hnil⟩:=strs_rel hL hvT hb.2
 have e2:A2= #[.int .i64 f0,.bool f1,.int .i64 l0,.bool l1,.int .i64 lg,.int .i64 hd,.int .i64 bl,.int .i64 lo,.int .i64 so,.slice va vn vc]:=Array.toList_inj.1 e20
 have e3:A3= #[.int .i64 kf,.bool kh]:=Array.toList_inj.1 e30
 have e1:cargs= #[.pointer (some ⟨B,o,none⟩),.agg A2,.agg A3]:=Array.toList_inj.1 hc
 subst e1 e2 e3
 rw[List.length_map]at hb
 have hty: ∀a c (w':World),(a=none↔Value.slice va vn vc= .slice none 0 0)→w'.ownsRow w.heap.size 9 1 (.slice a ss.length c) ss.length (ss.map Value.string)→PRel w' (fun b _=>b<w.heap.size) (slS ty (ss.map bytesN)) (.slice a ss.length c):=fun a c w' h1 h2=>by
  by_cases ha:a=none
  ·have ht:=hnil.2 (h1.1 ha)
   subst ht ha
   show PRel _ _ T.nilsl _
   simp only[PRel]
   rcases h2.2 with⟨h,_⟩|⟨_,_,_,h,_⟩
   ·exact h
   ·simp at h
  ·have ht:slS ty (ss.map bytesN)= .sl ((ss.map bytesN).map T.s) ss.length false:=by
    unfold slS
    split
    ·exact absurd (h1.2 (hnil.1 rfl)) ha
    ·rw[List.length_map]
   rw[ht]
   exact own_prel h2 ha
 cases kh with
 |true=>
  rw[if_pos rfl]at hr
  cases hr
  refine(Tryz.count_head w _ f0 l0 kf lg hd bl lo so f1 l1 va vn vc ss hS).mono ?_
  rintro e w' ⟨a,c,rfl,h1,h2,h3⟩
  refine⟨_,rfl,h3, ?_⟩
  simp only[PRel,PList]
  exact⟨_,rfl,⟨_,_,rfl,rfl,_,_,rfl,rfl,_,_,rfl,rfl,_,_,rfl,rfl,_,_,rfl,rfl,_,_,rfl,by rw[wr_eq],_,_,rfl,rfl,_,_,rfl,rfl,_,_,rfl,rfl,_,_,rfl,hty a c w' h2 h1,rfl⟩,by unfold slS;cases ty <;> rfl⟩
 |false=>
  simp only[Bool.false_eq_true,if_false]at hr
  split at hr
  case h_2=>cases hr
  case h_1 d a t hf=>
  cases hr
  unfold flAt at hf
  split at hf
  case h_2=>cases hf
  case h_1 x0 x1 x2 d' a' t' rr hia=>
  cases hf
  obtain⟨j,bF,oF,len,cap,rfl,hj,q2,q3,q4,q5⟩: ∃(j bF oF len cap:Nat),kf=(j:Int)∧j<len∧w.cell? ⟨B,o+2,none⟩=some (.slice (some ⟨bF,oF,none⟩) len cap)∧w.cell? ⟨bF,oF+j*9+3,none⟩=some (.int .i64 d)∧w.cell? ⟨bF,oF+j*9+4,none⟩=some (.int .i64 a)∧ ∃ts,bytesN ts=t∧w.cell? ⟨bF,oF+j*9+5,none⟩=some (.string ts):=by
   obtain⟨vF,hvF,_,hF,_⟩:=hcells.get (j:=2) (t:=fT) rfl
   unfold iaV at hia
   split at hia
   ·rename_i j cs n ex hk hx
    split at hia
    ·rename_i hlt
     simp only[Option.some.injEq,T.vp.injEq]at hia
     simp only[PRel]at hF
     obtain⟨bF,oF,cap,sp,rfl,hc,_,hsp,hp⟩:=hF
     obtain rfl:sp=none:=hsp.resolve_right (by omega)
     have hg: ∀(i:Nat) (x:T),(x0::x1::x2::T.i .i64 d::T.i .i64 a::T.s t::rr)[i]? =some x→cs[j*9+i]? =some x:=fun i x h=>by rw[←List.getElem?_drop,hia];exact h
     obtain⟨_,e3,_,r3,_⟩:=hp.get (hg 3 _ rfl)
     obtain⟨_,e4,_,r4,_⟩:=hp.get (hg 4 _ rfl)
     obtain⟨_,e5,_,r5,_⟩:=hp.get (hg 5 _ rfl)
     simp only[PRel]at r3 r4 r5
     subst r3 r4
     obtain⟨ts,rfl,hts⟩:=r5
     have hkj:kf=(j:Int):=by
      have hk':(if 0≤kf then some kf.toNat else none)=some j:=hk
      by_cases h0:0≤kf
      ·rw[if_pos h0]at hk'
       injection hk' with hk'
       omega
      ·rw[if_neg h0]at hk';cases hk'
     refine⟨j,bF,oF,n,cap,hkj,hlt.1,hvF, ?_, ?_,ts,hts, ?_⟩
     ·rw[Nat.add_assoc];exact e3
     ·rw[Nat.add_assoc];exact e4
     ·rw[Nat.add_assoc];exact e5
    ·cases hia
   ·split at hia <;> cases hia
   ·cases hia
  obtain⟨ts,rfl,q5⟩:=q5
  obtain⟨q,hq,hins⟩:=ins_at ts ss hb.1
  refine(Tryz.count_leg w B o bF oF len cap j hj q2 d a ts q3 q4 q5 f0 l0 lg hd bl lo so f1 l1 va vn vc ss hS q hq hb.2 _ rfl).mono ?_
  rintro e w' ⟨a',c,rfl,h0,h1,h3⟩
  refine⟨_,rfl,h3, ?_⟩
  rw[←hins]
  simp only[PRel,PList]
  refine⟨_,rfl,⟨_,_,rfl,rfl,_,_,rfl,rfl,_,_,rfl,rfl,_,_,rfl,rfl,_,_,rfl,by rw[wr_eq],_,_,rfl,rfl,_,_,rfl,by rw[wr_eq,wr_eq],_,_,rfl,rfl,_,_,rfl,rfl,_,_,rfl, ?_,rfl⟩,rfl⟩
  have:=own_prel h1 h0
  rw[List.length_map]
  simpa only[PRel]using this
end Go.Proofs
