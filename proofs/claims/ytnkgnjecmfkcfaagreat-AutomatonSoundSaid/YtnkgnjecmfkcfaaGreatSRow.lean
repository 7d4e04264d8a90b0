/- AutomatonSound returns true at every input, and leaves it as it was. Conditions: none. (The frame is by proof-skeleton.mjs.) -/
import Derived.Test.YtnkgnjecmfkcfaaGreatM35
import Derived.Test.YtnkgnjecmfkcfaaGreatSFacts
import Derived.OpenShut
import Derived.ShutString
import Derived.ChangeOld
namespace Go.Proofs.YtnkgnjecmfkcfaaGreat.automatonSound
open Go.ChangeShapes Go.WideShapes Go.ChangeAt Go.RowKit
open Go.ChangeMaps (open_string shut_string)
set_option linter.unusedVariables false
theorem spot_of{P:Program}{w:World}{r:Reach}{base:Nat}{t e:TypeId}{x:Addr}{len cap:Nat}(ht:P.underlying t=some (.slice e))(h:Value.okWide P w r base t (.slice (some x) len cap)):x.spot=none:=by
 simp only[Value.okWide,ht,Cell.okWide,Cell.ok]at h
 exact h.2.2.2.1
theorem pcells_ints(w:World)(blk:Nat): ∀(zs:List Int) (off:Nat),(∀i,i<zs.length→w.cell? ⟨blk,off+i,none⟩=some (.int .i64 (zs.getD i 0)))→Go.Ev.PCells w (fun _ _=>False) blk off (Go.Ev.ints zs)
 | [],off,_=>by simp only[Go.Ev.ints,List.map_nil,Go.Ev.PCells]
 |z::zs,off,h=>by
  have h0:=h 0 (by simp)
  have ht:=pcells_ints w blk zs (off+1) fun i hi=>by
   have:=h (i+1) (by simpa using hi)
   rw[show off+(i+1)=off+1+i by omega]at this
   simpa using this
  simp only[Go.Ev.ints,List.map_cons,Go.Ev.PCells]at ht ⊢
  exact⟨⟨_,by simpa using h0,fun h=>h,by simp only[Go.Ev.PRel],rfl⟩,ht⟩
theorem own:ownKnob Tryz.prog.godebug=none:=by kernel_rfl
theorem laidOut:laidOutB Tryz.prog=true:=by kernel_rfl
def IsRow(k:IntKind)(w:World)(a:Option Addr)(len cap:Nat)(zs:List Int):Prop:=
 (a=none∧len=0∧cap=0∧zs= [])∨
 ∃x,a=some x∧x.spot=none∧len≤cap∧cap≤maxLen∧zs.length=cap∧(∀i,i<zs.length→w.cell? (x.add i)=some (.int k (zs.getD i 0)))∧ ∀n∈zs,(Lit.int k n).wf=true
theorem tree_of{w:World}{a:Option Addr}{len cap:Nat}{z:List Int}(h:IsRow .i64 w a len cap z): ∃(t:Go.Ev.T) (xs:List Int),Go.Ev.IsSl t xs.length (Go.Ev.ints xs)∧Go.Ev.PRel w (fun _ _=>False) t (.slice a len cap):=by
 rcases h with⟨rfl,rfl,rfl,rfl⟩|⟨x,rfl,hsp,hl,hm,hz,hcell,_⟩
 ·exact⟨.nilsl,[],Or.inl ⟨rfl,rfl,rfl⟩,by simp only[Go.Ev.PRel]⟩
 ·obtain⟨blk,off,spot⟩:=x
  obtain rfl:spot=none:=hsp
  have hlen:(z.take len).length=len:=by rw[List.length_take];omega
  refine⟨.sl (Go.Ev.ints (z.take len)) len false,z.take len,Or.inr ⟨false,by rw[hlen]⟩, ?_⟩
  have hc:=pcells_ints w blk (z.take len) off fun i hi=>by
   rw[hlen]at hi
   have:=hcell i (by omega)
   rw[List.getD_eq_getElem?_getD,List.getElem?_take_of_lt hi,←List.getD_eq_getElem?_getD]
   have ha:(Addr.mk blk off none).add i=⟨blk,off+i,none⟩:=by
    unfold Addr.add
    split
    ·rename_i h0;rw[h0];rfl
    ·rfl
   rw[ha]at this
   exact this
  simp only[Go.Ev.PRel]
  exact⟨blk,off,cap,none,rfl,hl,(fun h=>by cases h),.inl rfl,hc⟩
theorem walk(a0:Option Addr)(len0 cap0:Nat)(z0:List Int)(a1:Int)(w:World)(w0:IsRow .i64 w a0 len0 cap0 z0)(w1:(Lit.int .i64 a1).wf=true):
  Calls Tryz.prog 6 #[.slice a0 len0 cap0,.int .i64 a1] w fun e w'=>e= .returned (.bool true)∧Below w.heap.size w w':=by
 obtain⟨t0,x0,hs0,hp0⟩:=tree_of w0
 obtain⟨s,hs⟩:=aq1 t0 x0 hs0 a1
 obtain⟨m,hm⟩:=Go.Ev.DCall_iff.1 hs
 refine(Go.Ev.pure_call axf (Checked.mixed Tryz.checked) (f:=6) (af:=c6) rfl rfl rfl hm w #[.slice a0 len0 cap0,.int .i64 a1] ?_).mono ?_
 ·simp only[Go.Ev.PList]
  exact⟨_,_,rfl,hp0,_,_,rfl,by simp only[Go.Ev.PRel],rfl⟩
 ·rintro e w' ⟨cv,rfl,hb,hv⟩
  simp only[Go.Ev.PRel]at hv
  exact⟨by rw[hv],hb⟩
set_option maxRecDepth 100000 in
theorem lifted(os:Os)(started:os.Started)(H:Type)(enc:TypeId×Value→H):
  ReturnsInHanded {} Tryz.checked os 6 .any (Rows.automatonSoundSpec.pre6 enc Tryz.prog Tryz.f6 Rows.automatonSoundRow.domain false) (Rows.automatonSoundSpec.post enc Tryz.prog Tryz.f6 false true false false):=by
 refine returnsInHanded_of_change (C:=Tryz.checked) own started (by kernel_rfl) Tryz.func6
  (ChangeSpec.witness6 (enc:=enc) (C:=Tryz.checked) false ⟨#[], #[.slice none 0 0,.int .i64 0],[]⟩ 8 (by kernel_rfl) (by kernel_rfl) (by kernel_rfl) (by kernel_rfl)) ?_
 intro W base args ds gs before hval0 hW hcnd _
 have hval: ∀(j:Nat) t v,Tryz.f6.params[j]? =some t→args[j]? =some v→Value.okWide Tryz.prog W .any base t v:=hval0
 have hW':=hW
 obtain⟨p,q,hA0,hV,rfl,hfz,hnd⟩:=hW
 have hA:DataW.TrodAll enc Tryz.prog W 0 (fun _=>true) true Tryz.f6.params.toList args.toList ds p:=hA0
 rw[Tryz.params6]at hA hval
 obtain⟨v0,vs0,d0,ds0,p0,q0,hargs,rfl,rfl,h0,r0⟩:=trodAll_cons hA
 obtain⟨v1,vs1,d1,ds1,p1,q1,rfl,rfl,rfl,h1,r1⟩:=trodAll_cons r0
 obtain⟨rfl,rfl,rfl⟩:=trodAll_nil r1
 obtain rfl:args= #[v0,v1]:=by cases args;simp_all
 obtain⟨rfl,rfl⟩:=trodVars_none hV
 obtain⟨a0,len0,cap0,rfl⟩:=okWide_slice Tryz.underlying22 (hval 0 22 v0 rfl rfl)
 have sp0: ∀x,a0=some x→x.spot=none:=fun x e=>by subst e;exact spot_of Tryz.underlying22 (hval 0 22 _ rfl rfl)
 have k0:=h0
 have lt0: ∀x∈p0,x.block<W.heap.size:=by obtain⟨m,hm⟩:=k0;exact DataW.trod_lt m _ _ _ hm
 obtain⟨z0,w0⟩: ∃zs,IsRow .i64 W a0 len0 cap0 zs:=by
  obtain⟨fuel,hf⟩:=h0
  rcases open_ints Tryz.underlying22 Tryz.underlying3 (by kernel_rfl) hf with⟨hcs,_⟩|⟨x,l,c,zs,hcs,_,hl,hm,hz,_,hcell,hwz⟩
  ·simp[Value.cells]at hcs
   obtain⟨rfl,rfl,rfl⟩:=hcs
   exact⟨[],.inl ⟨rfl,rfl,rfl,rfl⟩⟩
  ·simp[Value.cells]at hcs
   obtain⟨rfl,rfl,rfl⟩:=hcs
   exact⟨zs,.inr ⟨_,rfl,sp0 _ rfl,hl,hm,by simpa using hz,hcell,hwz⟩⟩
 obtain⟨a1,rfl,rfl,rfl,w1⟩:=open_int Tryz.underlying3 (hval 1 3 v1 rfl rfl) h1
 clear hA0 hval0
 refine(walk a0 len0 cap0 z0 a1 W w0 w1).mono fun e W' ⟨he,bel⟩=> ?_
 subst he
 exact⟨_,rfl,_,_,_,[],_,[],hW',trodAll_mk1 (shut_bool Tryz.underlying4 _),(trodAll_cons_mk (Below.trod laidOut (by kernel_rfl) (of_decide_eq_true (by kernel_rfl)) k0 bel lt0) (trodAll_cons_mk (shut_int Tryz.underlying3 w1) trodAll_mk0)),rfl,bel.frame _,fun h=>by cases h⟩
theorem over:Rows.automatonSoundRow.holds Tryz.pinned (OpenSpec.ofChange Rows.automatonSoundSpec):=
 OpenClaim.holds_of_wide 6 Tryz.f6 rfl rfl rfl rfl rfl rfl rfl ⟨rfl,rfl,rfl,rfl,rfl⟩ rfl rfl rfl rfl rfl named Tryz.func6 facts
  (of_decide_eq_true (by kernel_rfl)) (by unfold Func.isWrapper;first|(rw[if_pos (by decide+kernel)];kernel_rfl)|(rw[if_neg (by decide+kernel)];exact⟨rfl,rfl⟩))
  (fun os started H enc _=>lifted os started H enc)
theorem proved:Rows.AutomatonSoundSaid:=over
end Go.Proofs.YtnkgnjecmfkcfaaGreat.automatonSound
namespace Go.Proofs.YtnkgnjecmfkcfaaGreat
theorem automatonSound_holds:Rows.AutomatonSoundSaid:=automatonSound.proved
end Go.Proofs.YtnkgnjecmfkcfaaGreat
