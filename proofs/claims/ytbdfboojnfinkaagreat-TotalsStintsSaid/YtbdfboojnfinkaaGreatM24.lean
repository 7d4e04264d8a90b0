/- Walks of functions of the program and of the reference, and their plain laws, part 24. Conditions: the theorems' own. -/
import Derived.Test.YtbdfboojnfinkaaGreatM23
import Derived.KernelRfl
set_option maxRecDepth 100000
set_option linter.unusedSimpArgs false
set_option linter.unusedVariables false
set_option maxHeartbeats 16000000
namespace Go.Proofs.YtbdfboojnfinkaaGreat
open Go Go.Ev
theorem LO:hZ pE 11 [] []=some (.b true,[]):=jZ (m:=100) (jX (by kernel_rfl))
def meT:T:= .sl [.s [108,101,103,115],.s [104,101,97,100,115],.s [115,112,97,110],.s [110,105,103,104,116],.s [99,114,101,100,105,116],.s [100,117,116,105,101,115],.s [98,108,111,99,107]] 7 true
theorem apM(r:Int)(h:0≤r)(D:r<7): ∃a q,∀kk,pv meT (.i kk r) 1=some (.vp (.s a::q)):=by
 have:r=0∨r=1∨r=2∨r=3∨r=4∨r=5∨r=6:=by omega
 rcases this with rfl|rfl|rfl|rfl|rfl|rfl|rfl <;> exact⟨_,_,fun _=>rfl⟩
theorem yt{v:T}{n:Nat}{cs:List T}(h:IsSl v n cs)(D:0<n): ∃b m,n=m+1∧v= .sl cs (m+1) b:=by
 rcases h with⟨_,h,_⟩|⟨b,rfl⟩
 ·omega
 ·exact⟨b,n-1,by omega,by rw[show n-1+1=n by omega]⟩
theorem VR(t:Tt)(c:Ct)(d:List (Int×Bool))(h:c.li.length≤1000):(AP t c d).length≤1000:=by
 unfold AP;split
 ·simp
 ·rw[C1];exact h
theorem NA(t:Tt)(c:Ct)(E F H I J K N O U:T)(X:sI t E F H)(Y:tZ c I J K N O U)(Z:Qy c)(hL: ∀f∈t.fl,f.nu.length≤mJ)(d:List (Int×Bool))(V:T)(hd:CJ d V)(D:d.length≤100)(W:c.li.length≤1000):
  ∃(x y e:Int) (v:T) (s:List ib),hZ pE 7 [.agg [E,F,H],.agg (jf c I J K N O U),V] []=some (.tup [.agg [.i .i64 x,.i .i64 y,v],.i .i64 e],s)∧hZ pE 8 [.agg [E,F,H],.agg (jf c I J K N O U),V] []=some (.tup [.agg [.i .i64 x,.i .i64 y,v],.i .i64 e],[])∧hZ pE 10 [.agg [.i .i64 x,.i .i64 y,v],.agg [.i .i64 x,.i .i64 y,v]] []=some (.b true,[])∧froz1 v=true∧cellsOf v= [v]∧noTup v=true:=by
 obtain⟨s,h1⟩:=aga t c E F H I J K N O U X Y Z d V hd D
 have h2:=agd t c E F H I J K N O U X Y Z d V hd D hL
 have hv:IsSl (kz (AP t c d).length (ints (AP t c d))) (AP t c d).length (ints (AP t c d)):=mg fun h=>by rw[List.length_eq_zero_iff.1 h];rfl
 exact⟨_,_,_,_,s,h1,h2,age _ _ _ _ _ hv hv (VR t c d W),Nt _ _,Nu _ _,Nv _ _⟩
theorem agC(la:T)(xs:List Int)(hl:IsSl la xs.length (ints xs))(n:Int): ∃s,hZ pE 3 [la,.i .i64 n] []=some (.b true,s):=by
 obtain⟨fs,os,fT,bT,oT,hd,pe,x0,x1,x2,x3,x4,x5,x6,x7,x8,x9,DU,DZ,D1,GH,hp,ok⟩:=ZW ZV la xs hl
 obtain⟨H,I,J,K,D,N,C3⟩:=P9 apz (n/65536)
 obtain⟨⟨n2,n5⟩,hnu,hf,ho,⟨Ag,ho5⟩,⟨ss,hb,aBl,Ke⟩,hx⟩:=ok
 have Y: ∀E:List Nat,∃(F:T) (b:Bool) (x y e:Int) (v:T) (s:List ib) (Z y' e':Int) (V:T) (s':List ib) (U ZY ZZ:T) (W OX X:Int),
   nM F=false∧froz F=true∧cellsOf F= [F]∧noTup F=true∧froz1 F=true∧
   hZ pE 6 [.agg [D3,D4,fT,.i .i64 60,.i .i64 30,.i .i64 30,.i .i64 1440,.i .i64 1800,.i .i64 1320,.i .i64 360,.nilsl,qD,rJ,oV,.sl (vQ E H I J K) 2 false,.sl (wK D N) 1 false,.i .i64 600,bT,oT,.i .i64 hd,.i .i64 pe],.i .i64 (n%256)] []=some (.tup [F,.b b],[])∧
   hZ pE 7 [.agg [D3,D4,fT],.agg (Jx (.sl (vQ E H I J K) 2 false) (.sl (wK D N) 1 false)),F] []=some (.tup [.agg [.i .i64 x,.i .i64 y,v],.i .i64 e],s)∧
   hZ pE 8 [.agg [D3,D4,fT],.agg (Jx (.sl (vQ E H I J K) 2 false) (.sl (wK D N) 1 false)),F] []=some (.tup [.agg [.i .i64 x,.i .i64 y,v],.i .i64 e],[])∧
   hZ pE 10 [.agg [.i .i64 x,.i .i64 y,v],.agg [.i .i64 x,.i .i64 y,v]] []=some (.b true,[])∧froz1 v=true∧cellsOf v= [v]∧noTup v=true∧
   hZ pE 9 [.agg [D3,D4,fT,.i .i64 60,.i .i64 30,.i .i64 30,.i .i64 1440,.i .i64 1800,.i .i64 1320,.i .i64 360,.nilsl,qD,rJ,oV,.sl (vQ E H I J K) 2 false,.sl (wK D N) 1 false,.i .i64 600,bT,oT,.i .i64 hd,.i .i64 pe],.sl [.i .i64 (n%16),.i .i64 (n/16)] 2 true] []=some (.agg [D3,D4,U,.i .i64 60,.i .i64 30,.i .i64 30,.i .i64 W,.i .i64 1800,.i .i64 1320,.i .i64 360,.nilsl,qD,rJ,oV,.sl (vQ E H I J K) 2 false,.sl (wK D N) 1 false,.i .i64 600,ZY,ZZ,.i .i64 OX,.i .i64 X],[])∧
   hZ pE 7 [.agg [D3,D4,U],.agg [.i .i64 60,.i .i64 30,.i .i64 30,.i .i64 W,.i .i64 1800,.i .i64 1320,.i .i64 360,.nilsl,qD,rJ,oV,.sl (vQ E H I J K) 2 false,.sl (wK D N) 1 false,.i .i64 600],F] []=some (.tup [.agg [.i .i64 Z,.i .i64 y',V],.i .i64 e'],s')∧
   hZ pE 8 [.agg [D3,D4,U],.agg [.i .i64 60,.i .i64 30,.i .i64 30,.i .i64 W,.i .i64 1800,.i .i64 1320,.i .i64 360,.nilsl,qD,rJ,oV,.sl (vQ E H I J K) 2 false,.sl (wK D N) 1 false,.i .i64 600],F] []=some (.tup [.agg [.i .i64 Z,.i .i64 y',V],.i .i64 e'],[])∧
   hZ pE 10 [.agg [.i .i64 Z,.i .i64 y',V],.agg [.i .i64 Z,.i .i64 y',V]] []=some (.b true,[])∧froz1 V=true∧cellsOf V= [V]∧noTup V=true∧froz1 U=true∧froz1 ZY=true∧froz1 ZZ=true:=by
  intro E
  obtain⟨hT,hL⟩:=acL hnu hf
  have hC:=VP E 1440 H I J K D N
  have hN:=VQ E 1440 H I J K D N
  obtain⟨d,F,⟨hd1,hd2⟩,O,b,awb⟩:=agz (VM fs) _ D3 D4 fT _ _ _ _ _ _ hT hC hN hL (show 1≤fs.length by omega) n5 (n%256) (by omega) bT oT hb.froz1 ho.froz1 hd pe
  obtain⟨x,y,e,v,s,h1,h2,h3,h4,h5,h6⟩:=NA (VM fs) _ D3 D4 fT _ _ _ _ _ _ hT hC hN hL d F O (by omega) (by simp[Jy])
  obtain⟨f0,fr,rfl⟩: ∃f0 fr,fs=f0::fr:=by
   cases fs with
   |nil=>simp at n2
   |cons f0 fr=>exact⟨_,_,rfl⟩
  rw[List.flatMap_cons]at hf
  have rB:=r9 (f:=od) (sz:=9) (fun _=>rfl) (f0::fr)
  rw[List.flatMap_cons]at rB
  obtain⟨fx,nf,q1,rfl⟩:=yt hf (by omega)
  obtain⟨bx,nb,q2,rfl⟩:=yt hb (by omega)
  obtain⟨ox,no,q3,rfl⟩:=yt ho (by omega)
  obtain⟨c',f',fx',ZY,ZZ,OX,X,⟨hc',hn'⟩,hsp,hbz,hoz⟩:=VN D3 D4 .nilsl qD rJ oV (.sl (vQ E H I J K) 2 false) (.sl (wK D N) 1 false) (Jy E 1440 H I J K D N) f0 (fr.flatMap od) (ss.map T.s) (ints os) nb no nf bx ox fx hd pe (n%16) (n/16) (by rw[List.length_map];exact q2) (by omega) (by rw[lB];exact q3) (by omega) (by rw[rB,q1]) (by omega) ⟨rfl,rfl,rfl,rfl,rfl,rfl,rfl,rfl⟩
  obtain⟨W,rfl⟩: ∃W,c'=Jy E W H I J K D N:=by
   rcases hc' with rfl|rfl
   ·exact⟨1440,rfl⟩
   ·exact⟨-1,rfl⟩
  have Zr:IsSl (.sl (od f'++fr.flatMap od) (nf+1) fx') (f'::fr).length ((f'::fr).flatMap od):=by
   rw[List.flatMap_cons,List.length_cons,show fr.length+1=nf+1 from q1];exact .inr ⟨fx',rfl⟩
  have awc: ∀x∈f'::fr,x.nu.length≤2:=by grind
  obtain⟨Zt,hL'⟩:=acL awc Zr
  have hC':=VP E W H I J K D N
  have hN':=VQ E W H I J K D N
  obtain⟨Z,y',e',V,s',g1,g2,g3,g4,g5,g6⟩:=NA (VM (f'::fr)) _ D3 D4 _ _ _ _ _ _ _ Zt hC' hN' hL' d F O (by omega) (by simp[Jy])
  exact⟨F,b,x,y,e,v,s,Z,y',e',V,s',_,ZY,ZZ,W,OX,X,(by obtain⟨_,_,_,h⟩:=yt O.sl (by omega);rw[h];rfl),O.sl.froz,O.sl.cells,O.sl.noTup,O.sl.froz1,awb,h1,h2,h3,h4,h5,h6,hsp,g1,g2,g3,g4,g5,g6,rfl,hbz,hoz⟩
 have hz:=hl.froz
 have kg:=hb.froz1
 have Ag:=ho.froz1
 have vv:=hf.froz1
 have tz:froz1 D3=true:=rfl
 have ta:froz1 D4=true:=rfl
 have tr:=uN
 have sr:nM qD=false:=rfl
 have tc:=uO
 have td:=tu
 have hk:=LO
 have sa: ∀cs,nM (.agg cs)=false:=fun _=>rfl
 obtain⟨E,qm,hme⟩:=apM (n/1024%8%7) (by omega) (by omega)
 have e7:(n/1024%8).tmod 7=n/1024%8%7:=oU (by omega)
 simp only[List.all_cons,List.all_nil,Bool.and_true,Bool.and_eq_true]at hx
 have hown:=fun(fr:Fr) (lh:iz ib) (sh:List ib) (d:Nat)=>LN (fr:=fr) (lh:=lh) (sh:=sh) (d:=d) (j:=11) (ON:=Jx (.sl (vQ blk H I J K) 2 false) (.sl (wK D N) 1 false)) rfl rfl (by simp[vQ])
 unfold Nz Jx vQ wK at*
 generalize D3=zT at*
 generalize D4=aT at*
 generalize qD=tR at*
 generalize rJ=tC at*
 generalize oV=tD at*
 unfold meT at hme
 by_cases hk3:n/256%4<3
 ·obtain⟨F,b,x,y,e,v,s,Z,y',e',V,s',U,ZY,ZZ,W,OX,X,h0,h1,h2,h3,h4,h5,h6,h7,h8,h9,h10,h11,h12,np,jN,Ar,qu,CN,oj,h19,h20,Qb⟩:=Y E
  rw[im fn3 (by simp[c3])]
  simp(maxDischargeDepth:=6) only[qA,zB,seval,sa,repl,iY,mX,kV,iC,List.set_cons_succ,List.set_cons_zero,c3,VL,hp,C3,hown,hz,kg,Ag,vv,tz,ta,tr,tc,td,hk,hme,e7,hk3,sr,h0,h1,h2,h3,h4,h5,h6,h7,h8,h9,h10,h11,h12,np,jN,Ar,qu,CN,oj,h19,h20,Qb,dc4,dc5,dp6,dp7,dp8,dp9,akx,aky]
  exact⟨_,rfl⟩
 ·obtain⟨F,b,x,y,e,v,s,Z,y',e',V,s',U,ZY,ZZ,W,OX,X,h0,h1,h2,h3,h4,h5,h6,h7,h8,h9,h10,h11,h12,np,jN,Ar,qu,CN,oj,h19,h20,Qb⟩:=Y blk
  rw[im fn3 (by simp[c3])]
  simp(maxDischargeDepth:=6) only[qA,zB,seval,sa,repl,iY,mX,kV,iC,List.set_cons_succ,List.set_cons_zero,c3,VL,hp,C3,hown,hz,kg,Ag,vv,tz,ta,tr,tc,td,hk,hk3,sr,h0,h1,h2,h3,h4,h5,h6,h7,h8,h9,h10,h11,h12,np,jN,Ar,qu,CN,oj,h19,h20,Qb,dc4,dc5,dp6,dp7,dp8,dp9,akx,aky]
  exact⟨_,rfl⟩
end Go.Proofs.YtbdfboojnfinkaaGreat
