/- Walks of functions of the program and of the reference, and their plain laws, part 23. Conditions: the theorems' own. -/
import Derived.Test.YtbdfboojnfinkaaGreatM20
import Derived.Test.YtbdfboojnfinkaaGreatM21
import Derived.Test.YtbdfboojnfinkaaGreatM22
import Derived.Test.YtbdfboojnfinkaaGreatM15
import Derived.Test.YtbdfboojnfinkaaGreatM16
import Derived.Test.YtbdfboojnfinkaaGreatM17
import Derived.Test.YtbdfboojnfinkaaGreatM18
import Derived.Test.YtbdfboojnfinkaaGreatM19
import Derived.KernelRfl
set_option maxRecDepth 100000
set_option linter.unusedSimpArgs false
set_option linter.unusedVariables false
set_option maxRecDepth 1000000
set_option maxHeartbeats 16000000
namespace Go.Ev
open Go
theorem VJ{lh:iz ib}{sh:List ib}{j k g len sz k2:Nat}{cs ON D:List T}{E:ib}(F:ON[j]? =some (.isl .L k g 0 len sz))(hz:fzV lh sh false (.agg (ON.set j .nilsl))=some (.agg D,[(.L,k2,E)]))(H:k≠k2)(h:a6 lh k=⟨g,.cells cs 0 false⟩)(hl:cs.length=len*sz)(I:len≠0):Tu lh sh j [.agg ON]=some (.agg (D.set j (.sl cs len false)),sh):=by
 unfold fzV at hz
 have J:(St.mk .nil (mr lh k2 E) sh).get .L k=⟨g,.cells cs 0 false⟩:=(jg lh E H).trans h
 simp only[Tu,qR,kY,iF,F]
 rw[hz]
 simp only[St.ups]
 have K:((St.mk .nil lh sh).up (.L,k2,E)).get .L k=⟨g,.cells cs 0 false⟩:=J
 rw[K]
 simp only
 rw[if_pos ⟨trivial,hl,I,.inl trivial⟩]
 rfl
theorem LN{fr:Fr}{lh:iz ib}{sh:List ib}{d j len:Nat}{cs ON:List T}{ex:Bool}(h:ON[j]? =some (.sl cs len ex))(D:cs.all nM=true)(E:cs.length/len*len=cs.length):rn d j (.agg ON) ⟨fr,lh,sh⟩ []=
  some (.agg (ON.set j (.isl .L d ((a6 lh d).g+1) 0 len (cs.length/len))),⟨fr,mr lh d ⟨(a6 lh d).g+1,.cells cs 0 false⟩,sh⟩):=by
 unfold rn
 rw[show kY (.agg ON) j=some (.sl cs len ex)from h]
 simp only
 rw[if_pos ⟨D,E⟩]
 cases F:p8 (iF (.agg ON) j .nilsl) <;> rfl
end Go.Ev
namespace Go.Proofs.YtbdfboojnfinkaaGreat
open Go Go.Ev
def Az(xs:List Int)(i:Nat):Int:=if xs.length=0 then(i:Int)%65536 else xs.getD (i%xs.length) 0%65536+((i/xs.length:Nat):Int)
theorem GG(xs:List Int)(i:Nat):0≤Az xs i:=by
 unfold Az;split
 ·omega
 ·have:(0:Int)≤((i/xs.length:Nat):Int):=Int.natCast_nonneg _
  omega
theorem oU{a b:Int}(h:0≤a):a.tmod b=a%b:=by rw[Int.tmod_eq_emod_of_nonneg h]
theorem VK(l:T)(xs:List Int)(hl:IsSl l xs.length (ints xs))(i:Nat)(hi:i<1000000):hZ pE 12 [l,.i .i64 (i:Int)] []=some (.i .i64 (Az xs i),[]):=by
 rw[im akz (by simp[yG])]
 by_cases h:xs.length=0
 ·have E:((xs.length:Nat):Int)=0:=by omega
  have F:Az xs i=(i:Int)%65536:=by unfold Az;rw[if_pos h]
  simp only[qA,seval,yG,hl.lenI,E,F]
 ·have E: ¬((xs.length:Nat):Int)=0:=by omega
  have D:i%xs.length<xs.length:=Nat.mod_lt _ (by omega)
  have F:Az xs i=xs[i%xs.length]%65536+((i/xs.length:Nat):Int):=by
   unfold Az;rw[if_neg h];simp[List.getD_eq_getElem?_getD,D]
  have I:((i:Int)).tmod (xs.length:Int)=((i%xs.length:Nat):Int):=by rw[oU (Int.natCast_nonneg i)];exact(Int.natCast_emod i xs.length).symm
  have J:((i:Int)).tdiv (xs.length:Int)=((i/xs.length:Nat):Int):=by rw[Int.tdiv_eq_ediv_of_nonneg (Int.natCast_nonneg i)];exact(Int.natCast_ediv i xs.length).symm
  have H:i/xs.length≤i:=Nat.div_le_self _ _
  have K:0≤((i/xs.length:Nat):Int):=Int.natCast_nonneg _
  have N:((i/xs.length:Nat):Int)≤(i:Int):=Int.ofNat_le.2 H
  have Dx:(i:Int)<1000000:=by omega
  generalize ((i/xs.length:Nat):Int)=q at*
  have O:wr .i64 q=q:=jw (by omega)
  have U:wr .i64 (xs[i%xs.length]%65536+q)=xs[i%xs.length]%65536+q:=jw (by omega)
  have V: ∀kk,pv l (.i kk ((i%xs.length:Nat):Int)) 1=some (.vp (T.i .i64 xs[i%xs.length]::(ints xs).drop (i%xs.length+1))):=fun kk=>by rw[hl.ia (sz:=1) (by rw[lB];omega) D,Nat.mul_one,oG xs _ D]
  simp only[qA,iY,seval,iC,yG,hl.lenI,E,I,J,V,O,U,F]
def qD:T:=(.sl [(.i .i64 1),(.s [108,101,103,115,95,109,97,120]),(.i .i64 17),(.i .i64 0),(.s []),(.sl [(.i .i64 8),(.i .i64 0),(.s []),(.sl [(.i .i64 6),(.i .i64 0),(.s [108,101,103,115]),.nilsl,(.i .i64 6),(.i .i64 0),(.s [104,101,97,100,115]),.nilsl] 2 true),(.i .i64 1),(.i .i64 3),(.s []),.nilsl] 2 true)] 1 false)
def rJ:T:=(.sl [(.i .i64 1),(.i .i64 8),(.i .i64 0),(.s []),(.sl [(.i .i64 10),(.i .i64 0),(.s []),(.sl [(.i .i64 1),(.i .i64 10),(.s []),.nilsl,(.i .i64 6),(.i .i64 0),(.s [108,101,103,115]),.nilsl] 2 true),(.i .i64 11),(.i .i64 0),(.s []),(.sl [(.i .i64 6),(.i .i64 0),(.s [98,108,111,99,107]),.nilsl,(.i .i64 2),(.i .i64 30),(.s []),.nilsl] 2 true)] 2 true),(.i .i64 2),(.i .i64 1),(.i .i64 5),(.s []),.nilsl,(.i .i64 3),(.i .i64 1),(.i .i64 7),(.s []),.nilsl] 3 false)
def oV:T:=(.sl [(.i .i64 13),(.i .i64 0),(.s []),(.sl [(.i .i64 6),(.i .i64 0),(.s [98,108,111,99,107]),.nilsl,(.i .i64 2),(.i .i64 120),(.s []),.nilsl] 2 false)] 1 false)
def vQ(h:List Nat)(m0 D m1 E:Int):List T:= [(.s [102,108,121,105,110,103]),(.s h),(.i .i64 m0),(.i .i64 D),(.s [119,111,114,107]),(.s [100,117,116,105,101,115]),(.i .i64 m1),(.i .i64 E)]
def wK(h D:Int):List T:= [(.s [102,114,101,101]),(.i .i64 h),(.i .i64 D)]
def Jx(DZ D1:T):List T:= [(.i .i64 60),(.i .i64 30),(.i .i64 30),(.i .i64 1440),(.i .i64 1800),(.i .i64 1320),(.i .i64 360),.nilsl,qD,rJ,oV,DZ,D1,(.i .i64 600)]
def blk:List Nat:= [98,108,111,99,107]
theorem uN:froz1 qD=true:=nr rfl
theorem uO:froz1 rJ=true:=nr rfl
theorem tu:froz1 oV=true:=nr rfl
theorem P9(D:hZ pE 14 [.i .i64 3] []=some (.agg (Jx (.sl (vQ blk 360 2 3 3) 2 false) (.sl (wK 1 3) 1 false)),[]))(n:Int):
  ∃m0 E m1 F h H,hZ pE 5 [.i .i64 n] []=some (.agg (Jx (.sl (vQ blk m0 E m1 F) 2 false) (.sl (wK h H) 1 false)),[]):=by
 refine⟨n%1024,1+n/8%4,n/4%1024,1+n/16%4,1+n/256%4%(1+n/64%4),1+n/64%4, ?_⟩
 have I:wr .i64 (1+n/8%4)=1+n/8%4:=jw (by omega)
 have J:wr .i64 (1+n/16%4)=1+n/16%4:=jw (by omega)
 have K:wr .i64 (1+n/64%4)=1+n/64%4:=jw (by omega)
 have hz: ¬1+n/64%4=0:=by omega
 have N:(n/256%4).tmod (1+n/64%4)=n/256%4%(1+n/64%4):=oU (by omega)
 have kg:0≤n/256%4%(1+n/64%4):=Int.emod_nonneg _ hz
 have tK:n/256%4%(1+n/64%4)<1+n/64%4:=Int.emod_lt_of_pos _ (by omega)
 have O:wr .i64 (1+n/256%4%(1+n/64%4))=1+n/256%4%(1+n/64%4):=jw (by omega)
 have U:(192:Nat)≤roomy:=by unfold roomy;omega
 unfold Jx vQ wK blk at*
 rw[aeZ fn5 (by simp[c5])]
 simp only[qA,seval,iY,mX,kV,iC,appW,jY,Option.bind_some,roomy,vq,c5,aar,aas,D,RN,I,J,K,O,hz,N,uN,uO,tu]
 refine(VJ (k:=9) (k2:=13) (j:=11) rfl (by
  simp only[qA,seval,List.set_cons_succ,List.set_cons_zero,IL,EA,IK,AV,vt,uN,uO,tu,Option.bind_some,Option.map_some]
  rfl) (by decide) (by simp only[qA,seval];rfl) rfl (by decide)).trans ?_
 rfl
theorem pa0: ∃s,hZ pE 26 [.s (DY al0)] []=some (.tup [.agg (mA ZP),.i .i64 0,.i .i64 0],s):=by
 obtain⟨s,hl⟩:=li0
 obtain⟨u,h⟩:=va0
 exact sC 1000 al0 _ (by decide) (.inr ⟨false,rfl⟩) s hl _ _ _ rfl (fun q lh=>⟨_,rfl⟩) (jS (jS eSA eSB) eSP) u h
theorem av1(n:Int)(hn:n.tmod 6=0): ∃cs,hZ pE 14 [.i .i64 n] []=some (.agg cs,[])∧cs=mA ZP:=by
 obtain⟨s,F⟩:=pa0
 refine⟨_, ?_,rfl⟩
 have h:(mA ZP).length=14:=rfl
 have D:(mA ZP).all froz1=true:=rfl
 generalize mA ZP=cs at*
 simp only[al0,ZO,lSB,lSP,DY,List.cons_append,List.nil_append,List.flatMap_cons,List.flatMap_nil,List.append_nil]at F
 have P8:cs.take 14=cs:=by rw[←h];exact List.take_length
 have E:=l7 [T.i IntKind.i64 0,T.i IntKind.i64 0,T.i IntKind.i64 0,T.i IntKind.i64 0,T.i IntKind.i64 0,T.i IntKind.i64 0,T.i IntKind.i64 0,T.nilsl,T.nilsl,T.nilsl,T.nilsl,T.nilsl,T.nilsl,T.i IntKind.i64 0] cs (by rw[h];rfl)
 have hz:=fun m lh sh keep=>oH (m:=m) (lh:=lh) (sh:=sh) (keep:=keep) D
 rw[im Kp (by simp[Kg])]
 simp only[qA,seval,Kg,hn,F,OD,h,P8,E,hz]
theorem pa1: ∃s,hZ pE 26 [.s (DY al1)] []=some (.tup [.agg (mA kS1),.i .i64 0,.i .i64 0],s):=by
 obtain⟨s,hl⟩:=li1
 obtain⟨u,h⟩:=va1
 exact sC 1000 al1 _ (by decide) (.inr ⟨false,rfl⟩) s hl _ _ _ rfl (fun q lh=>⟨_,rfl⟩) (jS (jS eSA avU) eS1) u h
theorem av2(n:Int)(hn:n.tmod 6=1): ∃cs,hZ pE 14 [.i .i64 n] []=some (.agg cs,[])∧cs=mA kS1:=by
 obtain⟨s,F⟩:=pa1
 refine⟨_, ?_,rfl⟩
 have h:(mA kS1).length=14:=rfl
 have D:(mA kS1).all froz1=true:=rfl
 generalize mA kS1=cs at*
 simp only[al1,ZO,agi,lS1,DY,List.cons_append,List.nil_append,List.flatMap_cons,List.flatMap_nil,List.append_nil]at F
 have P8:cs.take 14=cs:=by rw[←h];exact List.take_length
 have E:=l7 [T.i IntKind.i64 0,T.i IntKind.i64 0,T.i IntKind.i64 0,T.i IntKind.i64 0,T.i IntKind.i64 0,T.i IntKind.i64 0,T.i IntKind.i64 0,T.nilsl,T.nilsl,T.nilsl,T.nilsl,T.nilsl,T.nilsl,T.i IntKind.i64 0] cs (by rw[h];rfl)
 have hz:=fun m lh sh keep=>oH (m:=m) (lh:=lh) (sh:=sh) (keep:=keep) D
 rw[im Kp (by simp[Kg])]
 simp only[qA,seval,Kg,hn,F,OD,h,P8,E,hz]
theorem pa2: ∃s,hZ pE 26 [.s (DY al2)] []=some (.tup [.agg (mA kS2),.i .i64 0,.i .i64 0],s):=by
 obtain⟨s,hl⟩:=li2
 obtain⟨u,h⟩:=va2
 exact sC 1000 al2 _ (by decide) (.inr ⟨false,rfl⟩) s hl _ _ _ rfl (fun q lh=>⟨_,rfl⟩) (jS (jS (jS (jS eSA eSB) eSP) avV) eS2) u h
theorem av3(n:Int)(hn:n.tmod 6=2): ∃cs,hZ pE 14 [.i .i64 n] []=some (.agg cs,[])∧cs=mA kS2:=by
 obtain⟨s,F⟩:=pa2
 refine⟨_, ?_,rfl⟩
 have h:(mA kS2).length=14:=rfl
 have D:(mA kS2).all froz1=true:=rfl
 generalize mA kS2=cs at*
 simp only[al2,ZO,lSB,lSP,agk,lS2,DY,List.cons_append,List.nil_append,List.flatMap_cons,List.flatMap_nil,List.append_nil]at F
 have P8:cs.take 14=cs:=by rw[←h];exact List.take_length
 have E:=l7 [T.i IntKind.i64 0,T.i IntKind.i64 0,T.i IntKind.i64 0,T.i IntKind.i64 0,T.i IntKind.i64 0,T.i IntKind.i64 0,T.i IntKind.i64 0,T.nilsl,T.nilsl,T.nilsl,T.nilsl,T.nilsl,T.nilsl,T.i IntKind.i64 0] cs (by rw[h];rfl)
 have hz:=fun m lh sh keep=>oH (m:=m) (lh:=lh) (sh:=sh) (keep:=keep) D
 rw[im Kp (by simp[Kg])]
 simp only[qA,seval,Kg,hn,F,OD,h,P8,E,hz]
theorem pa3: ∃s,hZ pE 26 [.s (DY al3)] []=some (.tup [.agg (mA kS3),.i .i64 0,.i .i64 0],s):=by
 obtain⟨s,hl⟩:=li3
 obtain⟨u,h⟩:=va3
 exact sC 1000 al3 _ (by decide) (.inr ⟨false,rfl⟩) s hl _ _ _ rfl (fun q lh=>⟨_,rfl⟩) (jS (jS (jS (jS eSA eSB) eSP) avW) eS3) u h
theorem apy(n:Int)(hn:n.tmod 6=3): ∃cs,hZ pE 14 [.i .i64 n] []=some (.agg cs,[])∧cs=mA kS3:=by
 obtain⟨s,F⟩:=pa3
 refine⟨_, ?_,rfl⟩
 have h:(mA kS3).length=14:=rfl
 have D:(mA kS3).all froz1=true:=rfl
 generalize mA kS3=cs at*
 simp only[al3,ZO,lSB,lSP,agm,lS3,DY,List.cons_append,List.nil_append,List.flatMap_cons,List.flatMap_nil,List.append_nil]at F
 have P8:cs.take 14=cs:=by rw[←h];exact List.take_length
 have E:=l7 [T.i IntKind.i64 0,T.i IntKind.i64 0,T.i IntKind.i64 0,T.i IntKind.i64 0,T.i IntKind.i64 0,T.i IntKind.i64 0,T.i IntKind.i64 0,T.nilsl,T.nilsl,T.nilsl,T.nilsl,T.nilsl,T.nilsl,T.i IntKind.i64 0] cs (by rw[h];rfl)
 have hz:=fun m lh sh keep=>oH (m:=m) (lh:=lh) (sh:=sh) (keep:=keep) D
 rw[im Kp (by simp[Kg])]
 simp only[qA,seval,Kg,hn,F,OD,h,P8,E,hz]
theorem pa4: ∃s,hZ pE 26 [.s (DY al4)] []=some (.tup [.agg (mA kS4),.i .i64 0,.i .i64 0],s):=by
 obtain⟨s,hl⟩:=li4
 obtain⟨u,h⟩:=va4
 exact sC 1000 al4 _ (by decide) (.inr ⟨false,rfl⟩) s hl _ _ _ rfl (fun q lh=>⟨_,rfl⟩) (jS avX eS4) u h
theorem av4(n:Int)(hn:n.tmod 6=4): ∃cs,hZ pE 14 [.i .i64 n] []=some (.agg cs,[])∧cs=mA kS4:=by
 obtain⟨s,F⟩:=pa4
 refine⟨_, ?_,rfl⟩
 have h:(mA kS4).length=14:=rfl
 have D:(mA kS4).all froz1=true:=rfl
 generalize mA kS4=cs at*
 simp only[al4,ago,lS4,DY,List.cons_append,List.nil_append,List.flatMap_cons,List.flatMap_nil,List.append_nil]at F
 have P8:cs.take 14=cs:=by rw[←h];exact List.take_length
 have E:=l7 [T.i IntKind.i64 0,T.i IntKind.i64 0,T.i IntKind.i64 0,T.i IntKind.i64 0,T.i IntKind.i64 0,T.i IntKind.i64 0,T.i IntKind.i64 0,T.nilsl,T.nilsl,T.nilsl,T.nilsl,T.nilsl,T.nilsl,T.i IntKind.i64 0] cs (by rw[h];rfl)
 have hz:=fun m lh sh keep=>oH (m:=m) (lh:=lh) (sh:=sh) (keep:=keep) D
 rw[im Kp (by simp[Kg])]
 simp only[qA,seval,Kg,hn,F,OD,h,P8,E,hz]
theorem pa5: ∃s,hZ pE 26 [.s (DY al5)] []=some (.tup [.agg (mA kS5),.i .i64 0,.i .i64 0],s):=by
 obtain⟨s,hl⟩:=li5
 obtain⟨u,h⟩:=va5
 exact sC 1000 al5 _ (by decide) (.inr ⟨false,rfl⟩) s hl _ _ _ rfl (fun q lh=>⟨_,rfl⟩) (jS (jS avY avZ) eS5) u h
theorem av5(n:Int)(hn:n.tmod 6=5): ∃cs,hZ pE 14 [.i .i64 n] []=some (.agg cs,[])∧cs=mA kS5:=by
 obtain⟨s,F⟩:=pa5
 refine⟨_, ?_,rfl⟩
 have h:(mA kS5).length=14:=rfl
 have D:(mA kS5).all froz1=true:=rfl
 generalize mA kS5=cs at*
 simp only[al5,agq,agr,lS5,DY,List.cons_append,List.nil_append,List.flatMap_cons,List.flatMap_nil,List.append_nil]at F
 have P8:cs.take 14=cs:=by rw[←h];exact List.take_length
 have E:=l7 [T.i IntKind.i64 0,T.i IntKind.i64 0,T.i IntKind.i64 0,T.i IntKind.i64 0,T.i IntKind.i64 0,T.i IntKind.i64 0,T.i IntKind.i64 0,T.nilsl,T.nilsl,T.nilsl,T.nilsl,T.nilsl,T.nilsl,T.i IntKind.i64 0] cs (by rw[h];rfl)
 have hz:=fun m lh sh keep=>oH (m:=m) (lh:=lh) (sh:=sh) (keep:=keep) D
 rw[im Kp (by simp[Kg])]
 simp only[qA,seval,Kg,hn,F,OD,h,P8,E,hz]
theorem apz:hZ pE 14 [.i .i64 3] []=some (.agg (Jx (.sl (vQ blk 360 2 3 3) 2 false) (.sl (wK 1 3) 1 false)),[]):=by
 obtain⟨cs,h,D⟩:=apy 3 rfl
 rw[h,D]
 rfl
theorem ZV(n:Int)(hn:0≤n): ∃x0 x1 x2 x3 x4 x5 x6 x7 x8 x9 DU DZ D1 GH,hZ pE 14 [.i .i64 n] []=some (.agg [x0,x1,x2,x3,x4,x5,x6,x7,x8,x9,DU,DZ,D1,GH],[])∧ [x0,x1,x2,x3,x4,x5,x6,x7,x8,x9,DU,DZ,D1,GH].all froz1=true:=by
 have e:=oU (b:=6) hn
 have:n.tmod 6=0∨n.tmod 6=1∨n.tmod 6=2∨n.tmod 6=3∨n.tmod 6=4∨n.tmod 6=5:=by omega
 rcases this with h|h|h|h|h|h
 ·obtain⟨cs,D,rfl⟩:=av1 n h;exact⟨_,_,_,_,_,_,_,_,_,_,_,_,_,_,D,rfl⟩
 ·obtain⟨cs,D,rfl⟩:=av2 n h;exact⟨_,_,_,_,_,_,_,_,_,_,_,_,_,_,D,rfl⟩
 ·obtain⟨cs,D,rfl⟩:=av3 n h;exact⟨_,_,_,_,_,_,_,_,_,_,_,_,_,_,D,rfl⟩
 ·obtain⟨cs,D,rfl⟩:=apy n h;exact⟨_,_,_,_,_,_,_,_,_,_,_,_,_,_,D,rfl⟩
 ·obtain⟨cs,D,rfl⟩:=av4 n h;exact⟨_,_,_,_,_,_,_,_,_,_,_,_,_,_,D,rfl⟩
 ·obtain⟨cs,D,rfl⟩:=av5 n h;exact⟨_,_,_,_,_,_,_,_,_,_,_,_,_,_,D,rfl⟩
theorem av6(a:Int)(k:IntKind):Ev.bin .shr (.i .i64 a) (.i k 7)=some (.i .i64 (a/128)):=pO (b:=7) (by omega)
theorem VL(a:Int)(k:IntKind):Ev.bin .shr (.i .i64 a) (.i k 10)=some (.i .i64 (a/1024)):=pO (b:=10) (by omega)
theorem av7(x y:T)(kk:IntKind):pv (.sl [x,y] 2 true) (.i kk 0) 1=some (.vp [x,y])∧pv (.sl [x,y] 2 true) (.i kk 1) 1=some (.vp [y]):=⟨rfl,rfl⟩
def rtT:T:= .sl [.sl [.s [65,65,65],.s [66,66,66]] 2 true,.sl [.s [66,66,66],.s [65,65,65]] 2 true,.sl [.s [65,65,65],.s [67,67,67]] 2 true,.sl [.s [67,67,67],.s [65,65,65]] 2 true,.sl [.s [66,66,66],.s [67,67,67]] 2 true,.sl [.s [67,67,67],.s [66,66,66]] 2 true] 6 true
theorem Ny(r:Int)(h:0≤r)(D:r<6): ∃a b q,∀kk,pv rtT (.i kk r) 1=some (.vp (.sl [.s a,.s b] 2 true::q)):=by
 have:r=0∨r=1∨r=2∨r=3∨r=4∨r=5:=by omega
 rcases this with rfl|rfl|rfl|rfl|rfl|rfl <;> exact⟨_,_,_,fun _=>rfl⟩
theorem apB(i:Nat)(h:i<5): ∃a q,a.length≤2∧ ∀kk,pv (.sl [.s [70,48],.s [70,49],.s [70,50],.s [70,51],.s [70,52],.s [70,53],.s [70,54],.s [70,55],.s [70,56]] 9 true) (.i kk ((i:Int).tmod 9)) 1=some (.vp (.s a::q)):=by
 have:i=0∨i=1∨i=2∨i=3∨i=4:=by omega
 rcases this with rfl|rfl|rfl|rfl|rfl <;> exact⟨_,_,by decide,fun _=>rfl⟩
theorem apC(r:Int)(h:0≤r)(D:r<8): ∃a q,∀kk,pv (.sl [.i .i64 75,.i .i64 100,.i .i64 130,.i .i64 240,.i .i64 60,.i .i64 700,.i .i64 95,.i .i64 110] 8 true) (.i kk r) 1=some (.vp (.i .i64 a::q)):=by
 have:r=0∨r=1∨r=2∨r=3∨r=4∨r=5∨r=6∨r=7:=by omega
 rcases this with rfl|rfl|rfl|rfl|rfl|rfl|rfl|rfl <;> exact⟨_,_,fun _=>rfl⟩
def frT(lh:iz ib)(v:T):T:=match fzV lh [] false v with|some p=>p.1|none=>iI
theorem ttF{HP:iz ib}{D zT aT:T}{E:List T}{fs:List Fl}{i g:Nat}(F:fs.length=i)(Ge: ∀x∈fs,x.nu.length≤2)(h:iP HP D 99 9 (i+1) (fs.flatMap od++E))(H: ∃x,od x=E∧x.nu.length≤2):
  ∃(fs:List Fl) (v:T),fs.length=i+1∧(∀x∈fs,x.nu.length≤2)∧iP HP v 99 9 (i+1) (fs.flatMap od)∧(⟨g,.cells [zT,aT,D] 0 true⟩:ib)=⟨g,.cells [zT,aT,v] 0 true⟩:=by
 obtain⟨x,rfl,I⟩:=H
 refine⟨fs++ [x],D,by simp[F],fun y J=> ?_, ?_,rfl⟩
 ·grind
 ·rw[List.flatMap_append];simpa using h
section
variable(la:T)(xs:List Int)(hl:IsSl la xs.length (ints xs))
include hl
theorem tt1(n:Nat)(hn:n≤5)(zT aT:T)(g:Nat)(E4:ib)(fr:Fr)(lh:iz ib)(sh:List ib)(W:an fr 0=la)(O:an fr 1= .i .i64 (n:Int))(X:an fr 5= .ptr .L 5 g 0)(Y: ∃z,an fr 6= .i .i64 z)(Z:an fr 7=rtT)(h8:an fr 8= .i .i64 0)(h:a6 lh 5=⟨g,.cells [zT,aT,.nilsl] 0 true⟩)(D:a6 lh 4=E4):
  Lp pE 110 ub fr lh sh (.ext 0) fun f l s=>s=sh∧a6 l 4=E4∧ ∃(fs:List Fl) (v:T),fs.length=n∧(∀x∈fs,x.nu.length≤2)∧iP l v 99 9 n (fs.flatMap od)∧a6 l 5=⟨g,.cells [zT,aT,v] 0 true⟩:=by
 refine px Hk (fun i f l s=>an f 8= .i .i64 (i:Int)∧(∃z,an f 6= .i .i64 z)∧s=sh∧a6 l 4=E4∧ ∃(fs:List Fl) (v:T),fs.length=i∧(∀x∈fs,x.nu.length≤2)∧iP l v 99 9 i (fs.flatMap od)∧a6 l 5=⟨g,.cells [zT,aT,v] 0 true⟩) n ⟨h8,Y,rfl,D,[],.nilsl,rfl,by simp,iP.nil,h⟩ ?_ ?_
 ·rintro i f l _ hi F ⟨H,⟨z,g6⟩,rfl,D,fs,v,I,Ge,E,h⟩
  have Dx:(i:Int)<n:=by omega
  have hw:=iM (k:=i) (by omega)
  have J:=VK la xs hl i (by omega)
  have DV:=GG xs i
  generalize Az xs i=k at*
  have w5:wr .i64 (2+(i:Int)%2)=2+(i:Int)%2:=jw (by omega)
  have w6:wr .i64 (3-(i:Int)%2)=3-(i:Int)%2:=jw (by omega)
  have e7:(k/8).tmod 6=k/8%6:=oU (by omega)
  obtain⟨a1,b1,q1,r1⟩:=Ny ((i:Int)%2) (by omega) (by omega)
  obtain⟨a2,b2,q2,r2⟩:=Ny (2+(i:Int)%2) (by omega) (by omega)
  obtain⟨a3,b3,q3,r3⟩:=Ny (3-(i:Int)%2) (by omega) (by omega)
  obtain⟨a4,b4,q4,r4⟩:=Ny (k/8%6) (by omega) (by omega)
  obtain⟨nm,qn,D2,K⟩:=apB i (by omega)
  obtain⟨gp,qg,N⟩:=apC (k/256%8) (by omega) (by omega)
  have U:=fun(V:List T) (vN:V.length=9) (iN:iz ib) (jb:List ib) (e:a6 iN 99=a6 l 99)=>A7 (d:=99) (bytes:=104) (sh:=jb) (E.congr e) (fun _=>rfl) V vN (by unfold roomy;omega) true
  have AO:=E.notS
  have hz:=hl.froz
  obtain⟨G,hG⟩: ∃G,(a6 l 11).g+1=G:=⟨_,rfl⟩
  generalize rtT=rt at*
  simp(maxDischargeDepth:=6) only[qB,seval,gd,repl,iY,mX,kV,iC,ub,F,W,O,X,Z,H,g6,D,h,Dx,hw,J,hz,w5,w6,e7,r1,r2,r3,r4,av7,K,N,U,AO,hG,av6,VL,rq,List.length_cons,List.length_nil]
  repeat' (refine And.intro ?_ ?_ <;> intro _)
  all_goals exact⟨⟨_,rfl⟩,ttF I Ge ((lz (by decide)).mpr (U _ (by rfl) _ _ (by simp only[qA,seval])).2.1) ⟨⟨_,_,_,_,_,_,_,_,_⟩,rfl,D2⟩⟩
 ·rintro f l _ F ⟨H,_,rfl,D,fs,v,I,Ge,E,h⟩
  simp only[qA,seval,gd,ub,F,H,O,D,Int.lt_irrefl]
  exact⟨fs,v,I,Ge,E,h⟩
theorem tt2(n:Nat)(hn:n≤5)(zT aT:T)(g:Nat)(E4:ib)(fr:Fr)(lh:iz ib)(sh:List ib)(H:an fr 0=la)(I:an fr 1= .i .i64 (n:Int))(J:an fr 5= .ptr .L 5 g 0)(K:an fr 6= .i .i64 12960360)(N:an fr 7=rtT)(O:an fr 8= .i .i64 0)(U:a6 lh 5=⟨g,.cells [zT,aT,.nilsl] 0 true⟩)(V:a6 lh 4=E4):
  Lp pE 110 ub fr lh sh (.ext 0) fun f l s=>(s=sh∧a6 l 4=E4∧a6 l 5=⟨g,.cells [zT,aT,mh l 5 2] 0 true⟩∧cellsOf (mh l 5 2)= [mh l 5 2]∧noTup (mh l 5 2)=true∧ ∀e m sh,fzW m (mr l 4 e) sh false (mh l 5 2)=some (frT l (mh l 5 2),WL (mr l 4 e) (mh l 5 2)))∧ ∃fs:List Fl,fs.length=n∧(∀x∈fs,x.nu.length≤2)∧frT l (mh l 5 2)=kz n (fs.flatMap od):=by
 obtain⟨h,W,X,fs,v,Y,Z,D,E⟩:=tt1 la xs hl n hn zT aT g E4 fr lh sh H I J ⟨_,K⟩ N O U V
 have e:mh (lZ pE 110 ub fr lh sh) 5 2=v:=vu E
 have F:frT (lZ pE 110 ub fr lh sh) v=kz n (fs.flatMap od):=by unfold frT;rw[D.fzV]
 refine⟨h, ?_,fs,Y,Z,by rw[e];exact F⟩
 rw[e]
 refine⟨W,X,E,D.cells,D.noTup,fun e m sh=> ?_⟩
 rw[F]
 exact iP.fzW (D.congr (jg _ _ (by omega)))
def av8:Zo:=⟨[117,116,99],0,[]⟩
def apD:Zo:=⟨[101,97,115,116],120,[(12961060,60)]⟩
def D3:T:= .sl [.s [117,116,99],.i .i64 0,.nilsl,.s [101,97,115,116],.i .i64 120,.sl [.i .i64 12961060,.i .i64 60] 1 true] 2 true
def D4:T:= .sl [.s [65,65,65],.s [117,116,99],.s [66,66,66],.s [117,116,99],.s [67,67,67],.s [101,97,115,116]] 3 true
def VM(fs:List Fl):Tt:=⟨[av8,apD],[⟨[65,65,65],[117,116,99]⟩,⟨[66,66,66],[117,116,99]⟩,⟨[67,67,67],[101,97,115,116]⟩],fs⟩
theorem apE(n:Nat)(hn:n≤5): ∃v,hZ pE 13 [la,.i .i64 (n:Int)] []=some (.agg [D3,D4,v],[])∧ ∃fs:List Fl,fs.length=n∧(∀x∈fs,x.nu.length≤2)∧v=kz n (fs.flatMap od):=by
 have hL:=fun fr lh sh=>tt2 la xs hl n hn D3 D4 1 ⟨1,.cells [.nilsl,.nilsl,.nilsl] 0 true⟩ fr lh sh
 rw[im akA (by simp[c13])]
 unfold D3 D4 rtT at*
 apply Exists.intro
 apply And.intro
 ·simp(maxDischargeDepth:=6) only[qA,zB,seval,repl,c13,Hk,hL]
  rfl
 ·exact(hL _ _ _ (by simp only[qA,seval]) (by simp only[qA,seval]) (by simp only[qA,seval]) (by simp only[qA,seval]) (by simp only[qA,seval]) (by simp only[qA,seval]) (by simp only[qA,seval]) (by simp only[qA,seval])).2.2
end
theorem vH: ∀fs:List Fl,iB WO fs (fs.flatMap od)
 | []=>rfl
 |f::fs=>⟨od f,fs.flatMap od,rfl,rfl,vH fs⟩
theorem acL{fs:List Fl}{v:T}(Ge: ∀x∈fs,x.nu.length≤2)(h:IsSl v fs.length (fs.flatMap od)):sI (VM fs) D3 D4 v∧ ∀f∈(VM fs).fl,f.nu.length≤mJ:=by
 refine⟨⟨⟨_,.inr ⟨true,rfl⟩, ?_⟩,⟨_,.inr ⟨true,rfl⟩, ?_⟩,⟨_,h,vH fs⟩⟩,fun f hf=>Nat.le_trans (Ge f hf) (by unfold mJ;omega)⟩
 ·exact⟨[.s [117,116,99],.i .i64 0,.nilsl],_,rfl,⟨_,_,rfl,.inl ⟨rfl,rfl,rfl⟩,rfl⟩,[.s [101,97,115,116],.i .i64 120,.sl [.i .i64 12961060,.i .i64 60] 1 true],_,rfl,⟨_,_,rfl,.inr ⟨true,rfl⟩,⟨_,_,rfl,rfl,rfl⟩⟩,rfl⟩
 ·exact⟨_,_,rfl,rfl,_,_,rfl,rfl,_,_,rfl,rfl,rfl⟩
def lbT(la:T)(n:Nat):T:=match wC 1 la (min n 1) n with|some v=>v|none=>iI
theorem apF{la:T}{xs:List Int}(hl:IsSl la xs.length (ints xs)):IsSl (lbT la xs.length) (xs.drop (min xs.length 1)).length (ints (xs.drop (min xs.length 1)))∧wC 1 la (min xs.length 1) xs.length=some (lbT la xs.length):=by
 have h:min xs.length 1≤xs.length:=Nat.min_le_left _ _
 rcases hl with⟨rfl,h0,_⟩|⟨b,rfl⟩
 ·have:xs= []:=List.length_eq_zero_iff.1 h0
  subst this
  exact⟨.inl ⟨rfl,rfl,rfl⟩,rfl⟩
 ·have e:wC 1 (.sl (ints xs) xs.length b) (min xs.length 1) xs.length=some (.sl (ints (xs.drop (min xs.length 1))) (xs.length-min xs.length 1) b):=by
   simp only[wC,ints,List.length_map,Nat.mul_one,h,Nat.le_refl,and_self,if_true,decide_true,Bool.and_true,List.map_drop]
   rw[List.take_of_length_le (by rw[List.length_drop,List.length_map];omega)]
  have D:lbT (.sl (ints xs) xs.length b) xs.length= .sl (ints (xs.drop (min xs.length 1))) (xs.length-min xs.length 1) b:=by unfold lbT;rw[e]
  rw[D]
  exact⟨.inr ⟨b,by rw[List.length_drop]⟩,e⟩
theorem apG{a b c d e f:Int}:tO (.flat [.int,.int,.int]) (.agg [.i .i64 a,.i .i64 b,.i .i64 c]) (.agg [.i .i64 d,.i .i64 e,.i .i64 f])=some (decide (a=d∧b=e∧c=f)):=by
 simp only[tO,ju,kO,if_true,Bool.beq_eq_decide_eq]
 by_cases h:a=d <;> by_cases D:b=e <;> by_cases E:c=f <;> simp[h,D,E]
section
variable(zT aT fT x0 x1 x2 x3 x4 x5 x6 x7 x8 x9 DU DZ D1 GH bT:T)(hd pe:Int)(fs:List Fl)(hf:IsSl fT fs.length (fs.flatMap od))(hn:fs.length≤5)
def Nz(h:T):List T:= [zT,aT,fT,x0,x1,x2,x3,x4,x5,x6,x7,x8,x9,DU,DZ,D1,GH,bT,h,.i .i64 hd,.i .i64 pe]
include hf hn
theorem pr1(g:Nat)(E2:ib)(fr:Fr)(lh:iz ib)(sh:List ib)(N:an fr 3= .i .i64 (fs.length:Int))(W:an fr 4= .ptr .L 4 g 0)(X:an fr 5= .i .i64 0)(E:a6 lh 4=⟨g,.cells (Nz zT aT fT x0 x1 x2 x3 x4 x5 x6 x7 x8 x9 DU DZ D1 GH bT hd pe .nilsl) 0 true⟩)(F:a6 lh 2=E2):
  Lp pE 63 zY fr lh sh (.ext 0) fun f l s=>(s=sh∧a6 l 2=E2∧a6 l 4=⟨g,.cells (Nz zT aT fT x0 x1 x2 x3 x4 x5 x6 x7 x8 x9 DU DZ D1 GH bT hd pe (mh l 4 18)) 0 true⟩∧cellsOf (mh l 4 18)= [mh l 4 18]∧noTup (mh l 4 18)=true∧ ∀e m sh,fzW m (mr l 2 e) sh false (mh l 4 18)=some (frT l (mh l 4 18),WL (mr l 2 e) (mh l 4 18)))∧ ∃os:List Int,os.length≤5∧(0<fs.length→0<os.length)∧frT l (mh l 4 18)=kz os.length (ints os):=by
 suffices hh:Lp pE 63 zY fr lh sh (.ext 0) fun f l s=>s=sh∧a6 l 2=E2∧ ∃(os:List Int) (v:T),os.length≤fs.length∧(0<fs.length→0<os.length)∧iP l v 60 1 os.length (ints os)∧a6 l 4=⟨g,.cells (Nz zT aT fT x0 x1 x2 x3 x4 x5 x6 x7 x8 x9 DU DZ D1 GH bT hd pe v) 0 true⟩by
  obtain⟨h,I,H,os,v,q3,Y,D,O⟩:=hh
  have e:mh (lZ pE 63 zY fr lh sh) 4 18=v:=vu O
  have U:frT (lZ pE 63 zY fr lh sh) v=kz os.length (ints os):=by unfold frT;rw[D.fzV]
  refine⟨h, ?_,os,by omega,Y,by rw[e];exact U⟩
  rw[e]
  refine⟨I,H,O,D.cells,D.noTup,fun e m sh=> ?_⟩
  rw[U]
  exact iP.fzW (D.congr (jg _ _ (by omega)))
 refine px wR (fun k f l s=>an f 5= .i .i64 (k:Int)∧s=sh∧a6 l 2=E2∧ ∃(os:List Int) (v:T),os.length≤k∧(0<k→0<os.length)∧iP l v 60 1 os.length (ints os)∧a6 l 4=⟨g,.cells (Nz zT aT fT x0 x1 x2 x3 x4 x5 x6 x7 x8 x9 DU DZ D1 GH bT hd pe v) 0 true⟩) fs.length ⟨X,rfl,F,[],.nilsl,Nat.le_refl _,fun h=>absurd h (by omega),iP.nil,E⟩ ?_ ?_
 ·rintro k f l _ Z J ⟨K,rfl,F,os,v,I,H,D,E⟩
  have iR:(k:Int)<fs.length:=by omega
  have hw:=iM (k:=k) (by omega)
  obtain⟨r1,iS⟩:=sk hf (vH fs) k Z
  obtain⟨r2,Hg⟩:=sk hf (vH fs) 0 (by omega)
  have Hg: ∀kk,pv fT (.i kk 0) 9=_:=Hg
  have V:=fun(iN:iz ib) (jb:List ib) (e:a6 iN 60=a6 l 60)=>A7 (d:=60) (bytes:=8) (sh:=jb) (D.congr e) (fun _=>rfl) [.i .i64 (k:Int)] rfl (by unfold roomy;omega) true
  have AO:=D.notS
  have DV:k=0→fs[k]=fs[0]:=fun h=>by subst h;rfl
  generalize fs[k]=u at*
  generalize fs[0]=w at*
  unfold Nz at*
  simp(maxDischargeDepth:=6) only[qB,seval,gd,repl,iY,mX,kV,iC,zY,J,N,W,K,F,E,iR,hw,iS,Hg,V,AO,apG]
  refine⟨fun _=>⟨os++ [(k:Int)],_,by rw[List.length_append,List.length_singleton];omega,fun _=>by rw[List.length_append,List.length_singleton];omega,(lz (by decide)).mpr ?_,rfl⟩,fun h=>⟨os,v,by omega,fun _=> ?_,D,rfl⟩⟩
  ·rw[List.length_append,List.length_singleton,show ints (os++ [(k:Int)])=ints os++ [.i .i64 (k:Int)]by simp[ints]]
   exact(V _ _ rfl).2.1
  ·by_cases hz:k=0
   ·rw[DV hz]at h
    simp at h
   ·exact H (by omega)
 ·rintro f l _ J ⟨K,rfl,F,os,v,I,H,D,E⟩
  simp only[qA,seval,gd,zY,J,N,K,F,Int.lt_irrefl]
  exact⟨os,v,I,H,D,E⟩
end
structure av9 (fs:List Fl) (os:List Int) (fT bT oT:T) (X:List T):Prop where
 n:2≤fs.length∧fs.length≤5
 nu: ∀x∈fs,x.nu.length≤2
 f:IsSl fT fs.length (fs.flatMap od)
 o:IsSl oT os.length (ints os)
 ol:0<os.length∧os.length≤5
 b: ∃ss:List (List Nat),IsSl bT ss.length (ss.map T.s)∧1≤ss.length∧ss.length≤2
 x:X.all froz1=true
theorem ZW(uu: ∀n:Int,0≤n→ ∃x0 x1 x2 x3 x4 x5 x6 x7 x8 x9 DU DZ D1 GH,hZ pE 14 [.i .i64 n] []=some (.agg [x0,x1,x2,x3,x4,x5,x6,x7,x8,x9,DU,DZ,D1,GH],[])∧ [x0,x1,x2,x3,x4,x5,x6,x7,x8,x9,DU,DZ,D1,GH].all froz1=true)(la:T)(xs:List Int)(hl:IsSl la xs.length (ints xs)):
  ∃fs os fT bT K hd pe x0 x1 x2 x3 x4 x5 x6 x7 x8 x9 DU DZ D1 GH,hZ pE 4 [la] []=some (.agg (Nz D3 D4 fT x0 x1 x2 x3 x4 x5 x6 x7 x8 x9 DU DZ D1 GH bT hd pe K),[])∧av9 fs os fT bT K [x0,x1,x2,x3,x4,x5,x6,x7,x8,x9,DU,DZ,D1,GH]:=by
 obtain⟨x0,x1,x2,x3,x4,x5,x6,x7,x8,x9,DU,DZ,D1,GH,hc,hx⟩:=uu (Az xs 9) (GG xs 9)
 have D:=fun i h=>VK la xs hl i h
 have a0:hZ pE 12 [la,.i .i64 0] []=some (.i .i64 (Az xs 0),[]):=D 0 (by omega)
 have a9:hZ pE 12 [la,.i .i64 9] []=some (.i .i64 (Az xs 9),[]):=D 9 (by omega)
 have iv:hZ pE 12 [la,.i .i64 10] []=some (.i .i64 (Az xs 10),[]):=D 10 (by omega)
 have iw:hZ pE 12 [la,.i .i64 11] []=some (.i .i64 (Az xs 11),[]):=D 11 (by omega)
 have iy:hZ pE 12 [la,.i .i64 12] []=some (.i .i64 (Az xs 12),[]):=D 12 (by omega)
 have n0:=GG xs 0
 obtain⟨kg,tK⟩:=apF hl
 obtain⟨n,hn⟩: ∃n:Nat,2+Az xs 0%4=(n:Int):=⟨(2+Az xs 0%4).toNat,by omega⟩
 obtain⟨fT,hT,fs,rB,Ge,hv⟩:=apE _ _ kg n (by omega)
 subst rB
 have hf:IsSl fT fs.length (fs.flatMap od):=by rw[hv];exact mg fun h=>absurd h (by omega)
 have w1:wr .i64 (2+(Az xs 0).tmod 4)=(fs.length:Int):=by rw[oU n0,jw (by omega),hn]
 have ZX:min (xs.length:Int) 1=((min xs.length 1:Nat):Int):=by omega
 have hL:=fun bT hd pe fr lh sh=>pr1 D3 D4 fT x0 x1 x2 x3 x4 x5 x6 x7 x8 x9 DU DZ D1 GH bT hd pe fs hf (by omega) 1 ⟨1,.cells [.nilsl,.nilsl,.nilsl,.i .i64 0,.i .i64 0,.i .i64 0,.i .i64 0,.i .i64 0,.i .i64 0,.i .i64 0,.nilsl,.nilsl,.nilsl,.nilsl,.nilsl,.nilsl,.i .i64 0,.nilsl,.nilsl,.i .i64 0,.i .i64 0] 0 true⟩ fr lh sh
 have hz:=hl.froz
 have pX:=hl.lenI
 have J:=kg.froz
 have Dz:=hl.len
 have f1:=hf.froz1
 have tz:froz1 D3=true:=rfl
 have ta:froz1 D4=true:=rfl
 simp only[List.all_cons,List.all_nil,Bool.and_true,Bool.and_eq_true]at hx
 obtain⟨U,V,W,X,Y,Z,y6,y7,y8,y9,E,F,H,I⟩:=hx
 generalize Az xs 0=q0 at*
 generalize Az xs 9=q9 at*
 generalize Az xs 10=q10 at*
 generalize Az xs 11=q11 at*
 generalize Az xs 12=q12 at*
 generalize D3=zT at*
 generalize D4=aT at*
 have main: ∃bT hd,(∃ss:List (List Nat),IsSl bT ss.length (ss.map T.s)∧1≤ss.length∧ss.length≤2)∧ ∃K,hZ pE 4 [la] []=some (.agg (Nz zT aT fT x0 x1 x2 x3 x4 x5 x6 x7 x8 x9 DU DZ D1 GH bT hd (wr .i64 (20+q10.tmod 60)) K),[])∧ ∃os:List Int,os.length≤5∧(0<fs.length→0<os.length)∧K=kz os.length (ints os):=by
  unfold Nz at*
  by_cases N:q11.tmod 3=0 <;> by_cases O:q12.tmod 4=0
  ·have hL:=hL (.sl [.s [65,65,65],.s [66,66,66]] 2 true) 1 (wr .i64 (20+q10.tmod 60))
   refine⟨.sl [.s [65,65,65],.s [66,66,66]] 2 true,1,⟨[[65,65,65],[66,66,66]],.inr ⟨true,rfl⟩,by decide,by decide⟩, ?_⟩
   apply Exists.intro
   apply And.intro
   ·rw[im fn4 (by simp[c4])]
    simp(maxDischargeDepth:=6) only[qA,zB,seval,repl,c4,wR,a0,a9,iv,iw,iy,hc,hT,hz,J,pX,Dz,tK,Option.bind_some,ZX,qv,w1,hL,N,O,f1,tz,ta,U,V,W,X,Y,Z,y6,y7,y8,y9,E,F,H,I,rq,W8,RN]
    rfl
   ·exact(hL _ _ _ (by simp only[qA,seval]) (by simp only[qA,seval]) (by simp only[qA,seval]) (by simp only[qA,seval]) (by simp only[qA,seval])).2.2
  ·have hL:=hL (.sl [.s [65,65,65],.s [66,66,66]] 2 true) 0 (wr .i64 (20+q10.tmod 60))
   refine⟨.sl [.s [65,65,65],.s [66,66,66]] 2 true,0,⟨[[65,65,65],[66,66,66]],.inr ⟨true,rfl⟩,by decide,by decide⟩, ?_⟩
   apply Exists.intro
   apply And.intro
   ·rw[im fn4 (by simp[c4])]
    simp(maxDischargeDepth:=6) only[qA,zB,seval,repl,c4,wR,a0,a9,iv,iw,iy,hc,hT,hz,J,pX,Dz,tK,Option.bind_some,ZX,qv,w1,hL,N,O,f1,tz,ta,U,V,W,X,Y,Z,y6,y7,y8,y9,E,F,H,I,rq,W8,RN]
    rfl
   ·exact(hL _ _ _ (by simp only[qA,seval]) (by simp only[qA,seval]) (by simp only[qA,seval]) (by simp only[qA,seval]) (by simp only[qA,seval])).2.2
  ·have hL:=hL (.sl [.s [65,65,65]] 1 true) 1 (wr .i64 (20+q10.tmod 60))
   refine⟨.sl [.s [65,65,65]] 1 true,1,⟨[[65,65,65]],.inr ⟨true,rfl⟩,by decide,by decide⟩, ?_⟩
   apply Exists.intro
   apply And.intro
   ·rw[im fn4 (by simp[c4])]
    simp(maxDischargeDepth:=6) only[qA,zB,seval,repl,c4,wR,a0,a9,iv,iw,iy,hc,hT,hz,J,pX,Dz,tK,Option.bind_some,ZX,qv,w1,hL,N,O,f1,tz,ta,U,V,W,X,Y,Z,y6,y7,y8,y9,E,F,H,I,rq,W8,RN]
    rfl
   ·exact(hL _ _ _ (by simp only[qA,seval]) (by simp only[qA,seval]) (by simp only[qA,seval]) (by simp only[qA,seval]) (by simp only[qA,seval])).2.2
  ·have hL:=hL (.sl [.s [65,65,65]] 1 true) 0 (wr .i64 (20+q10.tmod 60))
   refine⟨.sl [.s [65,65,65]] 1 true,0,⟨[[65,65,65]],.inr ⟨true,rfl⟩,by decide,by decide⟩, ?_⟩
   apply Exists.intro
   apply And.intro
   ·rw[im fn4 (by simp[c4])]
    simp(maxDischargeDepth:=6) only[qA,zB,seval,repl,c4,wR,a0,a9,iv,iw,iy,hc,hT,hz,J,pX,Dz,tK,Option.bind_some,ZX,qv,w1,hL,N,O,f1,tz,ta,U,V,W,X,Y,Z,y6,y7,y8,y9,E,F,H,I,rq,W8,RN]
    rfl
   ·exact(hL _ _ _ (by simp only[qA,seval]) (by simp only[qA,seval]) (by simp only[qA,seval]) (by simp only[qA,seval]) (by simp only[qA,seval])).2.2
 obtain⟨bT,hd,hb,K,N,os,O,h3,rfl⟩:=main
 exact⟨fs,os,fT,bT,_,hd,_,x0,x1,x2,x3,x4,x5,x6,x7,x8,x9,DU,DZ,D1,GH,N,⟨⟨by omega,by omega⟩,Ge,hf,mg fun h=>by rw[List.length_eq_zero_iff.1 h];rfl,⟨h3 (by omega),O⟩,hb,by simp only[List.all_cons,List.all_nil,U,V,W,X,Y,Z,y6,y7,y8,y9,E,F,H,I];rfl⟩⟩
section
variable(t:Tt)(c:Ct)(zT aT fT a7 a8 a9 iv iw iy:T)(hT:sI t zT aT fT)(hC:tZ c a7 a8 a9 iv iw iy)(hN:Qy c)(hL: ∀f∈t.fl,f.nu.length≤mJ)
include hT hC hN hL
theorem agz(h1:1≤t.fl.length)(h5:t.fl.length≤5)(n:Int)(hn:0≤n)(bT O:T)(U:froz1 bT=true)(V:froz1 O=true)(hd pe:Int): ∃d H,(1≤d.length∧d.length≤2)∧CJ d H∧ ∃b,hZ pE 6 [.agg (Nz zT aT fT (.i .i64 c.rp) (.i .i64 c.rl) (.i .i64 c.cn) (.i .i64 c.st) (.i .i64 c.ly) (.i .i64 c.nf) (.i .i64 c.nt) a7 a8 a9 iv iw iy (.i .i64 c.gu) bT hd pe O),.i .i64 n] []=some (.tup [H,.b b],[]):=by
 have hz:=WQ t c zT aT fT a7 a8 a9 iv iw iy hT hC
 obtain⟨fc,f1,f2⟩:=hT.f
 have W:=f1.lenI
 have X:n.tmod (t.fl.length:Int)=n%(t.fl.length:Int):=oU hn
 have Y:(n/16).tmod (t.fl.length:Int)=n/16%(t.fl.length:Int):=oU (by omega)
 have i1:=Int.emod_nonneg n (show(t.fl.length:Int)≠0 by omega)
 have i2:=Int.emod_lt_of_pos n (show(0:Int)<t.fl.length by omega)
 have j1:=Int.emod_nonneg (n/16) (show(t.fl.length:Int)≠0 by omega)
 have j2:=Int.emod_lt_of_pos (n/16) (show(0:Int)<t.fl.length by omega)
 have J:=I7 t c zT aT fT a7 a8 a9 iv iw iy hT hC (i:=n%(t.fl.length:Int)) (j:=n/16%(t.fl.length:Int)) (decide_eq_true ⟨i1,i2⟩) (decide_eq_true ⟨j1,j2⟩)
 have F:=fun d H hd h=>Gj t c zT aT fT a7 a8 a9 iv iw iy hT hC hN hL d H hd h
 have Z: ¬(t.fl.length:Int)=0:=by omega
 generalize hi:n%(t.fl.length:Int)=i at*
 generalize hg:n/16%(t.fl.length:Int)=j at*
 unfold jf at*
 obtain⟨h,I,D⟩: ∃h:Bool,(h=true→n/8%2=1)∧(h=false→ ¬n/8%2=1):=⟨decide (n/8%2=1),by simp,by simp⟩
 unfold Nz
 cases K:yi c t.fl i j <;> rw[K]at J
 ·have hs:=F [(i,h)] (.sl [.i .i64 i,.b h] 1 true) ⟨_,.inr ⟨true,rfl⟩,_,_,rfl,rfl,rfl⟩ (by simp)
  refine⟨[(i,h)],.sl [.i .i64 i,.b h] 1 true,by simp,⟨_,.inr ⟨true,rfl⟩,_,_,rfl,rfl,rfl⟩, ?_⟩
  generalize (if mz t c≠0 then mz t c else sn c t.fl [(i,h)])=E at*
  cases h <;> simp only[forall_const,reduceCtorEq,false_imp_iff]at I D <;> by_cases N:E=0
  all_goals
   apply Exists.intro
   rw[im fn6 (by simp[c6])]
   simp only[qA,seval,repl,c6,W,X,Y,hi,hg,J,hs,Z,hz,U,V,I,D,N,ady,RO]
   rfl
 ·have hs:=F [(i,h),(j,false)] (.sl [.i .i64 i,.b h,.i .i64 j,.b false] 2 false) ⟨_,.inr ⟨false,rfl⟩,_,_,rfl,rfl,_,_,rfl,rfl,rfl⟩ (by simp)
  refine⟨[(i,h),(j,false)],.sl [.i .i64 i,.b h,.i .i64 j,.b false] 2 false,by simp,⟨_,.inr ⟨false,rfl⟩,_,_,rfl,rfl,_,_,rfl,rfl,rfl⟩, ?_⟩
  generalize (if mz t c≠0 then mz t c else sn c t.fl [(i,h),(j,false)])=E at*
  cases h <;> simp only[forall_const,reduceCtorEq,false_imp_iff]at I D <;> by_cases N:E=0
  all_goals
   apply Exists.intro
   rw[im fn6 (by simp[c6])]
   simp only[qA,seval,repl,appW,MP,Option.bind_some,roomy,c6,W,X,Y,hi,hg,J,hs,Z,hz,U,V,I,D,N,ady,asP]
   rfl
end
theorem awa(x:Int)(D:0≤x)(E:x<16):x=0∨x=1∨x=2∨x=3∨x=4∨x=5∨x=6∨x=7∨x=8∨x=9∨x=10∨x=11∨x=12∨x=13∨x=14∨x=15:=by
 obtain⟨m,rfl⟩:=Int.eq_ofNat_of_zero_le D
 have h: ∀m:Nat,m<16→((m:Int)=0∨(m:Int)=1∨(m:Int)=2∨(m:Int)=3∨(m:Int)=4∨(m:Int)=5∨(m:Int)=6∨(m:Int)=7∨(m:Int)=8∨(m:Int)=9∨(m:Int)=10∨(m:Int)=11∨(m:Int)=12∨(m:Int)=13∨(m:Int)=14∨(m:Int)=15):=by decide
 exact h m (by omega)
theorem rmA{a:Nat}(h:a≤1):(a+1+2)*16≤1099511627776∧(a+1+1)*16≤1099511627776:=by omega
theorem rmB{a:Nat}(h:a≤4):(a+1+1)*8≤1099511627776:=by omega
theorem rmC{a:Nat}(h:a≤4):(a+1)*104≤1099511627776:=by omega
theorem A8{f0:Fl}{R:List T}{n:Nat}(h:(od f0++R).length=n)(f:Fl):(od f++R).length=n:=by simpa[od]using h
section
variable(zT aT a7 a8 a9 iv iw iy:T)(c:Ct)(f0:Fl)(R bs os:List T)(nb no nf:Nat)(bx ox fx:Bool)(hd pe m0 m1:Int)
 (kg:bs.length=nb+1) (tK:nb≤1) (Ag:os.length=no+1) (ho2:no≤4) (vv:(od f0++R).length=(nf+1)*9) (MU:nf≤4)
 (hz:(froz1 zT=true∧froz1 aT=true∧froz1 a7=true∧froz1 a8=true∧froz1 a9=true∧froz1 iv=true∧froz1 iw=true∧froz1 iy=true))
include kg tK Ag ho2 vv MU hz
theorem VN: ∃(K:Ct) (V:Fl) (O:Bool) (ZY ZZ:T) (OX U:Int),((K=c∨K={c with st:= -1})∧V.nu=f0.nu)∧hZ pE 9 [.agg (Nz zT aT (.sl (od f0++R) (nf+1) fx) (.i .i64 c.rp) (.i .i64 c.rl) (.i .i64 c.cn) (.i .i64 c.st) (.i .i64 c.ly) (.i .i64 c.nf) (.i .i64 c.nt) a7 a8 a9 iv iw iy (.i .i64 c.gu) (.sl bs (nb+1) bx) hd pe (.sl os (no+1) ox)),.sl [.i .i64 m0,.i .i64 m1] 2 true] []=
  some (.agg (Nz zT aT (.sl (od V++R) (nf+1) O) (.i .i64 K.rp) (.i .i64 K.rl) (.i .i64 K.cn) (.i .i64 K.st) (.i .i64 K.ly) (.i .i64 K.nf) (.i .i64 K.nt) a7 a8 a9 iv iw iy (.i .i64 K.gu) ZY OX U ZZ),[])∧froz1 ZY=true∧froz1 ZZ=true:=by
 have N:=fun i h=>VK (.sl [.i .i64 m0,.i .i64 m1] 2 true) [m0,m1] (.inr ⟨true,rfl⟩) i h
 have a0:hZ pE 12 [.sl [.i .i64 m0,.i .i64 m1] 2 true,.i .i64 0] []=some (.i .i64 (Az [m0,m1] 0),[]):=N 0 (by omega)
 have a1:hZ pE 12 [.sl [.i .i64 m0,.i .i64 m1] 2 true,.i .i64 1] []=some (.i .i64 (Az [m0,m1] 1),[]):=N 1 (by omega)
 have Y:=GG [m0,m1] 0
 have EH:froz (.sl [.i .i64 m0,.i .i64 m1] 2 true)=true:=rfl
 have e1:=oU (b:=16) Y
 generalize Az [m0,m1] 0=q at*
 generalize Az [m0,m1] 1=k at*
 generalize T.sl [.i .i64 m0,.i .i64 m1] 2 true=lT at*
 have D:(nb+1)*16≤1099511627776:=by omega
 have E:(no+1)*8≤1099511627776:=by omega
 obtain⟨Z,s4⟩:=rmA tK
 have s7:=rmB ho2
 have u1:0<no+1:=by omega
 have W:=rmC MU
 have X:0<nf+1:=by omega
 have v3:9≤(nf+1)*9:=by omega
 have v6:5≤(nf+1)*9:=by omega
 have hw:=awa (q.tmod 16) (by omega) (by omega)
 have F:bs.take (nb+1)=bs:=List.take_of_length_le (by omega)
 have H:os.take (no+1)=os:=List.take_of_length_le (by omega)
 have I:nb+1≤bs.length:=by omega
 have J:no+1≤os.length:=by omega
 unfold Nz
 have u2:no+1≤(splice os 0 [.i .i64 (-1)]).length:=by
  cases os with
  |nil=>simp at Ag
  |cons o os=>simpa[splice]using Nat.le_of_eq Ag.symm
 have v4:splice (od f0++R) 6 [.i .i64 0,.i .i64 0,.i .i64 0]=od {f0 with n0:=0,n1:=0,n2:=0}++R:=by simp[splice,od]
 have v5:splice (od f0++R) 4 [.i .i64 0]=od {f0 with ar:=0}++R:=by simp[splice,od]
 have v7:(nf+1)*9≤(od {f0 with n0:=0,n1:=0,n2:=0}++R).length:=Nat.le_of_eq (A8 vv _).symm
 have v8:(nf+1)*9≤(od {f0 with ar:=0}++R).length:=Nat.le_of_eq (A8 vv _).symm
 have v9:(od {f0 with n0:=0,n1:=0,n2:=0}++R).take ((nf+1)*9)=od {f0 with n0:=0,n1:=0,n2:=0}++R:=List.take_of_length_le (Nat.le_of_eq (A8 vv _))
 have v0:(od {f0 with ar:=0}++R).take ((nf+1)*9)=od {f0 with ar:=0}++R:=List.take_of_length_le (Nat.le_of_eq (A8 vv _))
 rcases hw with h|h|h|h|h|h|h|h|h|h|h|h|h|h|h|h
 ·refine⟨c,f0,fx, ?_⟩
  apply Exists.intro
  apply Exists.intro
  apply Exists.intro
  apply Exists.intro
  refine⟨⟨.inl rfl,rfl⟩, ?_⟩
  apply And.intro
  ·rw[im HV (by simp[c9])]
   simp(maxDischargeDepth:=6) only[qA,seval,repl,iY,mX,kV,iC,appW,jY,Option.bind_some,roomy,c9,a0,a1,EH,hz,h,kg,Ag,D,E,F,H,I,J,rq]
   rfl
  ·exact⟨rfl,rfl⟩
 ·refine⟨c,f0,fx, ?_⟩
  apply Exists.intro
  apply Exists.intro
  apply Exists.intro
  apply Exists.intro
  refine⟨⟨.inl rfl,rfl⟩, ?_⟩
  apply And.intro
  ·rw[im HV (by simp[c9])]
   simp(maxDischargeDepth:=6) only[qA,seval,repl,iY,mX,kV,iC,appW,jY,Option.bind_some,roomy,c9,a0,a1,EH,hz,h,kg,Ag,D,E,F,H,I,J,rq]
   rfl
  ·exact⟨rfl,rfl⟩
 ·refine⟨c,f0,fx, ?_⟩
  apply Exists.intro
  apply Exists.intro
  apply Exists.intro
  apply Exists.intro
  refine⟨⟨.inl rfl,rfl⟩, ?_⟩
  apply And.intro
  ·rw[im HV (by simp[c9])]
   simp(maxDischargeDepth:=6) only[qA,seval,repl,iY,mX,kV,iC,appW,jY,Option.bind_some,roomy,c9,a0,a1,EH,hz,h,kg,Ag,D,E,F,H,I,J,rq]
   rfl
  ·exact⟨rfl,rfl⟩
 ·refine⟨c,f0,fx, ?_⟩
  apply Exists.intro
  apply Exists.intro
  apply Exists.intro
  apply Exists.intro
  refine⟨⟨.inl rfl,rfl⟩, ?_⟩
  apply And.intro
  ·rw[im HV (by simp[c9])]
   simp(maxDischargeDepth:=6) only[qA,seval,repl,iY,mX,kV,iC,appW,jY,Option.bind_some,roomy,c9,a0,a1,EH,hz,h,kg,Ag,D,E,F,H,I,J,rq]
   rfl
  ·exact⟨rfl,rfl⟩
 ·refine⟨c,f0,fx, ?_⟩
  apply Exists.intro
  apply Exists.intro
  apply Exists.intro
  apply Exists.intro
  refine⟨⟨.inl rfl,rfl⟩, ?_⟩
  apply And.intro
  ·rw[im HV (by simp[c9])]
   simp(maxDischargeDepth:=6) only[qA,seval,repl,iY,mX,kV,iC,appW,jY,Option.bind_some,roomy,c9,a0,a1,EH,hz,h,kg,Ag,D,E,F,H,I,J,rq,ql,qk,List.length_append,List.length_cons,List.length_nil,Z]
   rfl
  ·exact⟨rfl,rfl⟩
 ·refine⟨c,f0,fx, ?_⟩
  apply Exists.intro
  apply Exists.intro
  apply Exists.intro
  apply Exists.intro
  refine⟨⟨.inl rfl,rfl⟩, ?_⟩
  apply And.intro
  ·rw[im HV (by simp[c9])]
   simp(maxDischargeDepth:=6) only[qA,seval,repl,iY,mX,kV,iC,appW,jY,Option.bind_some,roomy,c9,a0,a1,EH,hz,h,kg,Ag,D,E,F,H,I,J,rq,ql,qk,List.length_append,List.length_cons,List.length_nil,s4]
   rfl
  ·exact⟨rfl,rfl⟩
 ·refine⟨c,f0,fx, ?_⟩
  apply Exists.intro
  apply Exists.intro
  apply Exists.intro
  apply Exists.intro
  refine⟨⟨.inl rfl,rfl⟩, ?_⟩
  apply And.intro
  ·rw[im HV (by simp[c9])]
   simp(maxDischargeDepth:=6) only[qA,seval,repl,iY,mX,kV,iC,appW,jY,Option.bind_some,roomy,c9,a0,a1,EH,hz,h,kg,Ag,D,E,F,H,I,J,rq]
   rfl
  ·exact⟨rfl,rfl⟩
 ·refine⟨c,f0,fx, ?_⟩
  apply Exists.intro
  apply Exists.intro
  apply Exists.intro
  apply Exists.intro
  refine⟨⟨.inl rfl,rfl⟩, ?_⟩
  apply And.intro
  ·rw[im HV (by simp[c9])]
   simp(maxDischargeDepth:=6) only[qA,seval,repl,iY,mX,kV,iC,appW,jY,Option.bind_some,roomy,c9,a0,a1,EH,hz,h,kg,Ag,D,E,F,H,I,J,rq]
   rfl
  ·exact⟨rfl,rfl⟩
 ·refine⟨c,f0,fx, ?_⟩
  apply Exists.intro
  apply Exists.intro
  apply Exists.intro
  apply Exists.intro
  refine⟨⟨.inl rfl,rfl⟩, ?_⟩
  apply And.intro
  ·rw[im HV (by simp[c9])]
   simp(maxDischargeDepth:=6) only[qA,seval,repl,iY,mX,kV,iC,appW,jY,Option.bind_some,roomy,c9,a0,a1,EH,hz,h,kg,Ag,D,E,F,H,I,J,rq,ql,qk,List.length_append,List.length_cons,List.length_nil,s7]
   rfl
  ·exact⟨rfl,rfl⟩
 ·refine⟨c,f0,fx, ?_⟩
  apply Exists.intro
  apply Exists.intro
  apply Exists.intro
  apply Exists.intro
  refine⟨⟨.inl rfl,rfl⟩, ?_⟩
  apply And.intro
  ·rw[im HV (by simp[c9])]
   simp(maxDischargeDepth:=6) only[qA,seval,repl,iY,mX,kV,iC,appW,jY,Option.bind_some,roomy,c9,a0,a1,EH,hz,h,kg,Ag,D,E,F,H,I,J,rq,u1,u2]
   rfl
  ·exact⟨rfl,rfl⟩
 ·refine⟨c,{f0 with n0:=0,n1:=0,n2:=0},false, ?_⟩
  apply Exists.intro
  apply Exists.intro
  apply Exists.intro
  apply Exists.intro
  refine⟨⟨.inl rfl,rfl⟩, ?_⟩
  apply And.intro
  ·rw[im HV (by simp[c9])]
   simp(maxDischargeDepth:=6) only[qA,seval,repl,iY,mX,kV,iC,appW,jY,Option.bind_some,roomy,c9,a0,a1,EH,hz,h,kg,Ag,D,E,F,H,I,J,rq,vv,W,X,v3,v4,v7,v9]
   rfl
  ·exact⟨rfl,rfl⟩
 ·refine⟨c,{f0 with ar:=0},false, ?_⟩
  apply Exists.intro
  apply Exists.intro
  apply Exists.intro
  apply Exists.intro
  refine⟨⟨.inl rfl,rfl⟩, ?_⟩
  apply And.intro
  ·rw[im HV (by simp[c9])]
   simp(maxDischargeDepth:=6) only[qA,seval,repl,iY,mX,kV,iC,appW,jY,Option.bind_some,roomy,c9,a0,a1,EH,hz,h,kg,Ag,D,E,F,H,I,J,rq,vv,W,X,v6,v5,v8,v0]
   rfl
  ·exact⟨rfl,rfl⟩
 ·refine⟨{c with st:= -1},f0,fx, ?_⟩
  apply Exists.intro
  apply Exists.intro
  apply Exists.intro
  apply Exists.intro
  refine⟨⟨.inr rfl,rfl⟩, ?_⟩
  apply And.intro
  ·rw[im HV (by simp[c9])]
   simp(maxDischargeDepth:=6) only[qA,seval,repl,iY,mX,kV,iC,appW,jY,Option.bind_some,roomy,c9,a0,a1,EH,hz,h,kg,Ag,D,E,F,H,I,J,rq]
   rfl
  ·exact⟨rfl,rfl⟩
 ·refine⟨c,f0,fx, ?_⟩
  apply Exists.intro
  apply Exists.intro
  apply Exists.intro
  apply Exists.intro
  refine⟨⟨.inl rfl,rfl⟩, ?_⟩
  apply And.intro
  ·rw[im HV (by simp[c9])]
   simp(maxDischargeDepth:=6) only[qA,seval,repl,iY,mX,kV,iC,appW,jY,Option.bind_some,roomy,c9,a0,a1,EH,hz,h,kg,Ag,D,E,F,H,I,J,rq]
   rfl
  ·exact⟨rfl,rfl⟩
 ·refine⟨c,f0,fx, ?_⟩
  apply Exists.intro
  apply Exists.intro
  apply Exists.intro
  apply Exists.intro
  refine⟨⟨.inl rfl,rfl⟩, ?_⟩
  apply And.intro
  ·rw[im HV (by simp[c9])]
   simp(maxDischargeDepth:=6) only[qA,seval,repl,iY,mX,kV,iC,appW,jY,Option.bind_some,roomy,c9,a0,a1,EH,hz,h,kg,Ag,D,E,F,H,I,J,rq]
   rfl
  ·exact⟨rfl,rfl⟩
 ·refine⟨c,f0,fx, ?_⟩
  apply Exists.intro
  apply Exists.intro
  apply Exists.intro
  apply Exists.intro
  refine⟨⟨.inl rfl,rfl⟩, ?_⟩
  apply And.intro
  ·rw[im HV (by simp[c9])]
   simp(maxDischargeDepth:=6) only[qA,seval,repl,iY,mX,kV,iC,appW,jY,Option.bind_some,roomy,c9,a0,a1,EH,hz,h,kg,Ag,D,E,F,H,I,J,rq]
   rfl
  ·exact⟨rfl,rfl⟩
end
def Kd(o n:Int)(s:List Nat):Ex:= .mk o n s []
def Qa:List Nat:= [108,101,103,115]
def VO:List Nat:= [104,101,97,100,115]
theorem Z0(o n:Int)(s:List Nat):lv (Kd o n s) [.i .i64 o,.i .i64 n,.s s,.nilsl]:=by
 unfold Kd;rw[lv];exact⟨_,[],rfl,.inl ⟨rfl,rfl,rfl⟩,by rw[jx]⟩
theorem agB{x y:Ex}{cx h:List T}(D:lv x cx)(E:lv y h):jx [x,y] (cx++h):=jx.cons D (by simpa using jx.cons E (show jx [] []by rw[jx]))
theorem Z1{x y:Ex}{cx h:List T}(o n:Int)(s:List Nat)(b:Bool)(D:lv x cx)(E:lv y h):lv (.mk o n s [x,y]) [.i .i64 o,.i .i64 n,.s s,.sl (cx++h) 2 b]:=by
 rw[lv];exact⟨_,_,rfl,.inr ⟨b,rfl⟩,agB D E⟩
def Jy(D:List Nat)(st m0 E m1 F h H:Int):Ct:=⟨60,30,30,st,1800,1320,360,[],[⟨1,[108,101,103,115,95,109,97,120],.mk 17 0 [] [.mk 8 0 [] [Kd 6 0 Qa,Kd 6 0 VO],Kd 1 3 []]⟩],
 [⟨1,.mk 8 0 [] [.mk 10 0 [] [Kd 1 10 [],Kd 6 0 Qa],.mk 11 0 [] [Kd 6 0 blk,Kd 2 30 []]]⟩,⟨2,Kd 1 5 []⟩,⟨3,Kd 1 7 []⟩],[.mk 13 0 [] [Kd 6 0 blk,Kd 2 120 []]],
 [⟨[102,108,121,105,110,103],D,m0,E⟩,⟨[119,111,114,107],[100,117,116,105,101,115],m1,F⟩],[⟨[102,114,101,101],h,H⟩],600⟩
theorem VP(D:List Nat)(st m0 E m1 F h H:Int):tZ (Jy D st m0 E m1 F h H) .nilsl qD rJ oV (.sl (vQ D m0 E m1 F) 2 false) (.sl (wK h H) 1 false):=by
 refine⟨⟨[],.inl ⟨rfl,rfl,rfl⟩,by rw[show(Jy D st m0 E m1 F h H).cs= []from rfl,kN]⟩, ?_, ?_, ?_, ?_, ?_⟩
 ·exact⟨_,.inr ⟨false,rfl⟩,⟨_,_,rfl,⟨_,_,rfl,.inr ⟨true,rfl⟩,agB (Z1 8 0 [] true (Z0 6 0 Qa) (Z0 6 0 VO)) (Z0 1 3 [])⟩,rfl⟩⟩
 ·exact⟨_,.inr ⟨false,rfl⟩,⟨[_,_,_,_,_],_,rfl,⟨_,_,rfl,.inr ⟨true,rfl⟩,agB (Z1 10 0 [] true (Z0 1 10 []) (Z0 6 0 Qa)) (Z1 11 0 [] true (Z0 6 0 blk) (Z0 2 30 []))⟩,
   ⟨[_,_,_,_,_],_,rfl,⟨_,[],rfl,.inl ⟨rfl,rfl,rfl⟩,show jx [] []by rw[jx]⟩,⟨[_,_,_,_,_],[],rfl,⟨_,[],rfl,.inl ⟨rfl,rfl,rfl⟩,show jx [] []by rw[jx]⟩,rfl⟩⟩⟩⟩
 ·exact⟨_,.inr ⟨false,rfl⟩,jx.cons (c:= [_,_,_,_]) (r:= []) (Z1 13 0 [] false (Z0 6 0 blk) (Z0 2 120 [])) (show jx [] []by rw[jx])⟩
 ·exact⟨_,.inr ⟨false,rfl⟩,⟨[_,_,_,_],_,rfl,rfl,⟨[_,_,_,_],[],rfl,rfl,rfl⟩⟩⟩
 ·exact⟨_,.inr ⟨false,rfl⟩,⟨_,[],rfl,rfl,rfl⟩⟩
theorem VQ(F:List Nat)(st m0 H m1 I E J:Int):Qy (Jy F st m0 H m1 I E J):=by
 have K: ∀(l:List Nat),l.length≤10→l.length≤mJ:=fun l h=>Nat.le_trans h (by unfold mJ;omega)
 refine⟨?_, ?_, ?_, ?_⟩
 ·intro u D;cases D
 all_goals
  intro u D
  simp only[Jy,List.mem_cons,List.not_mem_nil,or_false]at D
 ·subst D
  refine⟨Nat.zero_le _, ?_⟩
  simp[Ex.sm,VD,Kd,Qa,VO,mJ]
 ·rcases D with rfl|rfl|rfl <;> refine⟨Nat.zero_le _, ?_⟩ <;> simp[Ex.sm,VD,Kd,Qa,blk,mJ]
 ·subst D
  refine⟨Nat.zero_le _, ?_⟩
  simp[Ex.sm,VD,Kd,blk,mJ]
end Go.Proofs.YtbdfboojnfinkaaGreat
