/- Walks of functions of the program and of the reference, and their plain laws, part 19. Conditions: the theorems' own. -/
import Derived.Test.YtjniffjppoklpaaGreatM18
import Derived.KernelRfl
set_option maxRecDepth 100000
set_option linter.unusedSimpArgs false
set_option linter.unusedVariables false
set_option maxHeartbeats 16000000
namespace Go.Ev
open Go
theorem JY{E:Env}{r:qT}{n:Nat}{fr:Fr}{lh:iL iy}{sh:List iy}{I:List (List Nat×iz)}{J:List FP}{u:List Nat}{D sz bytes:Nat}{s x:iS}{F:Bool}(hs:rd fr s= .nilsl)(N:rd fr x= .nilsl):jc E r n ((u,⟨some D,.app sz bytes s x false F,none⟩)::I) J ⟨fr,lh,sh⟩=ke E r n I (J++ [oe]) (iB E r n [⟨some D,.app sz bytes s x false F,none⟩] ⟨fr,lh,sh⟩):=by
 rw[vn (fp:=oe),wO,if_pos rfl]
 intro O
 obtain⟨v,U,K,V⟩:=yQ (q:=pN D sz bytes .nilsl .nilsl false F) (by rfl) (by rw[lU];show pN _ _ _ (rd fr s) (rd fr x) _ _=_;rw[hs,N];rfl) O
 have H:(pN D sz bytes .nilsl .nilsl false F).run (St.mk fr lh sh).get (St.mk fr lh sh).sh.length=some (.val .nilsl []):=rfl
 rw[H]at K
 cases K
 exact V rfl
end Go.Ev
namespace Go.Proofs.YtjniffjppoklpaaGreat
open Go Go.Ev
def JZ(lh:iL iy)(cv:T)(cs:List Nat):Prop:=iJ cv cs.length (ints (cs.map Int.ofNat))∨jr lh cv 48 1 cs.length (ints (cs.map Int.ofNat))
def kU:iA→iA
 | .seq _ (.seq (.block _ (.seq _ t)) _)=>t
 |c=>c
def zi:iA→iA→iA
 | .seq a (.seq (.block i (.seq b _)) z),t=> .seq a (.seq (.block i (.seq b t)) z)
 |c,_=>c
theorem UC:jO=zi jO (kU jO):=nr rfl
theorem UD:kU jO= .seq (tl (kU jO)) (.seq (.seq (tl (tl (sG (kU jO)))) (sG (tl (sG (kU jO))))) (sG (sG (kU jO)))):=nr rfl
def DtV(d:List (Int×Bool))(r:T):Prop:=(d= []∧r= .nilsl)∨(d≠ []∧r= .sl (nM d) d.length false)
theorem ex1(d:List (Int×Bool))(dT:T)(hd:DtV d dT)(PF:d.length≤5)(f:Nat)(b:Bool)(cs:List Nat)(k:Nat)(E:k<cs.length)(hf:cs[k]=f)(cv:T)(fr:Fr)(lh:iL iy)(s:List iy)(hc:JZ lh cv cs)(F:an fr 3=dT)(K:an fr 15=cv)(N:an fr 17= .i .i64 (k:Int))(O:an fr 18= .i .i64 (if b=true then 1 else 0)):
  ∃f' Y,DC pE 111 (tl (kU jO)) ⟨fr,lh,s⟩=some (.nrm,⟨f',Y,s⟩)∧(∃j g,(j=77∨j=86)∧an f' 19= .isl .L j g 0 (d.length+1) 2∧a6 Y j=⟨g,.cells (nM (d++ [((f:Int),b)])) 0 false⟩)∧ ∀j,j≠77→j≠86→a6 Y j=a6 lh j:=by
 have I:nM (d++ [((f:Int),b)])=nM d++ [.i .i64 (f:Int),.b b]:=by rw[DL];rfl
 have A9:repl [T.i .i64 0,.b false] 1= [.i .i64 0,.b false]:=rfl
 have U:(d.length+1)*16≤roomy:=by unfold roomy;omega
 have V:d.length*16≤roomy:=by unfold roomy;omega
 have W:16≤roomy:=by unfold roomy;omega
 have X:=ou d
 have Al:(ints (cs.map Int.ofNat))[k]? =some (.i .i64 (f:Int)):=by
  subst hf
  simp[ints,E]
 have PG:k+1≤cs.length:=E
 rcases hc with hc|hc
 ·have Z:=fun kk=>hc.ia (sz:=1) (k:=k) (kk:=kk) (by rw[kb,List.length_map];omega) E
  have hdr:(ints (cs.map Int.ofNat)).drop (k*1)= .i .i64 (f:Int)::(ints (cs.map Int.ofNat)).drop (k+1):=by
   rw[Nat.mul_one,List.drop_eq_getElem_cons (by simpa[ints]using E)]
   simp[ints,hf]
  rw[hdr]at Z
  rcases hd with⟨rfl,rfl⟩|⟨h0,rfl⟩
  ·have r:Ja lh 77 2 16 .nilsl (0,[])=some (.nilsl,lh):=rfl
   cases b
   all_goals
    simp(maxDischargeDepth:=6) only[qA,jw,oW,pd,seval,iN,kU,tl,jO,F,K,N,O,Z,A9,JY,r,appW,W]
    refine⟨_,_,rfl,⟨86,(a6 lh 86).g+1,.inr rfl, ?_, ?_⟩,fun j H J=> ?_⟩
    ·simp only[qA,seval]
    ·simp only[qA,seval];rfl
    ·rw[jF _ _ J]
  ·obtain⟨m,hm⟩: ∃m,d.length=m+1:=⟨d.length-1,by have:=List.length_pos_iff.2 h0;omega⟩
   rw[hm]at F X U V ⊢
   have D:0<(m+1):=by omega
   cases b
   all_goals
    simp(maxDischargeDepth:=6) only[qA,jw,oW,pd,seval,iN,kU,tl,jO,F,K,N,O,Z,A9,JY,appW,W,X,U,V,D]
    refine⟨_,_,rfl,⟨77,(a6 lh 77).g+1+1,.inl rfl, ?_, ?_⟩,fun j H J=> ?_⟩
    ·simp only[qA,seval]
    ·simp only[qA,seval];rw[I]
    ·simp only[qA,seval,H]
 ·rcases hc with⟨H,_,_⟩|⟨g2,wm,rfl,o48,aIi,_⟩
  ·omega
  rcases hd with⟨rfl,rfl⟩|⟨h0,rfl⟩
  ·have r:Ja lh 77 2 16 .nilsl (0,[])=some (.nilsl,lh):=rfl
   cases b
   all_goals
    simp(maxDischargeDepth:=6) only[qA,jw,oW,pd,seval,iN,kU,tl,jO,F,K,N,O,o48,Al,E,PG,A9,JY,r,appW,W]
    refine⟨_,_,rfl,⟨86,(a6 lh 86).g+1,.inr rfl, ?_, ?_⟩,fun j H J=> ?_⟩
    ·simp only[qA,seval]
    ·simp only[qA,seval];rfl
    ·rw[jF _ _ J]
  ·obtain⟨m,hm⟩: ∃m,d.length=m+1:=⟨d.length-1,by have:=List.length_pos_iff.2 h0;omega⟩
   rw[hm]at F X U V ⊢
   have D:0<(m+1):=by omega
   cases b
   all_goals
    simp(maxDischargeDepth:=6) only[qA,jw,oW,pd,seval,iN,kU,tl,jO,F,K,N,O,o48,Al,E,PG,A9,JY,appW,W,X,U,V,D]
    refine⟨_,_,rfl,⟨77,(a6 lh 77).g+1+1,.inl rfl, ?_, ?_⟩,fun j H J=> ?_⟩
    ·simp only[qA,seval]
    ·simp only[qA,seval];rw[I]
    ·simp only[qA,seval,H]
def LgQ(g:Lg)(c:List T):Prop:= ∃v,c=pe g v∧LgT g v
theorem LgQ.len(g:Lg)(c:List T)(h:LgQ g c):c.length=7:=by obtain⟨v,rfl,_⟩:=h;rfl
def Es(s:List iy)(D:T)(r:List Lg):Prop:=(D= .nilsl∧r= []∧s= [])∨ ∃g cs,D= .isl .S 0 g 0 r.length 7∧s= [⟨g,.cells cs 0 false⟩]∧iK LgQ r cs
section
variable(t:Tt)(c:Ct)(zT aT fT a7 a8 a9 a10 iH iG:T)(hT:ue t zT aT fT)(hC:uF c a7 a8 a9 a10 iH iG)(hA:U9 c)(hL: ∀f∈t.fl,f.nu.length≤mh)(hK:mi t c=0)
include hT hC hA hL hK
theorem ex2(x:List (Int×Bool))(hx:se c t.fl x=0)(j g:Nat)(hj:j=77∨j=86)(D:List Lg)(hb:D.length≤1000000000)(lv:T)(fr:Fr)(lh:iL iy)(s:List iy)(U:an fr 2=lv)(V:an fr 7= .ptr .L 7 1 0)(W:an fr 8= .ptr .L 8 1 0)(X:an fr 19= .isl .L j g 0 x.length 2)(Y:a6 lh 7=⟨1,.cells [zT,aT,fT] 0 true⟩)(Z:a6 lh 8=⟨1,.cells (jb c a7 a8 a9 a10 iH iG) 0 true⟩)(J:a6 lh j=⟨g,.cells (nM x) 0 false⟩)(hE:Es s lv D):
  ∃f' l' s',DC pE 111 (tl (sG (kU jO))) ⟨fr,lh,s⟩=some (.nrm,⟨f',l',s'⟩)∧Es s' (an f' 2) (D++if pM t c x=true then [kh t c x]else [])∧(∃wm,a6 l' j=⟨g,.cells (nM x) wm false⟩)∧ ∀i,i≠20→i≠j→a6 l' i=a6 lh i:=by
 obtain⟨x1,x6,_,_⟩:=AS hx
 have ls:=ou x
 have hDu:GY x (.sl (nM x) x.length false):=GY.of (.inr ⟨_,rfl⟩)
 obtain⟨v,E,F⟩:=afs t c zT aT fT a7 a8 a9 a10 iH iG hT hC hA hL x _ hDu (by omega)
 have hz:=DD t c zT aT fT a7 a8 a9 a10 iH iG hT hC
 unfold Ul amg at E F
 rw[if_neg (by simp[hK]),if_neg (by simp[hx])]at E F
 have hv:=F.froz1
 have H:=F.cells
 have I:x.length*2≤(nM x).length:=by omega
 have Ky:(nM x).take (x.length*2)=nM x:=List.take_of_length_le (by omega)
 have j7: ¬7=j:=by omega
 have j8: ¬8=j:=by omega
 have r: ¬20=j:=by omega
 have J0: ¬j=20:=by omega
 have A9:repl [T.nilsl,.i .i64 0,.i .i64 0,.s [],.s [],.i .i64 0,.i .i64 0] 1= [T.nilsl,.i .i64 0,.i .i64 0,.s [],.s [],.i .i64 0,.i .i64 0]:=rfl
 unfold jb at*
 have r1:88≤roomy:=by unfold roomy;omega
 cases ho:pM t c x
 ·rw[ho]at E F
  unfold pe at E
  simp only[Bool.false_eq_true,if_false]at E
  cases K:scalar (T.tup [T.agg [v,.i .i64 H3.rp,.i .i64 H3.rl,T.s H3.fr,T.s H3.to,.i .i64 H3.co,.i .i64 H3.cr],.i .i64 15])
  all_goals
   simp(maxDischargeDepth:=6) only[qA,jA,yU,seval,iN,kU,tl,sG,jO,U,V,W,X,Y,Z,J,hz,E,ajM,I,Ky,hv,H,K,j7,j8,r,J0]
   refine⟨_,_,_,rfl, ?_, ?_,fun i N O=> ?_⟩
   ·simp(maxDischargeDepth:=6) only[qA,seval,U];exact hE
   ·first|(refine⟨(nM x).length, ?_⟩;simp(maxDischargeDepth:=6) only[qA,seval,r,J0];done)|(refine⟨0, ?_⟩;simp(maxDischargeDepth:=6) only[qA,seval,r,J0,J];done)
   ·simp(maxDischargeDepth:=6) only[qA,seval,N,O]
 ·rw[ho]at E F
  unfold pe at E
  simp only[if_true]at E F
  rcases hE with⟨rfl,rfl,rfl⟩|⟨g2,cs,rfl,rfl,b1⟩
  ·cases K:scalar (T.tup [T.agg [v,.i .i64 (kh t c x).rp,.i .i64 (kh t c x).rl,T.s (kh t c x).fr,T.s (kh t c x).to,.i .i64 (kh t c x).co,.i .i64 (kh t c x).cr],.i .i64 0])
   all_goals
    simp(maxDischargeDepth:=6) only[qA,jA,yU,seval,iN,kU,tl,sG,jO,U,V,W,X,Y,Z,J,hz,E,ajM,I,Ky,hv,H,K,j7,j8,r,J0,A9,lC,ju,lI,mF,r1]
    refine⟨_,_,_,rfl, ?_, ?_,fun i N O=> ?_⟩
    ·simp(maxDischargeDepth:=6) only[qA,seval]
     exact .inr ⟨1,_,rfl,rfl,iK.one ⟨v,rfl,F⟩⟩
    ·first|(refine⟨(nM x).length, ?_⟩;simp(maxDischargeDepth:=6) only[qA,seval,r,J0];done)|(refine⟨0, ?_⟩;simp(maxDischargeDepth:=6) only[qA,seval,r,J0,J];done)
    ·simp(maxDischargeDepth:=6) only[qA,seval,N,O]
  ·have aIl:=b1.len LgQ.len
   have r2:(D.length+1)*88≤roomy:=by unfold roomy;omega
   have CE:D.length*7=cs.length:=by omega
   cases K:scalar (T.tup [T.agg [v,.i .i64 (kh t c x).rp,.i .i64 (kh t c x).rl,T.s (kh t c x).fr,T.s (kh t c x).to,.i .i64 (kh t c x).co,.i .i64 (kh t c x).cr],.i .i64 0])
   all_goals
    simp(maxDischargeDepth:=6) only[qA,jA,yU,seval,iN,kU,tl,sG,jO,U,V,W,X,Y,Z,J,hz,E,ajM,I,Ky,hv,H,K,j7,j8,r,J0,A9,lC,ju,k8,mG,kE,r2,CE]
    refine⟨_,_,_,rfl, ?_, ?_,fun i N O=> ?_⟩
    ·simp(maxDischargeDepth:=6) only[qA,seval]
     exact .inr ⟨g2+1,_,by rw[List.length_append];rfl,rfl,iK.append b1 (iK.one ⟨v,rfl,F⟩)⟩
    ·first|(refine⟨(nM x).length, ?_⟩;simp(maxDischargeDepth:=6) only[qA,seval,r,J0];done)|(refine⟨0, ?_⟩;simp(maxDischargeDepth:=6) only[qA,seval,r,J0,J];done)
    ·simp(maxDischargeDepth:=6) only[qA,seval,N,O]
end
section
variable(t:Tt)(c:Ct)(zT aT fT a7 a8 a9 a10 iH iG:T)(hT:ue t zT aT fT)(hC:uF c a7 a8 a9 a10 iH iG)(mT nT:T)(hm:froz mT=true)(hn:froz nT=true)
include hT hC hm hn
theorem ex3(x:List (Int×Bool))(j g wm:Nat)(hj:j=77∨j=86)(F D:List Lg)(E:T)(H h H':Nat)(N:(H:Int)-(h:Int)=(H':Int))(O:H≤6∧h≤1)(fr:Fr)(lh:iL iy)(s:List iy)(U:an fr 2=E)(V:an fr 4=mT)(W:an fr 5=nT)(X:an fr 6= .i .i64 (H:Int))(Y:an fr 7= .ptr .L 7 1 0)(Z:an fr 8= .ptr .L 8 1 0)(mK:an fr 18= .i .i64 (h:Int))(zd:an fr 19= .isl .L j g 0 x.length 2)(o7:a6 lh 7=⟨1,.cells [zT,aT,fT] 0 true⟩)(o8:a6 lh 8=⟨1,.cells (jb c a7 a8 a9 a10 iH iG) 0 true⟩)(oj:a6 lh j=⟨g,.cells (nM x) wm false⟩)(hE:Es s E F)
  (IH: ∃v r,be pE 26 [.agg [zT,aT,fT],.agg (jb c a7 a8 a9 a10 iH iG),E,.sl (nM x) x.length false,mT,nT,.i .i64 (H':Int)] s=some (v,r)∧Es r v D):
  ∃J K r,DC pE 111 (sG (sG (kU jO))) ⟨fr,lh,s⟩=some (.nrm,⟨J,K,r⟩)∧Es r (an J 2) D∧ ∀i,i≠j→a6 K i=a6 lh i:=by
 have hz:=DD t c zT aT fT a7 a8 a9 a10 iH iG hT hC
 obtain⟨v,r,e1,e2⟩:=IH
 have ls:=ou x
 have I:x.length*2≤(nM x).length:=by omega
 have Ky:(nM x).take (x.length*2)=nM x:=List.take_of_length_le (by omega)
 have hw:wr .i64 ((H:Int)-(h:Int))=(H':Int):=by rw[jE (by omega),N]
 have U3:fzV lh s true E=some (E,[]):=by
  rcases hE with⟨rfl,_,_⟩|⟨g2,cs,rfl,_,_⟩ <;> rfl
 unfold jb at*
 simp(maxDischargeDepth:=6) only[qA,jA,yU,seval,iN,kU,tl,sG,jO,U,V,W,X,Y,Z,mK,zd,o7,o8,oj,hz,e1,az8,I,Ky,hm,hn,hw,U3]
 exact⟨_,_,_,rfl,by simp only[qA,seval];exact e2,fun i hi=>by rw[jF _ _ hi]⟩
end
theorem Nm(c:Ct)(fl:List Fl): ∀(d:List (Int×Bool)) (k l:Int×Bool),HW c fl (d++ [k,l])=(HW c fl (d++ [k])&&yz c fl k.1 l.1)
 | [],k,l=>by simp[HW]
 | [a],k,l=>by simp[HW,Bool.and_assoc]
 |a::b::r,k,l=>by
  have:=Nm c fl (b::r) k l
  simp only[List.cons_append]at this ⊢
  rw[HW,HW,this,Bool.and_assoc]
theorem aaQ(c:Ct)(fl:List Fl)(i:Int)(f:Nat):yz c fl i (f:Int)=jn c fl i.toNat f:=by
 unfold yz jn
 rw[Int.toNat_natCast]
 cases fl[i.toNat]? <;> cases fl[f]? <;> rfl
def wv(N:Nat)(J:Nat→Nat→Bool)(d:List (Int×Bool)):List Nat:=match d.getLast? with
 |none=>List.range N
 |some k=>ln N J k.1.toNat
theorem UE(N:Nat)(J:Nat→Nat→Bool)(d:List (Int×Bool))(f:Nat)(b:Bool):wv N J (d++ [((f:Int),b)])=ln N J f:=by
 unfold wv;rw[List.getLast?_append];simp
theorem RO(N:Nat)(J:Nat→Nat→Bool)(d:List (Int×Bool)){f:Nat}(h:f∈wv N J d):f<N:=by
 unfold wv at h
 split at h
 ·exact List.mem_range.1 h
 ·exact List.mem_range.1 (List.mem_filter.1 h).1
theorem aaR(N:Nat)(J:Nat→Nat→Bool)(d:List (Int×Bool)):(wv N J d).length≤N:=by
 unfold wv
 split
 ·rw[List.length_range];exact Nat.le_refl _
 ·exact Cd _ _
theorem UF(c:Ct)(fl:List Fl)(d:List (Int×Bool))(f:Nat)(b:Bool)(hd:d= []∨se c fl d=0)(N:d.length≤5)(E:f∈wv fl.length (jn c fl) d):se c fl (d++ [((f:Int),b)])=0:=by
 have F:=RO _ _ _ E
 have r:yy fl.length (f:Int)=true:=by unfold yy;simpa using F
 have D:(d++ [((f:Int),b)]).all (fun k=>yy fl.length k.1)=true∧HW c fl (d++ [((f:Int),b)])=true:=by
  rcases hd with rfl|hd
  ·exact⟨by simpa using r,by simp[HW]⟩
  ·obtain⟨I,O,J,K⟩:=AS hd
   obtain⟨e,k,rfl⟩: ∃e k,d=e++ [k]:=⟨d.dropLast,d.getLast (by intro h;rw[h]at I;simp at I),(List.dropLast_concat_getLast _).symm⟩
   refine⟨?_, ?_⟩
   ·rw[List.all_append,Bool.and_eq_true]
    exact⟨List.all_eq_true.2 J,by simpa using r⟩
   ·rw[List.append_assoc]
    show HW c fl (e++ [k,((f:Int),b)])=true
    rw[Nm,K,Bool.true_and,aaQ]
    unfold wv at E
    rw[List.getLast?_append]at E
    have H:f∈ln fl.length (jn c fl) k.1.toNat:=by simpa using E
    exact(List.mem_filter.1 H).2
 unfold se
 rw[List.length_append,List.length_singleton,if_neg (by omega),if_neg (by omega),if_pos D.1,if_pos D.2]
section
variable(t:Tt)(c:Ct)(zT aT fT a7 a8 a9 a10 iH iG:T)(hT:ue t zT aT fT)(hC:uF c a7 a8 a9 a10 iH iG)(hA:U9 c)(hL: ∀f∈t.fl,f.nu.length≤mh)(hK:mi t c=0)(hN:t.fl.length≤1000)(mT nT:T)(hm:froz mT=true)(hn:froz nT=true)(iQ:Nat→Bool)
 (lN: ∀f,f<t.fl.length→ ∃q,∀kk,ng mT (.i kk (f:Int)) 1=some (.vp (.b (iQ f)::q))) (QJ:lenI mT=some (.i .i64 (t.fl.length:Int)))
 (mI: ∀f,f<t.fl.length→ ∃q,∀kk,ng nT (.i kk (f:Int)) 1=some (.vp (qO (ln t.fl.length (jn c t.fl) f)::q)))
def ExP(t:Tt)(c:Ct)(zT aT fT a7 a8 a9 a10 iH iG mT nT:T)(iQ:Nat→Bool)(n:Nat):Prop:=
 ∀(d:List (Int×Bool)) (D:T) (H:Nat) (s:List iy) (E:T) (r:List Lg),d.length+n=6→DtV d D→(d= []∨se c t.fl d=0)→H≤6→Es s E r→r.length+((wv t.fl.length (jn c t.fl) d).flatMap fun f=>k9 t.fl.length (jn c t.fl) iQ (pM t c) (kh t c) n d f H).length≤1000000000→
  ∃v F,be pE 26 [.agg [zT,aT,fT],.agg (jb c a7 a8 a9 a10 iH iG),E,D,mT,nT,.i .i64 (H:Int)] s=some (v,F)∧Es F v (r++(wv t.fl.length (jn c t.fl) d).flatMap fun f=>k9 t.fl.length (jn c t.fl) iQ (pM t c) (kh t c) n d f H)
include hT hC hA hL hK hN hm hn
theorem awn(n:Nat)(IH:ExP t c zT aT fT a7 a8 a9 a10 iH iG mT nT iQ n)(d:List (Int×Bool))(U:T)(V:DtV d U)(hd:d= []∨se c t.fl d=0)(PF:d.length+(n+1)=6)(f:Nat)(b:Bool)(hf:f∈wv t.fl.length (jn c t.fl) d)(cs:List Nat)(k:Nat)(hk:k<cs.length)(Fh:cs[k]=f)(cv:T)(H H':Nat)(W:H≤6)(hH:H=H'+if b=true then 1 else 0)(X:T)(r:List Lg)(hb:r.length+(wu t.fl.length (jn c t.fl) (pM t c) (kh t c) (k9 t.fl.length (jn c t.fl) iQ (pM t c) (kh t c) n) (d++ [((f:Int),b)]) f H').length≤1000000000)
  (fr:Fr) (lh:iL iy) (s:List iy) (hc:JZ lh cv cs) (h2:an fr 2=X) (h3:an fr 3=U) (h4:an fr 4=mT) (h5:an fr 5=nT) (h6:an fr 6= .i .i64 (H:Int)) (h7:an fr 7= .ptr .L 7 1 0) (h8:an fr 8= .ptr .L 8 1 0) (nj:an fr 15=cv) (pH:an fr 17= .i .i64 (k:Int)) (mK:an fr 18= .i .i64 (if b=true then 1 else 0)) (o7:a6 lh 7=⟨1,.cells [zT,aT,fT] 0 true⟩) (o8:a6 lh 8=⟨1,.cells (jb c a7 a8 a9 a10 iH iG) 0 true⟩) (hE:Es s X r):
  ∃f' l' s',DC pE 111 (kU jO) ⟨fr,lh,s⟩=some (.nrm,⟨f',l',s'⟩)∧Es s' (an f' 2) (r++wu t.fl.length (jn c t.fl) (pM t c) (kh t c) (k9 t.fl.length (jn c t.fl) iQ (pM t c) (kh t c) n) (d++ [((f:Int),b)]) f H')∧ ∀i,i≠77→i≠86→i≠20→a6 l' i=a6 lh i:=by
 have _:=hN
 have zr:=UF c t.fl d f b hd (by omega) hf
 have I:=UE t.fl.length (jn c t.fl) d f b
 have Y:(d++ [((f:Int),b)]).length=d.length+1:=by rw[List.length_append];rfl
 have Z:d++ [((f:Int),b)]≠ []:=by simp
 obtain⟨f1,l1,e1,⟨j,g,E,D,kj⟩,N⟩:=ex1 d U V (by omega) f b cs k hk Fh cv fr lh s hc h3 nj pH mK
 rw[←Y]at D
 generalize d++ [((f:Int),b)]=x at*
 have O:=fun j E=>lH e1 j E
 unfold wu at hb ⊢
 rw[List.length_append]at hb
 obtain⟨f2,l2,s2,e2,J,⟨wm,kj2⟩,k2⟩:=ex2 t c zT aT fT a7 a8 a9 a10 iH iG hT hC hA hL hK x zr j g E r (by omega) X f1 l1 s ((O 2 (by decide)).trans h2) ((O 7 (by decide)).trans h7) ((O 8 (by decide)).trans h8) D ((N 7 (by decide) (by decide)).trans o7) ((N 8 (by decide) (by decide)).trans o8) kj hE
 have p2:=fun j E=>lH e2 j E
 have F: ∀j v,(jU (tl (kU jO))).contains j=false→(jU (tl (sG (kU jO)))).contains j=false→an fr j=v→an f2 j=v:=fun j v a1 a2 e=>(p2 j a2).trans ((O j a1).trans e)
 have to: ∀i v,i≠77→i≠86→i≠20→a6 lh i=v→a6 l2 i=v:=fun i v a1 a2 a3 e=>(k2 i a3 (by omega)).trans ((N i a1 a2).trans e)
 obtain⟨v3,s3,d3,K⟩:=IH x (.sl (nM x) x.length false) H' s2 _ _ (by omega) (.inr ⟨Z,rfl⟩) (.inr zr) (by omega) J (by rw[I,List.length_append];omega)
 rw[I,List.append_assoc]at K
 obtain⟨f3,l3,s4,e3,hE4,k3⟩:=ex3 t c zT aT fT a7 a8 a9 a10 iH iG hT hC mT nT hm hn x j g wm E _ _ _ H (if b=true then 1 else 0) H' (by rw[hH];cases b <;> simp) ⟨W,by cases b <;> simp⟩ f2 l2 s2 rfl (F 4 _ (by decide) (by decide) h4) (F 5 _ (by decide) (by decide) h5) (F 6 _ (by decide) (by decide) h6) (F 7 _ (by decide) (by decide) h7) (F 8 _ (by decide) (by decide) h8) (by rw[F 18 _ (by decide) (by decide) mK];cases b <;> rfl) ((p2 19 (by decide)).trans D) (to 7 _ (by decide) (by decide) (by decide) o7) (to 8 _ (by decide) (by decide) (by decide) o8) kj2 J ⟨v3,s3,d3,K⟩
 refine⟨f3,l3,s4, ?_,hE4,fun i i1 i2 i3=>(k3 i (by omega)).trans ((k2 i i3 (by omega)).trans (N i i1 i2))⟩
 rw[UD,wN,e1,np,wN]
 have e2':DC pE 111 (.seq (tl (tl (sG (kU jO)))) (sG (tl (sG (kU jO))))) ⟨f1,l1,s⟩=some (.nrm,⟨f2,l2,s2⟩):=e2
 rw[e2',np,e3]
include lN
theorem awo(n:Nat)(IH:ExP t c zT aT fT a7 a8 a9 a10 iH iG mT nT iQ n)(d:List (Int×Bool))(dT:T)(hdT:DtV d dT)(hd:d= []∨se c t.fl d=0)(PF:d.length+(n+1)=6)(f:Nat)(hf:f∈wv t.fl.length (jn c t.fl) d)(cs:List Nat)(k:Nat)(hk:k<cs.length)(Fh:cs[k]=f)(cv:T)(H:Nat)(hH6:H≤6)(E:List Lg)(hb:E.length+(k9 t.fl.length (jn c t.fl) iQ (pM t c) (kh t c) (n+1) d f H).length≤1000000000)
  (fr:Fr) (lh:iL iy) (s:List iy) (hc:JZ lh cv cs) (h3:an fr 3=dT) (J:an fr 4=mT) (h5:an fr 5=nT) (U:an fr 6= .i .i64 (H:Int)) (h7:an fr 7= .ptr .L 7 1 0) (h8:an fr 8= .ptr .L 8 1 0) (V:an fr 15=cv) (W:an fr 17= .i .i64 (k:Int)) (mK:an fr 18= .i .i64 0) (o7:a6 lh 7=⟨1,.cells [zT,aT,fT] 0 true⟩) (o8:a6 lh 8=⟨1,.cells (jb c a7 a8 a9 a10 iH iG) 0 true⟩) (hE:Es s (an fr 2) E):
  Lp pE 111 jO fr lh s (.ext 4) fun K N s'=>Es s' (an K 2) (E++k9 t.fl.length (jn c t.fl) iQ (pM t c) (kh t c) (n+1) d f H)∧ ∀i,i≠77→i≠86→i≠20→a6 N i=a6 lh i:=by
 obtain⟨q,iW⟩:=lN f (RO _ _ _ hf)
 have ht:=fun b H' hH=>awn t c zT aT fT a7 a8 a9 a10 iH iG hT hC hA hL hK hN mT nT hm hn iQ n IH d dT hdT hd PF f b hf cs k hk Fh cv H H' hH6 hH
 have hwt:=UC
 have hwr: ∀j,(jU (kU jO)).contains j=false→ ∀(fr jB:Fr) lh s N s',DC pE 111 (kU jO) ⟨fr,lh,s⟩=some (.nrm,⟨jB,N,s'⟩)→an jB j=an fr j:=fun j hj fr jB lh s N s' e=>lH e j hj
 have amO:=hwr 18 (by decide)
 refine kO KV (fun k K N s'=>an K 18= .i .i64 (k:Int)∧Es s' (an K 2) (E++if k=0 then []else if k=1 then(if iQ f=true then wu t.fl.length (jn c t.fl) (pM t c) (kh t c) (k9 t.fl.length (jn c t.fl) iQ (pM t c) (kh t c) n) (d++ [((f:Int),false)]) f H else [])else k9 t.fl.length (jn c t.fl) iQ (pM t c) (kh t c) (n+1) d f H)∧ ∀i,i≠77→i≠86→i≠20→a6 N i=a6 lh i) 2 ⟨mK,by simpa using hE,fun _ _ _ _=>rfl⟩ ?_ ?_
 ·rintro h K N s' hh r ⟨zj,O,I⟩
  have p7:=(I 7 (by decide) (by decide) (by decide)).trans o7
  have p8:=(I 8 (by decide) (by decide) (by decide)).trans o8
  have Ms:JZ N cv cs:=hc.imp id fun h=>h.congr (I 48 (by decide) (by decide) (by decide))
  have F:(∃q2,∀kk,ng cv (.i kk (k:Int)) 1=some (.vp (.i .i64 (f:Int)::q2)))∨ ∃g wm n cc,cv= .isl .L 48 g 0 n 1∧k<n∧a6 N 48=⟨g,.cells cc wm false⟩∧cc[k]? =some (.i .i64 (f:Int))∧k+1≤cc.length:=by
   have Al:(ints (cs.map Int.ofNat))[k]? =some (.i .i64 (f:Int)):=by
    subst Fh
    simp[ints,hk]
   rcases Ms with h|⟨h,_,_⟩|⟨g,wm,h1,h2,h3,J⟩
   ·refine .inl ⟨(ints (cs.map Int.ofNat)).drop (k+1),fun kk=> ?_⟩
    rw[h.ia (sz:=1) (k:=k) (kk:=kk) (by rw[kb,List.length_map];omega) hk,Nat.mul_one,List.drop_eq_getElem_cons (by simpa[ints]using hk)]
    simp[ints,Fh]
   ·omega
   ·exact .inr ⟨g,wm,_,_,h1,hk,h2,Al,by rw[h3];omega⟩
  have PT:h=0∨h=1:=by omega
  rcases PT with rfl|rfl
  ·have Nn:an K 18= .i .i64 0:=zj
   have Qw: ¬(H:Int)<0:=by omega
   rw[if_pos rfl,List.append_nil]at O
   rw[if_neg (by decide),if_pos rfl]
   rw[k9,List.length_append]at hb
   rw[hwt]
   cases hi:iQ f
   ·rw[hi]at iW
    generalize kU jO=X at*
    rcases F with⟨q2,F⟩|⟨g9,wm9,n9,cc9,rfl,hk9,o48,hcc,ls⟩
    ·simp(maxDischargeDepth:=6) only[qA,jA,seval,gd,iN,jO,zi,r,J,U,V,W,Nn,iW,Qw,F]
     exact⟨O,I⟩
    ·simp(maxDischargeDepth:=6) only[qA,jA,seval,gd,iN,jO,zi,r,J,U,V,W,Nn,iW,Qw,hk9,o48,hcc,ls]
     exact⟨O,I⟩
   ·rw[hi]at iW
    rw[hi,if_pos rfl]at hb
    have Y:=ht false H (by simp) (an K 2) E (by omega)
    generalize kU jO=X at*
    rcases F with⟨q2,F⟩|⟨g9,wm9,n9,cc9,rfl,hk9,o48,hcc,ls⟩
    ·skip
     simp(maxDischargeDepth:=6) only[qA,jA,seval,gd,iN,jO,zi,r,J,U,V,W,Nn,iW,Qw,F]
     generalize hD:DC pE 111 X _=D
     obtain⟨f2,l2,s2,rfl,⟨DQ,k2⟩,e2⟩:=Nk hD (Y _ _ _ Ms (by simp only[qA,seval]) (by simp only[qA,seval,r,h3]) (by simp only[qA,seval,r,J]) (by simp only[qA,seval,r,h5]) (by simp only[qA,seval,r,U]) (by simp only[qA,seval,r,h7]) (by simp only[qA,seval,r,h8]) (by simp only[qA,seval,r,V]) (by simp only[qA,seval,r,W]) (by simp only[qA,seval,Nn,Bool.false_eq_true,if_false,if_true]) p7 p8 O)
     have g2:=(amO _ _ _ _ _ _ e2).trans (show _=_ by simp only[qA,seval,Nn];rfl)
     simp(maxDischargeDepth:=6) only[qA,seval,gd,g2]
     exact⟨by simpa only[List.append_assoc]using DQ,fun i i1 i2 i3=>(k2 i i1 i2 i3).trans (I i i1 i2 i3)⟩
    ·skip
     simp(maxDischargeDepth:=6) only[qA,jA,seval,gd,iN,jO,zi,r,J,U,V,W,Nn,iW,Qw,hk9,o48,hcc,ls]
     generalize hD:DC pE 111 X _=D
     obtain⟨f2,l2,s2,rfl,⟨DQ,k2⟩,e2⟩:=Nk hD (Y _ _ _ Ms (by simp only[qA,seval]) (by simp only[qA,seval,r,h3]) (by simp only[qA,seval,r,J]) (by simp only[qA,seval,r,h5]) (by simp only[qA,seval,r,U]) (by simp only[qA,seval,r,h7]) (by simp only[qA,seval,r,h8]) (by simp only[qA,seval,r,V]) (by simp only[qA,seval,r,W]) (by simp only[qA,seval,Nn,Bool.false_eq_true,if_false,if_true]) p7 p8 O)
     have g2:=(amO _ _ _ _ _ _ e2).trans (show _=_ by simp only[qA,seval,Nn];rfl)
     simp(maxDischargeDepth:=6) only[qA,seval,gd,g2]
     exact⟨by simpa only[List.append_assoc]using DQ,fun i i1 i2 i3=>(k2 i i1 i2 i3).trans (I i i1 i2 i3)⟩
  ·have Z:an K 18= .i .i64 1:=zj
   rw[if_neg (by decide),if_pos rfl]at O
   rw[if_neg (by decide),if_neg (by decide)]
   rw[hwt]
   rw[k9]at hb ⊢
   generalize hAA:(if iQ f=true then wu t.fl.length (jn c t.fl) (pM t c) (kh t c) (k9 t.fl.length (jn c t.fl) iQ (pM t c) (kh t c) n) (d++ [((f:Int),false)]) f H else [])=A at*
   rw[List.length_append]at hb
   by_cases hz:H=0
   ·subst hz
    have DR:an fr 6= .i .i64 0:=U
    generalize kU jO=X at*
    simp(maxDischargeDepth:=6) only[qA,jA,seval,gd,iN,jO,zi,r,J,DR,V,W,Z]
    exact⟨by simpa using O,I⟩
   ·obtain⟨m,rfl⟩: ∃m,H=m+1:=⟨H-1,by omega⟩
    rw[if_neg hz]at hb ⊢
    rw[Nat.add_sub_cancel]at hb ⊢
    have Qw: ¬((m+1:Nat):Int)<1:=by omega
    have Y:=ht true m (by simp) (an K 2) (E++A) (by rw[List.length_append];omega)
    generalize kU jO=X at*
    ·skip
     simp(maxDischargeDepth:=6) only[qA,jA,seval,gd,iN,jO,zi,r,J,U,V,W,Z,iW,Qw,Qw]
     generalize hD:DC pE 111 X _=D
     obtain⟨f2,l2,s2,rfl,⟨DQ,k2⟩,e2⟩:=Nk hD (Y _ _ _ Ms (by simp only[qA,seval]) (by simp only[qA,seval,r,h3]) (by simp only[qA,seval,r,J]) (by simp only[qA,seval,r,h5]) (by simp only[qA,seval,r,U]) (by simp only[qA,seval,r,h7]) (by simp only[qA,seval,r,h8]) (by simp only[qA,seval,r,V]) (by simp only[qA,seval,r,W]) (by simp only[qA,seval,Z,Bool.false_eq_true,if_false,if_true]) p7 p8 O)
     have g2:=(amO _ _ _ _ _ _ e2).trans (show _=_ by simp only[qA,seval,Z];rfl)
     simp(maxDischargeDepth:=6) only[qA,seval,gd,g2]
     exact⟨by simpa only[List.append_assoc]using DQ,fun i i1 i2 i3=>(k2 i i1 i2 i3).trans (I i i1 i2 i3)⟩
 ·rintro K N s' r ⟨zj,O,I⟩
  have N0: ¬((2:Nat):Int)<2:=by decide
  simp only[qA,seval,gd,jO,r,zj,N0]
  exact⟨by simpa using O,I⟩
omit hT hC hA hL hK hN hm hn lN in
theorem JZ.lenI{lh:iL iy}{cv:T}{cs:List Nat}(h:JZ lh cv cs):lenI cv=some (.i .i64 (cs.length:Int)):=by
 rcases h with h|h
 ·exact h.lenI
 ·exact h.lenI
theorem amP(n:Nat)(IH:ExP t c zT aT fT a7 a8 a9 a10 iH iG mT nT iQ n)(d:List (Int×Bool))(U:T)(V:DtV d U)(hd:d= []∨se c t.fl d=0)(PF:d.length+(n+1)=6)(cs:List Nat)(CE:cs=wv t.fl.length (jn c t.fl) d)(cv:T)(H:Nat)(W:H≤6)(r:List Lg)(hb:r.length+(cs.flatMap fun f=>k9 t.fl.length (jn c t.fl) iQ (pM t c) (kh t c) (n+1) d f H).length≤1000000000)
  (fr:Fr) (lh:iL iy) (s:List iy) (hc:JZ lh cv cs) (h3:an fr 3=U) (h4:an fr 4=mT) (h5:an fr 5=nT) (h6:an fr 6= .i .i64 (H:Int)) (h7:an fr 7= .ptr .L 7 1 0) (h8:an fr 8= .ptr .L 8 1 0) (X:an fr 15=cv) (pH:an fr 17= .i .i64 0) (o7:a6 lh 7=⟨1,.cells [zT,aT,fT] 0 true⟩) (o8:a6 lh 8=⟨1,.cells (jb c a7 a8 a9 a10 iH iG) 0 true⟩) (hE:Es s (an fr 2) r):
  Lp pE 111 yB fr lh s (.ext 2) fun F I K=>Es K (an F 2) (r++cs.flatMap fun f=>k9 t.fl.length (jn c t.fl) iQ (pM t c) (kh t c) (n+1) d f H):=by
 have ls:cs.length≤1000:=by rw[CE];exact Nat.le_trans (aaR _ _ _) hN
 refine kO DZ (fun k F I K=>an F 17= .i .i64 (k:Int)∧Es K (an F 2) (r++(cs.take k).flatMap fun f=>k9 t.fl.length (jn c t.fl) iQ (pM t c) (kh t c) (n+1) d f H)∧ ∀i,i≠77→i≠86→i≠20→a6 I i=a6 lh i) cs.length ⟨pH,by simpa using hE,fun _ _ _ _=>rfl⟩ ?_ ?_
 ·rintro k F I K Y E ⟨JH,O,J⟩
  have iU:(k:Int)<cs.length:=by omega
  have hw:=iX (k:=k) (by omega)
  have p7:=(J 7 (by decide) (by decide) (by decide)).trans o7
  have p8:=(J 8 (by decide) (by decide) (by decide)).trans o8
  have Ms:JZ I cv cs:=hc.imp id fun h=>h.congr (J 48 (by decide) (by decide) (by decide))
  have Z:=Ms.lenI
  have wo:(cs.take (k+1)).flatMap (fun f=>k9 t.fl.length (jn c t.fl) iQ (pM t c) (kh t c) (n+1) d f H)=(cs.take k).flatMap (fun f=>k9 t.fl.length (jn c t.fl) iQ (pM t c) (kh t c) (n+1) d f H)++k9 t.fl.length (jn c t.fl) iQ (pM t c) (kh t c) (n+1) d cs[k] H:=by
   rw[List.take_succ_eq_append_getElem Y,List.flatMap_append]
   simp
  have hle:(r++(cs.take k).flatMap fun f=>k9 t.fl.length (jn c t.fl) iQ (pM t c) (kh t c) (n+1) d f H).length+(k9 t.fl.length (jn c t.fl) iQ (pM t c) (kh t c) (n+1) d cs[k] H).length≤1000000000:=by
   have h1:(cs.flatMap fun f=>k9 t.fl.length (jn c t.fl) iQ (pM t c) (kh t c) (n+1) d f H).length=((cs.take (k+1)).flatMap fun f=>k9 t.fl.length (jn c t.fl) iQ (pM t c) (kh t c) (n+1) d f H).length+((cs.drop (k+1)).flatMap fun f=>k9 t.fl.length (jn c t.fl) iQ (pM t c) (kh t c) (n+1) d f H).length:=by
    rw[←List.length_append,←List.flatMap_append,List.take_append_drop]
   rw[wo,List.length_append]at h1
   rw[List.length_append]
   omega
  have N:=awo t c zT aT fT a7 a8 a9 a10 iH iG hT hC hA hL hK hN mT nT hm hn iQ lN n IH d U V hd PF cs[k] (by rw[←CE];exact List.getElem_mem Y) cs k Y rfl cv H W _ hle
  rw[List.append_assoc,←wo]at N
  simp(maxDischargeDepth:=6) only[qA,seval,gd,yB,E,X,JH,Z,iU]
  generalize hD:DC pE 111 (.loop jO) _=D
  obtain⟨f2,l2,s2,rfl,⟨DQ,k2⟩,xQ⟩:=G6 KV hD (N _ _ _ Ms (by simp only[qA,seval,E,h3]) (by simp only[qA,seval,E,h4]) (by simp only[qA,seval,E,h5]) (by simp only[qA,seval,E,h6]) (by simp only[qA,seval,E,h7]) (by simp only[qA,seval,E,h8]) (by simp only[qA,seval,E,X]) (by simp only[qA,seval,JH]) (by simp only[qA,seval]) p7 p8 (by simp only[qA,seval];exact O))
  have g2:an f2 17= .i .i64 (k:Int):=by rw[xQ 17 (by decide)];simp only[qA,seval,JH]
  simp(maxDischargeDepth:=6) only[qA,seval,gd,g2,hw]
  exact⟨DQ,fun i i1 i2 i3=>(k2 i i1 i2 i3).trans (J i i1 i2 i3)⟩
 ·rintro F I K E ⟨JH,O,J⟩
  have Ms:JZ I cv cs:=hc.imp id fun h=>h.congr (J 48 (by decide) (by decide) (by decide))
  have Z:=Ms.lenI
  rw[List.take_length]at O
  simp only[qA,seval,gd,yB,E,X,JH,Z,Int.lt_irrefl]
  exact O
omit hT hC hA hL hK hm hn lN in
theorem amQ(QJ:lenI mT=some (.i .i64 (t.fl.length:Int)))(fr:Fr)(lh:iL iy)(s:List iy)(N:an fr 4=mT)(U:an fr 15= .nilsl)(V:an fr 16= .i .i64 0):
  Lp pE 111 Bn fr lh s (.ext 0) fun D r H=>H=s∧jr r (an D 15) 48 1 (List.range t.fl.length).length (ints ((List.range t.fl.length).map Int.ofNat))∧ ∀i,i≠48→a6 r i=a6 lh i:=by
 refine kO KW (fun k D r H=>an D 16= .i .i64 (k:Int)∧H=s∧jr r (an D 15) 48 1 k (ints ((List.range k).map Int.ofNat))∧ ∀i,i≠48→a6 r i=a6 lh i) t.fl.length ⟨V,rfl,by rw[U];exact jr.nil,fun _ _=>rfl⟩ ?_ ?_
 ·rintro k D r _ hk I ⟨DM,rfl,E,J⟩
  have W:(k:Int)<t.fl.length:=by omega
  have X:=iX (k:=k) (by omega)
  have K:=fun(Y:iL iy) (Z:List iy) (e:a6 Y 48=a6 r 48)=>qM (sh:=Z) (E.congr e) [.i .i64 (k:Int)] rfl (bytes:=8) (by unfold roomy;omega) true
  have DK:=E.notS
  obtain⟨v15,F⟩: ∃v,an D 15=v:=⟨_,rfl⟩
  rw[F]at E K DK
  have wo:ints ((List.range (k+1)).map Int.ofNat)=ints ((List.range k).map Int.ofNat)++ [.i .i64 (k:Int)]:=by rw[List.range_succ];simp[ints]
  rw[wo]
  simp(maxDischargeDepth:=6) only[qA,seval,gd,Bn,I,N,DM,QJ,W,X,F,K,DK,repl]
  exact fun j O=>((K r _ rfl).2.2 j O).trans (J j O)
 ·rintro D r _ I ⟨DM,rfl,E,J⟩
  simp only[qA,seval,gd,Bn,I,N,DM,QJ,Int.lt_irrefl]
  exact⟨by rw[List.length_range];exact E,J⟩
include QJ mI
theorem aaS: ∀n,ExP t c zT aT fT a7 a8 a9 a10 iH iG mT nT iQ n
 |0=>by
  intro d Z H s I E PF J hd hH N hb
  have Y:=DD t c zT aT fT a7 a8 a9 a10 iH iG hT hC
  have lV:lenI Z=some (.i .i64 6):=by
   rcases J with⟨rfl,rfl⟩|⟨_,rfl⟩
   ·simp at PF
   ·have:d.length=6:=by omega
    rw[this];rfl
  have nw:((wv t.fl.length (jn c t.fl) d).flatMap fun f=>k9 t.fl.length (jn c t.fl) iQ (pM t c) (kh t c) 0 d f H)= []:=by
   simp[k9]
  have U3: ∀lh,fzV lh s true I=some (I,[]):=fun lh=>by
   rcases N with⟨rfl,_,_⟩|⟨g2,cs,rfl,_,_⟩ <;> rfl
  rw[nw,List.append_nil]
  unfold jb at*
  rw[iD SW (by simp[c26])]
  simp(maxDischargeDepth:=6) only[qA,seval,c26,Y,lV,U3]
  exact⟨_,_,rfl,N⟩
 |n+1=>by
  have IH:=aaS n
  intro d Z H s I E PF J hd hH N hb
  have Y:=DD t c zT aT fT a7 a8 a9 a10 iH iG hT hC
  have U:=fun cs CE cv=>amP t c zT aT fT a7 a8 a9 a10 iH iG hT hC hA hL hK hN mT nT hm hn iQ lN n IH d Z J hd PF cs CE cv H hH E (by rw[CE];exact hb)
  have U3: ∀lh s I E,Es s I E→fzV lh s true I=some (I,[]):=fun lh s I E N=>by
   rcases N with⟨rfl,_,_⟩|⟨g2,cs,rfl,_,_⟩ <;> rfl
  generalize V:wv t.fl.length (jn c t.fl) d=can at*
  rcases J with⟨rfl,rfl⟩|⟨h0,rfl⟩
  ·have hL3:=fun fr lh s=>amQ t hN mT QJ fr lh s
   unfold jb at*
   rw[iD SW (by simp[c26])]
   simp(maxDischargeDepth:=6) only[qA,seval,c26,Y]
   generalize O:DC pE 111 (.loop Bn) _=D
   obtain⟨K,l3,s3,rfl,⟨rfl,hO,k3⟩,Na⟩:=G6 KW O (hL3 _ _ _ (by simp only[qA,seval]) (by simp only[qA,seval]) (by simp only[qA,seval]))
   have g2:an K 2=I:=by rw[Na 2 (by decide)];simp only[qA,seval]
   have g3:an K 3= .nilsl:=by rw[Na 3 (by decide)];simp only[qA,seval]
   have g4:an K 4=mT:=by rw[Na 4 (by decide)];simp only[qA,seval]
   have g5:an K 5=nT:=by rw[Na 5 (by decide)];simp only[qA,seval]
   have g6:an K 6= .i .i64 (H:Int):=by rw[Na 6 (by decide)];simp only[qA,seval]
   have g7:an K 7= .ptr .L 7 1 0:=by rw[Na 7 (by decide)];simp only[qA,seval]
   have g8:an K 8= .ptr .L 8 1 0:=by rw[Na 8 (by decide)];simp only[qA,seval]
   have q7:a6 l3 7=⟨1,.cells [zT,aT,fT] 0 true⟩:=by rw[k3 7 (by decide)];simp only[qA,seval]
   have q8:a6 l3 8=⟨1,.cells [.i .i64 c.rp,.i .i64 c.rl,.i .i64 c.cn,.i .i64 c.st,.i .i64 c.ly,.i .i64 c.nf,.i .i64 c.nt,a7,a8,a9,a10,iH,iG,.i .i64 c.gu] 0 true⟩:=by rw[k3 8 (by decide)];simp only[qA,seval]
   have hcr:can=List.range t.fl.length:=by rw[←V];rfl
   clear Na O
   simp(maxDischargeDepth:=6) only[qA,seval]
   generalize O:DC pE 111 (.loop yB) _=D
   obtain⟨f4,l4,s4,rfl,r,pr4⟩:=G6 DZ O (U can rfl (an K 15) _ _ _ (.inr (by rw[hcr];exact hO)) (by simp only[qA,seval,g3]) (by simp only[qA,seval,g4]) (by simp only[qA,seval,g5]) (by simp only[qA,seval,g6]) (by simp only[qA,seval,g7]) (by simp only[qA,seval,g8]) (by simp only[qA,seval]) (by simp only[qA,seval]) q7 q8 (by simp only[qA,seval,g2];exact N))
   have F:=fun lh=>U3 lh _ _ _ r
   obtain⟨v4,W⟩: ∃v,an f4 2=v:=⟨_,rfl⟩
   rw[W]at r F
   simp(maxDischargeDepth:=6) only[qA,seval,W,F]
   exact⟨_,_,rfl,r⟩
  ·obtain⟨e,k,rfl⟩: ∃e k,d=e++ [k]:=⟨d.dropLast,d.getLast h0,(List.dropLast_concat_getLast h0).symm⟩
   have aDe:=hd.resolve_left h0
   obtain⟨h1,h2,h3,h4⟩:=AS aDe
   obtain⟨f,hf,Fh⟩:=Js (h3 k (by simp))
   have X:(e++ [k]).length=e.length+1:=by rw[List.length_append];rfl
   have hcn:can=ln t.fl.length (jn c t.fl) f:=by rw[←V];unfold wv;rw[List.getLast?_append];simp[Fh]
   obtain⟨q,hq⟩:=mI f hf
   have ls:=ou (e++ [k])
   have hdr:(nM (e++ [k])).drop (e.length*2)= [.i .i64 (f:Int),.b k.2]:=by
    rw[DL,List.drop_append,ou,Nat.sub_self,List.drop_of_length_le (by rw[ou];omega),List.nil_append,List.drop_zero,←Fh]
    rfl
   have iW: ∀kk,ng (.sl (nM (e++ [k])) (e.length+1) false) (.i kk (e.length:Int)) 2=some (.vp [.i .i64 (f:Int),.b k.2]):=fun kk=>by
    rw[kG,if_pos ⟨by omega,by simp,by rw[ls,X];simp⟩,Int.toNat_natCast,hdr]
   have hw:wr .i64 (((e.length+1:Nat):Int)-1)=(e.length:Int):=by rw[jE (by omega)];omega
   have lV:lenI (T.sl (nM (e++ [k])) (e.length+1) false)=some (.i .i64 ((e.length+1:Nat):Int)):=rfl
   have h6: ¬((e.length+1:Nat):Int)=6:=by omega
   have MT:(0:Int)<((e.length+1:Nat):Int):=by omega
   rw[X]at*
   have Ca:iJ (qO can) can.length (ints (can.map Int.ofNat)):=by
    unfold qO
    split
    ·rename_i h;rw[h];exact .inl ⟨rfl,rfl,rfl⟩
    ·exact .inr ⟨_,rfl⟩
   rw[←hcn]at hq
   unfold jb at*
   rw[iD SW (by simp[c26])]
   simp(maxDischargeDepth:=6) only[qA,seval,c26,Y,lV,h6,MT,hw,iW,hq]
   generalize O:DC pE 111 (.loop yB) _=D
   obtain⟨f4,l4,s4,rfl,r,pr4⟩:=G6 DZ O (U can rfl (qO can) _ _ _ (.inl Ca) (by simp only[qA,seval];rw[List.length_append];rfl) (by simp only[qA,seval]) (by simp only[qA,seval]) (by simp only[qA,seval]) (by simp only[qA,seval]) (by simp only[qA,seval]) (by simp only[qA,seval]) (by simp only[qA,seval]) (by simp only[qA,seval]) (by simp only[qA,seval]) (by simp only[qA,seval];exact N))
   have F:=fun lh=>U3 lh _ _ _ r
   obtain⟨v4,W⟩: ∃v,an f4 2=v:=⟨_,rfl⟩
   rw[W]at r F
   simp(maxDischargeDepth:=6) only[qA,seval,W,F]
   exact⟨_,_,rfl,r⟩
end
end Go.Proofs.YtjniffjppoklpaaGreat
