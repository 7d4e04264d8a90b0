/- Walks of functions of the program and of the reference, and their plain laws, part 18. Conditions: the theorems' own. -/
import Derived.Test.YtcpceiclnbmgiaaGreatGS
import Derived.Test.YtcpceiclnbmgiaaGreatM17
import Derived.KernelRfl
set_option maxRecDepth 100000
set_option linter.unusedSimpArgs false
set_option linter.unusedVariables false
set_option maxHeartbeats 16000000
namespace Go.Proofs.YtcpceiclnbmgiaaGreat
open Go Go.Ev
def oF(A:List Int)(l:RL):Bool:=l.all fun u=>decide (u.2.val A≠0)
def yL(n:Int):List Int→Int
 | []=>n
 |v::r=>yL (wr .i64 (n+v)) r
def jG(A:List Int)(l:RL):Int:=yL 0 (l.map fun u=>u.2.val A)
theorem JP: ∀(a b:List Int) (n:Int),yL n (a++b)=yL (yL n a) b
 | [],b,n=>rfl
 |v::a,b,n=>by rw[List.cons_append,yL,yL,JP a b]
def mq(A:List Int)(l:RL):Int:=match l with| []=>A.getD 3 0|u::_=>u.2.val A
theorem Zb{l:RL}{v:T}(h:KR 4 l v):lenI v=some (.i .i64 (l.length:Int))∧ ∀k (hk:k<l.length),∃b D r,(∀kk,dV v (.i kk (k:Int)) 4=some (.vp (.s l[k].1:: .i .i64 l[k].2.op:: .i .i64 l[k].2.num::b::r)))∧IsSl b l[k].2.args.length D∧bg l[k].2.args D:=by
 obtain⟨n,cs,h1,h2,h3,h4⟩:=h
 rw[if_pos rfl]at h3
 have I:=aA.len RlR.len h3
 have e:n=l.length:=zO
 subst e
 refine⟨h1.lenI,fun k hk=> ?_⟩
 obtain⟨c,r,h5,J,rfl,h6⟩:=kD (k:=4) RlR.len h1 h3 k hk
 obtain⟨b,D,rfl,F,H⟩:=h6.cells
 exact⟨b,D,r,h5,F,H⟩
theorem GH{l:RL}{v:T}(h:KR 3 l v):lenI v=some (.i .i64 (l.length:Int))∧ ∀k (hk:k<l.length),∃b D r,(∀kk,dV v (.i kk (k:Int)) 3=some (.vp (.i .i64 l[k].2.op:: .i .i64 l[k].2.num::b::r)))∧IsSl b l[k].2.args.length D∧bg l[k].2.args D:=by
 obtain⟨n,cs,h1,h2,h3,h4⟩:=h
 rw[if_neg yv]at h3
 have H:=bg.len h3
 rw[List.length_map]at H
 have e:n=l.length:=zO
 subst e
 refine⟨h1.lenI,fun k hk=> ?_⟩
 have RH:k<(l.map Prod.snd).length:=by simpa using hk
 obtain⟨b,D,r,h5,h6,F⟩:=YA (xs:=l.map Prod.snd) (by rw[List.length_map];exact h1) h3 k RH
 rw[List.getElem_map]at h5 h6 F
 exact⟨b,D,r,h5,h6,F⟩
def Mu(m r1 r2 r3 c1 c2 c3 cr nb:T):List T:= [m,.nilsl,r1,r2,r3,.nilsl,c1,c2,c3,cr,nb]
section
variable(c:Ct)(zT aT fT a7 a8 a9 a10 aw av m r1 r2 r3 c1 c2 c3 cr nb:T)(A:List Int)(iP:T)(dO:IsSl iP A.length (ints A))
theorem OS(dO:IsSl iP A.length (ints A)):ae pE 71 [.i .i64 1,iP] []=some (iP,[]):=by
 rw[an auA (by simp[c71])]
 simp only[qA,seval,c71,dO.froz]
include dO
theorem aGs(l:RL)(hr:KR 4 l r1)(I: ∀u∈l,Ep A u.2)(hlen:l.length≤1000)(r:Bool)(NB:r=oF A l)(o:Out)(H:o=if r=true then .ext 0 else .ret)(fr:Fr)(lh:aB ah)(sh:List ah)(h0:aa fr 0=stV c zT aT fT a7 a8 a9 a10 aw av (Mu m r1 r2 r3 c1 c2 c3 cr nb))(h1:aa fr 1= .i .i64 1)(h2:aa fr 2=iP)(D:aa fr 17= .i .i64 (l.length:Int))(F:aa fr 18= .i .i64 0):
  mI 34 wD fr lh sh o∧
  ((r=false→aa (kR pE 34 wD fr lh sh) 6= .b false)∧iF pE 34 wD fr lh sh=sh):=by
 refine dJ (fun k st=> ∃(fr:Fr) (lh:aB ah),st=⟨fr,lh,sh⟩∧r=oF A (l.drop k)∧aa fr 0=stV c zT aT fT a7 a8 a9 a10 aw av (Mu m r1 r2 r3 c1 c2 c3 cr nb)∧aa fr 1= .i .i64 1∧aa fr 2=iP∧aa fr 17= .i .i64 (l.length:Int)∧aa fr 18= .i .i64 (k:Int))
  (fun J aZ K=>(r=false→aa J 6= .b false)∧K=sh) _ l.length ?_ ?_ fr lh sh ⟨fr,lh,rfl,NB,h0,h1,h2,D,F⟩
 ·rintro k _ hk ⟨fr,lh,rfl,NB,h0,h1,h2,D,F⟩
  have N:(k:Int)<l.length:=zO
  have O:=aI (k:=k) zO
  obtain⟨b,U,V,W,X,Y⟩:=(Zb hr).2 k hk
  have Z:=GI A iP dO l[k].2 b U V X Y (I _ (List.getElem_mem hk))
  rw[List.drop_eq_getElem_cons hk]at NB
  rw[show oF A (l[k]::l.drop (k+1))=(decide (l[k].2.val A≠0)&&oF A (l.drop (k+1)))from rfl]at NB
  generalize l[k]=u at*
  generalize u.2.val A=x at*
  have hz:=dO.froz
  unfold stV aR Mu at h0 ⊢
  simp only[List.cons_append,List.nil_append]at h0 ⊢
  simp only[qB,seval,eJ,wD,h0,h1,h2,D,F,N,W,O,Z,hz,AQ]
  refine px (fun h=> ?_) (fun h=> ?_)
  ·rw[decide_eq_false (by simpa using h),Bool.false_and]at NB
   exact tz ⟨by rw[H,NB];rfl,fun _=>wL,rfl⟩
  ·rw[decide_eq_true h,Bool.true_and]at NB
   exact cS ⟨_,_,rfl,NB,by simp only[qA,seval,h0],by simp only[qA,seval,h1],by simp only[qA,seval,h2],by simp only[qA,seval,D],by simp only[qA,seval]⟩
 ·rintro _ ⟨fr,lh,rfl,NB,h0,h1,h2,D,F⟩
  rw[List.drop_length]at NB
  simp only[qA,seval,wD,D,F,Int.lt_irrefl]
  exact eL ⟨by rw[H,NB];rfl,fun h=>(by rw[NB]at h;cases h),rfl⟩
theorem Zc(l:RL)(hr:KR 4 l r1)(r: ∀u∈l,Ep A u.2)(hlen:l.length≤1000):ae pE 98 [stV c zT aT fT a7 a8 a9 a10 aw av (Mu m r1 r2 r3 c1 c2 c3 cr nb),.i .i64 1,iP] []=some (.b (oF A l),[]):=by
 have hL:=fun fr lh sh h0 h1 h2 D F=>aGs c zT aT fT a7 a8 a9 a10 aw av m r1 r2 r3 c1 c2 c3 cr nb A iP dO l hr r hlen _ rfl _ rfl fr lh sh h0 h1 h2 D F
 have Ds:=OS A iP dO
 have H:=(Zb hr).1
 have I:=dO.froz
 unfold stV aR Mu at*
 simp only[List.cons_append,List.nil_append]at*
 rw[an au1 (by simp[c98])]
 cases J:oF A l <;> rw[J]at hL
 all_goals simp only[qA,seval,eJ,c98,Ds,H,hL,I,auB]
theorem aGt(l:RL)(hr:KR 3 l c1)(I: ∀u∈l,Ep A u.2)(hlen:l.length≤1000)(fr:Fr)(lh:aB ah)(sh:List ah)(h0:aa fr 0=stV c zT aT fT a7 a8 a9 a10 aw av (Mu m r1 r2 r3 c1 c2 c3 cr nb))(h1:aa fr 1= .i .i64 1)(h2:aa fr 2=iP)(D:aa fr 7= .i .i64 0)(r:aa fr 18= .i .i64 (l.length:Int))(F:aa fr 19= .i .i64 0):
  mI 36 wi fr lh sh (.ext 0)∧
  (aa (kR pE 36 wi fr lh sh) 7= .i .i64 (jG A l)∧iF pE 36 wi fr lh sh=sh):=by
 refine dJ (fun k st=> ∃(fr:Fr) (lh:aB ah) (n:Int),st=⟨fr,lh,sh⟩∧yL n ((l.drop k).map fun u=>u.2.val A)=jG A l∧aa fr 0=stV c zT aT fT a7 a8 a9 a10 aw av (Mu m r1 r2 r3 c1 c2 c3 cr nb)∧aa fr 1= .i .i64 1∧aa fr 2=iP∧aa fr 7= .i .i64 n∧aa fr 18= .i .i64 (l.length:Int)∧aa fr 19= .i .i64 (k:Int))
  (fun J aZ K=>aa J 7= .i .i64 (jG A l)∧K=sh) _ l.length ?_ ?_ fr lh sh ⟨fr,lh,0,rfl,rfl,h0,h1,h2,D,r,F⟩
 ·rintro k _ hk ⟨fr,lh,n,rfl,H,h0,h1,h2,D,r,F⟩
  have N:(k:Int)<l.length:=zO
  have O:=aI (k:=k) zO
  obtain⟨b,U,V,W,X,Y⟩:=(GH hr).2 k hk
  have Z:=GI A iP dO l[k].2 b U V X Y (I _ (List.getElem_mem hk))
  rw[List.drop_eq_getElem_cons hk,List.map_cons,yL]at H
  generalize l[k]=u at*
  generalize u.2.val A=x at*
  have hz:=dO.froz
  unfold stV aR Mu at h0 ⊢
  simp only[List.cons_append,List.nil_append]at h0 ⊢
  simp only[qB,seval,eJ,wi,h0,h1,h2,D,r,F,N,W,O,Z,hz,AQ]
  exact cS ⟨_,_,_,rfl,H,by simp only[qA,seval,h0],by simp only[qA,seval,h1],by simp only[qA,seval,h2],by simp only[qA,seval],by simp only[qA,seval,r],by simp only[qA,seval]⟩
 ·rintro _ ⟨fr,lh,n,rfl,H,h0,h1,h2,D,r,F⟩
  rw[List.drop_length,List.map_nil,yL]at H
  simp only[qA,seval,wi,r,F,Int.lt_irrefl]
  exact eL ⟨rfl,by simp only[qA,seval,D,H],rfl⟩
theorem Zd(l:RL)(hr:KR 3 l c1)(r: ∀u∈l,Ep A u.2)(hlen:l.length≤1000):ae pE 41 [stV c zT aT fT a7 a8 a9 a10 aw av (Mu m r1 r2 r3 c1 c2 c3 cr nb),.i .i64 1,iP] []=some (.i .i64 (jG A l),[]):=by
 have hL:=fun fr lh sh h0 h1 h2 D F H=>aGt c zT aT fT a7 a8 a9 a10 aw av m r1 r2 r3 c1 c2 c3 cr nb A iP dO l hr r hlen fr lh sh h0 h1 h2 D F H
 have Ds:=OS A iP dO
 have I:=(GH hr).1
 have J:=dO.froz
 unfold stV aR Mu at*
 simp only[List.cons_append,List.nil_append]at*
 rw[an akg (by simp[c41])]
 simp only[qA,seval,eJ,c41,Ds,I,hL,J,auB]
theorem aGu(l:RL)(hr:KR 3 l cr)(H: ∀u∈l,Ep A u.2)(fr:Fr)(lh:aB ah)(sh:List ah)(h0:aa fr 0=stV c zT aT fT a7 a8 a9 a10 aw av (Mu m r1 r2 r3 c1 c2 c3 cr nb))(h1:aa fr 1=iP)(r:aa fr 10= .i .i64 (l.length:Int))(D:aa fr 11= .i .i64 0):
  mI 26 wj fr lh sh (if l= []then Out.ext 0 else Out.ret)∧
  ((l≠ []→aa (kR pE 26 wj fr lh sh) 4= .i .i64 (mq A l))∧iF pE 26 wj fr lh sh=sh):=by
 refine dJ (fun k st=>st=⟨fr,lh,sh⟩) (fun I Z J=>(l≠ []→aa I 4= .i .i64 (mq A l))∧J=sh) _ 0 (fun k st hk=>absurd hk zO) ?_ fr lh sh rfl
 rintro _ rfl
 have K:=dO.froz
 cases l with
 |nil=>
  rw[List.length_nil]at r
  have r:aa fr 10= .i .i64 0:=r
  simp only[qA,seval,wj,r,D,Int.lt_irrefl]
  grind [eL]
 |cons u l=>
  obtain⟨b,N,F,O,U,V⟩:=(GH hr).2 0 xv
  have W:=GI A iP dO u.2 b N F U V (H u xv)
  have X: ∀kk,dV cr (.i kk 0) 3=some (.vp (.i .i64 u.2.op:: .i .i64 u.2.num::b::F)):=O
  have Y:(0:Int)<((l.length+1:Nat):Int):=zO
  unfold stV aR Mu at h0
  simp only[List.cons_append,List.nil_append]at h0
  simp only[qA,seval,forall_const,wj,h0,h1,r,D,X,Y,W,K,AQ]
  exact tz ⟨rfl,(by unfold mq;simp only[qA,seval]),rfl⟩
theorem Ze(l:RL)(hr:KR 3 l cr)(K: ∀u∈l,Ep A u.2)(O:A.length=11):ae pE 44 [stV c zT aT fT a7 a8 a9 a10 aw av (Mu m r1 r2 r3 c1 c2 c3 cr nb),iP] []=some (.i .i64 (mq A l),[]):=by
 have hL:=fun fr lh sh h0 h1 D F=>aGu c zT aT fT a7 a8 a9 a10 aw av m r1 r2 r3 c1 c2 c3 cr nb A iP dO l hr K fr lh sh h0 h1 D F
 have J:=(GH hr).1
 have N:=dO.froz1
 have H: ∃r,∀kk,dV iP (.i kk 3) 1=some (.vp (.i .i64 (A.getD 3 0)::r)):=by
  refine⟨(ints A).drop 4,fun kk=> ?_⟩
  have:=dO.ia (sz:=1) (k:=3) (kk:=kk) (by rw[cD];omega) zO
  grind [iw,List.getElem?_eq_getElem]
 obtain⟨U,H⟩:=H
 unfold stV aR Mu at*
 simp only[List.cons_append,List.nil_append]at*
 rw[an akh (by simp[c44])]
 by_cases I:l= []
 ·simp only[I,if_true]at hL
  subst I
  have e:mq A []=A.getD 3 0:=rfl
  rw[e]
  simp only[qA,seval,c44,ay5,J,hL,H]
 ·simp only[I,if_false,ne_eq,not_false_eq_true,forall_const]at hL
  generalize mq A l=x at*
  simp only[qA,seval,c44,J,hL]
end
end Go.Proofs.YtcpceiclnbmgiaaGreat
namespace Go.Ev
open Go
theorem Zf{lh:aB ah}{sh:List ah}{k g len sz wm:Nat}{cs:List T}{a b e f:Int}{s u:List Nat}{x:Bool}(h:ab lh k=⟨g,.cells cs wm false⟩)(r:cs.length=len*sz)(h0:len≠0):LF lh sh 100 [.agg [.isl .L k g 0 len sz,.i .i64 a,.i .i64 b,.s s,.s u,.i .i64 e,.i .i64 f],.b x]=some (.tup [.agg [.sl cs len false,.i .i64 a,.i .i64 b,.s s,.s u,.i .i64 e,.i .i64 f],.b x],sh):=by
 have D:(St.mk .nil lh sh).get .L k=⟨g,.cells cs wm false⟩:=h
 have F:(fz false 8 (.tup [.agg [.nilsl,.i .i64 a,.i .i64 b,.s s,.s u,.i .i64 e,.i .i64 f],.b x])).run (St.mk .nil lh sh).get sh.length=some (.tup [.agg [.nilsl,.i .i64 a,.i .i64 b,.s s,.s u,.i .i64 e,.i .i64 f],.b x],[]):=rfl
 simp only[LF,mY,eG,aO,aL,List.getElem?_cons_zero,List.set_cons_zero,show¬(100:Nat)<100 from by decide,if_false,show(100:Nat)/100-1=0 from rfl,show(100:Nat)%100=0 from rfl]
 rw[F]
 simp only[St.ups]
 rw[D]
 simp only
 rw[if_pos ⟨trivial,r,h0,.inr rfl⟩]
 rfl
theorem RV{lh:aB ah}{sh:List ah}{a b e f:Int}{s u:List Nat}{x:Bool}:LF lh sh 100 [.agg [.nilsl,.i .i64 a,.i .i64 b,.s s,.s u,.i .i64 e,.i .i64 f],.b x]=some (.tup [.agg [.nilsl,.i .i64 a,.i .i64 b,.s s,.s u,.i .i64 e,.i .i64 f],.b x],sh):=rfl
end Go.Ev
namespace Go.Proofs.YtcpceiclnbmgiaaGreat
open Go Go.Ev
structure Lg where
 du:List (Int×Bool)
 rp:Int
 rl:Int
 fr:List Nat
 to:List Nat
 co:Int
 cr:Int
def jl(g:Lg)(v:T):List T:= [v,.i .i64 g.rp,.i .i64 g.rl,.s g.fr,.s g.to,.i .i64 g.co,.i .i64 g.cr]
def Er:Lg:=⟨[],0,0,[],[],0,0⟩
def gh(d:List (Int×Bool)):List T:=d.flatMap fun k=> [.i .i64 k.1,.b k.2]
theorem iC(d:List (Int×Bool)):(gh d).length=d.length*2:=jA (sz:=2) (fun _=>rfl) d
theorem Ac(a b:List (Int×Bool)):gh (a++b)=gh a++gh b:=by grind [gh]
theorem JQ: ∀d:List (Int×Bool),(gh d).all jg=true
 | []=>rfl
 |k::d=>by
  have:gh (k::d)= [T.i .i64 k.1,.b k.2]++gh d:=rfl
  rw[this,List.all_append,JQ d];rfl
theorem OT: ∀{d:List (Int×Bool)} {D:List T},aA TkR d D→D=gh d
 | [],D,h=>h
 |k::d,D,h=>by
  obtain⟨c,r,rfl,h1,h2⟩:=h
  rw[TkR]at h1
  rw[h1,OT h2];rfl
theorem JR: ∀d:List (Int×Bool),aA TkR d (gh d)
 | []=>rfl
 |k::d=>⟨[.i .i64 k.1,.b k.2],gh d,rfl,rfl,JR d⟩
theorem Dq.sl{d:List (Int×Bool)}{v:T}(h:Dq d v):IsSl v d.length (gh d):=by
 obtain⟨r,h1,h2⟩:=h
 rwa [OT h2]at h1
theorem Dq.of{d:List (Int×Bool)}{v:T}(h:IsSl v d.length (gh d)):Dq d v:=⟨_,h,JR d⟩
def ruS(c:Ct):RL:=vz c 1 c.ru.length
def RW(c:Ct):RL:=tF c 1 c.co.length
def crS(c:Ct):RL:=RJ c c.cr.length
def jL(t:Tt)(c:Ct)(d:List (Int×Bool)):Bool:=oF (de t c d) (ruS c)
def cJ(t:Tt)(c:Ct)(d:List (Int×Bool)):Lg:=⟨d,oD c (dt t.fl d 0),oE c (dt t.fl d (d.length-1)),(dt t.fl d 0).fr,(dt t.fl d (d.length-1)).to,jG (de t c d) (RW c),mq (de t c d) (crS c)⟩
theorem ay6{t:Tt}{c:Ct}(hc:fI c=0){A:List Int}(D:JO A):(∀u∈ruS c,Ep A u.2)∧(∀u∈RW c,Ep A u.2)∧(∀u∈crS c,Ep A u.2)∧(ruS c).length≤40∧(RW c).length≤40:=by
 obtain⟨h1,h2,h3,h4,h5,h6,_⟩:=nD c hc
 unfold ruS RW crS vz tF RJ
 rw[List.take_length,List.take_length,List.take_length]
 refine⟨fun u r=> ?_,fun u r=> ?_,fun u r=> ?_, ?_, ?_⟩
 ·obtain⟨x,hx,rfl⟩:=List.mem_map.1 r
  grind [List.mem_filter.1,RU]
 ·obtain⟨x,hx,rfl⟩:=List.mem_map.1 r
  grind [List.mem_filter.1,RU]
 ·grind [List.mem_map.1,RU]
 ·grind
 ·grind
section
variable(t:Tt)(c:Ct)(zT aT fT a7 a8 a9 a10 aw av:T)(vs:List T)(hT:ow t zT aT fT)(hV:Jz t c vs)(ht:ou t=0)(hc:fI c=0)(d:List (Int×Bool))(dT:T)(hd:Dq d dT)(h1:1≤d.length)(hlen:d.length≤100)(bA: ∀k∈d,sW t.fl.length k.1=true)
include hT ht hd h1 hlen bA
theorem Et: ∃i j r1 r2:_,∃(hi:i<t.fl.length) (r:j<t.fl.length),dt t.fl d 0=t.fl[i]∧dt t.fl d (d.length-1)=t.fl[j]∧(∀kk,dV dT (.i kk 0) 2=some (.vp (.i .i64 (i:Int)::r1)))∧(∀kk,dV dT (.i kk ((d.length-1:Nat):Int)) 2=some (.vp (.i .i64 (j:Int)::r2))):=by
 have _:=hT
 obtain⟨i,hi,H,I,_⟩:=iO (im t ht).1 bA (k:=0) zO
 obtain⟨j,r,J,K,_⟩:=iO (im t ht).1 bA (k:=d.length-1) zO
 obtain⟨r1,D⟩:=qd hd 0 zO
 obtain⟨r2,F⟩:=qd hd (d.length-1) zO
 rw[H]at D
 rw[J]at F
 exact⟨i,j,_,_,hi,r,I,K,D,F⟩
theorem Zg:ae pE 99 [stV c zT aT fT a7 a8 a9 a10 aw av vs,dT] []=some (.s (dt t.fl d 0).fr,[]):=by
 obtain⟨i,j,r1,r2,hi,H,r,I,D,J⟩:=Et t zT aT fT hT ht d dT hd h1 hlen bA
 obtain⟨r3,F⟩:=ri t c zT aT fT a7 a8 a9 a10 aw av vs hT i hi
 rw[r]
 generalize t.fl[i]=f at*
 have S3:=xj c zT aT fT a7 a8 a9 a10 aw av vs
 rw[an akC (by simp[c99])]
 simp only[qA,seval,c99,D,F,S3,CZ]
theorem am4:ae pE 100 [stV c zT aT fT a7 a8 a9 a10 aw av vs,dT] []=some (.s (dt t.fl d (d.length-1)).to,[]):=by
 obtain⟨i,j,r1,r2,hi,r,K,D,N,F⟩:=Et t zT aT fT hT ht d dT hd h1 hlen bA
 obtain⟨r3,H⟩:=ri t c zT aT fT a7 a8 a9 a10 aw av vs hT j r
 rw[D]
 generalize t.fl[j]=f at*
 have I:=iA (k:=d.length) zO zO
 have J:=hd.sl.lenI
 have S3:=xj c zT aT fT a7 a8 a9 a10 aw av vs
 rw[an UE (by simp[Th])]
 simp only[qA,seval,Th,J,I,F,H,S3,CZ]
include hc
theorem RX:ae pE 45 [stV c zT aT fT a7 a8 a9 a10 aw av vs,dT] []=some (.agg [.i .i64 (oD c (dt t.fl d 0)),.i .i64 (oE c (dt t.fl d (d.length-1)))],[]):=by
 obtain⟨i,j,r1,r2,hi,D,F,H,I,J⟩:=Et t zT aT fT hT ht d dT hd h1 hlen bA
 have r:=JM t c zT aT fT a7 a8 a9 a10 aw av vs hT ht hc i j hi D
 rw[F,H]
 generalize oD c t.fl[i]=S at*
 generalize oE c t.fl[j]=E at*
 have K:=iA (k:=d.length) zO zO
 have N:=hd.sl.lenI
 have S3:=xj c zT aT fT a7 a8 a9 a10 aw av vs
 rw[an aug (by simp[c45])]
 simp only[qA,seval,bp,aJ,c45,N,K,I,J,r,S3,akx,aDn]
include hV
theorem afx:ae pE 59 [stV c zT aT fT a7 a8 a9 a10 aw av vs,dT] []=some (if jL t c d=true then .tup [.agg (jl (cJ t c d) (.sl (gh d) d.length false)),.b true]else .tup [.agg (jl Er .nilsl),.b false],[]):=by
 obtain⟨s1,Zh⟩:=am2 t c zT aT fT a7 a8 a9 a10 aw av vs hT hV ht hc d dT hd h1 hlen bA
 have H:=Ch (t:=t) (c:=c) ht hc h1 hlen bA
 have I:=RX t c zT aT fT a7 a8 a9 a10 aw av vs hT ht hc d dT hd h1 hlen bA
 have X:=Zg t c zT aT fT a7 a8 a9 a10 aw av vs hT ht d dT hd h1 hlen bA
 have GJ:=am4 t c zT aT fT a7 a8 a9 a10 aw av vs hT ht d dT hd h1 hlen bA
 obtain⟨Y,Z,g3,g4,g5⟩:=ay6 (t:=t) hc H
 have dO:IsSl (.sl (ints (de t c d)) 11 false) (de t c d).length (ints (de t c d)):= .inr ⟨false,by rw[H.1]⟩
 obtain⟨q,r1,r2,r3,c1,c2,c3,cr,nb,r,_,_,J,_,_,K,_,_,N⟩:=hV
 have r:vs=Mu (.vm (q.map fun p=>sK p.1) (q.map fun p=>T.agg p.2)) r1 r2 r3 c1 c2 c3 cr (.b nb):=r
 have D:=Zc c zT aT fT a7 a8 a9 a10 aw av (.vm (q.map fun p=>sK p.1) (q.map fun p=>T.agg p.2)) r1 r2 r3 c1 c2 c3 cr (.b nb) _ _ dO (ruS c) J Y zO
 have hk:=Zd c zT aT fT a7 a8 a9 a10 aw av (.vm (q.map fun p=>sK p.1) (q.map fun p=>T.agg p.2)) r1 r2 r3 c1 c2 c3 cr (.b nb) _ _ dO (RW c) K Z zO
 have hr:=Ze c zT aT fT a7 a8 a9 a10 aw av (.vm (q.map fun p=>sK p.1) (q.map fun p=>T.agg p.2)) r1 r2 r3 c1 c2 c3 cr (.b nb) _ _ dO (crS c) N g3 H.1
 rw[←r]at D hk hr
 rw[show oF (de t c d) (ruS c)=jL t c d from rfl]at D
 have S3:=xj c zT aT fT a7 a8 a9 a10 aw av vs
 have O:=fun lh sh=>hd.sl.slC (lh:=lh) (sh:=sh) (iC d)
 have F:=hd.sl.froz
 have zS:d.length*16≤roomy:=by unfold roomy;omega
 have JS:=iC d
 have U:d.length≠0:=zO
 have fe:isNe dT=true:=by
  rcases hd.sl with⟨_,h,_⟩|⟨ex,rfl⟩
  ·omega
  ·cases hq:d.length with
   |zero=>omega
   |succ m=>rfl
 obtain⟨n,W⟩: ∃n,d.length=n+1:=⟨d.length-1,by omega⟩
 have fS: ∀lh sh,appW lh sh 20 2 16 .nilsl dT=some (.isl .L 20 ((ab lh 20).g+1) 0 d.length 2,iK lh 20 ⟨(ab lh 20).g+1,.cells (gh d) 0 false⟩):=fun lh sh=>by
  unfold appW
  rw[O,Option.bind_some,W,uX,if_pos (by rw[←W];exact zS)]
 unfold jl cJ Er
 generalize oD c (dt t.fl d 0)=x1 at*
 generalize oE c (dt t.fl d (d.length-1))=x2 at*
 generalize (dt t.fl d 0).fr=x3 at*
 generalize (dt t.fl d (d.length-1)).to=x4 at*
 generalize jG (de t c d) (RW c)=x5 at*
 generalize mq (de t c d) (crS c)=x6 at*
 generalize stV c zT aT fT a7 a8 a9 a10 aw av vs=V at*
 have Zi:froz (T.sl (ints (de t c d)) 11 false)=true:=rfl
 generalize T.sl (ints (de t c d)) 11 false=avT at*
 rw[alI auu (by simp[c59])]
 cases hb:jL t c d <;> rw[hb]at D
 ·simp only[Bool.false_eq_true,if_false]
  simp only[qA,seval,c59,Zh,D,Zi,S3,F,RV,auf,au2]
 ·simp only[if_true]
  simp only[qA,seval,bp,wY,aJ,gv,c59,Zh,D,Zi,hk,hr,I,X,GJ,S3,F,fe,fS,auf,au2,aC9,aDA,aDB,au3,au4,aC5,aC6,aC7,aC8]
  exact Zf (wm:=0) wL JS U
end
theorem vL{c:Ct}{fl:List Fl}{d:List (Int×Bool)}(h:mi c fl d=0):1≤d.length∧d.length≤6∧(∀k∈d,sW fl.length k.1=true)∧Ek c fl d=true:=by
 unfold mi at h
 split at h
 ·cases h
 split at h
 ·cases h
 split at h
 ·rename_i a
  split at h
  ·rename_i b;exact⟨by omega,by omega,List.all_eq_true.1 a,b⟩
  ·cases h
 ·cases h
def am6(t:Tt)(c:Ct)(d:List (Int×Bool)):Lg×Int:=if mi c t.fl d≠0 then(Er,mi c t.fl d)else if jL t c d=true then(cJ t c d,0)else(Er,15)
def RY(t:Tt)(c:Ct)(d:List (Int×Bool)):Lg×Int:=if eO t c≠0 then(Er,eO t c)else am6 t c d
def LgT(g:Lg)(v:T):Prop:=IsSl v g.du.length (gh g.du)
theorem OU(t:Tt)(c:Ct)(d:List (Int×Bool)):(cJ t c d).du=d:=rfl
section
variable(t:Tt)(c:Ct)(zT aT fT a7 a8 a9 a10 aw av:T)(vs:List T)(hT:ow t zT aT fT)(hC:oP c a7 a8 a9 a10 aw av)(hN:OE c)(d:List (Int×Bool))(dT:T)(hd:Dq d dT)(hlen:d.length≤1000)
include hT hd hlen
include hC hN
end
theorem GK{s:List Nat}: ∀{l:List (List Nat)} {k:Nat},s∈l→ ∃i,∃hi:i<l.length,ixA s l k=((k+i:Nat):Int)∧l[i]=s
 | [],k,h=>by cases h
 |x::r,k,h=>by
  rw[ixA]
  by_cases e:x=s
  ·rw[if_pos e];exact⟨0,by simp,rfl,e⟩
  ·rw[if_neg e]
   rcases List.mem_cons.1 h with h|h
   ·grind
   ·obtain⟨i,hi,h1,h2⟩:=GK (k:=k+1) h
    exact⟨i+1,by simpa using hi,by rw[h1];congr 1;omega,by simpa using h2⟩
section
variable(t:Tt)(c:Ct)(zT aT fT a7 a8 a9 a10 aw av:T)(hT:ow t zT aT fT)(hC:oP c a7 a8 a9 a10 aw av)(ht:ou t=0)(hc:fI c=0)
theorem OV(hT:ow t zT aT fT)(ht:ou t=0){s:List Nat}(hs:s∈t.ap.map Ap.cd): ∃a,ae pE 242 [.agg [zT,aT,fT],.s s] []=some (.agg (mK (yK t s) a),[])∧ZoT (yK t s) a:=by
 obtain⟨⟨O,r,J⟩,⟨ac,D,K⟩,⟨Y,U,Z⟩⟩:=hT
 obtain⟨_,l1,_,l2⟩:=Mc t ht
 have h1:=ai7 s t.ap aT ac D K zO
 obtain⟨i,hi,e1,e2⟩:=GK (k:=0) hs
 rw[List.length_map]at hi
 rw[List.getElem_map]at e2
 have F:=(vF t ht).2.1 t.ap[i] (List.getElem_mem hi)
 have h2:=ai5 t.ap[i].zn t.zo zT O r J zO
 obtain⟨j,H,e3,e4⟩:=GK (k:=0) F
 rw[List.length_map]at H
 rw[List.getElem_map]at e4
 rw[e1,Nat.zero_add]at h1
 rw[e3,Nat.zero_add]at h2
 have V:=Mn ht (List.getElem_mem hi) (List.getElem_mem H) e2 e4
 obtain⟨r1,h3⟩:=Jk D K i hi
 obtain⟨N,W,r2,h4,I,s2⟩:=Ee r J j H
 rw[V]
 refine⟨N, ?_,W,I,s2⟩
 have X: ¬((i:Nat):Int)<0:=zO
 generalize t.ap[i]=u at*
 generalize t.zo[j]=z at*
 have h5:ae pE 254 [.agg [zT,aT,fT],.s s] []=some (.tup [.agg (mK z N),.b true],[]):=by
  unfold mK
  rw[an aiz (by simp[Uq])]
  simp only[qA,seval,bp,aJ,Uq,h1,h2,h3,h4,X,I.froz1,r.froz,D.froz,Ni,UT,ahi]
 unfold mK at*
 rw[an Vh (by simp[Uj])]
 simp only[qA,seval,Uj,h5,I.froz1,r.froz1,D.froz1,U.froz1,av8]
end
theorem Eu(z:Zo)(a:T)(D:ZoT z a)(F:iG z=0)(t:Int)(ht:oq t=true):ae pE 245 [.agg (mK z a),.i .i64 t] []=some (.i .i64 (z.clk t),[]):=by
 have h1:=YY z a D F t ht
 have r:froz1 a=true:=by obtain⟨I,H,_⟩:=D;exact H.froz1
 unfold mK at*
 rw[an Vj (by simp[Um])]
 simp only[qA,seval,Um,h1,r,awa]
section
variable(t:Tt)(c:Ct)(zT aT fT a7 a8 a9 a10 aw av:T)(hT:ow t zT aT fT)(hC:oP c a7 a8 a9 a10 aw av)(ht:ou t=0)(hc:fI c=0)
include hT hC ht hc
theorem Zj(f g:Fl)(X:f∈t.fl)(Y:g∈t.fl):ae pE 236 [.agg [zT,aT,fT],.agg (aR c a7 a8 a9 a10 aw av),.s f.fr,.s g.to,.agg [.i .i64 (oD c f),.i .i64 (oE c g)]] []=some (.tup [.i .i64 (oE c g-oD c f),.i .i64 (GB t c f g),.i .i64 (JK t c f g),.i .i64 (Mo t c f),.i .i64 (Mp t c g)],[]):=by
 have H:=zX t c zT aT fT a7 a8 a9 a10 aw av hT hC
 obtain⟨b1,b2,_,_,w3⟩:=JL hc ((im t ht).1 _ X) ((im t ht).1 _ Y)
 obtain⟨Z,I,KI⟩:=OV t zT aT fT hT ht (iY ht X).1
 obtain⟨zb,J,r⟩:=OV t zT aT fT hT ht (iY ht Y).2
 have K:=xm ht (iY ht X).1
 have W:=xm ht (iY ht Y).2
 have nf:=OO hc
 have i1:=Ab (x:=oD c f) zO
 have i2:=Ab (x:=oE c g) zO
 have o1:=pL _ Z KI (ja K).2.1 K (oD c f)
 have o2:=pL _ zb r (ja W).2.1 W (oE c g)
 have l1:=Eu _ Z KI K _ i1
 have l2:=Eu _ zb r W _ i2
 have d1:=Zo.off_bd K (oD c f)
 have d2:=Zo.off_bd W (oE c g)
 have bm:oD c f≤oE c g→_:=fun h=>amT _ Z KI K (oD c f) (oE c g) c.nf c.nt ⟨by omega,by omega,by omega,by omega,by omega,by omega,by omega⟩
 have hni:GB t c f g=if oD c f≤oE c g then(yK t f.fr).bandM (oD c f) (oE c g) c.nf c.nt else 0:=by
  grind [GB,Zo.bandM,sk]
 have N:=KI.choose_spec.1.froz1
 have O:=r.choose_spec.1.froz1
 have ca:=KI.choose_spec.1.cells
 have cb:=r.choose_spec.1.cells
 rw[hni]
 unfold JK Mo Mp
 generalize oD c f=S at*
 generalize oE c g=E at*
 generalize yK t f.fr=D at*
 generalize yK t g.to=F at*
 have w4:wr .i64 (F.off E-D.off S)=F.off E-D.off S:=bo zO
 have w5:wr .i64 (0-(F.off E-D.off S))=D.off S-F.off E:=by rw[bo zO];omega
 have U:max (F.off E-D.off S) (D.off S-F.off E)=max (D.off S-F.off E) (F.off E-D.off S):=zO
 generalize D.off S=p1 at*
 generalize F.off E=p2 at*
 unfold mK aR at*
 rw[an Vf (by simp[P5])]
 by_cases V:S≤E
 ·have bm:=bm V
  rw[if_pos V]
  simp only[qA,seval,bp,wY,aJ,P5,I,J,w3,w4,w5,V,bm,o1,o2,l1,l2,oC,U,N,O,H,aiq,air,ait,H6,aiu,aiv,aiw]
 ·rw[if_neg V]
  simp only[qA,seval,bp,wY,aJ,P5,I,J,w3,w4,w5,V,o1,o2,l1,l2,oC,U,N,O,H,aiq,air,ait,H6,aiu,aiv,aiw]
end
def j5(l:List (List Nat×Int)):List T:=l.flatMap fun p=> [.s p.1,.i .i64 p.2]
theorem Zk(l:List (List Nat×Int)):(j5 l).length=l.length*2:=jA (sz:=2) (fun _=>rfl) l
theorem Zl(l:List (List Nat×Int))(p:List Nat×Int):j5 l++ [.s p.1,.i .i64 p.2]=j5 (l++ [p]):=by unfold j5;rw[List.flatMap_append];rfl
def gk(A:List Int):List (List Nat×Int):=bG.zip A
theorem ints_at{A:List Int}{v:T}(h:IsSl v A.length (ints A))(k:Nat)(hk:k<A.length): ∃r,∀kk,dV v (.i kk (k:Int)) 1=some (.vp (.i .i64 A[k]::r)):=by
 refine⟨(ints A).drop (k+1),fun kk=> ?_⟩
 rw[h.ia (sz:=1) (by rw[cD];omega) hk,Nat.mul_one,iw A k hk]
theorem Zm(k:Nat)(hk:k<11): ∃r,∀kk,dV (.sl (strs bG) 11 true) (.i kk (k:Int)) 1=some (.vp (.s (bG[k]'(by show k<11;exact hk))::r)):=by
 have hs:IsSl (.sl (strs bG) 11 true) 11 (strs bG):= .inr ⟨true,rfl⟩
 refine⟨(strs bG).drop (k+1),fun kk=> ?_⟩
 rw[hs.ia (sz:=1) rfl hk,Nat.mul_one,List.drop_eq_getElem_cons (by show k<11;exact hk)]
 unfold strs
 rw[List.getElem_map]
theorem aGv(A:List Int)(v:T)(I:A.length=11)(K:IsSl v A.length (ints A))(fr:Fr)(lh:aB ah)(sh:List ah)(h1:aa fr 1=v)(h5:aa fr 5= .nilsl)(h6:aa fr 6= .sl (strs bG) 11 true)(D:aa fr 7= .i .i64 0):
  mI 29 oU fr lh sh (.ext 0)∧
  (bt (iy pE 29 oU fr lh sh) (aa (kR pE 29 oU fr lh sh) 5) 27 2 11 (j5 (gk A))∧iF pE 29 oU fr lh sh=sh):=by
 refine dJ (fun k st=> ∃(fr:Fr) (lh:aB ah),st=⟨fr,lh,sh⟩∧aa fr 1=v∧aa fr 6= .sl (strs bG) 11 true∧aa fr 7= .i .i64 (k:Int)∧bt lh (aa fr 5) 27 2 k (j5 ((gk A).take k)))
  (fun N O U=>bt O (aa N 5) 27 2 11 (j5 (gk A))∧U=sh) _ 11 ?_ ?_ fr lh sh ⟨fr,lh,rfl,h1,h6,D,by rw[h5];exact bt.nil⟩
 ·rintro k _ hk ⟨fr,lh,rfl,h1,h6,D,r⟩
  have V:(k:Int)<11:=zO
  have W:=aI (k:=k) zO
  obtain⟨r1,Dt⟩:=Zm k hk
  obtain⟨r2,Dd⟩:=ints_at K k zO
  have X:(gk A).length=11:=by unfold gk;rw[List.length_zip,I];rfl
  have Y:j5 ((gk A).take (k+1))=j5 ((gk A).take k)++ [.s (bG[k]'(by show k<11;exact hk)),.i .i64 (A[k]' zO)]:=by
   rw[List.take_succ_eq_append_getElem zO,←Zl]
   unfold gk
   rw[List.getElem_zip]
  rw[Y]
  generalize bG[k]'(by show k<11;exact hk)=nm at*
  generalize A[k]' zO=x at*
  have H:=fk (sh:=sh) r [.s nm,.i .i64 x] rfl (bytes:=24) (by unfold roomy;omega) true
  have J:=r.notS
  have F:=LY r rfl
  generalize h5:aa fr 5=v5 at r H J F
  simp only[qA,seval,repl,bp,aJ,gv,oU,h1,h5,h6,D,V,Dt,Dd,W,J,F,H.1]
  exact cS ⟨_,_,rfl,by simp only[qA,seval,h1],by simp only[qA,seval,h6],by simp only[qA,seval],by simp only[qA,seval];exact H.2.1⟩
 ·rintro _ ⟨fr,lh,rfl,h1,h6,D,r⟩
  have X:(gk A).length=11:=by unfold gk;rw[List.length_zip,I];rfl
  rw[List.take_of_length_le zO]at r
  simp only[qA,seval,oU,h6,D,Int.lt_irrefl]
  exact eL ⟨rfl,by simp only[qA,seval];exact r,rfl⟩
theorem RZ(A:List Int)(v:T)(D:A.length=11)(F:IsSl v A.length (ints A)):ae pE 237 [.i .i64 1,v] []=some (.sl (j5 (gk A)) 11 false,[]):=by
 have hL:=fun fr lh sh h1 h5 h6 r=>aGv A v D F fr lh sh h1 h5 h6 r
 have H:=fun m keep fr lh sh h1 h5 h6 r=>bt.fzW (m:=m) (keep:=keep) (sh:=sh) (hL fr lh sh h1 h5 h6 r).2.1
 have S2:=fun keep fr lh sh h1 h5 h6 r=>bt.fzV (keep:=keep) (sh:=sh) (hL fr lh sh h1 h5 h6 r).2.1
 have I:cE 11 (j5 (gk A))= .sl (j5 (gk A)) 11 false:=rfl
 rw[I]at H S2
 rw[an ain (by simp[Ui])]
 simp only[qA,seval,Ui,BO,hL,S2,yG,AS]
theorem afy(l:List (List Nat))(k:Nat)(hk:k<l.length):(l.map T.s)[k]? =some (.s l[k]):=by rw[List.getElem?_map,List.getElem?_eq_getElem hk];rfl
theorem aGw(f:Fl)(ks:List (List Nat))(hlen:ks.length≤1000)(g:Nat)(fr:Fr)(lh:aB ah)(sh:List ah)(r:bt lh (aa fr 12) 98 1 ks.length (ks.map T.s))(K:aa fr 14= .ptr .L 14 g 0)(N:aa fr 16= .b false)(O:aa fr 17= .i .i64 0)(F:ab lh 14=⟨g,.cells (tD f) 0 true⟩):
  Lp pE 134 zt fr lh sh (.ext 2) fun D l s=>aa D 16= .b (decide (f.ty∈ks))∧l=lh∧s=sh:=by
 unfold tD at F
 have H:=r.lenI
 refine bV Ew (fun k D l s=>aa D 16= .b (decide (f.ty∈ks.take k))∧aa D 17= .i .i64 (k:Int)∧l=lh∧s=sh) ks.length ⟨by rw[N];simp,O,rfl,rfl⟩ ?_ ?_
 ·rintro k D _ _ hk I ⟨Ad,GL,rfl,rfl⟩
  have U:(k:Int)<ks.length:=zO
  have V:=aI (k:=k) zO
  rcases r with⟨h,_,_⟩|⟨g2,wm,r,o98,hl,hp⟩
  ·omega
  have W:=afy ks k hk
  have X:decide (f.ty∈ks.take (k+1))=(decide (f.ty∈ks.take k)||decide (ks[k]=f.ty)):=by
   rw[List.take_succ_eq_append_getElem hk]
   grind
  rw[r]at H
  cases J:decide (f.ty∈ks.take k) <;> rw[J]at Ad <;> simp only[qA,seval,gd,zt,I,r,K,Ad,GL,F,o98,H,U,hk,W,V,X,J,Bool.false_or,Bool.true_or]
 ·rintro D _ _ I ⟨Ad,GL,rfl,rfl⟩
  rw[List.take_length]at Ad
  simp only[qA,seval,gd,zt,I,Ad,GL,H,Int.lt_irrefl]
section
variable(t:Tt)(c:Ct)(zT aT fT a7 a8 a9 a10 aw av:T)(hT:ow t zT aT fT)(hC:oP c a7 a8 a9 a10 aw av)(ht:ou t=0)(hc:fI c=0)
theorem aGx(hT:ow t zT aT fT)(ht:ou t=0)(d:List (Int×Bool))(dT:T)(hd:Dq d dT)(hlen:d.length≤100)(bA: ∀k∈d,sW t.fl.length k.1=true)(E4:ah)(fr:Fr)(lh:aB ah)(sh:List ah)(h2:aa fr 2=dT)(h3:aa fr 3= .ptr .L 3 1 0)(h4:aa fr 4= .ptr .L 4 1 0)(I:aa fr 7= .i .i64 0)(J:aa fr 8= .i .i64 0)(K:aa fr 9= .i .i64 0)(r:aa fr 10= .i .i64 0)(D:aa fr 11= .i .i64 1440)(h12:aa fr 12= .nilsl)(N:aa fr 13= .i .i64 0)(O:ab lh 3=⟨1,.cells [zT,aT,fT] 0 true⟩)(U:ab lh 4=E4):
  Lp pE 134 um fr lh sh (.ext 0) fun f l s=>aa f 7= .i .i64 (mE t.fl d d.length).lg∧aa f 8= .i .i64 (mE t.fl d d.length).hd∧aa f 9= .i .i64 (mE t.fl d d.length).bk∧aa f 10= .i .i64 (mE t.fl d d.length).lo∧aa f 11= .i .i64 (mE t.fl d d.length).so∧lenI (aa f 12)=some (.i .i64 ((mE t.fl d d.length).ks.length:Int))∧ab l 3=⟨1,.cells [zT,aT,fT] 0 true⟩∧ab l 4=E4∧s=sh:=by
 have dm:=hd.sl.lenI
 refine bV R5 (fun k f l s=>aa f 7= .i .i64 (mE t.fl d k).lg∧aa f 8= .i .i64 (mE t.fl d k).hd∧aa f 9= .i .i64 (mE t.fl d k).bk∧aa f 10= .i .i64 (mE t.fl d k).lo∧aa f 11= .i .i64 (mE t.fl d k).so∧aa f 13= .i .i64 (k:Int)∧bt l (aa f 12) 98 1 (mE t.fl d k).ks.length ((mE t.fl d k).ks.map T.s)∧ab l 3=⟨1,.cells [zT,aT,fT] 0 true⟩∧ab l 4=E4∧s=sh) d.length ⟨I,J,K,r,D,N,by rw[h12];exact bt.nil,O,U,rfl⟩ ?_ ?_
 ·rintro k V l _ hk pr ⟨I,J,K,r,D,N,F,O,U,rfl⟩
  have aN:(k:Int)<d.length:=zO
  have hw:=aI (k:=k) zO
  have ql:=(im t ht).1
  obtain⟨rr,aQ⟩:=qd hd k hk
  obtain⟨i,hi,ei,ef,W⟩:=iO ql bA hk
  obtain⟨fc,X,Y⟩:=hT.f
  obtain⟨r2,H⟩:=ot X Y i hi
  rw[←ef]at H
  obtain⟨c1,c2,c3,c4,c5,c6⟩:=GD ql bA k zO
  have fO:mE t.fl d (k+1)=if k=0 then S4 (dt t.fl d k) d[k].2 (mE t.fl d k)else cnG (dt t.fl d (k-1)) (dt t.fl d k) (S4 (dt t.fl d k) d[k].2 (mE t.fl d k)):=by rw[mE,Mr hk]
  have fS:=fun(aZ:aB ah) (aY:List ah) (e:ab aZ 98=ab l 98)=>fk (sh:=aY) (F.congr e) [.s (dt t.fl d k).ty] rfl (bytes:=16) (ajh zO) true
  have qe:=F.notS
  rw[ei]at aQ
  obtain⟨_,f1,f2,f3,f4⟩:=id W
  obtain⟨G,hG⟩: ∃G,(ab l 14).g+1=G:=⟨_,rfl⟩
  have hD:=aGw (dt t.fl d k) (mE t.fl d k).ks zO G
  unfold tD at hD
  generalize Z:aa V 12=v12 at F fS qe
  generalize mE t.fl d k=s at*
  have w1:wr .i64 (s.lg+1)=s.lg+1:=bo zO
  have w2:wr .i64 (s.hd+1)=s.hd+1:=bo zO
  have w3:wr .i64 (s.bk+(dt t.fl d k).ar)=s.bk+(dt t.fl d k).ar:=bo zO
  have w4:wr .i64 (s.bk+(dt t.fl d k).ar-(dt t.fl d k).dp)=s.bk+((dt t.fl d k).ar-(dt t.fl d k).dp):=by rw[bo zO];omega
  have hks:adK (dt t.fl d k).ty s.ks=if(dt t.fl d k).ty∈s.ks then s.ks else s.ks++ [(dt t.fl d k).ty]:=rfl
  by_cases wZ:k=0
  ·have JN: ¬(0:Int)<(k:Int):=zO
   rw[fO,if_pos wZ]
   generalize dt t.fl d k=f at*
   generalize d[k].2=b at*
   cases b <;> by_cases hm:f.ty∈s.ks <;> simp only[qA,seval,gd,bp,wY,aJ,repl,um,Ew,pr,h2,h3,I,J,K,r,D,N,Z,O,U,dm,aN,hw,aQ,H,w1,w2,w3,w4,JN,hG,hD,fg,F,hm,hks,S4,qe,fS,List.length_append,List.map_append]
  ·have JN:(0:Int)<(k:Int):=zO
   have Dl:=iA (k:=k) zO zO
   obtain⟨r3,KP⟩:=qd hd (k-1) zO
   obtain⟨j,hj,ej,eg,gok⟩:=iO ql bA (k:=k-1) zO
   obtain⟨r4,hfb⟩:=ot X Y j hj
   rw[←eg]at hfb
   rw[ej]at KP
   have gap:=Mq W gok
   have w5:wr .i64 ((dt t.fl d k).dp-(dt t.fl d (k-1)).ar)=(dt t.fl d k).dp-(dt t.fl d (k-1)).ar:=bo zO
   rw[fO,if_neg wZ]
   generalize dt t.fl d k=f at*
   generalize dt t.fl d (k-1)=g at*
   generalize d[k].2=b at*
   cases b <;> by_cases hm:f.ty∈s.ks <;> simp only[qA,seval,gd,bp,wY,aJ,repl,um,Ew,pr,h2,h3,I,J,K,r,D,N,Z,O,U,dm,aN,hw,aQ,H,w1,w2,w3,w4,JN,hG,hD,fg,F,hm,hks,cnG,S4,qe,fS,List.length_append,List.map_append,oC,rf,KP,hfb,Dl,w5]
 ·rintro V l _ pr ⟨I,J,K,r,D,N,F,O,U,rfl⟩
  simp only[qA,seval,gd,um,pr,h2,I,J,K,r,D,N,F.lenI,O,U,dm,Int.lt_irrefl]
end
section
variable(t:Tt)(c:Ct)(zT aT fT a7 a8 a9 a10 aw av:T)(hT:ow t zT aT fT)(hC:oP c a7 a8 a9 a10 aw av)(ht:ou t=0)(hc:fI c=0)(d:List (Int×Bool))(dT:T)(hd:Dq d dT)(h1:1≤d.length)(hlen:d.length≤100)(bA: ∀k∈d,sW t.fl.length k.1=true)
include hT ht hd h1 hlen bA
theorem Ey:ae pE 195 [.agg [zT,aT,fT],dT] []=some (.agg (tD (dt t.fl d 0)),[]):=by
 obtain⟨i,j,r1,r2,hi,J,r,K,D,N⟩:=Et t zT aT fT hT ht d dT hd h1 hlen bA
 obtain⟨⟨O,U,V⟩,⟨ac,W,X⟩,⟨Y,F,H⟩⟩:=hT
 obtain⟨r3,I⟩:=ot F H i hi
 rw[r]
 generalize t.fl[i]=f at*
 unfold tD
 rw[an U8 (by simp[T6])]
 simp only[qA,seval,bp,aJ,T6,D,I]
theorem JT:ae pE 196 [.agg [zT,aT,fT],dT] []=some (.agg (tD (dt t.fl d (d.length-1))),[]):=by
 obtain⟨i,j,r1,r2,hi,r,O,D,U,F⟩:=Et t zT aT fT hT ht d dT hd h1 hlen bA
 obtain⟨⟨V,W,X⟩,⟨ac,Y,Z⟩,⟨fc,H,I⟩⟩:=hT
 obtain⟨r3,J⟩:=ot H I j r
 rw[D]
 generalize t.fl[j]=f at*
 have K:=iA (k:=d.length) zO zO
 have N:=hd.sl.lenI
 unfold tD
 rw[an U9 (by simp[T7])]
 simp only[qA,seval,bp,aJ,T7,N,K,F,J]
include hC hc
theorem JU:ae pE 159 [.agg [zT,aT,fT],.agg (aR c a7 a8 a9 a10 aw av),dT] []=some (.agg [.i .i64 (oD c (dt t.fl d 0)),.i .i64 (oE c (dt t.fl d (d.length-1)))],[]):=by
 have H:=zX t c zT aT fT a7 a8 a9 a10 aw av hT hC
 have I:=Ey t zT aT fT hT ht d dT hd h1 hlen bA
 have XK:=JT t zT aT fT hT ht d dT hd h1 hlen bA
 obtain⟨_,_,_,_,r⟩:=iO (im t ht).1 bA (k:=0) zO
 obtain⟨_,_,_,_,D⟩:=iO (im t ht).1 bA (k:=d.length-1) zO
 obtain⟨_,_,J,K,_⟩:=JL hc r D
 generalize dt t.fl d 0=f at*
 generalize dt t.fl d (d.length-1)=g at*
 generalize oD c f=S at*
 generalize oE c g=E at*
 have F:=hd.sl.froz
 unfold tD aR at*
 rw[an U1 (by simp[TQ])]
 simp only[qA,seval,bp,aJ,TQ,I,XK,J,K,H,F,ahN,ahO,ahP,ahQ]
theorem am7:ae pE 221 [.agg [zT,aT,fT],.agg (aR c a7 a8 a9 a10 aw av),dT] []=some (.sl (j5 (gk (de t c d))) 11 false,[]):=by
 have K:=zX t c zT aT fT a7 a8 a9 a10 aw av hT hC
 have N:=Ey t zT aT fT hT ht d dT hd h1 hlen bA
 have XK:=JT t zT aT fT hT ht d dT hd h1 hlen bA
 have r:=JU t c zT aT fT a7 a8 a9 a10 aw av hT hC ht hc d dT hd h1 hlen bA
 obtain⟨i,hi,_,O,_⟩:=iO (im t ht).1 bA (k:=0) zO
 obtain⟨j,U,_,V,_⟩:=iO (im t ht).1 bA (k:=d.length-1) zO
 have D:=Zj t c zT aT fT a7 a8 a9 a10 aw av hT hC ht hc (dt t.fl d 0) (dt t.fl d (d.length-1)) (by rw[O];exact List.getElem_mem hi) (by rw[V];exact List.getElem_mem U)
 have hL:=fun E4 fr lh sh h2 h3 h4 W X Y F H I Z o3 o4=>aGx t zT aT fT hT ht d dT hd hlen bA E4 fr lh sh h2 h3 h4 W X Y F H I Z o3 o4
 have dO:=RZ (de t c d) (.sl (ints (de t c d)) 11 true) rfl (.inr ⟨true,rfl⟩)
 have J:=hd.sl.froz
 unfold de at*
 generalize mE t.fl d d.length=s at*
 generalize dt t.fl d 0=f at*
 generalize dt t.fl d (d.length-1)=g at*
 unfold ints at dO
 simp only[List.map_cons,List.map_nil]at dO
 generalize j5 _=AC at*
 unfold tD aR at*
 rw[an ah9 (by simp[Ug])]
 simp only[qA,seval,repl,bp,aJ,Ug,R5,hL,N,XK,r,D,dO,K,J,ahN,ahO,ahP,ahQ,aho,avz,avX,avY,avZ]
end
section
variable(t:Tt)(c:Ct)(zT aT fT a7 a8 a9 a10 aw av:T)(hT:ow t zT aT fT)(hC:oP c a7 a8 a9 a10 aw av)(hN:OE c)(hL: ∀f∈t.fl,f.nu.length≤fj)(d:List (Int×Bool))(dT:T)(hd:Dq d dT)(hlen:d.length≤1000)
include hT hC hN hL hd hlen
theorem OW: ∃v,ae pE 193 [.agg [zT,aT,fT],.agg (aR c a7 a8 a9 a10 aw av),dT] []=some (.tup [v,.i .i64 (if eO t c≠0 then eO t c else mi c t.fl d)],[])∧((if eO t c≠0 then eO t c else mi c t.fl d)=0→v= .sl (j5 (gk (de t c d))) 11 false)∧froz1 v=true:=by
 have I:=zX t c zT aT fT a7 a8 a9 a10 aw av hT hC
 have F:=afo t c zT aT fT a7 a8 a9 a10 aw av hT hC hN hL d dT hd hlen
 have r:=hd.sl.froz
 by_cases h0:(if eO t c≠0 then eO t c else mi c t.fl d)=0
 ·have D:eO t c=0:=by
   by_cases h:eO t c=0
   ·exact h
   ·rw[if_pos h]at h0;exact h0
  have hs:mi c t.fl d=0:=by rw[if_neg (by simp[D])]at h0;exact h0
  obtain⟨ht,hc⟩:=Mg t c zT aT fT a7 a8 a9 a10 aw av hT hC hN D
  obtain⟨h1,h6,bA,_⟩:=vL hs
  have H:=am7 t c zT aT fT a7 a8 a9 a10 aw av hT hC ht hc d dT hd h1 zO bA
  rw[h0]at F ⊢
  refine⟨_, ?_,fun _=>rfl,rfl⟩
  rw[an U7 (by simp[K1])]
  unfold aR at*
  simp only[qA,seval,K1,F,H,I,r,ah8,avS]
 ·generalize (if eO t c≠0 then eO t c else mi c t.fl d)=e at*
  refine⟨.nilsl, ?_,fun h=>absurd h h0,rfl⟩
  rw[an U7 (by simp[K1])]
  unfold aR at*
  simp only[qA,seval,K1,F,h0,I,r,ah8]
end
end Go.Proofs.YtcpceiclnbmgiaaGreat
