/- Walks of functions of the program and of the reference, and their plain laws, part 14. Conditions: the theorems' own. -/
import Derived.Test.YtcpceiclnbmgiaaGreatM13
import Derived.KernelRfl
set_option maxRecDepth 100000
set_option linter.unusedSimpArgs false
set_option linter.unusedVariables false
set_option maxHeartbeats 16000000
namespace Go.Proofs.YtcpceiclnbmgiaaGreat
open Go Go.Ev
section
variable(t:Tt)(c:Ct)(zT aT fT a7 a8 a9 gX hU gZ:T)(hT:wM t zT aT fT)(hC:uc c a7 a8 a9 gX hU gZ)(ht:tW t=0)(hc:mi c=0)(d:List (Int×Bool))(dT:T)(hd:OD d dT)(h1:1≤d.length)(hlen:d.length≤100)(jN: ∀k∈d,Lq t.fl.length k.1=true)
include hT ht hd h1 hlen jN
include hC hc
end
section
variable(t:Tt)(c:Ct)(zT aT fT a7 a8 a9 gX hU gZ:T)(hT:wM t zT aT fT)(hC:uc c a7 a8 a9 gX hU gZ)(hN:Rs c)(hL: ∀f∈t.fl,f.nu.length≤oK)(d:List (Int×Bool))(dT:T)(hd:OD d dT)(hlen:d.length≤1000)
include hT hC hN hL hd hlen
end
section
variable(l:Cs)(lT vT rO:T)(cl:List T)(A:List Int)(hl:IsSl lT l.length cl)(lX:lS l cl)(hlen:l.length≤qh)(hv:IsSl vT l.length (ints (EB l l.length)))(hA:MG A)(k9:IsSl rO 11 (aiK (aiL A)))
include hl hv k9
include lX hlen hA
end
section
variable(c:Ct)(a7 a8 a9 gX hU gZ vT rO:T)(A:List Int)(hC:uc c a7 a8 a9 gX hU gZ)(hS:An c)(hc:mi c=0)(hv:IsSl vT c.cs.length (ints (EB c.cs c.cs.length)))(hA:MG A)(k9:IsSl rO 11 (aiK (aiL A)))
include hC hc hv hA k9
end
section
variable(c:Ct)(a7 a8 a9 gX hU gZ rO:T)(A:List Int)(hC:uc c a7 a8 a9 gX hU gZ)(hS:An c)(hc:mi c=0)(hA:MG A)(k9:IsSl rO 11 (aiK (aiL A)))
include hC hS hc
include hA k9
end
section
variable(t:Tt)(c:Ct)(zT aT fT a7 a8 a9 gX hU gZ:T)(hT:wM t zT aT fT)(hC:uc c a7 a8 a9 gX hU gZ)(hN:Rs c)(hL: ∀f∈t.fl,f.nu.length≤oK)(d:List (Int×Bool))(dT:T)(hd:OD d dT)(hlen:d.length≤1000)
include hT hC hN hL hd hlen
end
theorem aiM(i:Int)(h:Bool):be pE 147 [.agg [.i .i64 i,.b h],.agg [.i .i64 i,.b h]] []=some (.i .i64 0,[]):=by
 have r:=yJ h
 have D:wr .i64 (m6 h-m6 h)=0:=by rw[Int.sub_self];rfl
 rw[gQ Nz (by simp[I6])]
 simp only[qA,seval,jq,ig,I6,r,D,NB,aef]
theorem aiN(n:Int):be pE 148 [.i .i64 n,.i .i64 n] []=some (.i .i64 0,[]):=by
 have r:=yJ false
 have e:m6 false=0:=rfl
 rw[e]at r
 rw[gQ T1 (by simp[LA])]
 simp only[qA,seval,LA,r,Int.lt_irrefl,NB]
theorem O1{d:List (Int×Bool)}{v:T}(h:IsSl v d.length (px d))(j:Nat)(D:j<d.length): ∃r,∀kk,lH v (.i kk (j:Int)) 2=some (.vp (.i .i64 d[j].1:: .b d[j].2::r)):=DK (OD.of h) j D
theorem ayH(d:List (Int×Bool))(a b:T)(F:IsSl a d.length (px d))(N:IsSl b d.length (px d))(hlen:d.length≤4611686018427387000)(fr:Fr)(lh:gW b8)(sh:List b8)(r:an fr 0=a)(h1:an fr 1=b)(D:an fr 5= .i .i64 0):
  wJ 36 nF fr lh sh (.ext 0)∧(oi pE 36 nF fr lh sh=sh):=by
 refine nU (fun k st=> ∃(fr:Fr) (lh:gW b8),st=⟨fr,lh,sh⟩∧an fr 0=a∧an fr 1=b∧an fr 5= .i .i64 (k:Int)) (fun X Y O=>O=sh) _ d.length ?_ ?_ fr lh sh ⟨fr,lh,rfl,r,h1,D⟩
 ·rintro k _ hk ⟨fr,lh,rfl,r,h1,D⟩
  have U:(k:Int)<d.length:=by omega
  have V:=iJ (k:=k) (by omega)
  obtain⟨Z,W⟩:=O1 F k hk
  obtain⟨r2,H⟩:=O1 N k hk
  have I:=F.lenI
  have J:=N.lenI
  have K:=aiM d[k].1 d[k].2
  generalize d[k]=y at*
  simp only[qA,seval,jq,ig,nF,r,h1,D,I,J,U,W,H,V,K,TZ,T0]
  exact mR ⟨_,_,rfl,by simp only[qA,seval,r],by simp only[qA,seval,h1],by simp only[qA,seval]⟩
 ·rintro _ ⟨fr,lh,rfl,r,h1,D⟩
  have I:=F.lenI
  simp only[qA,seval,nF,r,D,I,Int.lt_irrefl]
  exact pI ⟨rfl,rfl⟩
theorem aiO(d:List (Int×Bool))(a b:T)(F:IsSl a d.length (px d))(H:IsSl b d.length (px d))(hlen:d.length≤4611686018427387000):be pE 101 [a,b] []=some (.i .i64 0,[]):=by
 have hL:=fun fr lh sh I h1 J=>ayH d a b F H hlen fr lh sh I h1 J
 have Rm:=F.lenI
 have r:=H.lenI
 have D:=aiN (d.length:Int)
 rw[gQ TP (by simp[Lx])]
 simp only[qA,seval,Lx,zO,Rm,r,hL,D,adQ]
theorem aiP(g:Lg)(a b:T)(D:LgT g a)(F:LgT g b)(hlen:g.du.length≤4611686018427387000):be pE 26 [.agg (og g a),.agg (og g b)] []=some (.b true,[]):=by
 have i:=aiO g.du a b D F hlen
 have H:=D.froz
 have I:=F.froz
 have r:be pE 60 [a,b] []=some (.b true,[]):=by
  rw[gQ agm (by simp[c60])]
  simp only[qA,seval,c60,i,H,I,adi]
 unfold og
 rw[gQ ZA (by simp[c26])]
 simp only[qA,seval,c26,r,H,I,ao4]
end Go.Proofs.YtcpceiclnbmgiaaGreat
