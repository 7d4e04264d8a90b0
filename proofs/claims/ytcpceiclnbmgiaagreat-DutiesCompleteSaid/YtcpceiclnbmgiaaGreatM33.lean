/- Walks of functions of the program and of the reference, and their plain laws, part 33. Conditions: the theorems' own. -/
import Derived.Test.YtcpceiclnbmgiaaGreatM32
import Derived.Test.YtcpceiclnbmgiaaGreatM24
import Derived.Test.YtcpceiclnbmgiaaGreatM25
import Derived.Test.YtcpceiclnbmgiaaGreatM26
import Derived.Test.YtcpceiclnbmgiaaGreatM27
import Derived.Test.YtcpceiclnbmgiaaGreatM28
import Derived.Test.YtcpceiclnbmgiaaGreatM29
import Derived.Test.YtcpceiclnbmgiaaGreatM30
import Derived.Test.YtcpceiclnbmgiaaGreatM31
import Derived.KernelRfl
set_option maxRecDepth 1000000
set_option linter.unusedSimpArgs false
set_option linter.unusedVariables false
set_option maxRecDepth 100000
set_option maxHeartbeats 16000000
namespace Go.Proofs.YtcpceiclnbmgiaaGreat
open Go Go.Ev
theorem aBt(x0 x1 x2 x3 x4 x5 x6:T){s r:List b8}(h:be pE 79 [.ptr .S 0 1 0,.ptr .S 1 1 0,.sl akl 2 false] s=some (.i .i64 0,r)):nS at9 s r:=by
 obtain⟨u,D⟩:=aAQ
 exact⟨_,_,u,1,D,rfl,rfl,h⟩
theorem aBu(x0 x1 x2 x3 x4 x5 x6:T){s r:List b8}(h:be pE 79 [.ptr .S 0 1 0,.ptr .S 1 1 0,.sl akm 2 false] s=some (.i .i64 0,r)):nS aua s r:=by
 obtain⟨u,D⟩:=aBm
 exact⟨_,_,u,1,D,rfl,rfl,h⟩
theorem aBv(x0 x1 x2 x3 x4 x5 x6:T){s r:List b8}(h:be pE 79 [.ptr .S 0 1 0,.ptr .S 1 1 0,.sl akn 2 false] s=some (.i .i64 0,r)):nS aub s r:=by
 obtain⟨u,D⟩:=aAJ
 exact⟨_,_,u,1,D,rfl,rfl,h⟩
theorem aBw(x0 x1 x2 x3 x4 x5 x6:T){s r:List b8}(h:be pE 79 [.ptr .S 0 1 0,.ptr .S 1 1 0,.sl ako 2 false] s=some (.i .i64 0,r)):nS auc s r:=by
 obtain⟨u,D⟩:=aAY
 exact⟨_,_,u,1,D,rfl,rfl,h⟩
theorem aBx(x0 x1 x2 x3 x4 x5 x6:T){s r:List b8}(h:be pE 79 [.ptr .S 0 1 0,.ptr .S 1 1 0,.sl akp 2 false] s=some (.i .i64 0,r)):nS aud s r:=by
 obtain⟨u,D⟩:=aA8
 exact⟨_,_,u,1,D,rfl,rfl,h⟩
theorem aBy(x0 x1 x2 x3 x4 x5 x6:T){s r:List b8}(h:be pE 79 [.ptr .S 0 1 0,.ptr .S 1 1 0,.sl akq 2 false] s=some (.i .i64 0,r)):nS aue s r:=by
 obtain⟨u,D⟩:=aAT
 exact⟨_,_,u,1,D,rfl,rfl,h⟩
theorem aBz(x0 x1 x2 x3 x4 x5 x6:T){s r:List b8}(h:be pE 79 [.ptr .S 0 1 0,.ptr .S 1 1 0,.sl akr 2 false] s=some (.i .i64 0,r)):nS auf s r:=by
 obtain⟨u,D⟩:=aA2
 exact⟨_,_,u,1,D,rfl,rfl,h⟩
theorem aBA(x0 x1 x2 x3 x4 x5 x6:T){s r:List b8}(h:be pE 79 [.ptr .S 0 1 0,.ptr .S 1 1 0,.sl aks 2 false] s=some (.i .i64 0,r)):nS aug s r:=by
 obtain⟨u,D⟩:=aAP
 exact⟨_,_,u,1,D,rfl,rfl,h⟩
theorem aBB(x0 x1 x2 x3 x4 x5 x6:T){s r:List b8}(h:be pE 79 [.ptr .S 0 1 0,.ptr .S 1 1 0,.sl akt 2 false] s=some (.i .i64 0,r)):nS auh s r:=by
 obtain⟨u,D⟩:=aBl
 exact⟨_,_,u,1,D,rfl,rfl,h⟩
theorem aBC(x0 x1 x2 x3 x4 x5 x6:T){s r:List b8}(h:be pE 79 [.ptr .S 0 1 0,.ptr .S 1 1 0,.sl aku 2 false] s=some (.i .i64 0,r)):nS aui s r:=by
 obtain⟨u,D⟩:=aAU
 exact⟨_,_,u,1,D,rfl,rfl,h⟩
theorem aBD(x0 x1 x2 x3 x4 x5 x6:T){s r:List b8}(h:be pE 79 [.ptr .S 0 1 0,.ptr .S 1 1 0,.sl akv 2 false] s=some (.i .i64 0,r)):nS auj s r:=by
 obtain⟨u,D⟩:=aBq
 exact⟨_,_,u,1,D,rfl,rfl,h⟩
theorem aBE(x0 x1 x2 x3 x4 x5 x6:T){s r:List b8}(h:be pE 79 [.ptr .S 0 1 0,.ptr .S 1 1 0,.sl akw 2 false] s=some (.i .i64 0,r)):nS auk s r:=by
 obtain⟨u,D⟩:=aA3
 exact⟨_,_,u,1,D,rfl,rfl,h⟩
theorem aBF(x0 x1 x2 x3 x4 x5 x6:T){s r:List b8}(h:be pE 79 [.ptr .S 0 1 0,.ptr .S 1 1 0,.sl akx 2 false] s=some (.i .i64 0,r)):nS aul s r:=by
 obtain⟨u,D⟩:=aAO
 exact⟨_,_,u,1,D,rfl,rfl,h⟩
theorem aBG(x0 x1 x2 x3 x4 x5 x6:T){s r:List b8}(h:be pE 79 [.ptr .S 0 1 0,.ptr .S 1 1 0,.sl aky 2 false] s=some (.i .i64 0,r)):nS aum s r:=by
 obtain⟨u,D⟩:=aBk
 exact⟨_,_,u,1,D,rfl,rfl,h⟩
theorem aBH(x0 x1 x2 x3 x4 x5 x6:T){s r:List b8}(h:be pE 79 [.ptr .S 0 1 0,.ptr .S 1 1 0,.sl akz 2 false] s=some (.i .i64 0,r)):nS aun s r:=by
 obtain⟨u,D⟩:=aBp
 exact⟨_,_,u,1,D,rfl,rfl,h⟩
theorem aBI(x0 x1 x2 x3 x4 x5 x6:T){s r:List b8}(h:be pE 79 [.ptr .S 0 1 0,.ptr .S 1 1 0,.sl akA 4 false] s=some (.i .i64 0,r)):nS auo s r:=by
 obtain⟨u,D⟩:=aAM
 exact⟨_,_,u,3,D,rfl,rfl,h⟩
theorem aBJ(x0 x1 x2 x3 x4 x5 x6:T){s r:List b8}(h:be pE 79 [.ptr .S 0 1 0,.ptr .S 1 1 0,.sl akB 4 false] s=some (.i .i64 0,r)):nS aup s r:=by
 obtain⟨u,D⟩:=aBi
 exact⟨_,_,u,3,D,rfl,rfl,h⟩
theorem aBK(x0 x1 x2 x3 x4 x5 x6:T){s r:List b8}(h:be pE 79 [.ptr .S 0 1 0,.ptr .S 1 1 0,.sl akC 4 false] s=some (.i .i64 0,r)):nS auq s r:=by
 obtain⟨u,D⟩:=aBo
 exact⟨_,_,u,3,D,rfl,rfl,h⟩
theorem aBL(x0 x1 x2 x3 x4 x5 x6:T){s r:List b8}(h:be pE 79 [.ptr .S 0 1 0,.ptr .S 1 1 0,.sl akD 4 false] s=some (.i .i64 0,r)):nS aur s r:=by
 obtain⟨u,D⟩:=aA7
 exact⟨_,_,u,3,D,rfl,rfl,h⟩
theorem aBM(x0 x1 x2 x3 x4 x5 x6:T){s r:List b8}(h:be pE 79 [.ptr .S 0 1 0,.ptr .S 1 1 0,.sl akE 6 false] s=some (.i .i64 0,r)):nS aus s r:=by
 obtain⟨u,D⟩:=aA5
 exact⟨_,_,u,5,D,rfl,rfl,h⟩
theorem aBN(x0 x1 x2 x3 x4 x5 x6:T){s r:List b8}(h:be pE 79 [.ptr .S 0 1 0,.ptr .S 1 1 0,.sl akF 7 false] s=some (.i .i64 0,r)):nS aut s r:=by
 obtain⟨u,D⟩:=aA0
 exact⟨_,_,u,6,D,rfl,rfl,h⟩
theorem rK0(x0 x1 x2 x3 x4 x5 x6 iY:T)(sn:List T)(n:Nat)(F:n≤100)(cs:List T)(i:cs.length=n*6):nS lR0 (rh [x0,x1,x2,x3,x4,x5,x6] iY sn n cs) (rh [x0,x1,x2,x3,x4,x5,x6] iY sn (n+1) (cs++pF (lQ.getD 0 ⟨0,[],.mk 1 2 [] []⟩))):=by
 obtain⟨u,H⟩:=sR0
 obtain⟨s,r⟩:=eR0
 obtain⟨d,D,I⟩:=jb (lQ.getD 0 ⟨0,[],.mk 1 2 [] []⟩).x
 rw[D]at r
 have h:=uJ x0 x1 x2 x3 x4 x5 x6 iY sn n F cs i (.sl tR0 9 false) 9 [100,117,116,121] [115,105,122,101] 0 0 0 0 (Tk.of tR0 9 0 1 _ 0 _ (by decide) (by decide) rfl rfl) (Tk.of tR0 9 1 1 _ 0 _ (by decide) (by decide) rfl rfl) (Tk.of tR0 9 2 1 _ 0 _ (by decide) (by decide) rfl rfl) (Tk.of tR0 9 3 1 _ 0 _ (by decide) (by decide) rfl rfl) (.inl rfl) (by decide) _ rfl rfl rfl _ _ _ _ ⟨rfl,rfl,rfl,I⟩ s r
 refine⟨_,_,u,8,H,rfl,rfl, ?_⟩
 unfold pF
 rw[D]
 exact h
theorem rK1(x0 x1 x2 x3 x4 x5 x6 iY:T)(sn:List T)(n:Nat)(F:n≤100)(cs:List T)(i:cs.length=n*6):nS lR1 (rh [x0,x1,x2,x3,x4,x5,x6] iY sn n cs) (rh [x0,x1,x2,x3,x4,x5,x6] iY sn (n+1) (cs++pF (lQ.getD 1 ⟨0,[],.mk 1 2 [] []⟩))):=by
 obtain⟨u,H⟩:=sR1
 obtain⟨s,r⟩:=eR1
 obtain⟨d,D,I⟩:=jb (lQ.getD 1 ⟨0,[],.mk 1 2 [] []⟩).x
 rw[D]at r
 have h:=uJ x0 x1 x2 x3 x4 x5 x6 iY sn n F cs i (.sl tR1 15 false) 15 [100,117,116,121] [115,112,97,110] 0 0 0 0 (Tk.of tR1 15 0 1 _ 0 _ (by decide) (by decide) rfl rfl) (Tk.of tR1 15 1 1 _ 0 _ (by decide) (by decide) rfl rfl) (Tk.of tR1 15 2 1 _ 0 _ (by decide) (by decide) rfl rfl) (Tk.of tR1 15 3 1 _ 0 _ (by decide) (by decide) rfl rfl) (.inl rfl) (by decide) _ rfl rfl rfl _ _ _ _ ⟨rfl,rfl,rfl,I⟩ s r
 refine⟨_,_,u,14,H,rfl,rfl, ?_⟩
 unfold pF
 rw[D]
 exact h
theorem rK2(x0 x1 x2 x3 x4 x5 x6 iY:T)(sn:List T)(n:Nat)(F:n≤100)(cs:List T)(i:cs.length=n*6):nS lR2 (rh [x0,x1,x2,x3,x4,x5,x6] iY sn n cs) (rh [x0,x1,x2,x3,x4,x5,x6] iY sn (n+1) (cs++pF (lQ.getD 2 ⟨0,[],.mk 1 2 [] []⟩))):=by
 obtain⟨u,H⟩:=sR2
 obtain⟨s,r⟩:=eR2
 obtain⟨d,D,I⟩:=jb (lQ.getD 2 ⟨0,[],.mk 1 2 [] []⟩).x
 rw[D]at r
 have h:=uJ x0 x1 x2 x3 x4 x5 x6 iY sn n F cs i (.sl tR2 13 false) 13 [100,117,116,121] [110,105,103,104,116] 0 0 0 0 (Tk.of tR2 13 0 1 _ 0 _ (by decide) (by decide) rfl rfl) (Tk.of tR2 13 1 1 _ 0 _ (by decide) (by decide) rfl rfl) (Tk.of tR2 13 2 1 _ 0 _ (by decide) (by decide) rfl rfl) (Tk.of tR2 13 3 1 _ 0 _ (by decide) (by decide) rfl rfl) (.inl rfl) (by decide) _ rfl rfl rfl _ _ _ _ ⟨rfl,rfl,rfl,I⟩ s r
 refine⟨_,_,u,12,H,rfl,rfl, ?_⟩
 unfold pF
 rw[D]
 exact h
theorem rK3(x0 x1 x2 x3 x4 x5 x6 iY:T)(sn:List T)(n:Nat)(F:n≤100)(cs:List T)(i:cs.length=n*6):nS lR3 (rh [x0,x1,x2,x3,x4,x5,x6] iY sn n cs) (rh [x0,x1,x2,x3,x4,x5,x6] iY sn (n+1) (cs++pF (lQ.getD 3 ⟨0,[],.mk 1 2 [] []⟩))):=by
 obtain⟨u,H⟩:=sR3
 obtain⟨s,r⟩:=eR3
 obtain⟨d,D,I⟩:=jb (lQ.getD 3 ⟨0,[],.mk 1 2 [] []⟩).x
 rw[D]at r
 have h:=uJ x0 x1 x2 x3 x4 x5 x6 iY sn n F cs i (.sl tR3 7 false) 7 [100,117,116,121] [98,108,111,99,107] 0 0 0 0 (Tk.of tR3 7 0 1 _ 0 _ (by decide) (by decide) rfl rfl) (Tk.of tR3 7 1 1 _ 0 _ (by decide) (by decide) rfl rfl) (Tk.of tR3 7 2 1 _ 0 _ (by decide) (by decide) rfl rfl) (Tk.of tR3 7 3 1 _ 0 _ (by decide) (by decide) rfl rfl) (.inl rfl) (by decide) _ rfl rfl rfl _ _ _ _ ⟨rfl,rfl,rfl,I⟩ s r
 refine⟨_,_,u,6,H,rfl,rfl, ?_⟩
 unfold pF
 rw[D]
 exact h
theorem rK4(x0 x1 x2 x3 x4 x5 x6 iY:T)(sn:List T)(n:Nat)(F:n≤100)(cs:List T)(i:cs.length=n*6):nS lR4 (rh [x0,x1,x2,x3,x4,x5,x6] iY sn n cs) (rh [x0,x1,x2,x3,x4,x5,x6] iY sn (n+1) (cs++pF (lQ.getD 4 ⟨0,[],.mk 1 2 [] []⟩))):=by
 obtain⟨u,H⟩:=sR4
 obtain⟨s,r⟩:=eR4
 obtain⟨d,D,I⟩:=jb (lQ.getD 4 ⟨0,[],.mk 1 2 [] []⟩).x
 rw[D]at r
 have h:=uJ x0 x1 x2 x3 x4 x5 x6 iY sn n F cs i (.sl tR4 7 false) 7 [100,117,116,121] [116,121,112,101,115] 0 0 0 0 (Tk.of tR4 7 0 1 _ 0 _ (by decide) (by decide) rfl rfl) (Tk.of tR4 7 1 1 _ 0 _ (by decide) (by decide) rfl rfl) (Tk.of tR4 7 2 1 _ 0 _ (by decide) (by decide) rfl rfl) (Tk.of tR4 7 3 1 _ 0 _ (by decide) (by decide) rfl rfl) (.inl rfl) (by decide) _ rfl rfl rfl _ _ _ _ ⟨rfl,rfl,rfl,I⟩ s r
 refine⟨_,_,u,6,H,rfl,rfl, ?_⟩
 unfold pF
 rw[D]
 exact h
theorem rK5(x0 x1 x2 x3 x4 x5 x6 iY:T)(sn:List T)(n:Nat)(F:n≤100)(cs:List T)(i:cs.length=n*6):nS lR5 (rh [x0,x1,x2,x3,x4,x5,x6] iY sn n cs) (rh [x0,x1,x2,x3,x4,x5,x6] iY sn (n+1) (cs++pF (lQ.getD 5 ⟨0,[],.mk 1 2 [] []⟩))):=by
 obtain⟨u,H⟩:=sR5
 obtain⟨s,r⟩:=eR5
 obtain⟨d,D,I⟩:=jb (lQ.getD 5 ⟨0,[],.mk 1 2 [] []⟩).x
 rw[D]at r
 have h:=uJ x0 x1 x2 x3 x4 x5 x6 iY sn n F cs i (.sl tR5 15 false) 15 [100,117,116,121] [111,100,100] 0 0 0 0 (Tk.of tR5 15 0 1 _ 0 _ (by decide) (by decide) rfl rfl) (Tk.of tR5 15 1 1 _ 0 _ (by decide) (by decide) rfl rfl) (Tk.of tR5 15 2 1 _ 0 _ (by decide) (by decide) rfl rfl) (Tk.of tR5 15 3 1 _ 0 _ (by decide) (by decide) rfl rfl) (.inl rfl) (by decide) _ rfl rfl rfl _ _ _ _ ⟨rfl,rfl,rfl,I⟩ s r
 refine⟨_,_,u,14,H,rfl,rfl, ?_⟩
 unfold pF
 rw[D]
 exact h
theorem rK6(x0 x1 x2 x3 x4 x5 x6 iY:T)(sn:List T)(n:Nat)(F:n≤100)(cs:List T)(i:cs.length=n*6):nS lR6 (rh [x0,x1,x2,x3,x4,x5,x6] iY sn n cs) (rh [x0,x1,x2,x3,x4,x5,x6] iY sn (n+1) (cs++pF (lQ.getD 6 ⟨0,[],.mk 1 2 [] []⟩))):=by
 obtain⟨u,H⟩:=sR6
 obtain⟨s,r⟩:=eR6
 obtain⟨d,D,I⟩:=jb (lQ.getD 6 ⟨0,[],.mk 1 2 [] []⟩).x
 rw[D]at r
 have h:=uJ x0 x1 x2 x3 x4 x5 x6 iY sn n F cs i (.sl tR6 11 false) 11 [100,117,116,121] [103,97,112] 0 0 0 0 (Tk.of tR6 11 0 1 _ 0 _ (by decide) (by decide) rfl rfl) (Tk.of tR6 11 1 1 _ 0 _ (by decide) (by decide) rfl rfl) (Tk.of tR6 11 2 1 _ 0 _ (by decide) (by decide) rfl rfl) (Tk.of tR6 11 3 1 _ 0 _ (by decide) (by decide) rfl rfl) (.inl rfl) (by decide) _ rfl rfl rfl _ _ _ _ ⟨rfl,rfl,rfl,I⟩ s r
 refine⟨_,_,u,10,H,rfl,rfl, ?_⟩
 unfold pF
 rw[D]
 exact h
theorem rK7(x0 x1 x2 x3 x4 x5 x6 iY:T)(sn:List T)(n:Nat)(F:n≤100)(cs:List T)(i:cs.length=n*6):nS lR7 (rh [x0,x1,x2,x3,x4,x5,x6] iY sn n cs) (rh [x0,x1,x2,x3,x4,x5,x6] iY sn (n+1) (cs++pF (lQ.getD 7 ⟨0,[],.mk 1 2 [] []⟩))):=by
 obtain⟨u,H⟩:=sR7
 obtain⟨s,r⟩:=eR7
 obtain⟨d,D,I⟩:=jb (lQ.getD 7 ⟨0,[],.mk 1 2 [] []⟩).x
 rw[D]at r
 have h:=uJ x0 x1 x2 x3 x4 x5 x6 iY sn n F cs i (.sl tR7 7 false) 7 [114,101,115,116] [108,101,97,115,116] 0 0 0 0 (Tk.of tR7 7 0 1 _ 0 _ (by decide) (by decide) rfl rfl) (Tk.of tR7 7 1 1 _ 0 _ (by decide) (by decide) rfl rfl) (Tk.of tR7 7 2 1 _ 0 _ (by decide) (by decide) rfl rfl) (Tk.of tR7 7 3 1 _ 0 _ (by decide) (by decide) rfl rfl) (.inr (.inl rfl)) (by decide) _ rfl rfl rfl _ _ _ _ ⟨rfl,rfl,rfl,I⟩ s r
 refine⟨_,_,u,6,H,rfl,rfl, ?_⟩
 unfold pF
 rw[D]
 exact h
theorem rK8(x0 x1 x2 x3 x4 x5 x6 iY:T)(sn:List T)(n:Nat)(F:n≤100)(cs:List T)(i:cs.length=n*6):nS lR8 (rh [x0,x1,x2,x3,x4,x5,x6] iY sn n cs) (rh [x0,x1,x2,x3,x4,x5,x6] iY sn (n+1) (cs++pF (lQ.getD 8 ⟨0,[],.mk 1 2 [] []⟩))):=by
 obtain⟨u,H⟩:=sR8
 obtain⟨s,r⟩:=eR8
 obtain⟨d,D,I⟩:=jb (lQ.getD 8 ⟨0,[],.mk 1 2 [] []⟩).x
 rw[D]at r
 have h:=uJ x0 x1 x2 x3 x4 x5 x6 iY sn n F cs i (.sl tR8 12 false) 12 [114,101,115,116] [98,101,102,111,114,101] 0 0 0 0 (Tk.of tR8 12 0 1 _ 0 _ (by decide) (by decide) rfl rfl) (Tk.of tR8 12 1 1 _ 0 _ (by decide) (by decide) rfl rfl) (Tk.of tR8 12 2 1 _ 0 _ (by decide) (by decide) rfl rfl) (Tk.of tR8 12 3 1 _ 0 _ (by decide) (by decide) rfl rfl) (.inr (.inl rfl)) (by decide) _ rfl rfl rfl _ _ _ _ ⟨rfl,rfl,rfl,I⟩ s r
 refine⟨_,_,u,11,H,rfl,rfl, ?_⟩
 unfold pF
 rw[D]
 exact h
theorem rK9(x0 x1 x2 x3 x4 x5 x6 iY:T)(sn:List T)(n:Nat)(F:n≤100)(cs:List T)(i:cs.length=n*6):nS lR9 (rh [x0,x1,x2,x3,x4,x5,x6] iY sn n cs) (rh [x0,x1,x2,x3,x4,x5,x6] iY sn (n+1) (cs++pF (lQ.getD 9 ⟨0,[],.mk 1 2 [] []⟩))):=by
 obtain⟨u,H⟩:=sR9
 obtain⟨s,r⟩:=eR9
 obtain⟨d,D,I⟩:=jb (lQ.getD 9 ⟨0,[],.mk 1 2 [] []⟩).x
 rw[D]at r
 have h:=uJ x0 x1 x2 x3 x4 x5 x6 iY sn n F cs i (.sl tR9 9 false) 9 [114,101,115,116] [110,105,103,104,116,115] 0 0 0 0 (Tk.of tR9 9 0 1 _ 0 _ (by decide) (by decide) rfl rfl) (Tk.of tR9 9 1 1 _ 0 _ (by decide) (by decide) rfl rfl) (Tk.of tR9 9 2 1 _ 0 _ (by decide) (by decide) rfl rfl) (Tk.of tR9 9 3 1 _ 0 _ (by decide) (by decide) rfl rfl) (.inr (.inl rfl)) (by decide) _ rfl rfl rfl _ _ _ _ ⟨rfl,rfl,rfl,I⟩ s r
 refine⟨_,_,u,8,H,rfl,rfl, ?_⟩
 unfold pF
 rw[D]
 exact h
theorem aBO(x0 x1 x2 x3 x4 x5 x6 iY:T)(sn:List T)(n:Nat)(F:n≤100)(cs:List T)(i:cs.length=n*6):nS auu (rh [x0,x1,x2,x3,x4,x5,x6] iY sn n cs) (rh [x0,x1,x2,x3,x4,x5,x6] iY sn (n+1) (cs++pF (lQ.getD 10 ⟨0,[],.mk 1 2 [] []⟩))):=by
 obtain⟨u,H⟩:=aBn
 obtain⟨s,r⟩:=aA4
 obtain⟨d,D,I⟩:=jb (lQ.getD 10 ⟨0,[],.mk 1 2 [] []⟩).x
 rw[D]at r
 have h:=uJ x0 x1 x2 x3 x4 x5 x6 iY sn n F cs i (.sl NZ 9 false) 9 [114,101,115,116] [104,111,109,101] 0 0 0 0 (Tk.of NZ 9 0 1 _ 0 _ (by decide) (by decide) rfl rfl) (Tk.of NZ 9 1 1 _ 0 _ (by decide) (by decide) rfl rfl) (Tk.of NZ 9 2 1 _ 0 _ (by decide) (by decide) rfl rfl) (Tk.of NZ 9 3 1 _ 0 _ (by decide) (by decide) rfl rfl) (.inr (.inl rfl)) (by decide) _ rfl rfl rfl _ _ _ _ ⟨rfl,rfl,rfl,I⟩ s r
 refine⟨_,_,u,8,H,rfl,rfl, ?_⟩
 unfold pF
 rw[D]
 exact h
theorem aBP(x0 x1 x2 x3 x4 x5 x6 iY:T)(sn:List T)(n:Nat)(F:n≤100)(cs:List T)(i:cs.length=n*6):nS auv (rh [x0,x1,x2,x3,x4,x5,x6] iY sn n cs) (rh [x0,x1,x2,x3,x4,x5,x6] iY sn (n+1) (cs++pF (lQ.getD 11 ⟨0,[],.mk 1 2 [] []⟩))):=by
 obtain⟨u,H⟩:=aAG
 obtain⟨s,r⟩:=aAZ
 obtain⟨d,D,I⟩:=jb (lQ.getD 11 ⟨0,[],.mk 1 2 [] []⟩).x
 rw[D]at r
 have h:=uJ x0 x1 x2 x3 x4 x5 x6 iY sn n F cs i (.sl N4 13 false) 13 [114,101,115,116] [97,102,116,101,114] 0 0 0 0 (Tk.of N4 13 0 1 _ 0 _ (by decide) (by decide) rfl rfl) (Tk.of N4 13 1 1 _ 0 _ (by decide) (by decide) rfl rfl) (Tk.of N4 13 2 1 _ 0 _ (by decide) (by decide) rfl rfl) (Tk.of N4 13 3 1 _ 0 _ (by decide) (by decide) rfl rfl) (.inr (.inl rfl)) (by decide) _ rfl rfl rfl _ _ _ _ ⟨rfl,rfl,rfl,I⟩ s r
 refine⟨_,_,u,12,H,rfl,rfl, ?_⟩
 unfold pF
 rw[D]
 exact h
theorem aBQ(x0 x1 x2 x3 x4 x5 x6 iY:T)(sn:List T)(n:Nat)(F:n≤100)(cs:List T)(i:cs.length=n*6):nS auw (rh [x0,x1,x2,x3,x4,x5,x6] iY sn n cs) (rh [x0,x1,x2,x3,x4,x5,x6] iY sn (n+1) (cs++pF (lQ.getD 12 ⟨0,[],.mk 1 2 [] []⟩))):=by
 obtain⟨u,H⟩:=aAS
 obtain⟨s,r⟩:=aAI
 obtain⟨d,D,I⟩:=jb (lQ.getD 12 ⟨0,[],.mk 1 2 [] []⟩).x
 rw[D]at r
 have h:=uJ x0 x1 x2 x3 x4 x5 x6 iY sn n F cs i (.sl N5 7 false) 7 [112,97,105,114,105,110,103] [100,97,121,115] 0 0 0 0 (Tk.of N5 7 0 1 _ 0 _ (by decide) (by decide) rfl rfl) (Tk.of N5 7 1 1 _ 0 _ (by decide) (by decide) rfl rfl) (Tk.of N5 7 2 1 _ 0 _ (by decide) (by decide) rfl rfl) (Tk.of N5 7 3 1 _ 0 _ (by decide) (by decide) rfl rfl) (.inr (.inr rfl)) (by decide) _ rfl rfl rfl _ _ _ _ ⟨rfl,rfl,rfl,I⟩ s r
 refine⟨_,_,u,6,H,rfl,rfl, ?_⟩
 unfold pF
 rw[D]
 exact h
theorem aBR(x0 x1 x2 x3 x4 x5 x6 iY:T)(sn:List T)(n:Nat)(F:n≤100)(cs:List T)(i:cs.length=n*6):nS auy (rh [x0,x1,x2,x3,x4,x5,x6] iY sn n cs) (rh [x0,x1,x2,x3,x4,x5,x6] iY sn (n+1) (cs++pF (lQ.getD 13 ⟨0,[],.mk 1 2 [] []⟩))):=by
 obtain⟨u,H⟩:=aBh
 obtain⟨s,r⟩:=aA6
 obtain⟨d,D,I⟩:=jb (lQ.getD 13 ⟨0,[],.mk 1 2 [] []⟩).x
 rw[D]at r
 have h:=uJ x0 x1 x2 x3 x4 x5 x6 iY sn n F cs i (.sl N6 7 false) 7 [112,97,105,114,105,110,103] [100,117,116,105,101,115] 0 0 0 0 (Tk.of N6 7 0 1 _ 0 _ (by decide) (by decide) rfl rfl) (Tk.of N6 7 1 1 _ 0 _ (by decide) (by decide) rfl rfl) (Tk.of N6 7 2 1 _ 0 _ (by decide) (by decide) rfl rfl) (Tk.of N6 7 3 1 _ 0 _ (by decide) (by decide) rfl rfl) (.inr (.inr rfl)) (by decide) _ rfl rfl rfl _ _ _ _ ⟨rfl,rfl,rfl,I⟩ s r
 refine⟨_,_,u,6,H,rfl,rfl, ?_⟩
 unfold pF
 rw[D]
 exact h
theorem aBS(x0 x1 x2 x3 x4 x5 x6 iY:T)(sn:List T)(n:Nat)(F:n≤100)(cs:List T)(i:cs.length=n*6):nS auz (rh [x0,x1,x2,x3,x4,x5,x6] iY sn n cs) (rh [x0,x1,x2,x3,x4,x5,x6] iY sn (n+1) (cs++pF (lQ.getD 14 ⟨0,[],.mk 1 2 [] []⟩))):=by
 obtain⟨u,H⟩:=aAK
 obtain⟨s,r⟩:=aA1
 obtain⟨d,D,I⟩:=jb (lQ.getD 14 ⟨0,[],.mk 1 2 [] []⟩).x
 rw[D]at r
 have h:=uJ x0 x1 x2 x3 x4 x5 x6 iY sn n F cs i (.sl N7 7 false) 7 [112,97,105,114,105,110,103] [98,108,111,99,107] 0 0 0 0 (Tk.of N7 7 0 1 _ 0 _ (by decide) (by decide) rfl rfl) (Tk.of N7 7 1 1 _ 0 _ (by decide) (by decide) rfl rfl) (Tk.of N7 7 2 1 _ 0 _ (by decide) (by decide) rfl rfl) (Tk.of N7 7 3 1 _ 0 _ (by decide) (by decide) rfl rfl) (.inr (.inr rfl)) (by decide) _ rfl rfl rfl _ _ _ _ ⟨rfl,rfl,rfl,I⟩ s r
 refine⟨_,_,u,6,H,rfl,rfl, ?_⟩
 unfold pF
 rw[D]
 exact h
theorem aBT(x0 x1 x2 x3 x4 x5 x6 iY:T)(sn:List T)(n:Nat)(F:n≤100)(cs:List T)(i:cs.length=n*6):nS auA (rh [x0,x1,x2,x3,x4,x5,x6] iY sn n cs) (rh [x0,x1,x2,x3,x4,x5,x6] iY sn (n+1) (cs++pF (lQ.getD 15 ⟨0,[],.mk 1 2 [] []⟩))):=by
 obtain⟨u,H⟩:=aAV
 obtain⟨s,r⟩:=aAX
 obtain⟨d,D,I⟩:=jb (lQ.getD 15 ⟨0,[],.mk 1 2 [] []⟩).x
 rw[D]at r
 have h:=uJ x0 x1 x2 x3 x4 x5 x6 iY sn n F cs i (.sl N8 7 false) 7 [112,97,105,114,105,110,103] [99,114,101,100,105,116] 0 0 0 0 (Tk.of N8 7 0 1 _ 0 _ (by decide) (by decide) rfl rfl) (Tk.of N8 7 1 1 _ 0 _ (by decide) (by decide) rfl rfl) (Tk.of N8 7 2 1 _ 0 _ (by decide) (by decide) rfl rfl) (Tk.of N8 7 3 1 _ 0 _ (by decide) (by decide) rfl rfl) (.inr (.inr rfl)) (by decide) _ rfl rfl rfl _ _ _ _ ⟨rfl,rfl,rfl,I⟩ s r
 refine⟨_,_,u,6,H,rfl,rfl, ?_⟩
 unfold pF
 rw[D]
 exact h
theorem aBU(x0 x1 x2 x3 x4 x5 x6 iY:T)(sn:List T)(n:Nat)(F:n≤100)(cs:List T)(i:cs.length=n*6):nS auB (rh [x0,x1,x2,x3,x4,x5,x6] iY sn n cs) (rh [x0,x1,x2,x3,x4,x5,x6] iY sn (n+1) (cs++pF (lQ.getD 16 ⟨0,[],.mk 1 2 [] []⟩))):=by
 obtain⟨u,H⟩:=aAW
 obtain⟨s,r⟩:=aBj
 obtain⟨d,D,I⟩:=jb (lQ.getD 16 ⟨0,[],.mk 1 2 [] []⟩).x
 rw[D]at r
 have h:=uJ x0 x1 x2 x3 x4 x5 x6 iY sn n F cs i (.sl N9 7 false) 7 [112,97,105,114,105,110,103] [115,112,97,110] 0 0 0 0 (Tk.of N9 7 0 1 _ 0 _ (by decide) (by decide) rfl rfl) (Tk.of N9 7 1 1 _ 0 _ (by decide) (by decide) rfl rfl) (Tk.of N9 7 2 1 _ 0 _ (by decide) (by decide) rfl rfl) (Tk.of N9 7 3 1 _ 0 _ (by decide) (by decide) rfl rfl) (.inr (.inr rfl)) (by decide) _ rfl rfl rfl _ _ _ _ ⟨rfl,rfl,rfl,I⟩ s r
 refine⟨_,_,u,6,H,rfl,rfl, ?_⟩
 unfold pF
 rw[D]
 exact h
theorem aBV(x0 x1 x2 x3 x4 x5 x6 iY:T)(sn:List T)(n:Nat)(F:n≤100)(cs:List T)(i:cs.length=n*6):nS auC (rh [x0,x1,x2,x3,x4,x5,x6] iY sn n cs) (rh [x0,x1,x2,x3,x4,x5,x6] iY sn (n+1) (cs++pF (lQ.getD 17 ⟨0,[],.mk 1 2 [] []⟩))):=by
 obtain⟨u,H⟩:=aAR
 obtain⟨s,r⟩:=aAN
 obtain⟨d,D,I⟩:=jb (lQ.getD 17 ⟨0,[],.mk 1 2 [] []⟩).x
 rw[D]at r
 have h:=uJ x0 x1 x2 x3 x4 x5 x6 iY sn n F cs i (.sl Oa 7 false) 7 [112,97,105,114,105,110,103] [108,101,103,115] 0 0 0 0 (Tk.of Oa 7 0 1 _ 0 _ (by decide) (by decide) rfl rfl) (Tk.of Oa 7 1 1 _ 0 _ (by decide) (by decide) rfl rfl) (Tk.of Oa 7 2 1 _ 0 _ (by decide) (by decide) rfl rfl) (Tk.of Oa 7 3 1 _ 0 _ (by decide) (by decide) rfl rfl) (.inr (.inr rfl)) (by decide) _ rfl rfl rfl _ _ _ _ ⟨rfl,rfl,rfl,I⟩ s r
 refine⟨_,_,u,6,H,rfl,rfl, ?_⟩
 unfold pF
 rw[D]
 exact h
theorem kK0(x0 x1 x2 x3 x4 x5 x6 iY i:T)(sn:List T)(P:List b8)(H:P.length≤1)(n:Nat)(I:n≤100)(cs:List T)(r:cs.length=n*5):nS lK0 (xX [x0,x1,x2,x3,x4,x5,x6] iY i sn P n cs) (xX [x0,x1,x2,x3,x4,x5,x6] iY i sn P (n+1) (cs++vD (n6.getD 0 ⟨0,.mk 1 2 [] []⟩))):=by
 obtain⟨u,J⟩:=sK0
 obtain⟨s,D⟩:=eK0
 obtain⟨d,F,K⟩:=jb (n6.getD 0 ⟨0,.mk 1 2 [] []⟩).x
 rw[F]at D
 have h:=F0 x0 x1 x2 x3 x4 x5 x6 iY i sn P H n I cs r (.sl tK0 8 false) 8 [100,117,116,121] 0 0 0 (Tk.of tK0 8 0 1 _ 0 _ (by decide) (by decide) rfl rfl) (Tk.of tK0 8 1 1 _ 0 _ (by decide) (by decide) rfl rfl) (Tk.of tK0 8 2 1 _ 0 _ (by decide) (by decide) rfl rfl) (.inl rfl) _ rfl rfl rfl _ _ _ _ ⟨rfl,rfl,rfl,K⟩ s D
 refine⟨_,_,u,7,J,rfl,rfl, ?_⟩
 unfold vD
 rw[F]
 exact h
theorem kK1(x0 x1 x2 x3 x4 x5 x6 iY i:T)(sn:List T)(P:List b8)(H:P.length≤1)(n:Nat)(I:n≤100)(cs:List T)(r:cs.length=n*5):nS lK1 (xX [x0,x1,x2,x3,x4,x5,x6] iY i sn P n cs) (xX [x0,x1,x2,x3,x4,x5,x6] iY i sn P (n+1) (cs++vD (n6.getD 1 ⟨0,.mk 1 2 [] []⟩))):=by
 obtain⟨u,J⟩:=sK1
 obtain⟨s,D⟩:=eK1
 obtain⟨d,F,K⟩:=jb (n6.getD 1 ⟨0,.mk 1 2 [] []⟩).x
 rw[F]at D
 have h:=F0 x0 x1 x2 x3 x4 x5 x6 iY i sn P H n I cs r (.sl tK1 10 false) 10 [100,117,116,121] 0 0 0 (Tk.of tK1 10 0 1 _ 0 _ (by decide) (by decide) rfl rfl) (Tk.of tK1 10 1 1 _ 0 _ (by decide) (by decide) rfl rfl) (Tk.of tK1 10 2 1 _ 0 _ (by decide) (by decide) rfl rfl) (.inl rfl) _ rfl rfl rfl _ _ _ _ ⟨rfl,rfl,rfl,K⟩ s D
 refine⟨_,_,u,9,J,rfl,rfl, ?_⟩
 unfold vD
 rw[F]
 exact h
theorem kK2(x0 x1 x2 x3 x4 x5 x6 iY i:T)(sn:List T)(P:List b8)(H:P.length≤1)(n:Nat)(I:n≤100)(cs:List T)(r:cs.length=n*5):nS lK2 (xX [x0,x1,x2,x3,x4,x5,x6] iY i sn P n cs) (xX [x0,x1,x2,x3,x4,x5,x6] iY i sn P (n+1) (cs++vD (n6.getD 2 ⟨0,.mk 1 2 [] []⟩))):=by
 obtain⟨u,J⟩:=sK2
 obtain⟨s,D⟩:=eK2
 obtain⟨d,F,K⟩:=jb (n6.getD 2 ⟨0,.mk 1 2 [] []⟩).x
 rw[F]at D
 have h:=F0 x0 x1 x2 x3 x4 x5 x6 iY i sn P H n I cs r (.sl tK2 11 false) 11 [100,117,116,121] 0 0 0 (Tk.of tK2 11 0 1 _ 0 _ (by decide) (by decide) rfl rfl) (Tk.of tK2 11 1 1 _ 0 _ (by decide) (by decide) rfl rfl) (Tk.of tK2 11 2 1 _ 0 _ (by decide) (by decide) rfl rfl) (.inl rfl) _ rfl rfl rfl _ _ _ _ ⟨rfl,rfl,rfl,K⟩ s D
 refine⟨_,_,u,10,J,rfl,rfl, ?_⟩
 unfold vD
 rw[F]
 exact h
theorem kK3(x0 x1 x2 x3 x4 x5 x6 iY i:T)(sn:List T)(P:List b8)(H:P.length≤1)(n:Nat)(I:n≤100)(cs:List T)(r:cs.length=n*5):nS lK3 (xX [x0,x1,x2,x3,x4,x5,x6] iY i sn P n cs) (xX [x0,x1,x2,x3,x4,x5,x6] iY i sn P (n+1) (cs++vD (n6.getD 3 ⟨0,.mk 1 2 [] []⟩))):=by
 obtain⟨u,J⟩:=sK3
 obtain⟨s,D⟩:=eK3
 obtain⟨d,F,K⟩:=jb (n6.getD 3 ⟨0,.mk 1 2 [] []⟩).x
 rw[F]at D
 have h:=F0 x0 x1 x2 x3 x4 x5 x6 iY i sn P H n I cs r (.sl tK3 9 false) 9 [114,101,115,116] 0 0 0 (Tk.of tK3 9 0 1 _ 0 _ (by decide) (by decide) rfl rfl) (Tk.of tK3 9 1 1 _ 0 _ (by decide) (by decide) rfl rfl) (Tk.of tK3 9 2 1 _ 0 _ (by decide) (by decide) rfl rfl) (.inr (.inl rfl)) _ rfl rfl rfl _ _ _ _ ⟨rfl,rfl,rfl,K⟩ s D
 refine⟨_,_,u,8,J,rfl,rfl, ?_⟩
 unfold vD
 rw[F]
 exact h
theorem kK4(x0 x1 x2 x3 x4 x5 x6 iY i:T)(sn:List T)(P:List b8)(H:P.length≤1)(n:Nat)(I:n≤100)(cs:List T)(r:cs.length=n*5):nS lK4 (xX [x0,x1,x2,x3,x4,x5,x6] iY i sn P n cs) (xX [x0,x1,x2,x3,x4,x5,x6] iY i sn P (n+1) (cs++vD (n6.getD 4 ⟨0,.mk 1 2 [] []⟩))):=by
 obtain⟨u,J⟩:=sK4
 obtain⟨s,D⟩:=eK4
 obtain⟨d,F,K⟩:=jb (n6.getD 4 ⟨0,.mk 1 2 [] []⟩).x
 rw[F]at D
 have h:=F0 x0 x1 x2 x3 x4 x5 x6 iY i sn P H n I cs r (.sl tK4 6 false) 6 [114,101,115,116] 0 0 0 (Tk.of tK4 6 0 1 _ 0 _ (by decide) (by decide) rfl rfl) (Tk.of tK4 6 1 1 _ 0 _ (by decide) (by decide) rfl rfl) (Tk.of tK4 6 2 1 _ 0 _ (by decide) (by decide) rfl rfl) (.inr (.inl rfl)) _ rfl rfl rfl _ _ _ _ ⟨rfl,rfl,rfl,K⟩ s D
 refine⟨_,_,u,5,J,rfl,rfl, ?_⟩
 unfold vD
 rw[F]
 exact h
theorem kK5(x0 x1 x2 x3 x4 x5 x6 iY i:T)(sn:List T)(P:List b8)(H:P.length≤1)(n:Nat)(I:n≤100)(cs:List T)(r:cs.length=n*5):nS lK5 (xX [x0,x1,x2,x3,x4,x5,x6] iY i sn P n cs) (xX [x0,x1,x2,x3,x4,x5,x6] iY i sn P (n+1) (cs++vD (n6.getD 5 ⟨0,.mk 1 2 [] []⟩))):=by
 obtain⟨u,J⟩:=sK5
 obtain⟨s,D⟩:=eK5
 obtain⟨d,F,K⟩:=jb (n6.getD 5 ⟨0,.mk 1 2 [] []⟩).x
 rw[F]at D
 have h:=F0 x0 x1 x2 x3 x4 x5 x6 iY i sn P H n I cs r (.sl tK5 6 false) 6 [112,97,105,114,105,110,103] 0 0 0 (Tk.of tK5 6 0 1 _ 0 _ (by decide) (by decide) rfl rfl) (Tk.of tK5 6 1 1 _ 0 _ (by decide) (by decide) rfl rfl) (Tk.of tK5 6 2 1 _ 0 _ (by decide) (by decide) rfl rfl) (.inr (.inr rfl)) _ rfl rfl rfl _ _ _ _ ⟨rfl,rfl,rfl,K⟩ s D
 refine⟨_,_,u,5,J,rfl,rfl, ?_⟩
 unfold vD
 rw[F]
 exact h
theorem kK6(x0 x1 x2 x3 x4 x5 x6 iY i:T)(sn:List T)(P:List b8)(H:P.length≤1)(n:Nat)(I:n≤100)(cs:List T)(r:cs.length=n*5):nS lK6 (xX [x0,x1,x2,x3,x4,x5,x6] iY i sn P n cs) (xX [x0,x1,x2,x3,x4,x5,x6] iY i sn P (n+1) (cs++vD (n6.getD 6 ⟨0,.mk 1 2 [] []⟩))):=by
 obtain⟨u,J⟩:=sK6
 obtain⟨s,D⟩:=eK6
 obtain⟨d,F,K⟩:=jb (n6.getD 6 ⟨0,.mk 1 2 [] []⟩).x
 rw[F]at D
 have h:=F0 x0 x1 x2 x3 x4 x5 x6 iY i sn P H n I cs r (.sl tK6 13 false) 13 [112,97,105,114,105,110,103] 0 0 0 (Tk.of tK6 13 0 1 _ 0 _ (by decide) (by decide) rfl rfl) (Tk.of tK6 13 1 1 _ 0 _ (by decide) (by decide) rfl rfl) (Tk.of tK6 13 2 1 _ 0 _ (by decide) (by decide) rfl rfl) (.inr (.inr rfl)) _ rfl rfl rfl _ _ _ _ ⟨rfl,rfl,rfl,K⟩ s D
 refine⟨_,_,u,12,J,rfl,rfl, ?_⟩
 unfold vD
 rw[F]
 exact h
theorem kK7(x0 x1 x2 x3 x4 x5 x6 iY i:T)(sn:List T)(P:List b8)(H:P.length≤1)(n:Nat)(I:n≤100)(cs:List T)(r:cs.length=n*5):nS lK7 (xX [x0,x1,x2,x3,x4,x5,x6] iY i sn P n cs) (xX [x0,x1,x2,x3,x4,x5,x6] iY i sn P (n+1) (cs++vD (n6.getD 7 ⟨0,.mk 1 2 [] []⟩))):=by
 obtain⟨u,J⟩:=sK7
 obtain⟨s,D⟩:=eK7
 obtain⟨d,F,K⟩:=jb (n6.getD 7 ⟨0,.mk 1 2 [] []⟩).x
 rw[F]at D
 have h:=F0 x0 x1 x2 x3 x4 x5 x6 iY i sn P H n I cs r (.sl tK7 9 false) 9 [100,117,116,121] 0 0 0 (Tk.of tK7 9 0 1 _ 0 _ (by decide) (by decide) rfl rfl) (Tk.of tK7 9 1 1 _ 0 _ (by decide) (by decide) rfl rfl) (Tk.of tK7 9 2 1 _ 0 _ (by decide) (by decide) rfl rfl) (.inl rfl) _ rfl rfl rfl _ _ _ _ ⟨rfl,rfl,rfl,K⟩ s D
 refine⟨_,_,u,8,J,rfl,rfl, ?_⟩
 unfold vD
 rw[F]
 exact h
theorem kK8(x0 x1 x2 x3 x4 x5 x6 iY i:T)(sn:List T)(P:List b8)(H:P.length≤1)(n:Nat)(I:n≤100)(cs:List T)(r:cs.length=n*5):nS lK8 (xX [x0,x1,x2,x3,x4,x5,x6] iY i sn P n cs) (xX [x0,x1,x2,x3,x4,x5,x6] iY i sn P (n+1) (cs++vD (n6.getD 8 ⟨0,.mk 1 2 [] []⟩))):=by
 obtain⟨u,J⟩:=sK8
 obtain⟨s,D⟩:=eK8
 obtain⟨d,F,K⟩:=jb (n6.getD 8 ⟨0,.mk 1 2 [] []⟩).x
 rw[F]at D
 have h:=F0 x0 x1 x2 x3 x4 x5 x6 iY i sn P H n I cs r (.sl tK8 6 false) 6 [100,117,116,121] 0 0 0 (Tk.of tK8 6 0 1 _ 0 _ (by decide) (by decide) rfl rfl) (Tk.of tK8 6 1 1 _ 0 _ (by decide) (by decide) rfl rfl) (Tk.of tK8 6 2 1 _ 0 _ (by decide) (by decide) rfl rfl) (.inl rfl) _ rfl rfl rfl _ _ _ _ ⟨rfl,rfl,rfl,K⟩ s D
 refine⟨_,_,u,5,J,rfl,rfl, ?_⟩
 unfold vD
 rw[F]
 exact h
theorem kK9(x0 x1 x2 x3 x4 x5 x6 iY i:T)(sn:List T)(P:List b8)(H:P.length≤1)(n:Nat)(I:n≤100)(cs:List T)(r:cs.length=n*5):nS lK9 (xX [x0,x1,x2,x3,x4,x5,x6] iY i sn P n cs) (xX [x0,x1,x2,x3,x4,x5,x6] iY i sn P (n+1) (cs++vD (n6.getD 9 ⟨0,.mk 1 2 [] []⟩))):=by
 obtain⟨u,J⟩:=sK9
 obtain⟨s,D⟩:=eK9
 obtain⟨d,F,K⟩:=jb (n6.getD 9 ⟨0,.mk 1 2 [] []⟩).x
 rw[F]at D
 have h:=F0 x0 x1 x2 x3 x4 x5 x6 iY i sn P H n I cs r (.sl tK9 11 false) 11 [112,97,105,114,105,110,103] 0 0 0 (Tk.of tK9 11 0 1 _ 0 _ (by decide) (by decide) rfl rfl) (Tk.of tK9 11 1 1 _ 0 _ (by decide) (by decide) rfl rfl) (Tk.of tK9 11 2 1 _ 0 _ (by decide) (by decide) rfl rfl) (.inr (.inr rfl)) _ rfl rfl rfl _ _ _ _ ⟨rfl,rfl,rfl,K⟩ s D
 refine⟨_,_,u,10,J,rfl,rfl, ?_⟩
 unfold vD
 rw[F]
 exact h
theorem cK0(x0 x1 x2 x3 x4 x5 x6 iY i ET:T)(sn:List T)(P:List b8)(F:P.length≤2):nS lC0 (Oh [x0,x1,x2,x3,x4,x5,x6] iY i ET sn P []) (Oh [x0,x1,x2,x3,x4,x5,x6] iY i ET sn P (nR (It.getD 0 (.mk 1 2 [] [])))):=by
 obtain⟨u,H⟩:=sC0
 obtain⟨s,r⟩:=eC0
 obtain⟨d,D,I⟩:=jb (It.getD 0 (.mk 1 2 [] []))
 rw[D]at r
 have h:=ak1 x0 x1 x2 x3 x4 x5 x6 iY i ET sn P F (.sl tC0 9 false) 9 0 0 0 (Tk.of tC0 9 0 1 _ 0 _ (by decide) (by decide) rfl rfl) (Tk.of tC0 9 1 1 _ 0 _ (by decide) (by decide) rfl rfl) (Tk.of tC0 9 2 1 _ 0 _ (by decide) (by decide) rfl rfl) _ rfl rfl rfl _ _ _ _ ⟨rfl,rfl,rfl,I⟩ s r
 refine⟨_,_,u,8,H,rfl,rfl, ?_⟩
 rw[D]
 exact h
theorem cK1(x0 x1 x2 x3 x4 x5 x6 iY i ET:T)(sn:List T)(P:List b8)(F:P.length≤2):nS lC1 (Oh [x0,x1,x2,x3,x4,x5,x6] iY i ET sn P []) (Oh [x0,x1,x2,x3,x4,x5,x6] iY i ET sn P (nR (It.getD 1 (.mk 1 2 [] [])))):=by
 obtain⟨u,H⟩:=sC1
 obtain⟨s,r⟩:=eC1
 obtain⟨d,D,I⟩:=jb (It.getD 1 (.mk 1 2 [] []))
 rw[D]at r
 have h:=ak1 x0 x1 x2 x3 x4 x5 x6 iY i ET sn P F (.sl tC1 6 false) 6 0 0 0 (Tk.of tC1 6 0 1 _ 0 _ (by decide) (by decide) rfl rfl) (Tk.of tC1 6 1 1 _ 0 _ (by decide) (by decide) rfl rfl) (Tk.of tC1 6 2 1 _ 0 _ (by decide) (by decide) rfl rfl) _ rfl rfl rfl _ _ _ _ ⟨rfl,rfl,rfl,I⟩ s r
 refine⟨_,_,u,5,H,rfl,rfl, ?_⟩
 rw[D]
 exact h
theorem cK2(x0 x1 x2 x3 x4 x5 x6 iY i ET:T)(sn:List T)(P:List b8)(F:P.length≤2):nS lC2 (Oh [x0,x1,x2,x3,x4,x5,x6] iY i ET sn P []) (Oh [x0,x1,x2,x3,x4,x5,x6] iY i ET sn P (nR (It.getD 2 (.mk 1 2 [] [])))):=by
 obtain⟨u,H⟩:=sC2
 obtain⟨s,r⟩:=eC2
 obtain⟨d,D,I⟩:=jb (It.getD 2 (.mk 1 2 [] []))
 rw[D]at r
 have h:=ak1 x0 x1 x2 x3 x4 x5 x6 iY i ET sn P F (.sl tC2 8 false) 8 0 0 0 (Tk.of tC2 8 0 1 _ 0 _ (by decide) (by decide) rfl rfl) (Tk.of tC2 8 1 1 _ 0 _ (by decide) (by decide) rfl rfl) (Tk.of tC2 8 2 1 _ 0 _ (by decide) (by decide) rfl rfl) _ rfl rfl rfl _ _ _ _ ⟨rfl,rfl,rfl,I⟩ s r
 refine⟨_,_,u,7,H,rfl,rfl, ?_⟩
 rw[D]
 exact h
theorem hL0(b:Nat→Int)(x0 x1 x2 x3 x4 x5 x6:T):nS ([114,101,112,111,114,116,32]++En (b 0%3)) (nZ [x0,x1,x2,x3,x4,x5,x6] .nilsl [.b false,.b false,.b false,.b false,.b false,.b false,.b false]) (nZ [.i .i64 (rpB (kB b 0)),x1,x2,x3,x4,x5,x6] (.nilsl) [.b true,.b false,.b false,.b false,.b false,.b false,.b false]):=by
 unfold kB
 have:b 0%3=0∨b 0%3=1∨b 0%3=2:=by omega
 rcases this with h|h|h
 ·rw[h];exact aBt x0 x1 x2 x3 x4 x5 x6 (d00 x0 x1 x2 x3 x4 x5 x6)
 ·rw[h];exact aBu x0 x1 x2 x3 x4 x5 x6 (d01 x0 x1 x2 x3 x4 x5 x6)
 ·rw[h];exact aBv x0 x1 x2 x3 x4 x5 x6 (d02 x0 x1 x2 x3 x4 x5 x6)
theorem FM(b:Nat→Int)(x0 x1 x2 x3 x4 x5 x6:T):nS ([114,101,108,101,97,115,101,32]++U7 (b 1%3)) (nZ [x0,x1,x2,x3,x4,x5,x6] .nilsl [.b true,.b false,.b false,.b false,.b false,.b false,.b false]) (nZ [x0,.i .i64 (rlB (kB b 1)),x2,x3,x4,x5,x6] (.nilsl) [.b true,.b true,.b false,.b false,.b false,.b false,.b false]):=by
 unfold kB
 have:b 1%3=0∨b 1%3=1∨b 1%3=2:=by omega
 rcases this with h|h|h
 ·rw[h];exact aBw x0 x1 x2 x3 x4 x5 x6 (d10 x0 x1 x2 x3 x4 x5 x6)
 ·rw[h];exact aBx x0 x1 x2 x3 x4 x5 x6 (d11 x0 x1 x2 x3 x4 x5 x6)
 ·rw[h];exact aBy x0 x1 x2 x3 x4 x5 x6 (d12 x0 x1 x2 x3 x4 x5 x6)
theorem ZU(b:Nat→Int)(x0 x1 x2 x3 x4 x5 x6:T):nS ([99,111,110,110,101,99,116,32]++MA (b 2%3)) (nZ [x0,x1,x2,x3,x4,x5,x6] .nilsl [.b true,.b true,.b false,.b false,.b false,.b false,.b false]) (nZ [x0,x1,.i .i64 (NT (kB b 2)),x3,x4,x5,x6] (.nilsl) [.b true,.b true,.b true,.b false,.b false,.b false,.b false]):=by
 unfold kB
 have:b 2%3=0∨b 2%3=1∨b 2%3=2:=by omega
 rcases this with h|h|h
 ·rw[h];exact aBz x0 x1 x2 x3 x4 x5 x6 (d20 x0 x1 x2 x3 x4 x5 x6)
 ·rw[h];exact aBA x0 x1 x2 x3 x4 x5 x6 (d21 x0 x1 x2 x3 x4 x5 x6)
 ·rw[h];exact aBB x0 x1 x2 x3 x4 x5 x6 (d22 x0 x1 x2 x3 x4 x5 x6)
theorem hL3(b:Nat→Int)(x0 x1 x2 x3 x4 x5 x6:T):nS ([115,105,116,32]++Ti (b 3%3)) (nZ [x0,x1,x2,x3,x4,x5,x6] .nilsl [.b true,.b true,.b true,.b false,.b false,.b false,.b false]) (nZ [x0,x1,x2,.i .i64 (FI (kB b 3)),x4,x5,x6] (.nilsl) [.b true,.b true,.b true,.b true,.b false,.b false,.b false]):=by
 unfold kB
 have:b 3%3=0∨b 3%3=1∨b 3%3=2:=by omega
 rcases this with h|h|h
 ·rw[h];exact aBC x0 x1 x2 x3 x4 x5 x6 (d30 x0 x1 x2 x3 x4 x5 x6)
 ·rw[h];exact aBD x0 x1 x2 x3 x4 x5 x6 (d31 x0 x1 x2 x3 x4 x5 x6)
 ·rw[h];exact aBE x0 x1 x2 x3 x4 x5 x6 (d32 x0 x1 x2 x3 x4 x5 x6)
theorem hL4(b:Nat→Int)(x0 x1 x2 x3 x4 x5 x6:T):nS ([108,97,121,111,118,101,114,32]++hv4 (b 4%3)) (nZ [x0,x1,x2,x3,x4,x5,x6] .nilsl [.b true,.b true,.b true,.b true,.b false,.b false,.b false]) (nZ [x0,x1,x2,x3,.i .i64 (lyB (kB b 4)),x5,x6] (.nilsl) [.b true,.b true,.b true,.b true,.b true,.b false,.b false]):=by
 unfold kB
 have:b 4%3=0∨b 4%3=1∨b 4%3=2:=by omega
 rcases this with h|h|h
 ·rw[h];exact aBF x0 x1 x2 x3 x4 x5 x6 (d40 x0 x1 x2 x3 x4 x5 x6)
 ·rw[h];exact aBG x0 x1 x2 x3 x4 x5 x6 (d41 x0 x1 x2 x3 x4 x5 x6)
 ·rw[h];exact aBH x0 x1 x2 x3 x4 x5 x6 (d42 x0 x1 x2 x3 x4 x5 x6)
theorem hL5(b:Nat→Int)(x0 x1 x2 x3 x4 x5 x6:T):nS ([110,105,103,104,116,32]++SS (b 5%3)) (nZ [x0,x1,x2,x3,x4,x5,x6] .nilsl [.b true,.b true,.b true,.b true,.b true,.b false,.b false]) (nZ [x0,x1,x2,x3,x4,.i .i64 (nfB (kB b 5)),.i .i64 (ntB (kB b 5))] (.nilsl) [.b true,.b true,.b true,.b true,.b true,.b false,.b true]):=by
 unfold kB
 have:b 5%3=0∨b 5%3=1∨b 5%3=2:=by omega
 rcases this with h|h|h
 ·rw[h];exact aBI x0 x1 x2 x3 x4 x5 x6 (d50 x0 x1 x2 x3 x4 x5 x6)
 ·rw[h];exact aBJ x0 x1 x2 x3 x4 x5 x6 (d51 x0 x1 x2 x3 x4 x5 x6)
 ·rw[h];exact aBK x0 x1 x2 x3 x4 x5 x6 (d52 x0 x1 x2 x3 x4 x5 x6)
theorem hL6(b:Nat→Int)(x0 x1 x2 x3 x4 x5 x6:T):nS ([99,111,110,115,116,32,115,104,105,102,116,115,32,105,115,32]++Tz (b 6%3)) (nZ [x0,x1,x2,x3,x4,x5,x6] .nilsl [.b true,.b true,.b true,.b true,.b true,.b false,.b true]) (nZ [x0,x1,x2,x3,x4,x5,x6] (.sl (.s CT::nR (Bh (kB b 6))) 1 false) [.b true,.b true,.b true,.b true,.b true,.b false,.b true]):=by
 unfold kB
 have:b 6%3=0∨b 6%3=1∨b 6%3=2:=by omega
 rcases this with h|h|h
 ·rw[h];exact aBL x0 x1 x2 x3 x4 x5 x6 (d60 x0 x1 x2 x3 x4 x5 x6)
 ·rw[h];exact aBM x0 x1 x2 x3 x4 x5 x6 (d61 x0 x1 x2 x3 x4 x5 x6)
 ·rw[h];exact aBN x0 x1 x2 x3 x4 x5 x6 (d62 x0 x1 x2 x3 x4 x5 x6)
def hdT(b:Nat→Int):List T:= [.i .i64 (rpB (kB b 0)),.i .i64 (rlB (kB b 1)),.i .i64 (NT (kB b 2)),.i .i64 (FI (kB b 3)),.i .i64 (lyB (kB b 4)),.i .i64 (nfB (kB b 5)),.i .i64 (ntB (kB b 5))]
def TE(b:Nat→Int):T:= .sl (.s CT::nR (Bh (kB b 6))) 1 false
def snU:List T:= [.b true,.b true,.b true,.b true,.b true,.b false,.b true]
theorem ak4(b:Nat→Int):zV (Z7 b) kS0 (nZ (hdT b) (TE b) snU):=by
 unfold Z7 kS0
 exact⟨_,hL0 b ..,_,FM b ..,_,ZU b ..,_,hL3 b ..,_,hL4 b ..,_,hL5 b ..,_,hL6 b ..,rfl⟩
theorem aBW(x0 x1 x2 x3 x4 x5 x6 iY:T)(sn:List T): ∀(i:Nat) (hi:i<18) (n:Nat) (D:n≤100) (cs:List T) (r:cs.length=n*6),nS (zP[i]'hi) (rh [x0,x1,x2,x3,x4,x5,x6] iY sn n cs) (rh [x0,x1,x2,x3,x4,x5,x6] iY sn (n+1) (cs++pF (lQ[i]'hi)))
 |0,_,n,D,cs,r=>rK0 x0 x1 x2 x3 x4 x5 x6 iY sn n D cs r
 |1,_,n,D,cs,r=>rK1 x0 x1 x2 x3 x4 x5 x6 iY sn n D cs r
 |2,_,n,D,cs,r=>rK2 x0 x1 x2 x3 x4 x5 x6 iY sn n D cs r
 |3,_,n,D,cs,r=>rK3 x0 x1 x2 x3 x4 x5 x6 iY sn n D cs r
 |4,_,n,D,cs,r=>rK4 x0 x1 x2 x3 x4 x5 x6 iY sn n D cs r
 |5,_,n,D,cs,r=>rK5 x0 x1 x2 x3 x4 x5 x6 iY sn n D cs r
 |6,_,n,D,cs,r=>rK6 x0 x1 x2 x3 x4 x5 x6 iY sn n D cs r
 |7,_,n,D,cs,r=>rK7 x0 x1 x2 x3 x4 x5 x6 iY sn n D cs r
 |8,_,n,D,cs,r=>rK8 x0 x1 x2 x3 x4 x5 x6 iY sn n D cs r
 |9,_,n,D,cs,r=>rK9 x0 x1 x2 x3 x4 x5 x6 iY sn n D cs r
 |10,_,n,D,cs,r=>aBO x0 x1 x2 x3 x4 x5 x6 iY sn n D cs r
 |11,_,n,D,cs,r=>aBP x0 x1 x2 x3 x4 x5 x6 iY sn n D cs r
 |12,_,n,D,cs,r=>aBQ x0 x1 x2 x3 x4 x5 x6 iY sn n D cs r
 |13,_,n,D,cs,r=>aBR x0 x1 x2 x3 x4 x5 x6 iY sn n D cs r
 |14,_,n,D,cs,r=>aBS x0 x1 x2 x3 x4 x5 x6 iY sn n D cs r
 |15,_,n,D,cs,r=>aBT x0 x1 x2 x3 x4 x5 x6 iY sn n D cs r
 |16,_,n,D,cs,r=>aBU x0 x1 x2 x3 x4 x5 x6 iY sn n D cs r
 |17,_,n,D,cs,r=>aBV x0 x1 x2 x3 x4 x5 x6 iY sn n D cs r
 |i+18,hi,_,_,_,_=>absurd hi (by omega)
theorem aBX(x0 x1 x2 x3 x4 x5 x6 iY F:T)(sn:List T)(P:List b8)(H:P.length≤1): ∀(i:Nat) (hi:i<10) (n:Nat) (D:n≤100) (cs:List T) (r:cs.length=n*5),nS (zQ[i]'hi) (xX [x0,x1,x2,x3,x4,x5,x6] iY F sn P n cs) (xX [x0,x1,x2,x3,x4,x5,x6] iY F sn P (n+1) (cs++vD (n6[i]'hi)))
 |0,_,n,D,cs,r=>kK0 x0 x1 x2 x3 x4 x5 x6 iY F sn P H n D cs r
 |1,_,n,D,cs,r=>kK1 x0 x1 x2 x3 x4 x5 x6 iY F sn P H n D cs r
 |2,_,n,D,cs,r=>kK2 x0 x1 x2 x3 x4 x5 x6 iY F sn P H n D cs r
 |3,_,n,D,cs,r=>kK3 x0 x1 x2 x3 x4 x5 x6 iY F sn P H n D cs r
 |4,_,n,D,cs,r=>kK4 x0 x1 x2 x3 x4 x5 x6 iY F sn P H n D cs r
 |5,_,n,D,cs,r=>kK5 x0 x1 x2 x3 x4 x5 x6 iY F sn P H n D cs r
 |6,_,n,D,cs,r=>kK6 x0 x1 x2 x3 x4 x5 x6 iY F sn P H n D cs r
 |7,_,n,D,cs,r=>kK7 x0 x1 x2 x3 x4 x5 x6 iY F sn P H n D cs r
 |8,_,n,D,cs,r=>kK8 x0 x1 x2 x3 x4 x5 x6 iY F sn P H n D cs r
 |9,_,n,D,cs,r=>kK9 x0 x1 x2 x3 x4 x5 x6 iY F sn P H n D cs r
 |i+10,hi,_,_,_,_=>absurd hi (by omega)
theorem Oi{α:Type}(L:List (List Nat))(X:List α)(f:α→List T)(sz:Nat)(St:Nat→List T→List b8)(r: ∀x,(f x).length=sz)(D:L.length=X.length)(F:X.length≤50)
  (IY: ∀(i:Nat) (H:i<L.length) (I:i<X.length) (n:Nat),n≤100→ ∀cs:List T,cs.length=n*sz→nS L[i] (St n cs) (St (n+1) (cs++f X[i]))) (p:Nat→Bool): ∀k,k≤L.length→zV (jE p 0 (L.take k)) (St 0 []) (St (jE p 0 (X.take k)).length ((jE p 0 (X.take k)).flatMap f))
 |0,_=>by simp[jE,zV]
 |k+1,hk=>by
  have ih:=Oi L X f sz St r D F IY p k (by omega)
  rw[wg p L k (by omega),wg p X k (by omega)]
  have J:(jE p 0 (X.take k)).length≤k:=by
   have:=(lG p 0 (X.take k)).length_le
   rw[List.length_take]at this
   omega
  refine vz ih ?_
  by_cases h:p k=true
  ·rw[if_pos h,if_pos h,List.length_append,List.length_singleton,List.flatMap_append,List.flatMap_cons,List.flatMap_nil,List.append_nil]
   exact⟨_,IY k (by omega) (by omega) _ (by omega) _ (pO r _),rfl⟩
  ·rw[if_neg h,if_neg h,List.append_nil]
   exact rfl
theorem zW(x:Ex):(nR x).length=4:=by obtain⟨d,e,_⟩:=jb x;rw[e];rfl
def CX(n:Nat)(cs:List T):List b8:=if n=0 then []else [⟨n,.cells cs 0 false⟩]
def slR(n:Nat):T:=if n=0 then .nilsl else .isl .S 2 n 0 n 6
def slK(k n:Nat):T:=if n=0 then .nilsl else .isl .S k n 0 n 5
theorem adP(i:List T)(iY:T)(sn:List T)(n:Nat)(cs:List T):rh i iY sn n cs=xX i iY (slR n) sn (CX n cs) 0 []:=by
 unfold rh xX slR CX
 simp
theorem adQ(i:List T)(iY r:T)(sn:List T)(P:List b8)(n:Nat)(cs:List T):xX i iY r sn P n cs=Oh i iY r (slK (2+P.length) n) sn (P++CX n cs) []:=by
 unfold xX Oh slK CX
 simp
theorem adR(i:List T)(iY:T)(sn:List T):nZ i iY sn=rh i iY sn 0 []:=by
 unfold nZ rh
 simp
def auP(b:Nat→Int):List b8:=
 Oh (hdT b) (TE b) (slR (rU b).ru.length) (slK (2+(CX (rU b).ru.length ((rU b).ru.flatMap pF)).length) (rU b).co.length) snU (CX (rU b).ru.length ((rU b).ru.flatMap pF)++CX (rU b).co.length ((rU b).co.flatMap vD)) ((rU b).cr.flatMap nR)
theorem ak6(b:Nat→Int):zV (SU b) kS0 (auP b):=by
 unfold SU
 have I:=ak4 b
 have F:=Oi zP lQ pF 6 (rh (hdT b) (TE b) snU) (fun u=>by unfold pF;rw[List.length_cons,List.length_cons,zW]) rfl (by decide) (fun i F _ n H cs r=>aBW _ _ _ _ _ _ _ _ _ i F n H cs r) (CU b) 18 (by decide)
 have K:zP.take 18=zP:=rfl
 have N:lQ.take 18=lQ:=rfl
 rw[K,N,adP _ _ _ (jE (CU b) 0 lQ).length]at F
 rw[adR]at I
 have O:(CX (jE (CU b) 0 lQ).length ((jE (CU b) 0 lQ).flatMap pF)).length≤1:=by unfold CX;split <;> simp
 have J:=Oi zQ n6 vD 5 (xX (hdT b) (TE b) (slR (jE (CU b) 0 lQ).length) snU (CX (jE (CU b) 0 lQ).length ((jE (CU b) 0 lQ).flatMap pF))) (fun u=>by unfold vD;rw[List.length_cons,zW]) rfl (by decide) (fun i F _ n H cs r=>aBX _ _ _ _ _ _ _ _ _ _ _ O i F n H cs r) (Iw b) 10 (by decide)
 have U:zQ.take 10=zQ:=rfl
 have V:n6.take 10=n6:=rfl
 rw[U,V,adQ _ _ _ _ _ (jE (Iw b) 0 n6).length]at J
 refine vz (vz (vz I F) J) ?_
 have D:(CX (jE (CU b) 0 lQ).length ((jE (CU b) 0 lQ).flatMap pF)++CX (jE (Iw b) 0 n6).length ((jE (Iw b) 0 n6).flatMap vD)).length≤2:=by
  have:(CX (jE (Iw b) 0 n6).length ((jE (Iw b) 0 n6).flatMap vD)).length≤1:=by unfold CX;split <;> simp
  rw[List.length_append];omega
 show zV (crD b) _ (Oh (hdT b) (TE b) (slR (jE (CU b) 0 lQ).length) (slK (2+(CX (jE (CU b) 0 lQ).length ((jE (CU b) 0 lQ).flatMap pF)).length) (jE (Iw b) 0 n6).length) snU (CX (jE (CU b) 0 lQ).length ((jE (CU b) 0 lQ).flatMap pF)++CX (jE (Iw b) 0 n6).length ((jE (Iw b) 0 n6).flatMap vD)) ((NU b).flatMap nR))
 unfold crD NU
 by_cases h:b 41%4<3
 ·rw[if_pos h,if_pos h,List.flatMap_cons,List.flatMap_nil,List.append_nil]
  refine⟨_, ?_,rfl⟩
  have:b 41%4=0∨b 41%4=1∨b 41%4=2:=by omega
  rcases this with h|h|h
  ·rw[h];exact cK0 _ _ _ _ _ _ _ _ _ _ _ _ D
  ·rw[h];exact cK1 _ _ _ _ _ _ _ _ _ _ _ _ D
  ·rw[h];exact cK2 _ _ _ _ _ _ _ _ _ _ _ _ D
 ·rw[if_neg h,if_neg h]
  exact rfl
def LR(n:Nat)(cs:List T):T:=if n=0 then .nilsl else .sl cs n false
theorem ak7(x0 x1 x2 x3 x4 x5 x6 iY:T)(sn:List T)(hx:froz1 x0=true∧froz1 x1=true∧froz1 x2=true∧froz1 x3=true∧froz1 x4=true∧froz1 x5=true∧froz1 x6=true∧froz1 iY=true)(n m:Nat)(rs ks cr:List T)(hr:rs.length=n*6)(hk:ks.length=m*5)(hc:cr= []∨cr.length=4)(q:Nat)(lh:iq b8):
  ∃us,xx q lh (Oh [x0,x1,x2,x3,x4,x5,x6] iY (slR n) (slK (2+(CX n rs).length) m) sn (CX n rs++CX m ks) cr) false [x0,x1,x2,x3,x4,x5,x6,iY,slR n,slK (2+(CX n rs).length) m,if cr= []then .nilsl else .isl .S (2+(CX n rs++CX m ks).length) 1 0 1 4,.nilsl,.nilsl,.i .i64 0]=some ([x0,x1,x2,x3,x4,x5,x6,iY,LR n rs,LR m ks,LR (if cr= []then 0 else 1) cr,.nilsl,.nilsl,.i .i64 0],us):=by
 obtain⟨J,K,N,O,U,V,W,X⟩:=hx
 unfold Oh slR slK CX LR
 have F:cr≠ []→cr.length=1*4:=fun h=>by rw[hc.resolve_left h]
 have Y:=fun C D t=>EJ (m:=q) (lh:=lh) (s:=C::D::⟨n,.cells rs 0 false⟩::t) (k:=2) rfl hr
 have eK2:=fun C D t=>EJ (m:=q) (lh:=lh) (s:=C::D::⟨m,.cells ks 0 false⟩::t) (k:=2) rfl hk
 have eK3:=fun C D r t=>EJ (m:=q) (lh:=lh) (s:=C::D::r::⟨m,.cells ks 0 false⟩::t) (k:=3) rfl hk
 have eC2:=fun h C D t=>EJ (m:=q) (lh:=lh) (s:=C::D::⟨1,.cells cr 0 false⟩::t) (k:=2) rfl (F h)
 have H:=fun h C D r t=>EJ (m:=q) (lh:=lh) (s:=C::D::r::⟨1,.cells cr 0 false⟩::t) (k:=3) rfl (F h)
 have I:=fun h C D r Z t=>EJ (m:=q) (lh:=lh) (s:=C::D::r::Z::⟨1,.cells cr 0 false⟩::t) (k:=4) rfl (F h)
 have n1: ¬(1:Nat)=0:=by decide
 by_cases hn:n=0 <;> by_cases hm:m=0 <;> by_cases Rp:cr= []
 all_goals
  simp only[qA,hn,hm,Rp,n1,J,K,N,O,U,V,W,X,Y,eK2,eK3,eC2,H,I,List.length_append]
  exact⟨_,rfl⟩
def uj(l:List Nat):Bool:=decide (l.length≤100)&&l.all fun c=>decide (32≤c)&&decide (c≤126)
theorem xR{r:Int}(P:Int→Prop)(i:P 0)(D:P 1)(F:P 2)(n:Int)(h:r=n%3):P r:=by
 have:r=0∨r=1∨r=2:=by omega
 rcases this with rfl|rfl|rfl <;> assumption
theorem lo0(n:Int):uj ([114,101,112,111,114,116,32]++En (n%3))=true:=xR (fun r=>uj ([114,101,112,111,114,116,32]++En r)=true) (by decide) (by decide) (by decide) n rfl
theorem lo1(n:Int):uj ([114,101,108,101,97,115,101,32]++U7 (n%3))=true:=xR (fun r=>uj ([114,101,108,101,97,115,101,32]++U7 r)=true) (by decide) (by decide) (by decide) n rfl
theorem lo2(n:Int):uj ([99,111,110,110,101,99,116,32]++MA (n%3))=true:=xR (fun r=>uj ([99,111,110,110,101,99,116,32]++MA r)=true) (by decide) (by decide) (by decide) n rfl
theorem lo3(n:Int):uj ([115,105,116,32]++Ti (n%3))=true:=xR (fun r=>uj ([115,105,116,32]++Ti r)=true) (by decide) (by decide) (by decide) n rfl
theorem lo4(n:Int):uj ([108,97,121,111,118,101,114,32]++hv4 (n%3))=true:=xR (fun r=>uj ([108,97,121,111,118,101,114,32]++hv4 r)=true) (by decide) (by decide) (by decide) n rfl
theorem lo5(n:Int):uj ([110,105,103,104,116,32]++SS (n%3))=true:=xR (fun r=>uj ([110,105,103,104,116,32]++SS r)=true) (by decide) (by decide) (by decide) n rfl
theorem lo6(n:Int):uj ([99,111,110,115,116,32,115,104,105,102,116,115,32,105,115,32]++Tz (n%3))=true:=xR (fun r=>uj ([99,111,110,115,116,32,115,104,105,102,116,115,32,105,115,32]++Tz r)=true) (by decide) (by decide) (by decide) n rfl
theorem ak8(b:Nat→Int): ∀l∈SU b,uj l=true:=by
 have hr:zP.all uj=true:=by decide+kernel
 have hk:zQ.all uj=true:=by decide+kernel
 have hc:Mr.all uj=true:=by decide+kernel
 intro l hl
 unfold SU at hl
 rcases List.mem_append.1 hl with hl|hl
 ·rcases List.mem_append.1 hl with hl|hl
  ·rcases List.mem_append.1 hl with hl|hl
   ·unfold Z7 at hl
    simp only[List.mem_cons,List.not_mem_nil,or_false]at hl
    rcases hl with rfl|rfl|rfl|rfl|rfl|rfl|rfl
    ·exact lo0 _
    ·exact lo1 _
    ·exact lo2 _
    ·exact lo3 _
    ·exact lo4 _
    ·exact lo5 _
    ·exact lo6 _
   ·exact List.all_eq_true.1 hr l ((lG _ _ _).subset hl)
  ·exact List.all_eq_true.1 hk l ((lG _ _ _).subset hl)
 ·unfold crD at hl
  split at hl
  ·rename_i h
   rw[List.mem_singleton]at hl
   subst hl
   have i:(b 41%4).toNat<Mr.length:=by show(b 41%4).toNat<3;omega
   rw[List.getD_eq_getElem?_getD,List.getElem?_eq_getElem i]
   exact List.all_eq_true.1 hc _ (List.getElem_mem i)
  ·simp at hl
theorem Qq(b:Nat→Int):(SU b).length≤100:=by
 unfold SU crD
 have i:=(lG (CU b) 0 zP).length_le
 have r:=(lG (Iw b) 0 zQ).length_le
 have D:zP.length=18:=rfl
 have F:zQ.length=10:=rfl
 have H:(Z7 b).length=7:=rfl
 simp only[List.length_append]
 split <;> simp <;> omega
theorem ak9(b:Nat→Int):YO (qg (SU b))∧ ∀l∈SU b,10∉l:=adv (SU b) (fun l i=>by
 have h:=ak8 b l i
 unfold uj at h
 simp only[Bool.and_eq_true,decide_eq_true_eq,List.all_eq_true]at h
 exact h) (Qq b)
theorem IF{n:Nat}{cs:List T}(h:n=0→cs= []):IsSl (LR n cs) n cs:=mV h
theorem LS: ∀l:List Ex,ku l (l.flatMap nR)
 | []=>by rw[ku];rfl
 |x::l=>by rw[ku];exact⟨_,_,rfl,Bm x,LS l⟩
theorem agx(b:Nat→Int):tp (rU b) (TE b) (LR (rU b).ru.length ((rU b).ru.flatMap pF)) (LR (rU b).co.length ((rU b).co.flatMap vD)) (LR (rU b).cr.length ((rU b).cr.flatMap nR)) .nilsl .nilsl:=by
 refine⟨?_, ?_, ?_, ?_, ?_, ?_⟩
 ·refine⟨.s CT::nR (Bh (kB b 6)),.inr ⟨_,rfl⟩, ?_⟩
  show mh [(CT,Bh (kB b 6))] _
  rw[mh]
  exact⟨nR (Bh (kB b 6)),[],by simp,Bm _,by rw[mh]⟩
 ·exact⟨_,IF fun h=>by rw[List.length_eq_zero_iff.1 h];rfl,LP _⟩
 ·exact⟨_,IF fun h=>by rw[List.length_eq_zero_iff.1 h];rfl,LQ _⟩
 ·exact⟨_,IF fun h=>by rw[List.length_eq_zero_iff.1 h];rfl,LS _⟩
 ·exact⟨[],.inl ⟨rfl,rfl,rfl⟩,rfl⟩
 ·exact⟨[],.inl ⟨rfl,rfl,rfl⟩,rfl⟩
theorem ala(b:Nat→Int):m5 (rU b)=0:=by
 have h:=aj9 b
 unfold mK at h
 by_cases i:m5 (rU b)=0
 ·exact i
 ·rw[if_pos i]at h;exact h
mutual
def smB:Ex→Bool
 | .mk _ _ s a=>decide (s.length≤100)&&adS a
def adS:List Ex→Bool
 | []=>true
 |x::r=>smB x&&adS r
end
mutual
theorem E0: ∀x:Ex,smB x=true→x.sm
 | .mk _ _ s a,h=>by
   rw[smB,Bool.and_eq_true,decide_eq_true_eq]at h
   rw[Ex.sm]
   exact⟨acD (by omega),Qr a h.2⟩
theorem Qr: ∀l:List Ex,adS l=true→Yw l
 | [],_=>by rw[Yw];trivial
 |x::r,h=>by
  rw[adS,Bool.and_eq_true]at h
  rw[Yw]
  exact⟨E0 x h.1,Qr r h.2⟩
end
theorem Y6(k:Nat→Nat)(hk: ∀i,k i≤2)(D:List Ru)(F:List Co)(cr:List Ex)(H:D.Sublist lQ)(I:F.Sublist n6)(J: ∀x∈cr,x∈It):Nv (Ag k D F cr):=by
 have K:(lQ.all fun u=>smB u.x)=true:=by decide+kernel
 have N:(n6.all fun u=>smB u.x)=true:=by decide+kernel
 have O:(It.all smB)=true:=by decide+kernel
 have U: ∀j,j≤2→smB (Bh j)=true:=fun j V=>three (fun j=>smB (Bh j)=true) (by decide+kernel) (by decide+kernel) (by decide+kernel) V
 refine⟨fun c hc=> ?_,fun u r=>⟨Nat.zero_le _,E0 _ (List.all_eq_true.1 K u (H.subset r))⟩,fun u r=>⟨Nat.zero_le _,E0 _ (List.all_eq_true.1 N u (I.subset r))⟩,fun x hx=>⟨Nat.zero_le _,E0 _ (List.all_eq_true.1 O x (J x hx))⟩⟩
 have hc:c=(CT,Bh (k 6)):=List.mem_singleton.1 hc
 subst hc
 exact⟨Nat.zero_le _,E0 _ (U _ (hk 6))⟩
end Go.Proofs.YtcpceiclnbmgiaaGreat
