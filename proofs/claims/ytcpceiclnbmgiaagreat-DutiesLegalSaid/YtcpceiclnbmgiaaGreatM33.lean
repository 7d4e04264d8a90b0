/- Walks of functions of the program and of the reference, and their plain laws, part 33. Conditions: the theorems' own. -/
import Derived.Test.YtcpceiclnbmgiaaGreatM32
import Derived.Test.YtcpceiclnbmgiaaGreatM24
import Derived.Test.YtcpceiclnbmgiaaGreatM25
import Derived.Test.YtcpceiclnbmgiaaGreatM26
import Derived.Test.YtcpceiclnbmgiaaGreatM27
import Derived.Test.YtcpceiclnbmgiaaGreatM28
import Derived.Test.YtcpceiclnbmgiaaGreatM29
import Derived.Test.YtcpceiclnbmgiaaGreatM30
import Derived.Test.YtcpceiclnbmgiaaGreatM31
import Derived.KernelRfl
set_option maxRecDepth 1000000
set_option linter.unusedSimpArgs false
set_option linter.unusedVariables false
set_option maxRecDepth 100000
set_option maxHeartbeats 16000000
namespace Go.Proofs.YtcpceiclnbmgiaaGreat
open Go Go.Ev
theorem aA1(x0 x1 x2 x3 x4 x5 x6:T){s r:List b8}(h:be pE 79 [.ptr .S 0 1 0,.ptr .S 1 1 0,.sl ajR 2 false] s=some (.i .i64 0,r)):nM atL s r:=by
 obtain⟨u,D⟩:=aAo
 exact⟨_,_,u,1,D,rfl,rfl,h⟩
theorem aA2(x0 x1 x2 x3 x4 x5 x6:T){s r:List b8}(h:be pE 79 [.ptr .S 0 1 0,.ptr .S 1 1 0,.sl ajS 2 false] s=some (.i .i64 0,r)):nM atM s r:=by
 obtain⟨u,D⟩:=aAU
 exact⟨_,_,u,1,D,rfl,rfl,h⟩
theorem aA3(x0 x1 x2 x3 x4 x5 x6:T){s r:List b8}(h:be pE 79 [.ptr .S 0 1 0,.ptr .S 1 1 0,.sl ajT 2 false] s=some (.i .i64 0,r)):nM atN s r:=by
 obtain⟨u,D⟩:=aAh
 exact⟨_,_,u,1,D,rfl,rfl,h⟩
theorem aA4(x0 x1 x2 x3 x4 x5 x6:T){s r:List b8}(h:be pE 79 [.ptr .S 0 1 0,.ptr .S 1 1 0,.sl ajU 2 false] s=some (.i .i64 0,r)):nM atO s r:=by
 obtain⟨u,D⟩:=aAw
 exact⟨_,_,u,1,D,rfl,rfl,h⟩
theorem aA5(x0 x1 x2 x3 x4 x5 x6:T){s r:List b8}(h:be pE 79 [.ptr .S 0 1 0,.ptr .S 1 1 0,.sl ajV 2 false] s=some (.i .i64 0,r)):nM atP s r:=by
 obtain⟨u,D⟩:=aAG
 exact⟨_,_,u,1,D,rfl,rfl,h⟩
theorem aA6(x0 x1 x2 x3 x4 x5 x6:T){s r:List b8}(h:be pE 79 [.ptr .S 0 1 0,.ptr .S 1 1 0,.sl ajW 2 false] s=some (.i .i64 0,r)):nM atQ s r:=by
 obtain⟨u,D⟩:=aAr
 exact⟨_,_,u,1,D,rfl,rfl,h⟩
theorem aA7(x0 x1 x2 x3 x4 x5 x6:T){s r:List b8}(h:be pE 79 [.ptr .S 0 1 0,.ptr .S 1 1 0,.sl ajX 2 false] s=some (.i .i64 0,r)):nM atS s r:=by
 obtain⟨u,D⟩:=aAA
 exact⟨_,_,u,1,D,rfl,rfl,h⟩
theorem aA8(x0 x1 x2 x3 x4 x5 x6:T){s r:List b8}(h:be pE 79 [.ptr .S 0 1 0,.ptr .S 1 1 0,.sl ajY 2 false] s=some (.i .i64 0,r)):nM atU s r:=by
 obtain⟨u,D⟩:=aAn
 exact⟨_,_,u,1,D,rfl,rfl,h⟩
theorem aA9(x0 x1 x2 x3 x4 x5 x6:T){s r:List b8}(h:be pE 79 [.ptr .S 0 1 0,.ptr .S 1 1 0,.sl ajZ 2 false] s=some (.i .i64 0,r)):nM atX s r:=by
 obtain⟨u,D⟩:=aAT
 exact⟨_,_,u,1,D,rfl,rfl,h⟩
theorem aBa(x0 x1 x2 x3 x4 x5 x6:T){s r:List b8}(h:be pE 79 [.ptr .S 0 1 0,.ptr .S 1 1 0,.sl aj0 2 false] s=some (.i .i64 0,r)):nM atY s r:=by
 obtain⟨u,D⟩:=aAs
 exact⟨_,_,u,1,D,rfl,rfl,h⟩
theorem aBb(x0 x1 x2 x3 x4 x5 x6:T){s r:List b8}(h:be pE 79 [.ptr .S 0 1 0,.ptr .S 1 1 0,.sl aj1 2 false] s=some (.i .i64 0,r)):nM atZ s r:=by
 obtain⟨u,D⟩:=aAY
 exact⟨_,_,u,1,D,rfl,rfl,h⟩
theorem aBc(x0 x1 x2 x3 x4 x5 x6:T){s r:List b8}(h:be pE 79 [.ptr .S 0 1 0,.ptr .S 1 1 0,.sl aj2 2 false] s=some (.i .i64 0,r)):nM at0 s r:=by
 obtain⟨u,D⟩:=aAB
 exact⟨_,_,u,1,D,rfl,rfl,h⟩
theorem aBd(x0 x1 x2 x3 x4 x5 x6:T){s r:List b8}(h:be pE 79 [.ptr .S 0 1 0,.ptr .S 1 1 0,.sl aj3 2 false] s=some (.i .i64 0,r)):nM at1 s r:=by
 obtain⟨u,D⟩:=aAm
 exact⟨_,_,u,1,D,rfl,rfl,h⟩
theorem aBe(x0 x1 x2 x3 x4 x5 x6:T){s r:List b8}(h:be pE 79 [.ptr .S 0 1 0,.ptr .S 1 1 0,.sl aj4 2 false] s=some (.i .i64 0,r)):nM at2 s r:=by
 obtain⟨u,D⟩:=aAS
 exact⟨_,_,u,1,D,rfl,rfl,h⟩
theorem aBf(x0 x1 x2 x3 x4 x5 x6:T){s r:List b8}(h:be pE 79 [.ptr .S 0 1 0,.ptr .S 1 1 0,.sl aj5 2 false] s=some (.i .i64 0,r)):nM at5 s r:=by
 obtain⟨u,D⟩:=aAX
 exact⟨_,_,u,1,D,rfl,rfl,h⟩
theorem aBg(x0 x1 x2 x3 x4 x5 x6:T){s r:List b8}(h:be pE 79 [.ptr .S 0 1 0,.ptr .S 1 1 0,.sl aj6 4 false] s=some (.i .i64 0,r)):nM at6 s r:=by
 obtain⟨u,D⟩:=aAk
 exact⟨_,_,u,3,D,rfl,rfl,h⟩
theorem aBh(x0 x1 x2 x3 x4 x5 x6:T){s r:List b8}(h:be pE 79 [.ptr .S 0 1 0,.ptr .S 1 1 0,.sl aj7 4 false] s=some (.i .i64 0,r)):nM at7 s r:=by
 obtain⟨u,D⟩:=aAQ
 exact⟨_,_,u,3,D,rfl,rfl,h⟩
theorem aBi(x0 x1 x2 x3 x4 x5 x6:T){s r:List b8}(h:be pE 79 [.ptr .S 0 1 0,.ptr .S 1 1 0,.sl aj8 4 false] s=some (.i .i64 0,r)):nM at8 s r:=by
 obtain⟨u,D⟩:=aAW
 exact⟨_,_,u,3,D,rfl,rfl,h⟩
theorem aBj(x0 x1 x2 x3 x4 x5 x6:T){s r:List b8}(h:be pE 79 [.ptr .S 0 1 0,.ptr .S 1 1 0,.sl aj9 4 false] s=some (.i .i64 0,r)):nM at9 s r:=by
 obtain⟨u,D⟩:=aAF
 exact⟨_,_,u,3,D,rfl,rfl,h⟩
theorem aBk(x0 x1 x2 x3 x4 x5 x6:T){s r:List b8}(h:be pE 79 [.ptr .S 0 1 0,.ptr .S 1 1 0,.sl aka 6 false] s=some (.i .i64 0,r)):nM aua s r:=by
 obtain⟨u,D⟩:=aAD
 exact⟨_,_,u,5,D,rfl,rfl,h⟩
theorem aBl(x0 x1 x2 x3 x4 x5 x6:T){s r:List b8}(h:be pE 79 [.ptr .S 0 1 0,.ptr .S 1 1 0,.sl akb 7 false] s=some (.i .i64 0,r)):nM aub s r:=by
 obtain⟨u,D⟩:=aAy
 exact⟨_,_,u,6,D,rfl,rfl,h⟩
theorem rK0(x0 x1 x2 x3 x4 x5 x6 iY:T)(sn:List T)(n:Nat)(F:n≤100)(cs:List T)(i:cs.length=n*6):nM lR0 (qX [x0,x1,x2,x3,x4,x5,x6] iY sn n cs) (qX [x0,x1,x2,x3,x4,x5,x6] iY sn (n+1) (cs++px (l0.getD 0 ⟨0,[],.mk 1 2 [] []⟩))):=by
 obtain⟨u,H⟩:=sR0
 obtain⟨s,r⟩:=eR0
 obtain⟨d,D,I⟩:=jb (l0.getD 0 ⟨0,[],.mk 1 2 [] []⟩).x
 rw[D]at r
 have h:=ux x0 x1 x2 x3 x4 x5 x6 iY sn n F cs i (.sl tR0 9 false) 9 [100,117,116,121] [115,105,122,101] 0 0 0 0 (Tk.of tR0 9 0 1 _ 0 _ (by decide) (by decide) rfl rfl) (Tk.of tR0 9 1 1 _ 0 _ (by decide) (by decide) rfl rfl) (Tk.of tR0 9 2 1 _ 0 _ (by decide) (by decide) rfl rfl) (Tk.of tR0 9 3 1 _ 0 _ (by decide) (by decide) rfl rfl) (.inl rfl) (by decide) _ rfl rfl rfl _ _ _ _ ⟨rfl,rfl,rfl,I⟩ s r
 refine⟨_,_,u,8,H,rfl,rfl, ?_⟩
 unfold px
 rw[D]
 exact h
theorem rK1(x0 x1 x2 x3 x4 x5 x6 iY:T)(sn:List T)(n:Nat)(F:n≤100)(cs:List T)(i:cs.length=n*6):nM lR1 (qX [x0,x1,x2,x3,x4,x5,x6] iY sn n cs) (qX [x0,x1,x2,x3,x4,x5,x6] iY sn (n+1) (cs++px (l0.getD 1 ⟨0,[],.mk 1 2 [] []⟩))):=by
 obtain⟨u,H⟩:=sR1
 obtain⟨s,r⟩:=eR1
 obtain⟨d,D,I⟩:=jb (l0.getD 1 ⟨0,[],.mk 1 2 [] []⟩).x
 rw[D]at r
 have h:=ux x0 x1 x2 x3 x4 x5 x6 iY sn n F cs i (.sl tR1 15 false) 15 [100,117,116,121] [115,112,97,110] 0 0 0 0 (Tk.of tR1 15 0 1 _ 0 _ (by decide) (by decide) rfl rfl) (Tk.of tR1 15 1 1 _ 0 _ (by decide) (by decide) rfl rfl) (Tk.of tR1 15 2 1 _ 0 _ (by decide) (by decide) rfl rfl) (Tk.of tR1 15 3 1 _ 0 _ (by decide) (by decide) rfl rfl) (.inl rfl) (by decide) _ rfl rfl rfl _ _ _ _ ⟨rfl,rfl,rfl,I⟩ s r
 refine⟨_,_,u,14,H,rfl,rfl, ?_⟩
 unfold px
 rw[D]
 exact h
theorem rK2(x0 x1 x2 x3 x4 x5 x6 iY:T)(sn:List T)(n:Nat)(F:n≤100)(cs:List T)(i:cs.length=n*6):nM lR2 (qX [x0,x1,x2,x3,x4,x5,x6] iY sn n cs) (qX [x0,x1,x2,x3,x4,x5,x6] iY sn (n+1) (cs++px (l0.getD 2 ⟨0,[],.mk 1 2 [] []⟩))):=by
 obtain⟨u,H⟩:=sR2
 obtain⟨s,r⟩:=eR2
 obtain⟨d,D,I⟩:=jb (l0.getD 2 ⟨0,[],.mk 1 2 [] []⟩).x
 rw[D]at r
 have h:=ux x0 x1 x2 x3 x4 x5 x6 iY sn n F cs i (.sl tR2 13 false) 13 [100,117,116,121] [110,105,103,104,116] 0 0 0 0 (Tk.of tR2 13 0 1 _ 0 _ (by decide) (by decide) rfl rfl) (Tk.of tR2 13 1 1 _ 0 _ (by decide) (by decide) rfl rfl) (Tk.of tR2 13 2 1 _ 0 _ (by decide) (by decide) rfl rfl) (Tk.of tR2 13 3 1 _ 0 _ (by decide) (by decide) rfl rfl) (.inl rfl) (by decide) _ rfl rfl rfl _ _ _ _ ⟨rfl,rfl,rfl,I⟩ s r
 refine⟨_,_,u,12,H,rfl,rfl, ?_⟩
 unfold px
 rw[D]
 exact h
theorem rK3(x0 x1 x2 x3 x4 x5 x6 iY:T)(sn:List T)(n:Nat)(F:n≤100)(cs:List T)(i:cs.length=n*6):nM lR3 (qX [x0,x1,x2,x3,x4,x5,x6] iY sn n cs) (qX [x0,x1,x2,x3,x4,x5,x6] iY sn (n+1) (cs++px (l0.getD 3 ⟨0,[],.mk 1 2 [] []⟩))):=by
 obtain⟨u,H⟩:=sR3
 obtain⟨s,r⟩:=eR3
 obtain⟨d,D,I⟩:=jb (l0.getD 3 ⟨0,[],.mk 1 2 [] []⟩).x
 rw[D]at r
 have h:=ux x0 x1 x2 x3 x4 x5 x6 iY sn n F cs i (.sl tR3 7 false) 7 [100,117,116,121] [98,108,111,99,107] 0 0 0 0 (Tk.of tR3 7 0 1 _ 0 _ (by decide) (by decide) rfl rfl) (Tk.of tR3 7 1 1 _ 0 _ (by decide) (by decide) rfl rfl) (Tk.of tR3 7 2 1 _ 0 _ (by decide) (by decide) rfl rfl) (Tk.of tR3 7 3 1 _ 0 _ (by decide) (by decide) rfl rfl) (.inl rfl) (by decide) _ rfl rfl rfl _ _ _ _ ⟨rfl,rfl,rfl,I⟩ s r
 refine⟨_,_,u,6,H,rfl,rfl, ?_⟩
 unfold px
 rw[D]
 exact h
theorem rK4(x0 x1 x2 x3 x4 x5 x6 iY:T)(sn:List T)(n:Nat)(F:n≤100)(cs:List T)(i:cs.length=n*6):nM lR4 (qX [x0,x1,x2,x3,x4,x5,x6] iY sn n cs) (qX [x0,x1,x2,x3,x4,x5,x6] iY sn (n+1) (cs++px (l0.getD 4 ⟨0,[],.mk 1 2 [] []⟩))):=by
 obtain⟨u,H⟩:=sR4
 obtain⟨s,r⟩:=eR4
 obtain⟨d,D,I⟩:=jb (l0.getD 4 ⟨0,[],.mk 1 2 [] []⟩).x
 rw[D]at r
 have h:=ux x0 x1 x2 x3 x4 x5 x6 iY sn n F cs i (.sl tR4 7 false) 7 [100,117,116,121] [116,121,112,101,115] 0 0 0 0 (Tk.of tR4 7 0 1 _ 0 _ (by decide) (by decide) rfl rfl) (Tk.of tR4 7 1 1 _ 0 _ (by decide) (by decide) rfl rfl) (Tk.of tR4 7 2 1 _ 0 _ (by decide) (by decide) rfl rfl) (Tk.of tR4 7 3 1 _ 0 _ (by decide) (by decide) rfl rfl) (.inl rfl) (by decide) _ rfl rfl rfl _ _ _ _ ⟨rfl,rfl,rfl,I⟩ s r
 refine⟨_,_,u,6,H,rfl,rfl, ?_⟩
 unfold px
 rw[D]
 exact h
theorem rK5(x0 x1 x2 x3 x4 x5 x6 iY:T)(sn:List T)(n:Nat)(F:n≤100)(cs:List T)(i:cs.length=n*6):nM lR5 (qX [x0,x1,x2,x3,x4,x5,x6] iY sn n cs) (qX [x0,x1,x2,x3,x4,x5,x6] iY sn (n+1) (cs++px (l0.getD 5 ⟨0,[],.mk 1 2 [] []⟩))):=by
 obtain⟨u,H⟩:=sR5
 obtain⟨s,r⟩:=eR5
 obtain⟨d,D,I⟩:=jb (l0.getD 5 ⟨0,[],.mk 1 2 [] []⟩).x
 rw[D]at r
 have h:=ux x0 x1 x2 x3 x4 x5 x6 iY sn n F cs i (.sl tR5 15 false) 15 [100,117,116,121] [111,100,100] 0 0 0 0 (Tk.of tR5 15 0 1 _ 0 _ (by decide) (by decide) rfl rfl) (Tk.of tR5 15 1 1 _ 0 _ (by decide) (by decide) rfl rfl) (Tk.of tR5 15 2 1 _ 0 _ (by decide) (by decide) rfl rfl) (Tk.of tR5 15 3 1 _ 0 _ (by decide) (by decide) rfl rfl) (.inl rfl) (by decide) _ rfl rfl rfl _ _ _ _ ⟨rfl,rfl,rfl,I⟩ s r
 refine⟨_,_,u,14,H,rfl,rfl, ?_⟩
 unfold px
 rw[D]
 exact h
theorem rK6(x0 x1 x2 x3 x4 x5 x6 iY:T)(sn:List T)(n:Nat)(F:n≤100)(cs:List T)(i:cs.length=n*6):nM lR6 (qX [x0,x1,x2,x3,x4,x5,x6] iY sn n cs) (qX [x0,x1,x2,x3,x4,x5,x6] iY sn (n+1) (cs++px (l0.getD 6 ⟨0,[],.mk 1 2 [] []⟩))):=by
 obtain⟨u,H⟩:=sR6
 obtain⟨s,r⟩:=eR6
 obtain⟨d,D,I⟩:=jb (l0.getD 6 ⟨0,[],.mk 1 2 [] []⟩).x
 rw[D]at r
 have h:=ux x0 x1 x2 x3 x4 x5 x6 iY sn n F cs i (.sl tR6 11 false) 11 [100,117,116,121] [103,97,112] 0 0 0 0 (Tk.of tR6 11 0 1 _ 0 _ (by decide) (by decide) rfl rfl) (Tk.of tR6 11 1 1 _ 0 _ (by decide) (by decide) rfl rfl) (Tk.of tR6 11 2 1 _ 0 _ (by decide) (by decide) rfl rfl) (Tk.of tR6 11 3 1 _ 0 _ (by decide) (by decide) rfl rfl) (.inl rfl) (by decide) _ rfl rfl rfl _ _ _ _ ⟨rfl,rfl,rfl,I⟩ s r
 refine⟨_,_,u,10,H,rfl,rfl, ?_⟩
 unfold px
 rw[D]
 exact h
theorem rK7(x0 x1 x2 x3 x4 x5 x6 iY:T)(sn:List T)(n:Nat)(F:n≤100)(cs:List T)(i:cs.length=n*6):nM lR7 (qX [x0,x1,x2,x3,x4,x5,x6] iY sn n cs) (qX [x0,x1,x2,x3,x4,x5,x6] iY sn (n+1) (cs++px (l0.getD 7 ⟨0,[],.mk 1 2 [] []⟩))):=by
 obtain⟨u,H⟩:=sR7
 obtain⟨s,r⟩:=eR7
 obtain⟨d,D,I⟩:=jb (l0.getD 7 ⟨0,[],.mk 1 2 [] []⟩).x
 rw[D]at r
 have h:=ux x0 x1 x2 x3 x4 x5 x6 iY sn n F cs i (.sl tR7 7 false) 7 [114,101,115,116] [108,101,97,115,116] 0 0 0 0 (Tk.of tR7 7 0 1 _ 0 _ (by decide) (by decide) rfl rfl) (Tk.of tR7 7 1 1 _ 0 _ (by decide) (by decide) rfl rfl) (Tk.of tR7 7 2 1 _ 0 _ (by decide) (by decide) rfl rfl) (Tk.of tR7 7 3 1 _ 0 _ (by decide) (by decide) rfl rfl) (.inr (.inl rfl)) (by decide) _ rfl rfl rfl _ _ _ _ ⟨rfl,rfl,rfl,I⟩ s r
 refine⟨_,_,u,6,H,rfl,rfl, ?_⟩
 unfold px
 rw[D]
 exact h
theorem rK8(x0 x1 x2 x3 x4 x5 x6 iY:T)(sn:List T)(n:Nat)(F:n≤100)(cs:List T)(i:cs.length=n*6):nM lR8 (qX [x0,x1,x2,x3,x4,x5,x6] iY sn n cs) (qX [x0,x1,x2,x3,x4,x5,x6] iY sn (n+1) (cs++px (l0.getD 8 ⟨0,[],.mk 1 2 [] []⟩))):=by
 obtain⟨u,H⟩:=sR8
 obtain⟨s,r⟩:=eR8
 obtain⟨d,D,I⟩:=jb (l0.getD 8 ⟨0,[],.mk 1 2 [] []⟩).x
 rw[D]at r
 have h:=ux x0 x1 x2 x3 x4 x5 x6 iY sn n F cs i (.sl tR8 12 false) 12 [114,101,115,116] [98,101,102,111,114,101] 0 0 0 0 (Tk.of tR8 12 0 1 _ 0 _ (by decide) (by decide) rfl rfl) (Tk.of tR8 12 1 1 _ 0 _ (by decide) (by decide) rfl rfl) (Tk.of tR8 12 2 1 _ 0 _ (by decide) (by decide) rfl rfl) (Tk.of tR8 12 3 1 _ 0 _ (by decide) (by decide) rfl rfl) (.inr (.inl rfl)) (by decide) _ rfl rfl rfl _ _ _ _ ⟨rfl,rfl,rfl,I⟩ s r
 refine⟨_,_,u,11,H,rfl,rfl, ?_⟩
 unfold px
 rw[D]
 exact h
theorem rK9(x0 x1 x2 x3 x4 x5 x6 iY:T)(sn:List T)(n:Nat)(F:n≤100)(cs:List T)(i:cs.length=n*6):nM lR9 (qX [x0,x1,x2,x3,x4,x5,x6] iY sn n cs) (qX [x0,x1,x2,x3,x4,x5,x6] iY sn (n+1) (cs++px (l0.getD 9 ⟨0,[],.mk 1 2 [] []⟩))):=by
 obtain⟨u,H⟩:=sR9
 obtain⟨s,r⟩:=eR9
 obtain⟨d,D,I⟩:=jb (l0.getD 9 ⟨0,[],.mk 1 2 [] []⟩).x
 rw[D]at r
 have h:=ux x0 x1 x2 x3 x4 x5 x6 iY sn n F cs i (.sl tR9 9 false) 9 [114,101,115,116] [110,105,103,104,116,115] 0 0 0 0 (Tk.of tR9 9 0 1 _ 0 _ (by decide) (by decide) rfl rfl) (Tk.of tR9 9 1 1 _ 0 _ (by decide) (by decide) rfl rfl) (Tk.of tR9 9 2 1 _ 0 _ (by decide) (by decide) rfl rfl) (Tk.of tR9 9 3 1 _ 0 _ (by decide) (by decide) rfl rfl) (.inr (.inl rfl)) (by decide) _ rfl rfl rfl _ _ _ _ ⟨rfl,rfl,rfl,I⟩ s r
 refine⟨_,_,u,8,H,rfl,rfl, ?_⟩
 unfold px
 rw[D]
 exact h
theorem aBm(x0 x1 x2 x3 x4 x5 x6 iY:T)(sn:List T)(n:Nat)(F:n≤100)(cs:List T)(i:cs.length=n*6):nM auc (qX [x0,x1,x2,x3,x4,x5,x6] iY sn n cs) (qX [x0,x1,x2,x3,x4,x5,x6] iY sn (n+1) (cs++px (l0.getD 10 ⟨0,[],.mk 1 2 [] []⟩))):=by
 obtain⟨u,H⟩:=aAV
 obtain⟨s,r⟩:=aAC
 obtain⟨d,D,I⟩:=jb (l0.getD 10 ⟨0,[],.mk 1 2 [] []⟩).x
 rw[D]at r
 have h:=ux x0 x1 x2 x3 x4 x5 x6 iY sn n F cs i (.sl NA 9 false) 9 [114,101,115,116] [104,111,109,101] 0 0 0 0 (Tk.of NA 9 0 1 _ 0 _ (by decide) (by decide) rfl rfl) (Tk.of NA 9 1 1 _ 0 _ (by decide) (by decide) rfl rfl) (Tk.of NA 9 2 1 _ 0 _ (by decide) (by decide) rfl rfl) (Tk.of NA 9 3 1 _ 0 _ (by decide) (by decide) rfl rfl) (.inr (.inl rfl)) (by decide) _ rfl rfl rfl _ _ _ _ ⟨rfl,rfl,rfl,I⟩ s r
 refine⟨_,_,u,8,H,rfl,rfl, ?_⟩
 unfold px
 rw[D]
 exact h
theorem aBn(x0 x1 x2 x3 x4 x5 x6 iY:T)(sn:List T)(n:Nat)(F:n≤100)(cs:List T)(i:cs.length=n*6):nM aud (qX [x0,x1,x2,x3,x4,x5,x6] iY sn n cs) (qX [x0,x1,x2,x3,x4,x5,x6] iY sn (n+1) (cs++px (l0.getD 11 ⟨0,[],.mk 1 2 [] []⟩))):=by
 obtain⟨u,H⟩:=aAe
 obtain⟨s,r⟩:=aAx
 obtain⟨d,D,I⟩:=jb (l0.getD 11 ⟨0,[],.mk 1 2 [] []⟩).x
 rw[D]at r
 have h:=ux x0 x1 x2 x3 x4 x5 x6 iY sn n F cs i (.sl NB 13 false) 13 [114,101,115,116] [97,102,116,101,114] 0 0 0 0 (Tk.of NB 13 0 1 _ 0 _ (by decide) (by decide) rfl rfl) (Tk.of NB 13 1 1 _ 0 _ (by decide) (by decide) rfl rfl) (Tk.of NB 13 2 1 _ 0 _ (by decide) (by decide) rfl rfl) (Tk.of NB 13 3 1 _ 0 _ (by decide) (by decide) rfl rfl) (.inr (.inl rfl)) (by decide) _ rfl rfl rfl _ _ _ _ ⟨rfl,rfl,rfl,I⟩ s r
 refine⟨_,_,u,12,H,rfl,rfl, ?_⟩
 unfold px
 rw[D]
 exact h
theorem aBo(x0 x1 x2 x3 x4 x5 x6 iY:T)(sn:List T)(n:Nat)(F:n≤100)(cs:List T)(i:cs.length=n*6):nM aue (qX [x0,x1,x2,x3,x4,x5,x6] iY sn n cs) (qX [x0,x1,x2,x3,x4,x5,x6] iY sn (n+1) (cs++px (l0.getD 12 ⟨0,[],.mk 1 2 [] []⟩))):=by
 obtain⟨u,H⟩:=aAq
 obtain⟨s,r⟩:=aAg
 obtain⟨d,D,I⟩:=jb (l0.getD 12 ⟨0,[],.mk 1 2 [] []⟩).x
 rw[D]at r
 have h:=ux x0 x1 x2 x3 x4 x5 x6 iY sn n F cs i (.sl NC 7 false) 7 [112,97,105,114,105,110,103] [100,97,121,115] 0 0 0 0 (Tk.of NC 7 0 1 _ 0 _ (by decide) (by decide) rfl rfl) (Tk.of NC 7 1 1 _ 0 _ (by decide) (by decide) rfl rfl) (Tk.of NC 7 2 1 _ 0 _ (by decide) (by decide) rfl rfl) (Tk.of NC 7 3 1 _ 0 _ (by decide) (by decide) rfl rfl) (.inr (.inr rfl)) (by decide) _ rfl rfl rfl _ _ _ _ ⟨rfl,rfl,rfl,I⟩ s r
 refine⟨_,_,u,6,H,rfl,rfl, ?_⟩
 unfold px
 rw[D]
 exact h
theorem aBp(x0 x1 x2 x3 x4 x5 x6 iY:T)(sn:List T)(n:Nat)(F:n≤100)(cs:List T)(i:cs.length=n*6):nM auf (qX [x0,x1,x2,x3,x4,x5,x6] iY sn n cs) (qX [x0,x1,x2,x3,x4,x5,x6] iY sn (n+1) (cs++px (l0.getD 13 ⟨0,[],.mk 1 2 [] []⟩))):=by
 obtain⟨u,H⟩:=aAP
 obtain⟨s,r⟩:=aAE
 obtain⟨d,D,I⟩:=jb (l0.getD 13 ⟨0,[],.mk 1 2 [] []⟩).x
 rw[D]at r
 have h:=ux x0 x1 x2 x3 x4 x5 x6 iY sn n F cs i (.sl ND 7 false) 7 [112,97,105,114,105,110,103] [100,117,116,105,101,115] 0 0 0 0 (Tk.of ND 7 0 1 _ 0 _ (by decide) (by decide) rfl rfl) (Tk.of ND 7 1 1 _ 0 _ (by decide) (by decide) rfl rfl) (Tk.of ND 7 2 1 _ 0 _ (by decide) (by decide) rfl rfl) (Tk.of ND 7 3 1 _ 0 _ (by decide) (by decide) rfl rfl) (.inr (.inr rfl)) (by decide) _ rfl rfl rfl _ _ _ _ ⟨rfl,rfl,rfl,I⟩ s r
 refine⟨_,_,u,6,H,rfl,rfl, ?_⟩
 unfold px
 rw[D]
 exact h
theorem aBq(x0 x1 x2 x3 x4 x5 x6 iY:T)(sn:List T)(n:Nat)(F:n≤100)(cs:List T)(i:cs.length=n*6):nM aug (qX [x0,x1,x2,x3,x4,x5,x6] iY sn n cs) (qX [x0,x1,x2,x3,x4,x5,x6] iY sn (n+1) (cs++px (l0.getD 14 ⟨0,[],.mk 1 2 [] []⟩))):=by
 obtain⟨u,H⟩:=aAi
 obtain⟨s,r⟩:=aAz
 obtain⟨d,D,I⟩:=jb (l0.getD 14 ⟨0,[],.mk 1 2 [] []⟩).x
 rw[D]at r
 have h:=ux x0 x1 x2 x3 x4 x5 x6 iY sn n F cs i (.sl NF 7 false) 7 [112,97,105,114,105,110,103] [98,108,111,99,107] 0 0 0 0 (Tk.of NF 7 0 1 _ 0 _ (by decide) (by decide) rfl rfl) (Tk.of NF 7 1 1 _ 0 _ (by decide) (by decide) rfl rfl) (Tk.of NF 7 2 1 _ 0 _ (by decide) (by decide) rfl rfl) (Tk.of NF 7 3 1 _ 0 _ (by decide) (by decide) rfl rfl) (.inr (.inr rfl)) (by decide) _ rfl rfl rfl _ _ _ _ ⟨rfl,rfl,rfl,I⟩ s r
 refine⟨_,_,u,6,H,rfl,rfl, ?_⟩
 unfold px
 rw[D]
 exact h
theorem aBr(x0 x1 x2 x3 x4 x5 x6 iY:T)(sn:List T)(n:Nat)(F:n≤100)(cs:List T)(i:cs.length=n*6):nM auh (qX [x0,x1,x2,x3,x4,x5,x6] iY sn n cs) (qX [x0,x1,x2,x3,x4,x5,x6] iY sn (n+1) (cs++px (l0.getD 15 ⟨0,[],.mk 1 2 [] []⟩))):=by
 obtain⟨u,H⟩:=aAt
 obtain⟨s,r⟩:=aAv
 obtain⟨d,D,I⟩:=jb (l0.getD 15 ⟨0,[],.mk 1 2 [] []⟩).x
 rw[D]at r
 have h:=ux x0 x1 x2 x3 x4 x5 x6 iY sn n F cs i (.sl NG 7 false) 7 [112,97,105,114,105,110,103] [99,114,101,100,105,116] 0 0 0 0 (Tk.of NG 7 0 1 _ 0 _ (by decide) (by decide) rfl rfl) (Tk.of NG 7 1 1 _ 0 _ (by decide) (by decide) rfl rfl) (Tk.of NG 7 2 1 _ 0 _ (by decide) (by decide) rfl rfl) (Tk.of NG 7 3 1 _ 0 _ (by decide) (by decide) rfl rfl) (.inr (.inr rfl)) (by decide) _ rfl rfl rfl _ _ _ _ ⟨rfl,rfl,rfl,I⟩ s r
 refine⟨_,_,u,6,H,rfl,rfl, ?_⟩
 unfold px
 rw[D]
 exact h
theorem aBs(x0 x1 x2 x3 x4 x5 x6 iY:T)(sn:List T)(n:Nat)(F:n≤100)(cs:List T)(i:cs.length=n*6):nM aui (qX [x0,x1,x2,x3,x4,x5,x6] iY sn n cs) (qX [x0,x1,x2,x3,x4,x5,x6] iY sn (n+1) (cs++px (l0.getD 16 ⟨0,[],.mk 1 2 [] []⟩))):=by
 obtain⟨u,H⟩:=aAu
 obtain⟨s,r⟩:=aAR
 obtain⟨d,D,I⟩:=jb (l0.getD 16 ⟨0,[],.mk 1 2 [] []⟩).x
 rw[D]at r
 have h:=ux x0 x1 x2 x3 x4 x5 x6 iY sn n F cs i (.sl NH 7 false) 7 [112,97,105,114,105,110,103] [115,112,97,110] 0 0 0 0 (Tk.of NH 7 0 1 _ 0 _ (by decide) (by decide) rfl rfl) (Tk.of NH 7 1 1 _ 0 _ (by decide) (by decide) rfl rfl) (Tk.of NH 7 2 1 _ 0 _ (by decide) (by decide) rfl rfl) (Tk.of NH 7 3 1 _ 0 _ (by decide) (by decide) rfl rfl) (.inr (.inr rfl)) (by decide) _ rfl rfl rfl _ _ _ _ ⟨rfl,rfl,rfl,I⟩ s r
 refine⟨_,_,u,6,H,rfl,rfl, ?_⟩
 unfold px
 rw[D]
 exact h
theorem aBt(x0 x1 x2 x3 x4 x5 x6 iY:T)(sn:List T)(n:Nat)(F:n≤100)(cs:List T)(i:cs.length=n*6):nM auj (qX [x0,x1,x2,x3,x4,x5,x6] iY sn n cs) (qX [x0,x1,x2,x3,x4,x5,x6] iY sn (n+1) (cs++px (l0.getD 17 ⟨0,[],.mk 1 2 [] []⟩))):=by
 obtain⟨u,H⟩:=aAp
 obtain⟨s,r⟩:=aAl
 obtain⟨d,D,I⟩:=jb (l0.getD 17 ⟨0,[],.mk 1 2 [] []⟩).x
 rw[D]at r
 have h:=ux x0 x1 x2 x3 x4 x5 x6 iY sn n F cs i (.sl NI 7 false) 7 [112,97,105,114,105,110,103] [108,101,103,115] 0 0 0 0 (Tk.of NI 7 0 1 _ 0 _ (by decide) (by decide) rfl rfl) (Tk.of NI 7 1 1 _ 0 _ (by decide) (by decide) rfl rfl) (Tk.of NI 7 2 1 _ 0 _ (by decide) (by decide) rfl rfl) (Tk.of NI 7 3 1 _ 0 _ (by decide) (by decide) rfl rfl) (.inr (.inr rfl)) (by decide) _ rfl rfl rfl _ _ _ _ ⟨rfl,rfl,rfl,I⟩ s r
 refine⟨_,_,u,6,H,rfl,rfl, ?_⟩
 unfold px
 rw[D]
 exact h
theorem kK0(x0 x1 x2 x3 x4 x5 x6 iY i:T)(sn:List T)(P:List b8)(H:P.length≤1)(n:Nat)(I:n≤100)(cs:List T)(r:cs.length=n*5):nM lK0 (xS [x0,x1,x2,x3,x4,x5,x6] iY i sn P n cs) (xS [x0,x1,x2,x3,x4,x5,x6] iY i sn P (n+1) (cs++ve (pb.getD 0 ⟨0,.mk 1 2 [] []⟩))):=by
 obtain⟨u,J⟩:=sK0
 obtain⟨s,D⟩:=eK0
 obtain⟨d,F,K⟩:=jb (pb.getD 0 ⟨0,.mk 1 2 [] []⟩).x
 rw[F]at D
 have h:=FR x0 x1 x2 x3 x4 x5 x6 iY i sn P H n I cs r (.sl tK0 8 false) 8 [100,117,116,121] 0 0 0 (Tk.of tK0 8 0 1 _ 0 _ (by decide) (by decide) rfl rfl) (Tk.of tK0 8 1 1 _ 0 _ (by decide) (by decide) rfl rfl) (Tk.of tK0 8 2 1 _ 0 _ (by decide) (by decide) rfl rfl) (.inl rfl) _ rfl rfl rfl _ _ _ _ ⟨rfl,rfl,rfl,K⟩ s D
 refine⟨_,_,u,7,J,rfl,rfl, ?_⟩
 unfold ve
 rw[F]
 exact h
theorem kK1(x0 x1 x2 x3 x4 x5 x6 iY i:T)(sn:List T)(P:List b8)(H:P.length≤1)(n:Nat)(I:n≤100)(cs:List T)(r:cs.length=n*5):nM lK1 (xS [x0,x1,x2,x3,x4,x5,x6] iY i sn P n cs) (xS [x0,x1,x2,x3,x4,x5,x6] iY i sn P (n+1) (cs++ve (pb.getD 1 ⟨0,.mk 1 2 [] []⟩))):=by
 obtain⟨u,J⟩:=sK1
 obtain⟨s,D⟩:=eK1
 obtain⟨d,F,K⟩:=jb (pb.getD 1 ⟨0,.mk 1 2 [] []⟩).x
 rw[F]at D
 have h:=FR x0 x1 x2 x3 x4 x5 x6 iY i sn P H n I cs r (.sl tK1 10 false) 10 [100,117,116,121] 0 0 0 (Tk.of tK1 10 0 1 _ 0 _ (by decide) (by decide) rfl rfl) (Tk.of tK1 10 1 1 _ 0 _ (by decide) (by decide) rfl rfl) (Tk.of tK1 10 2 1 _ 0 _ (by decide) (by decide) rfl rfl) (.inl rfl) _ rfl rfl rfl _ _ _ _ ⟨rfl,rfl,rfl,K⟩ s D
 refine⟨_,_,u,9,J,rfl,rfl, ?_⟩
 unfold ve
 rw[F]
 exact h
theorem kK2(x0 x1 x2 x3 x4 x5 x6 iY i:T)(sn:List T)(P:List b8)(H:P.length≤1)(n:Nat)(I:n≤100)(cs:List T)(r:cs.length=n*5):nM lK2 (xS [x0,x1,x2,x3,x4,x5,x6] iY i sn P n cs) (xS [x0,x1,x2,x3,x4,x5,x6] iY i sn P (n+1) (cs++ve (pb.getD 2 ⟨0,.mk 1 2 [] []⟩))):=by
 obtain⟨u,J⟩:=sK2
 obtain⟨s,D⟩:=eK2
 obtain⟨d,F,K⟩:=jb (pb.getD 2 ⟨0,.mk 1 2 [] []⟩).x
 rw[F]at D
 have h:=FR x0 x1 x2 x3 x4 x5 x6 iY i sn P H n I cs r (.sl tK2 11 false) 11 [100,117,116,121] 0 0 0 (Tk.of tK2 11 0 1 _ 0 _ (by decide) (by decide) rfl rfl) (Tk.of tK2 11 1 1 _ 0 _ (by decide) (by decide) rfl rfl) (Tk.of tK2 11 2 1 _ 0 _ (by decide) (by decide) rfl rfl) (.inl rfl) _ rfl rfl rfl _ _ _ _ ⟨rfl,rfl,rfl,K⟩ s D
 refine⟨_,_,u,10,J,rfl,rfl, ?_⟩
 unfold ve
 rw[F]
 exact h
theorem kK3(x0 x1 x2 x3 x4 x5 x6 iY i:T)(sn:List T)(P:List b8)(H:P.length≤1)(n:Nat)(I:n≤100)(cs:List T)(r:cs.length=n*5):nM lK3 (xS [x0,x1,x2,x3,x4,x5,x6] iY i sn P n cs) (xS [x0,x1,x2,x3,x4,x5,x6] iY i sn P (n+1) (cs++ve (pb.getD 3 ⟨0,.mk 1 2 [] []⟩))):=by
 obtain⟨u,J⟩:=sK3
 obtain⟨s,D⟩:=eK3
 obtain⟨d,F,K⟩:=jb (pb.getD 3 ⟨0,.mk 1 2 [] []⟩).x
 rw[F]at D
 have h:=FR x0 x1 x2 x3 x4 x5 x6 iY i sn P H n I cs r (.sl tK3 9 false) 9 [114,101,115,116] 0 0 0 (Tk.of tK3 9 0 1 _ 0 _ (by decide) (by decide) rfl rfl) (Tk.of tK3 9 1 1 _ 0 _ (by decide) (by decide) rfl rfl) (Tk.of tK3 9 2 1 _ 0 _ (by decide) (by decide) rfl rfl) (.inr (.inl rfl)) _ rfl rfl rfl _ _ _ _ ⟨rfl,rfl,rfl,K⟩ s D
 refine⟨_,_,u,8,J,rfl,rfl, ?_⟩
 unfold ve
 rw[F]
 exact h
theorem kK4(x0 x1 x2 x3 x4 x5 x6 iY i:T)(sn:List T)(P:List b8)(H:P.length≤1)(n:Nat)(I:n≤100)(cs:List T)(r:cs.length=n*5):nM lK4 (xS [x0,x1,x2,x3,x4,x5,x6] iY i sn P n cs) (xS [x0,x1,x2,x3,x4,x5,x6] iY i sn P (n+1) (cs++ve (pb.getD 4 ⟨0,.mk 1 2 [] []⟩))):=by
 obtain⟨u,J⟩:=sK4
 obtain⟨s,D⟩:=eK4
 obtain⟨d,F,K⟩:=jb (pb.getD 4 ⟨0,.mk 1 2 [] []⟩).x
 rw[F]at D
 have h:=FR x0 x1 x2 x3 x4 x5 x6 iY i sn P H n I cs r (.sl tK4 6 false) 6 [114,101,115,116] 0 0 0 (Tk.of tK4 6 0 1 _ 0 _ (by decide) (by decide) rfl rfl) (Tk.of tK4 6 1 1 _ 0 _ (by decide) (by decide) rfl rfl) (Tk.of tK4 6 2 1 _ 0 _ (by decide) (by decide) rfl rfl) (.inr (.inl rfl)) _ rfl rfl rfl _ _ _ _ ⟨rfl,rfl,rfl,K⟩ s D
 refine⟨_,_,u,5,J,rfl,rfl, ?_⟩
 unfold ve
 rw[F]
 exact h
theorem kK5(x0 x1 x2 x3 x4 x5 x6 iY i:T)(sn:List T)(P:List b8)(H:P.length≤1)(n:Nat)(I:n≤100)(cs:List T)(r:cs.length=n*5):nM lK5 (xS [x0,x1,x2,x3,x4,x5,x6] iY i sn P n cs) (xS [x0,x1,x2,x3,x4,x5,x6] iY i sn P (n+1) (cs++ve (pb.getD 5 ⟨0,.mk 1 2 [] []⟩))):=by
 obtain⟨u,J⟩:=sK5
 obtain⟨s,D⟩:=eK5
 obtain⟨d,F,K⟩:=jb (pb.getD 5 ⟨0,.mk 1 2 [] []⟩).x
 rw[F]at D
 have h:=FR x0 x1 x2 x3 x4 x5 x6 iY i sn P H n I cs r (.sl tK5 6 false) 6 [112,97,105,114,105,110,103] 0 0 0 (Tk.of tK5 6 0 1 _ 0 _ (by decide) (by decide) rfl rfl) (Tk.of tK5 6 1 1 _ 0 _ (by decide) (by decide) rfl rfl) (Tk.of tK5 6 2 1 _ 0 _ (by decide) (by decide) rfl rfl) (.inr (.inr rfl)) _ rfl rfl rfl _ _ _ _ ⟨rfl,rfl,rfl,K⟩ s D
 refine⟨_,_,u,5,J,rfl,rfl, ?_⟩
 unfold ve
 rw[F]
 exact h
theorem kK6(x0 x1 x2 x3 x4 x5 x6 iY i:T)(sn:List T)(P:List b8)(H:P.length≤1)(n:Nat)(I:n≤100)(cs:List T)(r:cs.length=n*5):nM lK6 (xS [x0,x1,x2,x3,x4,x5,x6] iY i sn P n cs) (xS [x0,x1,x2,x3,x4,x5,x6] iY i sn P (n+1) (cs++ve (pb.getD 6 ⟨0,.mk 1 2 [] []⟩))):=by
 obtain⟨u,J⟩:=sK6
 obtain⟨s,D⟩:=eK6
 obtain⟨d,F,K⟩:=jb (pb.getD 6 ⟨0,.mk 1 2 [] []⟩).x
 rw[F]at D
 have h:=FR x0 x1 x2 x3 x4 x5 x6 iY i sn P H n I cs r (.sl tK6 13 false) 13 [112,97,105,114,105,110,103] 0 0 0 (Tk.of tK6 13 0 1 _ 0 _ (by decide) (by decide) rfl rfl) (Tk.of tK6 13 1 1 _ 0 _ (by decide) (by decide) rfl rfl) (Tk.of tK6 13 2 1 _ 0 _ (by decide) (by decide) rfl rfl) (.inr (.inr rfl)) _ rfl rfl rfl _ _ _ _ ⟨rfl,rfl,rfl,K⟩ s D
 refine⟨_,_,u,12,J,rfl,rfl, ?_⟩
 unfold ve
 rw[F]
 exact h
theorem kK7(x0 x1 x2 x3 x4 x5 x6 iY i:T)(sn:List T)(P:List b8)(H:P.length≤1)(n:Nat)(I:n≤100)(cs:List T)(r:cs.length=n*5):nM lK7 (xS [x0,x1,x2,x3,x4,x5,x6] iY i sn P n cs) (xS [x0,x1,x2,x3,x4,x5,x6] iY i sn P (n+1) (cs++ve (pb.getD 7 ⟨0,.mk 1 2 [] []⟩))):=by
 obtain⟨u,J⟩:=sK7
 obtain⟨s,D⟩:=eK7
 obtain⟨d,F,K⟩:=jb (pb.getD 7 ⟨0,.mk 1 2 [] []⟩).x
 rw[F]at D
 have h:=FR x0 x1 x2 x3 x4 x5 x6 iY i sn P H n I cs r (.sl tK7 9 false) 9 [100,117,116,121] 0 0 0 (Tk.of tK7 9 0 1 _ 0 _ (by decide) (by decide) rfl rfl) (Tk.of tK7 9 1 1 _ 0 _ (by decide) (by decide) rfl rfl) (Tk.of tK7 9 2 1 _ 0 _ (by decide) (by decide) rfl rfl) (.inl rfl) _ rfl rfl rfl _ _ _ _ ⟨rfl,rfl,rfl,K⟩ s D
 refine⟨_,_,u,8,J,rfl,rfl, ?_⟩
 unfold ve
 rw[F]
 exact h
theorem kK8(x0 x1 x2 x3 x4 x5 x6 iY i:T)(sn:List T)(P:List b8)(H:P.length≤1)(n:Nat)(I:n≤100)(cs:List T)(r:cs.length=n*5):nM lK8 (xS [x0,x1,x2,x3,x4,x5,x6] iY i sn P n cs) (xS [x0,x1,x2,x3,x4,x5,x6] iY i sn P (n+1) (cs++ve (pb.getD 8 ⟨0,.mk 1 2 [] []⟩))):=by
 obtain⟨u,J⟩:=sK8
 obtain⟨s,D⟩:=eK8
 obtain⟨d,F,K⟩:=jb (pb.getD 8 ⟨0,.mk 1 2 [] []⟩).x
 rw[F]at D
 have h:=FR x0 x1 x2 x3 x4 x5 x6 iY i sn P H n I cs r (.sl tK8 6 false) 6 [100,117,116,121] 0 0 0 (Tk.of tK8 6 0 1 _ 0 _ (by decide) (by decide) rfl rfl) (Tk.of tK8 6 1 1 _ 0 _ (by decide) (by decide) rfl rfl) (Tk.of tK8 6 2 1 _ 0 _ (by decide) (by decide) rfl rfl) (.inl rfl) _ rfl rfl rfl _ _ _ _ ⟨rfl,rfl,rfl,K⟩ s D
 refine⟨_,_,u,5,J,rfl,rfl, ?_⟩
 unfold ve
 rw[F]
 exact h
theorem kK9(x0 x1 x2 x3 x4 x5 x6 iY i:T)(sn:List T)(P:List b8)(H:P.length≤1)(n:Nat)(I:n≤100)(cs:List T)(r:cs.length=n*5):nM lK9 (xS [x0,x1,x2,x3,x4,x5,x6] iY i sn P n cs) (xS [x0,x1,x2,x3,x4,x5,x6] iY i sn P (n+1) (cs++ve (pb.getD 9 ⟨0,.mk 1 2 [] []⟩))):=by
 obtain⟨u,J⟩:=sK9
 obtain⟨s,D⟩:=eK9
 obtain⟨d,F,K⟩:=jb (pb.getD 9 ⟨0,.mk 1 2 [] []⟩).x
 rw[F]at D
 have h:=FR x0 x1 x2 x3 x4 x5 x6 iY i sn P H n I cs r (.sl tK9 11 false) 11 [112,97,105,114,105,110,103] 0 0 0 (Tk.of tK9 11 0 1 _ 0 _ (by decide) (by decide) rfl rfl) (Tk.of tK9 11 1 1 _ 0 _ (by decide) (by decide) rfl rfl) (Tk.of tK9 11 2 1 _ 0 _ (by decide) (by decide) rfl rfl) (.inr (.inr rfl)) _ rfl rfl rfl _ _ _ _ ⟨rfl,rfl,rfl,K⟩ s D
 refine⟨_,_,u,10,J,rfl,rfl, ?_⟩
 unfold ve
 rw[F]
 exact h
theorem cK0(x0 x1 x2 x3 x4 x5 x6 iY i ED:T)(sn:List T)(P:List b8)(F:P.length≤2):nM lC0 (NN [x0,x1,x2,x3,x4,x5,x6] iY i ED sn P []) (NN [x0,x1,x2,x3,x4,x5,x6] iY i ED sn P (nL (Ii.getD 0 (.mk 1 2 [] [])))):=by
 obtain⟨u,H⟩:=sC0
 obtain⟨s,r⟩:=eC0
 obtain⟨d,D,I⟩:=jb (Ii.getD 0 (.mk 1 2 [] []))
 rw[D]at r
 have h:=akv x0 x1 x2 x3 x4 x5 x6 iY i ED sn P F (.sl tC0 9 false) 9 0 0 0 (Tk.of tC0 9 0 1 _ 0 _ (by decide) (by decide) rfl rfl) (Tk.of tC0 9 1 1 _ 0 _ (by decide) (by decide) rfl rfl) (Tk.of tC0 9 2 1 _ 0 _ (by decide) (by decide) rfl rfl) _ rfl rfl rfl _ _ _ _ ⟨rfl,rfl,rfl,I⟩ s r
 refine⟨_,_,u,8,H,rfl,rfl, ?_⟩
 rw[D]
 exact h
theorem cK1(x0 x1 x2 x3 x4 x5 x6 iY i ED:T)(sn:List T)(P:List b8)(F:P.length≤2):nM lC1 (NN [x0,x1,x2,x3,x4,x5,x6] iY i ED sn P []) (NN [x0,x1,x2,x3,x4,x5,x6] iY i ED sn P (nL (Ii.getD 1 (.mk 1 2 [] [])))):=by
 obtain⟨u,H⟩:=sC1
 obtain⟨s,r⟩:=eC1
 obtain⟨d,D,I⟩:=jb (Ii.getD 1 (.mk 1 2 [] []))
 rw[D]at r
 have h:=akv x0 x1 x2 x3 x4 x5 x6 iY i ED sn P F (.sl tC1 6 false) 6 0 0 0 (Tk.of tC1 6 0 1 _ 0 _ (by decide) (by decide) rfl rfl) (Tk.of tC1 6 1 1 _ 0 _ (by decide) (by decide) rfl rfl) (Tk.of tC1 6 2 1 _ 0 _ (by decide) (by decide) rfl rfl) _ rfl rfl rfl _ _ _ _ ⟨rfl,rfl,rfl,I⟩ s r
 refine⟨_,_,u,5,H,rfl,rfl, ?_⟩
 rw[D]
 exact h
theorem cK2(x0 x1 x2 x3 x4 x5 x6 iY i ED:T)(sn:List T)(P:List b8)(F:P.length≤2):nM lC2 (NN [x0,x1,x2,x3,x4,x5,x6] iY i ED sn P []) (NN [x0,x1,x2,x3,x4,x5,x6] iY i ED sn P (nL (Ii.getD 2 (.mk 1 2 [] [])))):=by
 obtain⟨u,H⟩:=sC2
 obtain⟨s,r⟩:=eC2
 obtain⟨d,D,I⟩:=jb (Ii.getD 2 (.mk 1 2 [] []))
 rw[D]at r
 have h:=akv x0 x1 x2 x3 x4 x5 x6 iY i ED sn P F (.sl tC2 8 false) 8 0 0 0 (Tk.of tC2 8 0 1 _ 0 _ (by decide) (by decide) rfl rfl) (Tk.of tC2 8 1 1 _ 0 _ (by decide) (by decide) rfl rfl) (Tk.of tC2 8 2 1 _ 0 _ (by decide) (by decide) rfl rfl) _ rfl rfl rfl _ _ _ _ ⟨rfl,rfl,rfl,I⟩ s r
 refine⟨_,_,u,7,H,rfl,rfl, ?_⟩
 rw[D]
 exact h
theorem hL0(b:Nat→Int)(x0 x1 x2 x3 x4 x5 x6:T):nM ([114,101,112,111,114,116,32]++D4 (b 0%3)) (nS [x0,x1,x2,x3,x4,x5,x6] .nilsl [.b false,.b false,.b false,.b false,.b false,.b false,.b false]) (nS [.i .i64 (rpB (kB b 0)),x1,x2,x3,x4,x5,x6] (.nilsl) [.b true,.b false,.b false,.b false,.b false,.b false,.b false]):=by
 unfold kB
 have:b 0%3=0∨b 0%3=1∨b 0%3=2:=by omega
 rcases this with h|h|h
 ·rw[h];exact aA1 x0 x1 x2 x3 x4 x5 x6 (d00 x0 x1 x2 x3 x4 x5 x6)
 ·rw[h];exact aA2 x0 x1 x2 x3 x4 x5 x6 (d01 x0 x1 x2 x3 x4 x5 x6)
 ·rw[h];exact aA3 x0 x1 x2 x3 x4 x5 x6 (d02 x0 x1 x2 x3 x4 x5 x6)
theorem KG(b:Nat→Int)(x0 x1 x2 x3 x4 x5 x6:T):nM ([114,101,108,101,97,115,101,32]++UG (b 1%3)) (nS [x0,x1,x2,x3,x4,x5,x6] .nilsl [.b true,.b false,.b false,.b false,.b false,.b false,.b false]) (nS [x0,.i .i64 (rlB (kB b 1)),x2,x3,x4,x5,x6] (.nilsl) [.b true,.b true,.b false,.b false,.b false,.b false,.b false]):=by
 unfold kB
 have:b 1%3=0∨b 1%3=1∨b 1%3=2:=by omega
 rcases this with h|h|h
 ·rw[h];exact aA4 x0 x1 x2 x3 x4 x5 x6 (d10 x0 x1 x2 x3 x4 x5 x6)
 ·rw[h];exact aA5 x0 x1 x2 x3 x4 x5 x6 (d11 x0 x1 x2 x3 x4 x5 x6)
 ·rw[h];exact aA6 x0 x1 x2 x3 x4 x5 x6 (d12 x0 x1 x2 x3 x4 x5 x6)
theorem ZF(b:Nat→Int)(x0 x1 x2 x3 x4 x5 x6:T):nM ([99,111,110,110,101,99,116,32]++Ma (b 2%3)) (nS [x0,x1,x2,x3,x4,x5,x6] .nilsl [.b true,.b true,.b false,.b false,.b false,.b false,.b false]) (nS [x0,x1,.i .i64 (Nv (kB b 2)),x3,x4,x5,x6] (.nilsl) [.b true,.b true,.b true,.b false,.b false,.b false,.b false]):=by
 unfold kB
 have:b 2%3=0∨b 2%3=1∨b 2%3=2:=by omega
 rcases this with h|h|h
 ·rw[h];exact aA7 x0 x1 x2 x3 x4 x5 x6 (d20 x0 x1 x2 x3 x4 x5 x6)
 ·rw[h];exact aA8 x0 x1 x2 x3 x4 x5 x6 (d21 x0 x1 x2 x3 x4 x5 x6)
 ·rw[h];exact aA9 x0 x1 x2 x3 x4 x5 x6 (d22 x0 x1 x2 x3 x4 x5 x6)
theorem hL3(b:Nat→Int)(x0 x1 x2 x3 x4 x5 x6:T):nM ([115,105,116,32]++SW (b 3%3)) (nS [x0,x1,x2,x3,x4,x5,x6] .nilsl [.b true,.b true,.b true,.b false,.b false,.b false,.b false]) (nS [x0,x1,x2,.i .i64 (Fv (kB b 3)),x4,x5,x6] (.nilsl) [.b true,.b true,.b true,.b true,.b false,.b false,.b false]):=by
 unfold kB
 have:b 3%3=0∨b 3%3=1∨b 3%3=2:=by omega
 rcases this with h|h|h
 ·rw[h];exact aBa x0 x1 x2 x3 x4 x5 x6 (d30 x0 x1 x2 x3 x4 x5 x6)
 ·rw[h];exact aBb x0 x1 x2 x3 x4 x5 x6 (d31 x0 x1 x2 x3 x4 x5 x6)
 ·rw[h];exact aBc x0 x1 x2 x3 x4 x5 x6 (d32 x0 x1 x2 x3 x4 x5 x6)
theorem hL4(b:Nat→Int)(x0 x1 x2 x3 x4 x5 x6:T):nM ([108,97,121,111,118,101,114,32]++hv4 (b 4%3)) (nS [x0,x1,x2,x3,x4,x5,x6] .nilsl [.b true,.b true,.b true,.b true,.b false,.b false,.b false]) (nS [x0,x1,x2,x3,.i .i64 (lyB (kB b 4)),x5,x6] (.nilsl) [.b true,.b true,.b true,.b true,.b true,.b false,.b false]):=by
 unfold kB
 have:b 4%3=0∨b 4%3=1∨b 4%3=2:=by omega
 rcases this with h|h|h
 ·rw[h];exact aBd x0 x1 x2 x3 x4 x5 x6 (d40 x0 x1 x2 x3 x4 x5 x6)
 ·rw[h];exact aBe x0 x1 x2 x3 x4 x5 x6 (d41 x0 x1 x2 x3 x4 x5 x6)
 ·rw[h];exact aBf x0 x1 x2 x3 x4 x5 x6 (d42 x0 x1 x2 x3 x4 x5 x6)
theorem hL5(b:Nat→Int)(x0 x1 x2 x3 x4 x5 x6:T):nM ([110,105,103,104,116,32]++SA (b 5%3)) (nS [x0,x1,x2,x3,x4,x5,x6] .nilsl [.b true,.b true,.b true,.b true,.b true,.b false,.b false]) (nS [x0,x1,x2,x3,x4,.i .i64 (nfB (kB b 5)),.i .i64 (ntB (kB b 5))] (.nilsl) [.b true,.b true,.b true,.b true,.b true,.b false,.b true]):=by
 unfold kB
 have:b 5%3=0∨b 5%3=1∨b 5%3=2:=by omega
 rcases this with h|h|h
 ·rw[h];exact aBg x0 x1 x2 x3 x4 x5 x6 (d50 x0 x1 x2 x3 x4 x5 x6)
 ·rw[h];exact aBh x0 x1 x2 x3 x4 x5 x6 (d51 x0 x1 x2 x3 x4 x5 x6)
 ·rw[h];exact aBi x0 x1 x2 x3 x4 x5 x6 (d52 x0 x1 x2 x3 x4 x5 x6)
theorem hL6(b:Nat→Int)(x0 x1 x2 x3 x4 x5 x6:T):nM ([99,111,110,115,116,32,115,104,105,102,116,115,32,105,115,32]++S8 (b 6%3)) (nS [x0,x1,x2,x3,x4,x5,x6] .nilsl [.b true,.b true,.b true,.b true,.b true,.b false,.b true]) (nS [x0,x1,x2,x3,x4,x5,x6] (.sl (.s Cx::nL (A5 (kB b 6))) 1 false) [.b true,.b true,.b true,.b true,.b true,.b false,.b true]):=by
 unfold kB
 have:b 6%3=0∨b 6%3=1∨b 6%3=2:=by omega
 rcases this with h|h|h
 ·rw[h];exact aBj x0 x1 x2 x3 x4 x5 x6 (d60 x0 x1 x2 x3 x4 x5 x6)
 ·rw[h];exact aBk x0 x1 x2 x3 x4 x5 x6 (d61 x0 x1 x2 x3 x4 x5 x6)
 ·rw[h];exact aBl x0 x1 x2 x3 x4 x5 x6 (d62 x0 x1 x2 x3 x4 x5 x6)
def hdT(b:Nat→Int):List T:= [.i .i64 (rpB (kB b 0)),.i .i64 (rlB (kB b 1)),.i .i64 (Nv (kB b 2)),.i .i64 (Fv (kB b 3)),.i .i64 (lyB (kB b 4)),.i .i64 (nfB (kB b 5)),.i .i64 (ntB (kB b 5))]
def Tf(b:Nat→Int):T:= .sl (.s Cx::nL (A5 (kB b 6))) 1 false
def snU:List T:= [.b true,.b true,.b true,.b true,.b true,.b false,.b true]
theorem aky(b:Nat→Int):zL (ZV b) kS0 (nS (hdT b) (Tf b) snU):=by
 unfold ZV kS0
 exact⟨_,hL0 b ..,_,KG b ..,_,ZF b ..,_,hL3 b ..,_,hL4 b ..,_,hL5 b ..,_,hL6 b ..,rfl⟩
theorem aBu(x0 x1 x2 x3 x4 x5 x6 iY:T)(sn:List T): ∀(i:Nat) (hi:i<18) (n:Nat) (D:n≤100) (cs:List T) (r:cs.length=n*6),nM (zG[i]'hi) (qX [x0,x1,x2,x3,x4,x5,x6] iY sn n cs) (qX [x0,x1,x2,x3,x4,x5,x6] iY sn (n+1) (cs++px (l0[i]'hi)))
 |0,_,n,D,cs,r=>rK0 x0 x1 x2 x3 x4 x5 x6 iY sn n D cs r
 |1,_,n,D,cs,r=>rK1 x0 x1 x2 x3 x4 x5 x6 iY sn n D cs r
 |2,_,n,D,cs,r=>rK2 x0 x1 x2 x3 x4 x5 x6 iY sn n D cs r
 |3,_,n,D,cs,r=>rK3 x0 x1 x2 x3 x4 x5 x6 iY sn n D cs r
 |4,_,n,D,cs,r=>rK4 x0 x1 x2 x3 x4 x5 x6 iY sn n D cs r
 |5,_,n,D,cs,r=>rK5 x0 x1 x2 x3 x4 x5 x6 iY sn n D cs r
 |6,_,n,D,cs,r=>rK6 x0 x1 x2 x3 x4 x5 x6 iY sn n D cs r
 |7,_,n,D,cs,r=>rK7 x0 x1 x2 x3 x4 x5 x6 iY sn n D cs r
 |8,_,n,D,cs,r=>rK8 x0 x1 x2 x3 x4 x5 x6 iY sn n D cs r
 |9,_,n,D,cs,r=>rK9 x0 x1 x2 x3 x4 x5 x6 iY sn n D cs r
 |10,_,n,D,cs,r=>aBm x0 x1 x2 x3 x4 x5 x6 iY sn n D cs r
 |11,_,n,D,cs,r=>aBn x0 x1 x2 x3 x4 x5 x6 iY sn n D cs r
 |12,_,n,D,cs,r=>aBo x0 x1 x2 x3 x4 x5 x6 iY sn n D cs r
 |13,_,n,D,cs,r=>aBp x0 x1 x2 x3 x4 x5 x6 iY sn n D cs r
 |14,_,n,D,cs,r=>aBq x0 x1 x2 x3 x4 x5 x6 iY sn n D cs r
 |15,_,n,D,cs,r=>aBr x0 x1 x2 x3 x4 x5 x6 iY sn n D cs r
 |16,_,n,D,cs,r=>aBs x0 x1 x2 x3 x4 x5 x6 iY sn n D cs r
 |17,_,n,D,cs,r=>aBt x0 x1 x2 x3 x4 x5 x6 iY sn n D cs r
 |i+18,hi,_,_,_,_=>absurd hi (by omega)
theorem aBv(x0 x1 x2 x3 x4 x5 x6 iY F:T)(sn:List T)(P:List b8)(H:P.length≤1): ∀(i:Nat) (hi:i<10) (n:Nat) (D:n≤100) (cs:List T) (r:cs.length=n*5),nM (zH[i]'hi) (xS [x0,x1,x2,x3,x4,x5,x6] iY F sn P n cs) (xS [x0,x1,x2,x3,x4,x5,x6] iY F sn P (n+1) (cs++ve (pb[i]'hi)))
 |0,_,n,D,cs,r=>kK0 x0 x1 x2 x3 x4 x5 x6 iY F sn P H n D cs r
 |1,_,n,D,cs,r=>kK1 x0 x1 x2 x3 x4 x5 x6 iY F sn P H n D cs r
 |2,_,n,D,cs,r=>kK2 x0 x1 x2 x3 x4 x5 x6 iY F sn P H n D cs r
 |3,_,n,D,cs,r=>kK3 x0 x1 x2 x3 x4 x5 x6 iY F sn P H n D cs r
 |4,_,n,D,cs,r=>kK4 x0 x1 x2 x3 x4 x5 x6 iY F sn P H n D cs r
 |5,_,n,D,cs,r=>kK5 x0 x1 x2 x3 x4 x5 x6 iY F sn P H n D cs r
 |6,_,n,D,cs,r=>kK6 x0 x1 x2 x3 x4 x5 x6 iY F sn P H n D cs r
 |7,_,n,D,cs,r=>kK7 x0 x1 x2 x3 x4 x5 x6 iY F sn P H n D cs r
 |8,_,n,D,cs,r=>kK8 x0 x1 x2 x3 x4 x5 x6 iY F sn P H n D cs r
 |9,_,n,D,cs,r=>kK9 x0 x1 x2 x3 x4 x5 x6 iY F sn P H n D cs r
 |i+10,hi,_,_,_,_=>absurd hi (by omega)
theorem NO{α:Type}(L:List (List Nat))(X:List α)(f:α→List T)(sz:Nat)(St:Nat→List T→List b8)(r: ∀x,(f x).length=sz)(D:L.length=X.length)(F:X.length≤50)
  (IJ: ∀(i:Nat) (H:i<L.length) (I:i<X.length) (n:Nat),n≤100→ ∀cs:List T,cs.length=n*sz→nM L[i] (St n cs) (St (n+1) (cs++f X[i]))) (p:Nat→Bool): ∀k,k≤L.length→zL (j0 p 0 (L.take k)) (St 0 []) (St (j0 p 0 (X.take k)).length ((j0 p 0 (X.take k)).flatMap f))
 |0,_=>by simp[j0,zL]
 |k+1,hk=>by
  have ih:=NO L X f sz St r D F IJ p k (by omega)
  rw[vS p L k (by omega),vS p X k (by omega)]
  have J:(j0 p 0 (X.take k)).length≤k:=by
   have:=(lB p 0 (X.take k)).length_le
   rw[List.length_take]at this
   omega
  refine vd ih ?_
  by_cases h:p k=true
  ·rw[if_pos h,if_pos h,List.length_append,List.length_singleton,List.flatMap_append,List.flatMap_cons,List.flatMap_nil,List.append_nil]
   exact⟨_,IJ k (by omega) (by omega) _ (by omega) _ (pJ r _),rfl⟩
  ·rw[if_neg h,if_neg h,List.append_nil]
   exact rfl
theorem zM(x:Ex):(nL x).length=4:=by obtain⟨d,e,_⟩:=jb x;rw[e];rfl
def CC(n:Nat)(cs:List T):List b8:=if n=0 then []else [⟨n,.cells cs 0 false⟩]
def slR(n:Nat):T:=if n=0 then .nilsl else .isl .S 2 n 0 n 6
def slK(k n:Nat):T:=if n=0 then .nilsl else .isl .S k n 0 n 5
theorem adw(i:List T)(iY:T)(sn:List T)(n:Nat)(cs:List T):qX i iY sn n cs=xS i iY (slR n) sn (CC n cs) 0 []:=by
 unfold qX xS slR CC
 simp
theorem adx(i:List T)(iY r:T)(sn:List T)(P:List b8)(n:Nat)(cs:List T):xS i iY r sn P n cs=NN i iY r (slK (2+P.length) n) sn (P++CC n cs) []:=by
 unfold xS NN slK CC
 simp
theorem ady(i:List T)(iY:T)(sn:List T):nS i iY sn=qX i iY sn 0 []:=by
 unfold nS qX
 simp
def auv(b:Nat→Int):List b8:=
 NN (hdT b) (Tf b) (slR (rO b).ru.length) (slK (2+(CC (rO b).ru.length ((rO b).ru.flatMap px)).length) (rO b).co.length) snU (CC (rO b).ru.length ((rO b).ru.flatMap px)++CC (rO b).co.length ((rO b).co.flatMap ve)) ((rO b).cr.flatMap nL)
theorem akA(b:Nat→Int):zL (SC b) kS0 (auv b):=by
 unfold SC
 have I:=aky b
 have F:=NO zG l0 px 6 (qX (hdT b) (Tf b) snU) (fun u=>by unfold px;rw[List.length_cons,List.length_cons,zM]) rfl (by decide) (fun i F _ n H cs r=>aBu _ _ _ _ _ _ _ _ _ i F n H cs r) (Cz b) 18 (by decide)
 have K:zG.take 18=zG:=rfl
 have N:l0.take 18=l0:=rfl
 rw[K,N,adw _ _ _ (j0 (Cz b) 0 l0).length]at F
 rw[ady]at I
 have O:(CC (j0 (Cz b) 0 l0).length ((j0 (Cz b) 0 l0).flatMap px)).length≤1:=by unfold CC;split <;> simp
 have J:=NO zH pb ve 5 (xS (hdT b) (Tf b) (slR (j0 (Cz b) 0 l0).length) snU (CC (j0 (Cz b) 0 l0).length ((j0 (Cz b) 0 l0).flatMap px))) (fun u=>by unfold ve;rw[List.length_cons,zM]) rfl (by decide) (fun i F _ n H cs r=>aBv _ _ _ _ _ _ _ _ _ _ _ O i F n H cs r) (Ik b) 10 (by decide)
 have U:zH.take 10=zH:=rfl
 have V:pb.take 10=pb:=rfl
 rw[U,V,adx _ _ _ _ _ (j0 (Ik b) 0 pb).length]at J
 refine vd (vd (vd I F) J) ?_
 have D:(CC (j0 (Cz b) 0 l0).length ((j0 (Cz b) 0 l0).flatMap px)++CC (j0 (Ik b) 0 pb).length ((j0 (Ik b) 0 pb).flatMap ve)).length≤2:=by
  have:(CC (j0 (Ik b) 0 pb).length ((j0 (Ik b) 0 pb).flatMap ve)).length≤1:=by unfold CC;split <;> simp
  rw[List.length_append];omega
 show zL (crD b) _ (NN (hdT b) (Tf b) (slR (j0 (Cz b) 0 l0).length) (slK (2+(CC (j0 (Cz b) 0 l0).length ((j0 (Cz b) 0 l0).flatMap px)).length) (j0 (Ik b) 0 pb).length) snU (CC (j0 (Cz b) 0 l0).length ((j0 (Cz b) 0 l0).flatMap px)++CC (j0 (Ik b) 0 pb).length ((j0 (Ik b) 0 pb).flatMap ve)) ((ZR b).flatMap nL))
 unfold crD ZR
 by_cases h:b 41%4<3
 ·rw[if_pos h,if_pos h,List.flatMap_cons,List.flatMap_nil,List.append_nil]
  refine⟨_, ?_,rfl⟩
  have:b 41%4=0∨b 41%4=1∨b 41%4=2:=by omega
  rcases this with h|h|h
  ·rw[h];exact cK0 _ _ _ _ _ _ _ _ _ _ _ _ D
  ·rw[h];exact cK1 _ _ _ _ _ _ _ _ _ _ _ _ D
  ·rw[h];exact cK2 _ _ _ _ _ _ _ _ _ _ _ _ D
 ·rw[if_neg h,if_neg h]
  exact rfl
def Lz(n:Nat)(cs:List T):T:=if n=0 then .nilsl else .sl cs n false
theorem akB(x0 x1 x2 x3 x4 x5 x6 iY:T)(sn:List T)(hx:froz1 x0=true∧froz1 x1=true∧froz1 x2=true∧froz1 x3=true∧froz1 x4=true∧froz1 x5=true∧froz1 x6=true∧froz1 iY=true)(n m:Nat)(rs ks cr:List T)(hr:rs.length=n*6)(hk:ks.length=m*5)(hc:cr= []∨cr.length=4)(q:Nat)(lh:iw b8):
  ∃us,xk q lh (NN [x0,x1,x2,x3,x4,x5,x6] iY (slR n) (slK (2+(CC n rs).length) m) sn (CC n rs++CC m ks) cr) false [x0,x1,x2,x3,x4,x5,x6,iY,slR n,slK (2+(CC n rs).length) m,if cr= []then .nilsl else .isl .S (2+(CC n rs++CC m ks).length) 1 0 1 4,.nilsl,.nilsl,.i .i64 0]=some ([x0,x1,x2,x3,x4,x5,x6,iY,Lz n rs,Lz m ks,Lz (if cr= []then 0 else 1) cr,.nilsl,.nilsl,.i .i64 0],us):=by
 obtain⟨J,K,N,O,U,V,W,X⟩:=hx
 unfold NN slR slK CC Lz
 have F:cr≠ []→cr.length=1*4:=fun h=>by rw[hc.resolve_left h]
 have Y:=fun C D t=>Eo (m:=q) (lh:=lh) (s:=C::D::⟨n,.cells rs 0 false⟩::t) (k:=2) rfl hr
 have eK2:=fun C D t=>Eo (m:=q) (lh:=lh) (s:=C::D::⟨m,.cells ks 0 false⟩::t) (k:=2) rfl hk
 have eK3:=fun C D r t=>Eo (m:=q) (lh:=lh) (s:=C::D::r::⟨m,.cells ks 0 false⟩::t) (k:=3) rfl hk
 have eC2:=fun h C D t=>Eo (m:=q) (lh:=lh) (s:=C::D::⟨1,.cells cr 0 false⟩::t) (k:=2) rfl (F h)
 have H:=fun h C D r t=>Eo (m:=q) (lh:=lh) (s:=C::D::r::⟨1,.cells cr 0 false⟩::t) (k:=3) rfl (F h)
 have I:=fun h C D r Z t=>Eo (m:=q) (lh:=lh) (s:=C::D::r::Z::⟨1,.cells cr 0 false⟩::t) (k:=4) rfl (F h)
 have n1: ¬(1:Nat)=0:=by decide
 by_cases hn:n=0 <;> by_cases hm:m=0 <;> by_cases Q7:cr= []
 all_goals
  simp only[qA,hn,hm,Q7,n1,J,K,N,O,U,V,W,X,Y,eK2,eK3,eC2,H,I,List.length_append]
  exact⟨_,rfl⟩
def tW(l:List Nat):Bool:=decide (l.length≤100)&&l.all fun c=>decide (32≤c)&&decide (c≤126)
theorem xK{r:Int}(P:Int→Prop)(i:P 0)(D:P 1)(F:P 2)(n:Int)(h:r=n%3):P r:=by
 have:r=0∨r=1∨r=2:=by omega
 rcases this with rfl|rfl|rfl <;> assumption
theorem lo0(n:Int):tW ([114,101,112,111,114,116,32]++D4 (n%3))=true:=xK (fun r=>tW ([114,101,112,111,114,116,32]++D4 r)=true) (by decide) (by decide) (by decide) n rfl
theorem lo1(n:Int):tW ([114,101,108,101,97,115,101,32]++UG (n%3))=true:=xK (fun r=>tW ([114,101,108,101,97,115,101,32]++UG r)=true) (by decide) (by decide) (by decide) n rfl
theorem lo2(n:Int):tW ([99,111,110,110,101,99,116,32]++Ma (n%3))=true:=xK (fun r=>tW ([99,111,110,110,101,99,116,32]++Ma r)=true) (by decide) (by decide) (by decide) n rfl
theorem lo3(n:Int):tW ([115,105,116,32]++SW (n%3))=true:=xK (fun r=>tW ([115,105,116,32]++SW r)=true) (by decide) (by decide) (by decide) n rfl
theorem lo4(n:Int):tW ([108,97,121,111,118,101,114,32]++hv4 (n%3))=true:=xK (fun r=>tW ([108,97,121,111,118,101,114,32]++hv4 r)=true) (by decide) (by decide) (by decide) n rfl
theorem lo5(n:Int):tW ([110,105,103,104,116,32]++SA (n%3))=true:=xK (fun r=>tW ([110,105,103,104,116,32]++SA r)=true) (by decide) (by decide) (by decide) n rfl
theorem lo6(n:Int):tW ([99,111,110,115,116,32,115,104,105,102,116,115,32,105,115,32]++S8 (n%3))=true:=xK (fun r=>tW ([99,111,110,115,116,32,115,104,105,102,116,115,32,105,115,32]++S8 r)=true) (by decide) (by decide) (by decide) n rfl
theorem akC(b:Nat→Int): ∀l∈SC b,tW l=true:=by
 have hr:zG.all tW=true:=by decide+kernel
 have hk:zH.all tW=true:=by decide+kernel
 have hc:L1.all tW=true:=by decide+kernel
 intro l hl
 unfold SC at hl
 rcases List.mem_append.1 hl with hl|hl
 ·rcases List.mem_append.1 hl with hl|hl
  ·rcases List.mem_append.1 hl with hl|hl
   ·unfold ZV at hl
    simp only[List.mem_cons,List.not_mem_nil,or_false]at hl
    rcases hl with rfl|rfl|rfl|rfl|rfl|rfl|rfl
    ·exact lo0 _
    ·exact lo1 _
    ·exact lo2 _
    ·exact lo3 _
    ·exact lo4 _
    ·exact lo5 _
    ·exact lo6 _
   ·exact List.all_eq_true.1 hr l ((lB _ _ _).subset hl)
  ·exact List.all_eq_true.1 hk l ((lB _ _ _).subset hl)
 ·unfold crD at hl
  split at hl
  ·rename_i h
   rw[List.mem_singleton]at hl
   subst hl
   have i:(b 41%4).toNat<L1.length:=by show(b 41%4).toNat<3;omega
   rw[List.getD_eq_getElem?_getD,List.getElem?_eq_getElem i]
   exact List.all_eq_true.1 hc _ (List.getElem_mem i)
  ·simp at hl
theorem P6(b:Nat→Int):(SC b).length≤100:=by
 unfold SC crD
 have i:=(lB (Cz b) 0 zG).length_le
 have r:=(lB (Ik b) 0 zH).length_le
 have D:zG.length=18:=rfl
 have F:zH.length=10:=rfl
 have H:(ZV b).length=7:=rfl
 simp only[List.length_append]
 split <;> simp <;> omega
theorem akD(b:Nat→Int):Yr (pZ (SC b))∧ ∀l∈SC b,10∉l:=ade (SC b) (fun l i=>by
 have h:=akC b l i
 unfold tW at h
 simp only[Bool.and_eq_true,decide_eq_true_eq,List.all_eq_true]at h
 exact h) (P6 b)
theorem Iu{n:Nat}{cs:List T}(h:n=0→cs= []):IsSl (Lz n cs) n cs:=od h
theorem LA: ∀l:List Ex,ku l (l.flatMap nL)
 | []=>by rw[ku];rfl
 |x::l=>by rw[ku];exact⟨_,_,rfl,Ba x,LA l⟩
theorem af6(b:Nat→Int):um (rO b) (Tf b) (Lz (rO b).ru.length ((rO b).ru.flatMap px)) (Lz (rO b).co.length ((rO b).co.flatMap ve)) (Lz (rO b).cr.length ((rO b).cr.flatMap nL)) .nilsl .nilsl:=by
 refine⟨?_, ?_, ?_, ?_, ?_, ?_⟩
 ·refine⟨.s Cx::nL (A5 (kB b 6)),.inr ⟨_,rfl⟩, ?_⟩
  show mf [(Cx,A5 (kB b 6))] _
  rw[mf]
  exact⟨nL (A5 (kB b 6)),[],by simp,Ba _,by rw[mf]⟩
 ·exact⟨_,Iu fun h=>by rw[List.length_eq_zero_iff.1 h];rfl,Lx _⟩
 ·exact⟨_,Iu fun h=>by rw[List.length_eq_zero_iff.1 h];rfl,Ly _⟩
 ·exact⟨_,Iu fun h=>by rw[List.length_eq_zero_iff.1 h];rfl,LA _⟩
 ·exact⟨[],.inl ⟨rfl,rfl,rfl⟩,rfl⟩
 ·exact⟨[],.inl ⟨rfl,rfl,rfl⟩,rfl⟩
theorem akE(b:Nat→Int):mW (rO b)=0:=by
 have h:=ajF b
 unfold mI at h
 by_cases i:mW (rO b)=0
 ·exact i
 ·rw[if_pos i]at h;exact h
mutual
def smB:Ex→Bool
 | .mk _ _ s a=>decide (s.length≤100)&&adz a
def adz:List Ex→Bool
 | []=>true
 |x::r=>smB x&&adz r
end
mutual
theorem EM: ∀x:Ex,smB x=true→x.sm
 | .mk _ _ s a,h=>by
   rw[smB,Bool.and_eq_true,decide_eq_true_eq]at h
   rw[Ex.sm]
   exact⟨acm (by omega),P7 a h.2⟩
theorem P7: ∀l:List Ex,adz l=true→X8 l
 | [],_=>by rw[X8];trivial
 |x::r,h=>by
  rw[adz,Bool.and_eq_true]at h
  rw[X8]
  exact⟨EM x h.1,P7 r h.2⟩
end
theorem YK(k:Nat→Nat)(hk: ∀i,k i≤2)(D:List Ru)(F:List Co)(cr:List Ex)(H:D.Sublist l0)(I:F.Sublist pb)(J: ∀x∈cr,x∈Ii):M4 (Cy k D F cr):=by
 have K:(l0.all fun u=>smB u.x)=true:=by decide+kernel
 have N:(pb.all fun u=>smB u.x)=true:=by decide+kernel
 have O:(Ii.all smB)=true:=by decide+kernel
 have U: ∀j,j≤2→smB (A5 j)=true:=fun j V=>three (fun j=>smB (A5 j)=true) (by decide+kernel) (by decide+kernel) (by decide+kernel) V
 refine⟨fun c hc=> ?_,fun u r=>⟨Nat.zero_le _,EM _ (List.all_eq_true.1 K u (H.subset r))⟩,fun u r=>⟨Nat.zero_le _,EM _ (List.all_eq_true.1 N u (I.subset r))⟩,fun x hx=>⟨Nat.zero_le _,EM _ (List.all_eq_true.1 O x (J x hx))⟩⟩
 have hc:c=(Cx,A5 (k 6)):=List.mem_singleton.1 hc
 subst hc
 exact⟨Nat.zero_le _,EM _ (U _ (hk 6))⟩
end Go.Proofs.YtcpceiclnbmgiaaGreat
