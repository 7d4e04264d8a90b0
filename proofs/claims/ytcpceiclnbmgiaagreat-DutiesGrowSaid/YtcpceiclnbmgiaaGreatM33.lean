/- Walks of functions of the program and of the reference, and their plain laws, part 33. Conditions: the theorems' own. -/
import Derived.Test.YtcpceiclnbmgiaaGreatM32
import Derived.Test.YtcpceiclnbmgiaaGreatM24
import Derived.Test.YtcpceiclnbmgiaaGreatM25
import Derived.Test.YtcpceiclnbmgiaaGreatM26
import Derived.Test.YtcpceiclnbmgiaaGreatM27
import Derived.Test.YtcpceiclnbmgiaaGreatM28
import Derived.Test.YtcpceiclnbmgiaaGreatM29
import Derived.Test.YtcpceiclnbmgiaaGreatM30
import Derived.Test.YtcpceiclnbmgiaaGreatM31
import Derived.KernelRfl
set_option maxRecDepth 1000000
set_option linter.unusedSimpArgs false
set_option linter.unusedVariables false
set_option maxRecDepth 100000
set_option maxHeartbeats 16000000
namespace Go.Proofs.YtcpceiclnbmgiaaGreat
open Go Go.Ev
theorem aAa(x0 x1 x2 x3 x4 x5 x6:T){s r:List b8}(h:be pE 79 [.ptr .S 0 1 0,.ptr .S 1 1 0,.sl ajA 2 false] s=some (.i .i64 0,r)):np atb s r:=by
 obtain⟨u,D⟩:=azx
 exact⟨_,_,u,1,D,rfl,rfl,h⟩
theorem aAb(x0 x1 x2 x3 x4 x5 x6:T){s r:List b8}(h:be pE 79 [.ptr .S 0 1 0,.ptr .S 1 1 0,.sl ajB 2 false] s=some (.i .i64 0,r)):np atc s r:=by
 obtain⟨u,D⟩:=az3
 exact⟨_,_,u,1,D,rfl,rfl,h⟩
theorem aAc(x0 x1 x2 x3 x4 x5 x6:T){s r:List b8}(h:be pE 79 [.ptr .S 0 1 0,.ptr .S 1 1 0,.sl ajC 2 false] s=some (.i .i64 0,r)):np atd s r:=by
 obtain⟨u,D⟩:=azq
 exact⟨_,_,u,1,D,rfl,rfl,h⟩
theorem aAd(x0 x1 x2 x3 x4 x5 x6:T){s r:List b8}(h:be pE 79 [.ptr .S 0 1 0,.ptr .S 1 1 0,.sl ajD 2 false] s=some (.i .i64 0,r)):np ate s r:=by
 obtain⟨u,D⟩:=azF
 exact⟨_,_,u,1,D,rfl,rfl,h⟩
theorem aAe(x0 x1 x2 x3 x4 x5 x6:T){s r:List b8}(h:be pE 79 [.ptr .S 0 1 0,.ptr .S 1 1 0,.sl ajE 2 false] s=some (.i .i64 0,r)):np atf s r:=by
 obtain⟨u,D⟩:=azP
 exact⟨_,_,u,1,D,rfl,rfl,h⟩
theorem aAf(x0 x1 x2 x3 x4 x5 x6:T){s r:List b8}(h:be pE 79 [.ptr .S 0 1 0,.ptr .S 1 1 0,.sl ajF 2 false] s=some (.i .i64 0,r)):np atg s r:=by
 obtain⟨u,D⟩:=azA
 exact⟨_,_,u,1,D,rfl,rfl,h⟩
theorem aAg(x0 x1 x2 x3 x4 x5 x6:T){s r:List b8}(h:be pE 79 [.ptr .S 0 1 0,.ptr .S 1 1 0,.sl ajG 2 false] s=some (.i .i64 0,r)):np ath s r:=by
 obtain⟨u,D⟩:=azJ
 exact⟨_,_,u,1,D,rfl,rfl,h⟩
theorem aAh(x0 x1 x2 x3 x4 x5 x6:T){s r:List b8}(h:be pE 79 [.ptr .S 0 1 0,.ptr .S 1 1 0,.sl ajH 2 false] s=some (.i .i64 0,r)):np ati s r:=by
 obtain⟨u,D⟩:=azw
 exact⟨_,_,u,1,D,rfl,rfl,h⟩
theorem aAi(x0 x1 x2 x3 x4 x5 x6:T){s r:List b8}(h:be pE 79 [.ptr .S 0 1 0,.ptr .S 1 1 0,.sl ajI 2 false] s=some (.i .i64 0,r)):np atj s r:=by
 obtain⟨u,D⟩:=az2
 exact⟨_,_,u,1,D,rfl,rfl,h⟩
theorem aAj(x0 x1 x2 x3 x4 x5 x6:T){s r:List b8}(h:be pE 79 [.ptr .S 0 1 0,.ptr .S 1 1 0,.sl ajJ 2 false] s=some (.i .i64 0,r)):np atk s r:=by
 obtain⟨u,D⟩:=azB
 exact⟨_,_,u,1,D,rfl,rfl,h⟩
theorem aAk(x0 x1 x2 x3 x4 x5 x6:T){s r:List b8}(h:be pE 79 [.ptr .S 0 1 0,.ptr .S 1 1 0,.sl ajK 2 false] s=some (.i .i64 0,r)):np atl s r:=by
 obtain⟨u,D⟩:=az7
 exact⟨_,_,u,1,D,rfl,rfl,h⟩
theorem aAl(x0 x1 x2 x3 x4 x5 x6:T){s r:List b8}(h:be pE 79 [.ptr .S 0 1 0,.ptr .S 1 1 0,.sl ajL 2 false] s=some (.i .i64 0,r)):np atm s r:=by
 obtain⟨u,D⟩:=azK
 exact⟨_,_,u,1,D,rfl,rfl,h⟩
theorem aAm(x0 x1 x2 x3 x4 x5 x6:T){s r:List b8}(h:be pE 79 [.ptr .S 0 1 0,.ptr .S 1 1 0,.sl ajM 2 false] s=some (.i .i64 0,r)):np atn s r:=by
 obtain⟨u,D⟩:=azv
 exact⟨_,_,u,1,D,rfl,rfl,h⟩
theorem aAn(x0 x1 x2 x3 x4 x5 x6:T){s r:List b8}(h:be pE 79 [.ptr .S 0 1 0,.ptr .S 1 1 0,.sl ajN 2 false] s=some (.i .i64 0,r)):np ato s r:=by
 obtain⟨u,D⟩:=az1
 exact⟨_,_,u,1,D,rfl,rfl,h⟩
theorem aAo(x0 x1 x2 x3 x4 x5 x6:T){s r:List b8}(h:be pE 79 [.ptr .S 0 1 0,.ptr .S 1 1 0,.sl ajO 2 false] s=some (.i .i64 0,r)):np atp s r:=by
 obtain⟨u,D⟩:=az6
 exact⟨_,_,u,1,D,rfl,rfl,h⟩
theorem aAp(x0 x1 x2 x3 x4 x5 x6:T){s r:List b8}(h:be pE 79 [.ptr .S 0 1 0,.ptr .S 1 1 0,.sl ajP 4 false] s=some (.i .i64 0,r)):np atq s r:=by
 obtain⟨u,D⟩:=azt
 exact⟨_,_,u,3,D,rfl,rfl,h⟩
theorem aAq(x0 x1 x2 x3 x4 x5 x6:T){s r:List b8}(h:be pE 79 [.ptr .S 0 1 0,.ptr .S 1 1 0,.sl ajQ 4 false] s=some (.i .i64 0,r)):np atr s r:=by
 obtain⟨u,D⟩:=azZ
 exact⟨_,_,u,3,D,rfl,rfl,h⟩
theorem aAr(x0 x1 x2 x3 x4 x5 x6:T){s r:List b8}(h:be pE 79 [.ptr .S 0 1 0,.ptr .S 1 1 0,.sl ajR 4 false] s=some (.i .i64 0,r)):np ats s r:=by
 obtain⟨u,D⟩:=az5
 exact⟨_,_,u,3,D,rfl,rfl,h⟩
theorem aAs(x0 x1 x2 x3 x4 x5 x6:T){s r:List b8}(h:be pE 79 [.ptr .S 0 1 0,.ptr .S 1 1 0,.sl ajS 4 false] s=some (.i .i64 0,r)):np att s r:=by
 obtain⟨u,D⟩:=azO
 exact⟨_,_,u,3,D,rfl,rfl,h⟩
theorem aAt(x0 x1 x2 x3 x4 x5 x6:T){s r:List b8}(h:be pE 79 [.ptr .S 0 1 0,.ptr .S 1 1 0,.sl ajT 6 false] s=some (.i .i64 0,r)):np atu s r:=by
 obtain⟨u,D⟩:=azM
 exact⟨_,_,u,5,D,rfl,rfl,h⟩
theorem aAu(x0 x1 x2 x3 x4 x5 x6:T){s r:List b8}(h:be pE 79 [.ptr .S 0 1 0,.ptr .S 1 1 0,.sl ajU 7 false] s=some (.i .i64 0,r)):np atv s r:=by
 obtain⟨u,D⟩:=azH
 exact⟨_,_,u,6,D,rfl,rfl,h⟩
theorem rK0(x0 x1 x2 x3 x4 x5 x6 iK:T)(sn:List T)(n:Nat)(F:n≤100)(cs:List T)(i:cs.length=n*6):np lR0 (qH [x0,x1,x2,x3,x4,x5,x6] iK sn n cs) (qH [x0,x1,x2,x3,x4,x5,x6] iK sn (n+1) (cs++mU (lU.getD 0 ⟨0,[],.mk 1 2 [] []⟩))):=by
 obtain⟨u,H⟩:=sR0
 obtain⟨s,r⟩:=eR0
 obtain⟨d,D,I⟩:=iM (lU.getD 0 ⟨0,[],.mk 1 2 [] []⟩).x
 rw[D]at r
 have h:=tZ x0 x1 x2 x3 x4 x5 x6 iK sn n F cs i (.sl tR0 9 false) 9 [100,117,116,121] [115,105,122,101] 0 0 0 0 (Tk.of tR0 9 0 1 _ 0 _ (by decide) (by decide) rfl rfl) (Tk.of tR0 9 1 1 _ 0 _ (by decide) (by decide) rfl rfl) (Tk.of tR0 9 2 1 _ 0 _ (by decide) (by decide) rfl rfl) (Tk.of tR0 9 3 1 _ 0 _ (by decide) (by decide) rfl rfl) (.inl rfl) (by decide) _ rfl rfl rfl _ _ _ _ ⟨rfl,rfl,rfl,I⟩ s r
 refine⟨_,_,u,8,H,rfl,rfl, ?_⟩
 unfold mU
 rw[D]
 exact h
theorem rK1(x0 x1 x2 x3 x4 x5 x6 iK:T)(sn:List T)(n:Nat)(F:n≤100)(cs:List T)(i:cs.length=n*6):np lR1 (qH [x0,x1,x2,x3,x4,x5,x6] iK sn n cs) (qH [x0,x1,x2,x3,x4,x5,x6] iK sn (n+1) (cs++mU (lU.getD 1 ⟨0,[],.mk 1 2 [] []⟩))):=by
 obtain⟨u,H⟩:=sR1
 obtain⟨s,r⟩:=eR1
 obtain⟨d,D,I⟩:=iM (lU.getD 1 ⟨0,[],.mk 1 2 [] []⟩).x
 rw[D]at r
 have h:=tZ x0 x1 x2 x3 x4 x5 x6 iK sn n F cs i (.sl tR1 15 false) 15 [100,117,116,121] [115,112,97,110] 0 0 0 0 (Tk.of tR1 15 0 1 _ 0 _ (by decide) (by decide) rfl rfl) (Tk.of tR1 15 1 1 _ 0 _ (by decide) (by decide) rfl rfl) (Tk.of tR1 15 2 1 _ 0 _ (by decide) (by decide) rfl rfl) (Tk.of tR1 15 3 1 _ 0 _ (by decide) (by decide) rfl rfl) (.inl rfl) (by decide) _ rfl rfl rfl _ _ _ _ ⟨rfl,rfl,rfl,I⟩ s r
 refine⟨_,_,u,14,H,rfl,rfl, ?_⟩
 unfold mU
 rw[D]
 exact h
theorem rK2(x0 x1 x2 x3 x4 x5 x6 iK:T)(sn:List T)(n:Nat)(F:n≤100)(cs:List T)(i:cs.length=n*6):np lR2 (qH [x0,x1,x2,x3,x4,x5,x6] iK sn n cs) (qH [x0,x1,x2,x3,x4,x5,x6] iK sn (n+1) (cs++mU (lU.getD 2 ⟨0,[],.mk 1 2 [] []⟩))):=by
 obtain⟨u,H⟩:=sR2
 obtain⟨s,r⟩:=eR2
 obtain⟨d,D,I⟩:=iM (lU.getD 2 ⟨0,[],.mk 1 2 [] []⟩).x
 rw[D]at r
 have h:=tZ x0 x1 x2 x3 x4 x5 x6 iK sn n F cs i (.sl tR2 13 false) 13 [100,117,116,121] [110,105,103,104,116] 0 0 0 0 (Tk.of tR2 13 0 1 _ 0 _ (by decide) (by decide) rfl rfl) (Tk.of tR2 13 1 1 _ 0 _ (by decide) (by decide) rfl rfl) (Tk.of tR2 13 2 1 _ 0 _ (by decide) (by decide) rfl rfl) (Tk.of tR2 13 3 1 _ 0 _ (by decide) (by decide) rfl rfl) (.inl rfl) (by decide) _ rfl rfl rfl _ _ _ _ ⟨rfl,rfl,rfl,I⟩ s r
 refine⟨_,_,u,12,H,rfl,rfl, ?_⟩
 unfold mU
 rw[D]
 exact h
theorem rK3(x0 x1 x2 x3 x4 x5 x6 iK:T)(sn:List T)(n:Nat)(F:n≤100)(cs:List T)(i:cs.length=n*6):np lR3 (qH [x0,x1,x2,x3,x4,x5,x6] iK sn n cs) (qH [x0,x1,x2,x3,x4,x5,x6] iK sn (n+1) (cs++mU (lU.getD 3 ⟨0,[],.mk 1 2 [] []⟩))):=by
 obtain⟨u,H⟩:=sR3
 obtain⟨s,r⟩:=eR3
 obtain⟨d,D,I⟩:=iM (lU.getD 3 ⟨0,[],.mk 1 2 [] []⟩).x
 rw[D]at r
 have h:=tZ x0 x1 x2 x3 x4 x5 x6 iK sn n F cs i (.sl tR3 7 false) 7 [100,117,116,121] [98,108,111,99,107] 0 0 0 0 (Tk.of tR3 7 0 1 _ 0 _ (by decide) (by decide) rfl rfl) (Tk.of tR3 7 1 1 _ 0 _ (by decide) (by decide) rfl rfl) (Tk.of tR3 7 2 1 _ 0 _ (by decide) (by decide) rfl rfl) (Tk.of tR3 7 3 1 _ 0 _ (by decide) (by decide) rfl rfl) (.inl rfl) (by decide) _ rfl rfl rfl _ _ _ _ ⟨rfl,rfl,rfl,I⟩ s r
 refine⟨_,_,u,6,H,rfl,rfl, ?_⟩
 unfold mU
 rw[D]
 exact h
theorem rK4(x0 x1 x2 x3 x4 x5 x6 iK:T)(sn:List T)(n:Nat)(F:n≤100)(cs:List T)(i:cs.length=n*6):np lR4 (qH [x0,x1,x2,x3,x4,x5,x6] iK sn n cs) (qH [x0,x1,x2,x3,x4,x5,x6] iK sn (n+1) (cs++mU (lU.getD 4 ⟨0,[],.mk 1 2 [] []⟩))):=by
 obtain⟨u,H⟩:=sR4
 obtain⟨s,r⟩:=eR4
 obtain⟨d,D,I⟩:=iM (lU.getD 4 ⟨0,[],.mk 1 2 [] []⟩).x
 rw[D]at r
 have h:=tZ x0 x1 x2 x3 x4 x5 x6 iK sn n F cs i (.sl tR4 7 false) 7 [100,117,116,121] [116,121,112,101,115] 0 0 0 0 (Tk.of tR4 7 0 1 _ 0 _ (by decide) (by decide) rfl rfl) (Tk.of tR4 7 1 1 _ 0 _ (by decide) (by decide) rfl rfl) (Tk.of tR4 7 2 1 _ 0 _ (by decide) (by decide) rfl rfl) (Tk.of tR4 7 3 1 _ 0 _ (by decide) (by decide) rfl rfl) (.inl rfl) (by decide) _ rfl rfl rfl _ _ _ _ ⟨rfl,rfl,rfl,I⟩ s r
 refine⟨_,_,u,6,H,rfl,rfl, ?_⟩
 unfold mU
 rw[D]
 exact h
theorem rK5(x0 x1 x2 x3 x4 x5 x6 iK:T)(sn:List T)(n:Nat)(F:n≤100)(cs:List T)(i:cs.length=n*6):np lR5 (qH [x0,x1,x2,x3,x4,x5,x6] iK sn n cs) (qH [x0,x1,x2,x3,x4,x5,x6] iK sn (n+1) (cs++mU (lU.getD 5 ⟨0,[],.mk 1 2 [] []⟩))):=by
 obtain⟨u,H⟩:=sR5
 obtain⟨s,r⟩:=eR5
 obtain⟨d,D,I⟩:=iM (lU.getD 5 ⟨0,[],.mk 1 2 [] []⟩).x
 rw[D]at r
 have h:=tZ x0 x1 x2 x3 x4 x5 x6 iK sn n F cs i (.sl tR5 15 false) 15 [100,117,116,121] [111,100,100] 0 0 0 0 (Tk.of tR5 15 0 1 _ 0 _ (by decide) (by decide) rfl rfl) (Tk.of tR5 15 1 1 _ 0 _ (by decide) (by decide) rfl rfl) (Tk.of tR5 15 2 1 _ 0 _ (by decide) (by decide) rfl rfl) (Tk.of tR5 15 3 1 _ 0 _ (by decide) (by decide) rfl rfl) (.inl rfl) (by decide) _ rfl rfl rfl _ _ _ _ ⟨rfl,rfl,rfl,I⟩ s r
 refine⟨_,_,u,14,H,rfl,rfl, ?_⟩
 unfold mU
 rw[D]
 exact h
theorem rK6(x0 x1 x2 x3 x4 x5 x6 iK:T)(sn:List T)(n:Nat)(F:n≤100)(cs:List T)(i:cs.length=n*6):np lR6 (qH [x0,x1,x2,x3,x4,x5,x6] iK sn n cs) (qH [x0,x1,x2,x3,x4,x5,x6] iK sn (n+1) (cs++mU (lU.getD 6 ⟨0,[],.mk 1 2 [] []⟩))):=by
 obtain⟨u,H⟩:=sR6
 obtain⟨s,r⟩:=eR6
 obtain⟨d,D,I⟩:=iM (lU.getD 6 ⟨0,[],.mk 1 2 [] []⟩).x
 rw[D]at r
 have h:=tZ x0 x1 x2 x3 x4 x5 x6 iK sn n F cs i (.sl tR6 11 false) 11 [100,117,116,121] [103,97,112] 0 0 0 0 (Tk.of tR6 11 0 1 _ 0 _ (by decide) (by decide) rfl rfl) (Tk.of tR6 11 1 1 _ 0 _ (by decide) (by decide) rfl rfl) (Tk.of tR6 11 2 1 _ 0 _ (by decide) (by decide) rfl rfl) (Tk.of tR6 11 3 1 _ 0 _ (by decide) (by decide) rfl rfl) (.inl rfl) (by decide) _ rfl rfl rfl _ _ _ _ ⟨rfl,rfl,rfl,I⟩ s r
 refine⟨_,_,u,10,H,rfl,rfl, ?_⟩
 unfold mU
 rw[D]
 exact h
theorem rK7(x0 x1 x2 x3 x4 x5 x6 iK:T)(sn:List T)(n:Nat)(F:n≤100)(cs:List T)(i:cs.length=n*6):np lR7 (qH [x0,x1,x2,x3,x4,x5,x6] iK sn n cs) (qH [x0,x1,x2,x3,x4,x5,x6] iK sn (n+1) (cs++mU (lU.getD 7 ⟨0,[],.mk 1 2 [] []⟩))):=by
 obtain⟨u,H⟩:=sR7
 obtain⟨s,r⟩:=eR7
 obtain⟨d,D,I⟩:=iM (lU.getD 7 ⟨0,[],.mk 1 2 [] []⟩).x
 rw[D]at r
 have h:=tZ x0 x1 x2 x3 x4 x5 x6 iK sn n F cs i (.sl tR7 7 false) 7 [114,101,115,116] [108,101,97,115,116] 0 0 0 0 (Tk.of tR7 7 0 1 _ 0 _ (by decide) (by decide) rfl rfl) (Tk.of tR7 7 1 1 _ 0 _ (by decide) (by decide) rfl rfl) (Tk.of tR7 7 2 1 _ 0 _ (by decide) (by decide) rfl rfl) (Tk.of tR7 7 3 1 _ 0 _ (by decide) (by decide) rfl rfl) (.inr (.inl rfl)) (by decide) _ rfl rfl rfl _ _ _ _ ⟨rfl,rfl,rfl,I⟩ s r
 refine⟨_,_,u,6,H,rfl,rfl, ?_⟩
 unfold mU
 rw[D]
 exact h
theorem rK8(x0 x1 x2 x3 x4 x5 x6 iK:T)(sn:List T)(n:Nat)(F:n≤100)(cs:List T)(i:cs.length=n*6):np lR8 (qH [x0,x1,x2,x3,x4,x5,x6] iK sn n cs) (qH [x0,x1,x2,x3,x4,x5,x6] iK sn (n+1) (cs++mU (lU.getD 8 ⟨0,[],.mk 1 2 [] []⟩))):=by
 obtain⟨u,H⟩:=sR8
 obtain⟨s,r⟩:=eR8
 obtain⟨d,D,I⟩:=iM (lU.getD 8 ⟨0,[],.mk 1 2 [] []⟩).x
 rw[D]at r
 have h:=tZ x0 x1 x2 x3 x4 x5 x6 iK sn n F cs i (.sl tR8 12 false) 12 [114,101,115,116] [98,101,102,111,114,101] 0 0 0 0 (Tk.of tR8 12 0 1 _ 0 _ (by decide) (by decide) rfl rfl) (Tk.of tR8 12 1 1 _ 0 _ (by decide) (by decide) rfl rfl) (Tk.of tR8 12 2 1 _ 0 _ (by decide) (by decide) rfl rfl) (Tk.of tR8 12 3 1 _ 0 _ (by decide) (by decide) rfl rfl) (.inr (.inl rfl)) (by decide) _ rfl rfl rfl _ _ _ _ ⟨rfl,rfl,rfl,I⟩ s r
 refine⟨_,_,u,11,H,rfl,rfl, ?_⟩
 unfold mU
 rw[D]
 exact h
theorem rK9(x0 x1 x2 x3 x4 x5 x6 iK:T)(sn:List T)(n:Nat)(F:n≤100)(cs:List T)(i:cs.length=n*6):np lR9 (qH [x0,x1,x2,x3,x4,x5,x6] iK sn n cs) (qH [x0,x1,x2,x3,x4,x5,x6] iK sn (n+1) (cs++mU (lU.getD 9 ⟨0,[],.mk 1 2 [] []⟩))):=by
 obtain⟨u,H⟩:=sR9
 obtain⟨s,r⟩:=eR9
 obtain⟨d,D,I⟩:=iM (lU.getD 9 ⟨0,[],.mk 1 2 [] []⟩).x
 rw[D]at r
 have h:=tZ x0 x1 x2 x3 x4 x5 x6 iK sn n F cs i (.sl tR9 9 false) 9 [114,101,115,116] [110,105,103,104,116,115] 0 0 0 0 (Tk.of tR9 9 0 1 _ 0 _ (by decide) (by decide) rfl rfl) (Tk.of tR9 9 1 1 _ 0 _ (by decide) (by decide) rfl rfl) (Tk.of tR9 9 2 1 _ 0 _ (by decide) (by decide) rfl rfl) (Tk.of tR9 9 3 1 _ 0 _ (by decide) (by decide) rfl rfl) (.inr (.inl rfl)) (by decide) _ rfl rfl rfl _ _ _ _ ⟨rfl,rfl,rfl,I⟩ s r
 refine⟨_,_,u,8,H,rfl,rfl, ?_⟩
 unfold mU
 rw[D]
 exact h
theorem aAv(x0 x1 x2 x3 x4 x5 x6 iK:T)(sn:List T)(n:Nat)(F:n≤100)(cs:List T)(i:cs.length=n*6):np atw (qH [x0,x1,x2,x3,x4,x5,x6] iK sn n cs) (qH [x0,x1,x2,x3,x4,x5,x6] iK sn (n+1) (cs++mU (lU.getD 10 ⟨0,[],.mk 1 2 [] []⟩))):=by
 obtain⟨u,H⟩:=az4
 obtain⟨s,r⟩:=azL
 obtain⟨d,D,I⟩:=iM (lU.getD 10 ⟨0,[],.mk 1 2 [] []⟩).x
 rw[D]at r
 have h:=tZ x0 x1 x2 x3 x4 x5 x6 iK sn n F cs i (.sl M5 9 false) 9 [114,101,115,116] [104,111,109,101] 0 0 0 0 (Tk.of M5 9 0 1 _ 0 _ (by decide) (by decide) rfl rfl) (Tk.of M5 9 1 1 _ 0 _ (by decide) (by decide) rfl rfl) (Tk.of M5 9 2 1 _ 0 _ (by decide) (by decide) rfl rfl) (Tk.of M5 9 3 1 _ 0 _ (by decide) (by decide) rfl rfl) (.inr (.inl rfl)) (by decide) _ rfl rfl rfl _ _ _ _ ⟨rfl,rfl,rfl,I⟩ s r
 refine⟨_,_,u,8,H,rfl,rfl, ?_⟩
 unfold mU
 rw[D]
 exact h
theorem aAw(x0 x1 x2 x3 x4 x5 x6 iK:T)(sn:List T)(n:Nat)(F:n≤100)(cs:List T)(i:cs.length=n*6):np atx (qH [x0,x1,x2,x3,x4,x5,x6] iK sn n cs) (qH [x0,x1,x2,x3,x4,x5,x6] iK sn (n+1) (cs++mU (lU.getD 11 ⟨0,[],.mk 1 2 [] []⟩))):=by
 obtain⟨u,H⟩:=azn
 obtain⟨s,r⟩:=azG
 obtain⟨d,D,I⟩:=iM (lU.getD 11 ⟨0,[],.mk 1 2 [] []⟩).x
 rw[D]at r
 have h:=tZ x0 x1 x2 x3 x4 x5 x6 iK sn n F cs i (.sl M6 13 false) 13 [114,101,115,116] [97,102,116,101,114] 0 0 0 0 (Tk.of M6 13 0 1 _ 0 _ (by decide) (by decide) rfl rfl) (Tk.of M6 13 1 1 _ 0 _ (by decide) (by decide) rfl rfl) (Tk.of M6 13 2 1 _ 0 _ (by decide) (by decide) rfl rfl) (Tk.of M6 13 3 1 _ 0 _ (by decide) (by decide) rfl rfl) (.inr (.inl rfl)) (by decide) _ rfl rfl rfl _ _ _ _ ⟨rfl,rfl,rfl,I⟩ s r
 refine⟨_,_,u,12,H,rfl,rfl, ?_⟩
 unfold mU
 rw[D]
 exact h
theorem aAx(x0 x1 x2 x3 x4 x5 x6 iK:T)(sn:List T)(n:Nat)(F:n≤100)(cs:List T)(i:cs.length=n*6):np aty (qH [x0,x1,x2,x3,x4,x5,x6] iK sn n cs) (qH [x0,x1,x2,x3,x4,x5,x6] iK sn (n+1) (cs++mU (lU.getD 12 ⟨0,[],.mk 1 2 [] []⟩))):=by
 obtain⟨u,H⟩:=azz
 obtain⟨s,r⟩:=azp
 obtain⟨d,D,I⟩:=iM (lU.getD 12 ⟨0,[],.mk 1 2 [] []⟩).x
 rw[D]at r
 have h:=tZ x0 x1 x2 x3 x4 x5 x6 iK sn n F cs i (.sl M7 7 false) 7 [112,97,105,114,105,110,103] [100,97,121,115] 0 0 0 0 (Tk.of M7 7 0 1 _ 0 _ (by decide) (by decide) rfl rfl) (Tk.of M7 7 1 1 _ 0 _ (by decide) (by decide) rfl rfl) (Tk.of M7 7 2 1 _ 0 _ (by decide) (by decide) rfl rfl) (Tk.of M7 7 3 1 _ 0 _ (by decide) (by decide) rfl rfl) (.inr (.inr rfl)) (by decide) _ rfl rfl rfl _ _ _ _ ⟨rfl,rfl,rfl,I⟩ s r
 refine⟨_,_,u,6,H,rfl,rfl, ?_⟩
 unfold mU
 rw[D]
 exact h
theorem aAy(x0 x1 x2 x3 x4 x5 x6 iK:T)(sn:List T)(n:Nat)(F:n≤100)(cs:List T)(i:cs.length=n*6):np atz (qH [x0,x1,x2,x3,x4,x5,x6] iK sn n cs) (qH [x0,x1,x2,x3,x4,x5,x6] iK sn (n+1) (cs++mU (lU.getD 13 ⟨0,[],.mk 1 2 [] []⟩))):=by
 obtain⟨u,H⟩:=azY
 obtain⟨s,r⟩:=azN
 obtain⟨d,D,I⟩:=iM (lU.getD 13 ⟨0,[],.mk 1 2 [] []⟩).x
 rw[D]at r
 have h:=tZ x0 x1 x2 x3 x4 x5 x6 iK sn n F cs i (.sl M8 7 false) 7 [112,97,105,114,105,110,103] [100,117,116,105,101,115] 0 0 0 0 (Tk.of M8 7 0 1 _ 0 _ (by decide) (by decide) rfl rfl) (Tk.of M8 7 1 1 _ 0 _ (by decide) (by decide) rfl rfl) (Tk.of M8 7 2 1 _ 0 _ (by decide) (by decide) rfl rfl) (Tk.of M8 7 3 1 _ 0 _ (by decide) (by decide) rfl rfl) (.inr (.inr rfl)) (by decide) _ rfl rfl rfl _ _ _ _ ⟨rfl,rfl,rfl,I⟩ s r
 refine⟨_,_,u,6,H,rfl,rfl, ?_⟩
 unfold mU
 rw[D]
 exact h
theorem aAz(x0 x1 x2 x3 x4 x5 x6 iK:T)(sn:List T)(n:Nat)(F:n≤100)(cs:List T)(i:cs.length=n*6):np atA (qH [x0,x1,x2,x3,x4,x5,x6] iK sn n cs) (qH [x0,x1,x2,x3,x4,x5,x6] iK sn (n+1) (cs++mU (lU.getD 14 ⟨0,[],.mk 1 2 [] []⟩))):=by
 obtain⟨u,H⟩:=azr
 obtain⟨s,r⟩:=azI
 obtain⟨d,D,I⟩:=iM (lU.getD 14 ⟨0,[],.mk 1 2 [] []⟩).x
 rw[D]at r
 have h:=tZ x0 x1 x2 x3 x4 x5 x6 iK sn n F cs i (.sl M9 7 false) 7 [112,97,105,114,105,110,103] [98,108,111,99,107] 0 0 0 0 (Tk.of M9 7 0 1 _ 0 _ (by decide) (by decide) rfl rfl) (Tk.of M9 7 1 1 _ 0 _ (by decide) (by decide) rfl rfl) (Tk.of M9 7 2 1 _ 0 _ (by decide) (by decide) rfl rfl) (Tk.of M9 7 3 1 _ 0 _ (by decide) (by decide) rfl rfl) (.inr (.inr rfl)) (by decide) _ rfl rfl rfl _ _ _ _ ⟨rfl,rfl,rfl,I⟩ s r
 refine⟨_,_,u,6,H,rfl,rfl, ?_⟩
 unfold mU
 rw[D]
 exact h
theorem aAA(x0 x1 x2 x3 x4 x5 x6 iK:T)(sn:List T)(n:Nat)(F:n≤100)(cs:List T)(i:cs.length=n*6):np atC (qH [x0,x1,x2,x3,x4,x5,x6] iK sn n cs) (qH [x0,x1,x2,x3,x4,x5,x6] iK sn (n+1) (cs++mU (lU.getD 15 ⟨0,[],.mk 1 2 [] []⟩))):=by
 obtain⟨u,H⟩:=azC
 obtain⟨s,r⟩:=azE
 obtain⟨d,D,I⟩:=iM (lU.getD 15 ⟨0,[],.mk 1 2 [] []⟩).x
 rw[D]at r
 have h:=tZ x0 x1 x2 x3 x4 x5 x6 iK sn n F cs i (.sl Na 7 false) 7 [112,97,105,114,105,110,103] [99,114,101,100,105,116] 0 0 0 0 (Tk.of Na 7 0 1 _ 0 _ (by decide) (by decide) rfl rfl) (Tk.of Na 7 1 1 _ 0 _ (by decide) (by decide) rfl rfl) (Tk.of Na 7 2 1 _ 0 _ (by decide) (by decide) rfl rfl) (Tk.of Na 7 3 1 _ 0 _ (by decide) (by decide) rfl rfl) (.inr (.inr rfl)) (by decide) _ rfl rfl rfl _ _ _ _ ⟨rfl,rfl,rfl,I⟩ s r
 refine⟨_,_,u,6,H,rfl,rfl, ?_⟩
 unfold mU
 rw[D]
 exact h
theorem aAB(x0 x1 x2 x3 x4 x5 x6 iK:T)(sn:List T)(n:Nat)(F:n≤100)(cs:List T)(i:cs.length=n*6):np atD (qH [x0,x1,x2,x3,x4,x5,x6] iK sn n cs) (qH [x0,x1,x2,x3,x4,x5,x6] iK sn (n+1) (cs++mU (lU.getD 16 ⟨0,[],.mk 1 2 [] []⟩))):=by
 obtain⟨u,H⟩:=azD
 obtain⟨s,r⟩:=az0
 obtain⟨d,D,I⟩:=iM (lU.getD 16 ⟨0,[],.mk 1 2 [] []⟩).x
 rw[D]at r
 have h:=tZ x0 x1 x2 x3 x4 x5 x6 iK sn n F cs i (.sl Nb 7 false) 7 [112,97,105,114,105,110,103] [115,112,97,110] 0 0 0 0 (Tk.of Nb 7 0 1 _ 0 _ (by decide) (by decide) rfl rfl) (Tk.of Nb 7 1 1 _ 0 _ (by decide) (by decide) rfl rfl) (Tk.of Nb 7 2 1 _ 0 _ (by decide) (by decide) rfl rfl) (Tk.of Nb 7 3 1 _ 0 _ (by decide) (by decide) rfl rfl) (.inr (.inr rfl)) (by decide) _ rfl rfl rfl _ _ _ _ ⟨rfl,rfl,rfl,I⟩ s r
 refine⟨_,_,u,6,H,rfl,rfl, ?_⟩
 unfold mU
 rw[D]
 exact h
theorem aAC(x0 x1 x2 x3 x4 x5 x6 iK:T)(sn:List T)(n:Nat)(F:n≤100)(cs:List T)(i:cs.length=n*6):np atE (qH [x0,x1,x2,x3,x4,x5,x6] iK sn n cs) (qH [x0,x1,x2,x3,x4,x5,x6] iK sn (n+1) (cs++mU (lU.getD 17 ⟨0,[],.mk 1 2 [] []⟩))):=by
 obtain⟨u,H⟩:=azy
 obtain⟨s,r⟩:=azu
 obtain⟨d,D,I⟩:=iM (lU.getD 17 ⟨0,[],.mk 1 2 [] []⟩).x
 rw[D]at r
 have h:=tZ x0 x1 x2 x3 x4 x5 x6 iK sn n F cs i (.sl Nc 7 false) 7 [112,97,105,114,105,110,103] [108,101,103,115] 0 0 0 0 (Tk.of Nc 7 0 1 _ 0 _ (by decide) (by decide) rfl rfl) (Tk.of Nc 7 1 1 _ 0 _ (by decide) (by decide) rfl rfl) (Tk.of Nc 7 2 1 _ 0 _ (by decide) (by decide) rfl rfl) (Tk.of Nc 7 3 1 _ 0 _ (by decide) (by decide) rfl rfl) (.inr (.inr rfl)) (by decide) _ rfl rfl rfl _ _ _ _ ⟨rfl,rfl,rfl,I⟩ s r
 refine⟨_,_,u,6,H,rfl,rfl, ?_⟩
 unfold mU
 rw[D]
 exact h
theorem kK0(x0 x1 x2 x3 x4 x5 x6 iK i:T)(sn:List T)(P:List b8)(H:P.length≤1)(n:Nat)(I:n≤100)(cs:List T)(r:cs.length=n*5):np lK0 (xh [x0,x1,x2,x3,x4,x5,x6] iK i sn P n cs) (xh [x0,x1,x2,x3,x4,x5,x6] iK i sn P (n+1) (cs++ua (pM.getD 0 ⟨0,.mk 1 2 [] []⟩))):=by
 obtain⟨u,J⟩:=sK0
 obtain⟨s,D⟩:=eK0
 obtain⟨d,F,K⟩:=iM (pM.getD 0 ⟨0,.mk 1 2 [] []⟩).x
 rw[F]at D
 have h:=Fb x0 x1 x2 x3 x4 x5 x6 iK i sn P H n I cs r (.sl tK0 8 false) 8 [100,117,116,121] 0 0 0 (Tk.of tK0 8 0 1 _ 0 _ (by decide) (by decide) rfl rfl) (Tk.of tK0 8 1 1 _ 0 _ (by decide) (by decide) rfl rfl) (Tk.of tK0 8 2 1 _ 0 _ (by decide) (by decide) rfl rfl) (.inl rfl) _ rfl rfl rfl _ _ _ _ ⟨rfl,rfl,rfl,K⟩ s D
 refine⟨_,_,u,7,J,rfl,rfl, ?_⟩
 unfold ua
 rw[F]
 exact h
theorem kK1(x0 x1 x2 x3 x4 x5 x6 iK i:T)(sn:List T)(P:List b8)(H:P.length≤1)(n:Nat)(I:n≤100)(cs:List T)(r:cs.length=n*5):np lK1 (xh [x0,x1,x2,x3,x4,x5,x6] iK i sn P n cs) (xh [x0,x1,x2,x3,x4,x5,x6] iK i sn P (n+1) (cs++ua (pM.getD 1 ⟨0,.mk 1 2 [] []⟩))):=by
 obtain⟨u,J⟩:=sK1
 obtain⟨s,D⟩:=eK1
 obtain⟨d,F,K⟩:=iM (pM.getD 1 ⟨0,.mk 1 2 [] []⟩).x
 rw[F]at D
 have h:=Fb x0 x1 x2 x3 x4 x5 x6 iK i sn P H n I cs r (.sl tK1 10 false) 10 [100,117,116,121] 0 0 0 (Tk.of tK1 10 0 1 _ 0 _ (by decide) (by decide) rfl rfl) (Tk.of tK1 10 1 1 _ 0 _ (by decide) (by decide) rfl rfl) (Tk.of tK1 10 2 1 _ 0 _ (by decide) (by decide) rfl rfl) (.inl rfl) _ rfl rfl rfl _ _ _ _ ⟨rfl,rfl,rfl,K⟩ s D
 refine⟨_,_,u,9,J,rfl,rfl, ?_⟩
 unfold ua
 rw[F]
 exact h
theorem kK2(x0 x1 x2 x3 x4 x5 x6 iK i:T)(sn:List T)(P:List b8)(H:P.length≤1)(n:Nat)(I:n≤100)(cs:List T)(r:cs.length=n*5):np lK2 (xh [x0,x1,x2,x3,x4,x5,x6] iK i sn P n cs) (xh [x0,x1,x2,x3,x4,x5,x6] iK i sn P (n+1) (cs++ua (pM.getD 2 ⟨0,.mk 1 2 [] []⟩))):=by
 obtain⟨u,J⟩:=sK2
 obtain⟨s,D⟩:=eK2
 obtain⟨d,F,K⟩:=iM (pM.getD 2 ⟨0,.mk 1 2 [] []⟩).x
 rw[F]at D
 have h:=Fb x0 x1 x2 x3 x4 x5 x6 iK i sn P H n I cs r (.sl tK2 11 false) 11 [100,117,116,121] 0 0 0 (Tk.of tK2 11 0 1 _ 0 _ (by decide) (by decide) rfl rfl) (Tk.of tK2 11 1 1 _ 0 _ (by decide) (by decide) rfl rfl) (Tk.of tK2 11 2 1 _ 0 _ (by decide) (by decide) rfl rfl) (.inl rfl) _ rfl rfl rfl _ _ _ _ ⟨rfl,rfl,rfl,K⟩ s D
 refine⟨_,_,u,10,J,rfl,rfl, ?_⟩
 unfold ua
 rw[F]
 exact h
theorem kK3(x0 x1 x2 x3 x4 x5 x6 iK i:T)(sn:List T)(P:List b8)(H:P.length≤1)(n:Nat)(I:n≤100)(cs:List T)(r:cs.length=n*5):np lK3 (xh [x0,x1,x2,x3,x4,x5,x6] iK i sn P n cs) (xh [x0,x1,x2,x3,x4,x5,x6] iK i sn P (n+1) (cs++ua (pM.getD 3 ⟨0,.mk 1 2 [] []⟩))):=by
 obtain⟨u,J⟩:=sK3
 obtain⟨s,D⟩:=eK3
 obtain⟨d,F,K⟩:=iM (pM.getD 3 ⟨0,.mk 1 2 [] []⟩).x
 rw[F]at D
 have h:=Fb x0 x1 x2 x3 x4 x5 x6 iK i sn P H n I cs r (.sl tK3 9 false) 9 [114,101,115,116] 0 0 0 (Tk.of tK3 9 0 1 _ 0 _ (by decide) (by decide) rfl rfl) (Tk.of tK3 9 1 1 _ 0 _ (by decide) (by decide) rfl rfl) (Tk.of tK3 9 2 1 _ 0 _ (by decide) (by decide) rfl rfl) (.inr (.inl rfl)) _ rfl rfl rfl _ _ _ _ ⟨rfl,rfl,rfl,K⟩ s D
 refine⟨_,_,u,8,J,rfl,rfl, ?_⟩
 unfold ua
 rw[F]
 exact h
theorem kK4(x0 x1 x2 x3 x4 x5 x6 iK i:T)(sn:List T)(P:List b8)(H:P.length≤1)(n:Nat)(I:n≤100)(cs:List T)(r:cs.length=n*5):np lK4 (xh [x0,x1,x2,x3,x4,x5,x6] iK i sn P n cs) (xh [x0,x1,x2,x3,x4,x5,x6] iK i sn P (n+1) (cs++ua (pM.getD 4 ⟨0,.mk 1 2 [] []⟩))):=by
 obtain⟨u,J⟩:=sK4
 obtain⟨s,D⟩:=eK4
 obtain⟨d,F,K⟩:=iM (pM.getD 4 ⟨0,.mk 1 2 [] []⟩).x
 rw[F]at D
 have h:=Fb x0 x1 x2 x3 x4 x5 x6 iK i sn P H n I cs r (.sl tK4 6 false) 6 [114,101,115,116] 0 0 0 (Tk.of tK4 6 0 1 _ 0 _ (by decide) (by decide) rfl rfl) (Tk.of tK4 6 1 1 _ 0 _ (by decide) (by decide) rfl rfl) (Tk.of tK4 6 2 1 _ 0 _ (by decide) (by decide) rfl rfl) (.inr (.inl rfl)) _ rfl rfl rfl _ _ _ _ ⟨rfl,rfl,rfl,K⟩ s D
 refine⟨_,_,u,5,J,rfl,rfl, ?_⟩
 unfold ua
 rw[F]
 exact h
theorem kK5(x0 x1 x2 x3 x4 x5 x6 iK i:T)(sn:List T)(P:List b8)(H:P.length≤1)(n:Nat)(I:n≤100)(cs:List T)(r:cs.length=n*5):np lK5 (xh [x0,x1,x2,x3,x4,x5,x6] iK i sn P n cs) (xh [x0,x1,x2,x3,x4,x5,x6] iK i sn P (n+1) (cs++ua (pM.getD 5 ⟨0,.mk 1 2 [] []⟩))):=by
 obtain⟨u,J⟩:=sK5
 obtain⟨s,D⟩:=eK5
 obtain⟨d,F,K⟩:=iM (pM.getD 5 ⟨0,.mk 1 2 [] []⟩).x
 rw[F]at D
 have h:=Fb x0 x1 x2 x3 x4 x5 x6 iK i sn P H n I cs r (.sl tK5 6 false) 6 [112,97,105,114,105,110,103] 0 0 0 (Tk.of tK5 6 0 1 _ 0 _ (by decide) (by decide) rfl rfl) (Tk.of tK5 6 1 1 _ 0 _ (by decide) (by decide) rfl rfl) (Tk.of tK5 6 2 1 _ 0 _ (by decide) (by decide) rfl rfl) (.inr (.inr rfl)) _ rfl rfl rfl _ _ _ _ ⟨rfl,rfl,rfl,K⟩ s D
 refine⟨_,_,u,5,J,rfl,rfl, ?_⟩
 unfold ua
 rw[F]
 exact h
theorem kK6(x0 x1 x2 x3 x4 x5 x6 iK i:T)(sn:List T)(P:List b8)(H:P.length≤1)(n:Nat)(I:n≤100)(cs:List T)(r:cs.length=n*5):np lK6 (xh [x0,x1,x2,x3,x4,x5,x6] iK i sn P n cs) (xh [x0,x1,x2,x3,x4,x5,x6] iK i sn P (n+1) (cs++ua (pM.getD 6 ⟨0,.mk 1 2 [] []⟩))):=by
 obtain⟨u,J⟩:=sK6
 obtain⟨s,D⟩:=eK6
 obtain⟨d,F,K⟩:=iM (pM.getD 6 ⟨0,.mk 1 2 [] []⟩).x
 rw[F]at D
 have h:=Fb x0 x1 x2 x3 x4 x5 x6 iK i sn P H n I cs r (.sl tK6 13 false) 13 [112,97,105,114,105,110,103] 0 0 0 (Tk.of tK6 13 0 1 _ 0 _ (by decide) (by decide) rfl rfl) (Tk.of tK6 13 1 1 _ 0 _ (by decide) (by decide) rfl rfl) (Tk.of tK6 13 2 1 _ 0 _ (by decide) (by decide) rfl rfl) (.inr (.inr rfl)) _ rfl rfl rfl _ _ _ _ ⟨rfl,rfl,rfl,K⟩ s D
 refine⟨_,_,u,12,J,rfl,rfl, ?_⟩
 unfold ua
 rw[F]
 exact h
theorem kK7(x0 x1 x2 x3 x4 x5 x6 iK i:T)(sn:List T)(P:List b8)(H:P.length≤1)(n:Nat)(I:n≤100)(cs:List T)(r:cs.length=n*5):np lK7 (xh [x0,x1,x2,x3,x4,x5,x6] iK i sn P n cs) (xh [x0,x1,x2,x3,x4,x5,x6] iK i sn P (n+1) (cs++ua (pM.getD 7 ⟨0,.mk 1 2 [] []⟩))):=by
 obtain⟨u,J⟩:=sK7
 obtain⟨s,D⟩:=eK7
 obtain⟨d,F,K⟩:=iM (pM.getD 7 ⟨0,.mk 1 2 [] []⟩).x
 rw[F]at D
 have h:=Fb x0 x1 x2 x3 x4 x5 x6 iK i sn P H n I cs r (.sl tK7 9 false) 9 [100,117,116,121] 0 0 0 (Tk.of tK7 9 0 1 _ 0 _ (by decide) (by decide) rfl rfl) (Tk.of tK7 9 1 1 _ 0 _ (by decide) (by decide) rfl rfl) (Tk.of tK7 9 2 1 _ 0 _ (by decide) (by decide) rfl rfl) (.inl rfl) _ rfl rfl rfl _ _ _ _ ⟨rfl,rfl,rfl,K⟩ s D
 refine⟨_,_,u,8,J,rfl,rfl, ?_⟩
 unfold ua
 rw[F]
 exact h
theorem kK8(x0 x1 x2 x3 x4 x5 x6 iK i:T)(sn:List T)(P:List b8)(H:P.length≤1)(n:Nat)(I:n≤100)(cs:List T)(r:cs.length=n*5):np lK8 (xh [x0,x1,x2,x3,x4,x5,x6] iK i sn P n cs) (xh [x0,x1,x2,x3,x4,x5,x6] iK i sn P (n+1) (cs++ua (pM.getD 8 ⟨0,.mk 1 2 [] []⟩))):=by
 obtain⟨u,J⟩:=sK8
 obtain⟨s,D⟩:=eK8
 obtain⟨d,F,K⟩:=iM (pM.getD 8 ⟨0,.mk 1 2 [] []⟩).x
 rw[F]at D
 have h:=Fb x0 x1 x2 x3 x4 x5 x6 iK i sn P H n I cs r (.sl tK8 6 false) 6 [100,117,116,121] 0 0 0 (Tk.of tK8 6 0 1 _ 0 _ (by decide) (by decide) rfl rfl) (Tk.of tK8 6 1 1 _ 0 _ (by decide) (by decide) rfl rfl) (Tk.of tK8 6 2 1 _ 0 _ (by decide) (by decide) rfl rfl) (.inl rfl) _ rfl rfl rfl _ _ _ _ ⟨rfl,rfl,rfl,K⟩ s D
 refine⟨_,_,u,5,J,rfl,rfl, ?_⟩
 unfold ua
 rw[F]
 exact h
theorem kK9(x0 x1 x2 x3 x4 x5 x6 iK i:T)(sn:List T)(P:List b8)(H:P.length≤1)(n:Nat)(I:n≤100)(cs:List T)(r:cs.length=n*5):np lK9 (xh [x0,x1,x2,x3,x4,x5,x6] iK i sn P n cs) (xh [x0,x1,x2,x3,x4,x5,x6] iK i sn P (n+1) (cs++ua (pM.getD 9 ⟨0,.mk 1 2 [] []⟩))):=by
 obtain⟨u,J⟩:=sK9
 obtain⟨s,D⟩:=eK9
 obtain⟨d,F,K⟩:=iM (pM.getD 9 ⟨0,.mk 1 2 [] []⟩).x
 rw[F]at D
 have h:=Fb x0 x1 x2 x3 x4 x5 x6 iK i sn P H n I cs r (.sl tK9 11 false) 11 [112,97,105,114,105,110,103] 0 0 0 (Tk.of tK9 11 0 1 _ 0 _ (by decide) (by decide) rfl rfl) (Tk.of tK9 11 1 1 _ 0 _ (by decide) (by decide) rfl rfl) (Tk.of tK9 11 2 1 _ 0 _ (by decide) (by decide) rfl rfl) (.inr (.inr rfl)) _ rfl rfl rfl _ _ _ _ ⟨rfl,rfl,rfl,K⟩ s D
 refine⟨_,_,u,10,J,rfl,rfl, ?_⟩
 unfold ua
 rw[F]
 exact h
theorem cK0(x0 x1 x2 x3 x4 x5 x6 iK i D9:T)(sn:List T)(P:List b8)(F:P.length≤2):np lC0 (Ni [x0,x1,x2,x3,x4,x5,x6] iK i D9 sn P []) (Ni [x0,x1,x2,x3,x4,x5,x6] iK i D9 sn P (mV (Im.getD 0 (.mk 1 2 [] [])))):=by
 obtain⟨u,H⟩:=sC0
 obtain⟨s,r⟩:=eC0
 obtain⟨d,D,I⟩:=iM (Im.getD 0 (.mk 1 2 [] []))
 rw[D]at r
 have h:=akf x0 x1 x2 x3 x4 x5 x6 iK i D9 sn P F (.sl tC0 9 false) 9 0 0 0 (Tk.of tC0 9 0 1 _ 0 _ (by decide) (by decide) rfl rfl) (Tk.of tC0 9 1 1 _ 0 _ (by decide) (by decide) rfl rfl) (Tk.of tC0 9 2 1 _ 0 _ (by decide) (by decide) rfl rfl) _ rfl rfl rfl _ _ _ _ ⟨rfl,rfl,rfl,I⟩ s r
 refine⟨_,_,u,8,H,rfl,rfl, ?_⟩
 rw[D]
 exact h
theorem cK1(x0 x1 x2 x3 x4 x5 x6 iK i D9:T)(sn:List T)(P:List b8)(F:P.length≤2):np lC1 (Ni [x0,x1,x2,x3,x4,x5,x6] iK i D9 sn P []) (Ni [x0,x1,x2,x3,x4,x5,x6] iK i D9 sn P (mV (Im.getD 1 (.mk 1 2 [] [])))):=by
 obtain⟨u,H⟩:=sC1
 obtain⟨s,r⟩:=eC1
 obtain⟨d,D,I⟩:=iM (Im.getD 1 (.mk 1 2 [] []))
 rw[D]at r
 have h:=akf x0 x1 x2 x3 x4 x5 x6 iK i D9 sn P F (.sl tC1 6 false) 6 0 0 0 (Tk.of tC1 6 0 1 _ 0 _ (by decide) (by decide) rfl rfl) (Tk.of tC1 6 1 1 _ 0 _ (by decide) (by decide) rfl rfl) (Tk.of tC1 6 2 1 _ 0 _ (by decide) (by decide) rfl rfl) _ rfl rfl rfl _ _ _ _ ⟨rfl,rfl,rfl,I⟩ s r
 refine⟨_,_,u,5,H,rfl,rfl, ?_⟩
 rw[D]
 exact h
theorem cK2(x0 x1 x2 x3 x4 x5 x6 iK i D9:T)(sn:List T)(P:List b8)(F:P.length≤2):np lC2 (Ni [x0,x1,x2,x3,x4,x5,x6] iK i D9 sn P []) (Ni [x0,x1,x2,x3,x4,x5,x6] iK i D9 sn P (mV (Im.getD 2 (.mk 1 2 [] [])))):=by
 obtain⟨u,H⟩:=sC2
 obtain⟨s,r⟩:=eC2
 obtain⟨d,D,I⟩:=iM (Im.getD 2 (.mk 1 2 [] []))
 rw[D]at r
 have h:=akf x0 x1 x2 x3 x4 x5 x6 iK i D9 sn P F (.sl tC2 8 false) 8 0 0 0 (Tk.of tC2 8 0 1 _ 0 _ (by decide) (by decide) rfl rfl) (Tk.of tC2 8 1 1 _ 0 _ (by decide) (by decide) rfl rfl) (Tk.of tC2 8 2 1 _ 0 _ (by decide) (by decide) rfl rfl) _ rfl rfl rfl _ _ _ _ ⟨rfl,rfl,rfl,I⟩ s r
 refine⟨_,_,u,7,H,rfl,rfl, ?_⟩
 rw[D]
 exact h
theorem hL0(b:Nat→Int)(x0 x1 x2 x3 x4 x5 x6:T):np ([114,101,112,111,114,116,32]++DJ (b 0%3)) (nD [x0,x1,x2,x3,x4,x5,x6] .nilsl [.b false,.b false,.b false,.b false,.b false,.b false,.b false]) (nD [.i .i64 (rpB (kB b 0)),x1,x2,x3,x4,x5,x6] (.nilsl) [.b true,.b false,.b false,.b false,.b false,.b false,.b false]):=by
 unfold kB
 have:b 0%3=0∨b 0%3=1∨b 0%3=2:=by omega
 rcases this with h|h|h
 ·rw[h];exact aAa x0 x1 x2 x3 x4 x5 x6 (d00 x0 x1 x2 x3 x4 x5 x6)
 ·rw[h];exact aAb x0 x1 x2 x3 x4 x5 x6 (d01 x0 x1 x2 x3 x4 x5 x6)
 ·rw[h];exact aAc x0 x1 x2 x3 x4 x5 x6 (d02 x0 x1 x2 x3 x4 x5 x6)
theorem Ox(b:Nat→Int)(x0 x1 x2 x3 x4 x5 x6:T):np ([114,101,108,101,97,115,101,32]++Uf (b 1%3)) (nD [x0,x1,x2,x3,x4,x5,x6] .nilsl [.b true,.b false,.b false,.b false,.b false,.b false,.b false]) (nD [x0,.i .i64 (rlB (kB b 1)),x2,x3,x4,x5,x6] (.nilsl) [.b true,.b true,.b false,.b false,.b false,.b false,.b false]):=by
 unfold kB
 have:b 1%3=0∨b 1%3=1∨b 1%3=2:=by omega
 rcases this with h|h|h
 ·rw[h];exact aAd x0 x1 x2 x3 x4 x5 x6 (d10 x0 x1 x2 x3 x4 x5 x6)
 ·rw[h];exact aAe x0 x1 x2 x3 x4 x5 x6 (d11 x0 x1 x2 x3 x4 x5 x6)
 ·rw[h];exact aAf x0 x1 x2 x3 x4 x5 x6 (d12 x0 x1 x2 x3 x4 x5 x6)
theorem hL2(b:Nat→Int)(x0 x1 x2 x3 x4 x5 x6:T):np ([99,111,110,110,101,99,116,32]++LH (b 2%3)) (nD [x0,x1,x2,x3,x4,x5,x6] .nilsl [.b true,.b true,.b false,.b false,.b false,.b false,.b false]) (nD [x0,x1,.i .i64 (MW (kB b 2)),x3,x4,x5,x6] (.nilsl) [.b true,.b true,.b true,.b false,.b false,.b false,.b false]):=by
 unfold kB
 have:b 2%3=0∨b 2%3=1∨b 2%3=2:=by omega
 rcases this with h|h|h
 ·rw[h];exact aAg x0 x1 x2 x3 x4 x5 x6 (d20 x0 x1 x2 x3 x4 x5 x6)
 ·rw[h];exact aAh x0 x1 x2 x3 x4 x5 x6 (d21 x0 x1 x2 x3 x4 x5 x6)
 ·rw[h];exact aAi x0 x1 x2 x3 x4 x5 x6 (d22 x0 x1 x2 x3 x4 x5 x6)
theorem hL3(b:Nat→Int)(x0 x1 x2 x3 x4 x5 x6:T):np ([115,105,116,32]++Sn (b 3%3)) (nD [x0,x1,x2,x3,x4,x5,x6] .nilsl [.b true,.b true,.b true,.b false,.b false,.b false,.b false]) (nD [x0,x1,x2,.i .i64 (EV (kB b 3)),x4,x5,x6] (.nilsl) [.b true,.b true,.b true,.b true,.b false,.b false,.b false]):=by
 unfold kB
 have:b 3%3=0∨b 3%3=1∨b 3%3=2:=by omega
 rcases this with h|h|h
 ·rw[h];exact aAj x0 x1 x2 x3 x4 x5 x6 (d30 x0 x1 x2 x3 x4 x5 x6)
 ·rw[h];exact aAk x0 x1 x2 x3 x4 x5 x6 (d31 x0 x1 x2 x3 x4 x5 x6)
 ·rw[h];exact aAl x0 x1 x2 x3 x4 x5 x6 (d32 x0 x1 x2 x3 x4 x5 x6)
theorem hL4(b:Nat→Int)(x0 x1 x2 x3 x4 x5 x6:T):np ([108,97,121,111,118,101,114,32]++hv4 (b 4%3)) (nD [x0,x1,x2,x3,x4,x5,x6] .nilsl [.b true,.b true,.b true,.b true,.b false,.b false,.b false]) (nD [x0,x1,x2,x3,.i .i64 (lyB (kB b 4)),x5,x6] (.nilsl) [.b true,.b true,.b true,.b true,.b true,.b false,.b false]):=by
 unfold kB
 have:b 4%3=0∨b 4%3=1∨b 4%3=2:=by omega
 rcases this with h|h|h
 ·rw[h];exact aAm x0 x1 x2 x3 x4 x5 x6 (d40 x0 x1 x2 x3 x4 x5 x6)
 ·rw[h];exact aAn x0 x1 x2 x3 x4 x5 x6 (d41 x0 x1 x2 x3 x4 x5 x6)
 ·rw[h];exact aAo x0 x1 x2 x3 x4 x5 x6 (d42 x0 x1 x2 x3 x4 x5 x6)
theorem hL5(b:Nat→Int)(x0 x1 x2 x3 x4 x5 x6:T):np ([110,105,103,104,116,32]++RZ (b 5%3)) (nD [x0,x1,x2,x3,x4,x5,x6] .nilsl [.b true,.b true,.b true,.b true,.b true,.b false,.b false]) (nD [x0,x1,x2,x3,x4,.i .i64 (nfB (kB b 5)),.i .i64 (ntB (kB b 5))] (.nilsl) [.b true,.b true,.b true,.b true,.b true,.b false,.b true]):=by
 unfold kB
 have:b 5%3=0∨b 5%3=1∨b 5%3=2:=by omega
 rcases this with h|h|h
 ·rw[h];exact aAp x0 x1 x2 x3 x4 x5 x6 (d50 x0 x1 x2 x3 x4 x5 x6)
 ·rw[h];exact aAq x0 x1 x2 x3 x4 x5 x6 (d51 x0 x1 x2 x3 x4 x5 x6)
 ·rw[h];exact aAr x0 x1 x2 x3 x4 x5 x6 (d52 x0 x1 x2 x3 x4 x5 x6)
theorem hL6(b:Nat→Int)(x0 x1 x2 x3 x4 x5 x6:T):np ([99,111,110,115,116,32,115,104,105,102,116,115,32,105,115,32]++SD (b 6%3)) (nD [x0,x1,x2,x3,x4,x5,x6] .nilsl [.b true,.b true,.b true,.b true,.b true,.b false,.b true]) (nD [x0,x1,x2,x3,x4,x5,x6] (.sl (.s B9::mV (AE (kB b 6))) 1 false) [.b true,.b true,.b true,.b true,.b true,.b false,.b true]):=by
 unfold kB
 have:b 6%3=0∨b 6%3=1∨b 6%3=2:=by omega
 rcases this with h|h|h
 ·rw[h];exact aAs x0 x1 x2 x3 x4 x5 x6 (d60 x0 x1 x2 x3 x4 x5 x6)
 ·rw[h];exact aAt x0 x1 x2 x3 x4 x5 x6 (d61 x0 x1 x2 x3 x4 x5 x6)
 ·rw[h];exact aAu x0 x1 x2 x3 x4 x5 x6 (d62 x0 x1 x2 x3 x4 x5 x6)
def hdT(b:Nat→Int):List T:= [.i .i64 (rpB (kB b 0)),.i .i64 (rlB (kB b 1)),.i .i64 (MW (kB b 2)),.i .i64 (EV (kB b 3)),.i .i64 (lyB (kB b 4)),.i .i64 (nfB (kB b 5)),.i .i64 (ntB (kB b 5))]
def SJ(b:Nat→Int):T:= .sl (.s B9::mV (AE (kB b 6))) 1 false
def snU:List T:= [.b true,.b true,.b true,.b true,.b true,.b false,.b true]
theorem aki(b:Nat→Int):yX (Zm b) kS0 (nD (hdT b) (SJ b) snU):=by
 unfold Zm kS0
 exact⟨_,hL0 b ..,_,Ox b ..,_,hL2 b ..,_,hL3 b ..,_,hL4 b ..,_,hL5 b ..,_,hL6 b ..,rfl⟩
theorem aAD(x0 x1 x2 x3 x4 x5 x6 iK:T)(sn:List T): ∀(i:Nat) (hi:i<18) (n:Nat) (D:n≤100) (cs:List T) (r:cs.length=n*6),np (yR[i]'hi) (qH [x0,x1,x2,x3,x4,x5,x6] iK sn n cs) (qH [x0,x1,x2,x3,x4,x5,x6] iK sn (n+1) (cs++mU (lU[i]'hi)))
 |0,_,n,D,cs,r=>rK0 x0 x1 x2 x3 x4 x5 x6 iK sn n D cs r
 |1,_,n,D,cs,r=>rK1 x0 x1 x2 x3 x4 x5 x6 iK sn n D cs r
 |2,_,n,D,cs,r=>rK2 x0 x1 x2 x3 x4 x5 x6 iK sn n D cs r
 |3,_,n,D,cs,r=>rK3 x0 x1 x2 x3 x4 x5 x6 iK sn n D cs r
 |4,_,n,D,cs,r=>rK4 x0 x1 x2 x3 x4 x5 x6 iK sn n D cs r
 |5,_,n,D,cs,r=>rK5 x0 x1 x2 x3 x4 x5 x6 iK sn n D cs r
 |6,_,n,D,cs,r=>rK6 x0 x1 x2 x3 x4 x5 x6 iK sn n D cs r
 |7,_,n,D,cs,r=>rK7 x0 x1 x2 x3 x4 x5 x6 iK sn n D cs r
 |8,_,n,D,cs,r=>rK8 x0 x1 x2 x3 x4 x5 x6 iK sn n D cs r
 |9,_,n,D,cs,r=>rK9 x0 x1 x2 x3 x4 x5 x6 iK sn n D cs r
 |10,_,n,D,cs,r=>aAv x0 x1 x2 x3 x4 x5 x6 iK sn n D cs r
 |11,_,n,D,cs,r=>aAw x0 x1 x2 x3 x4 x5 x6 iK sn n D cs r
 |12,_,n,D,cs,r=>aAx x0 x1 x2 x3 x4 x5 x6 iK sn n D cs r
 |13,_,n,D,cs,r=>aAy x0 x1 x2 x3 x4 x5 x6 iK sn n D cs r
 |14,_,n,D,cs,r=>aAz x0 x1 x2 x3 x4 x5 x6 iK sn n D cs r
 |15,_,n,D,cs,r=>aAA x0 x1 x2 x3 x4 x5 x6 iK sn n D cs r
 |16,_,n,D,cs,r=>aAB x0 x1 x2 x3 x4 x5 x6 iK sn n D cs r
 |17,_,n,D,cs,r=>aAC x0 x1 x2 x3 x4 x5 x6 iK sn n D cs r
 |i+18,hi,_,_,_,_=>absurd hi (by omega)
theorem aAE(x0 x1 x2 x3 x4 x5 x6 iK F:T)(sn:List T)(P:List b8)(H:P.length≤1): ∀(i:Nat) (hi:i<10) (n:Nat) (D:n≤100) (cs:List T) (r:cs.length=n*5),np (yS[i]'hi) (xh [x0,x1,x2,x3,x4,x5,x6] iK F sn P n cs) (xh [x0,x1,x2,x3,x4,x5,x6] iK F sn P (n+1) (cs++ua (pM[i]'hi)))
 |0,_,n,D,cs,r=>kK0 x0 x1 x2 x3 x4 x5 x6 iK F sn P H n D cs r
 |1,_,n,D,cs,r=>kK1 x0 x1 x2 x3 x4 x5 x6 iK F sn P H n D cs r
 |2,_,n,D,cs,r=>kK2 x0 x1 x2 x3 x4 x5 x6 iK F sn P H n D cs r
 |3,_,n,D,cs,r=>kK3 x0 x1 x2 x3 x4 x5 x6 iK F sn P H n D cs r
 |4,_,n,D,cs,r=>kK4 x0 x1 x2 x3 x4 x5 x6 iK F sn P H n D cs r
 |5,_,n,D,cs,r=>kK5 x0 x1 x2 x3 x4 x5 x6 iK F sn P H n D cs r
 |6,_,n,D,cs,r=>kK6 x0 x1 x2 x3 x4 x5 x6 iK F sn P H n D cs r
 |7,_,n,D,cs,r=>kK7 x0 x1 x2 x3 x4 x5 x6 iK F sn P H n D cs r
 |8,_,n,D,cs,r=>kK8 x0 x1 x2 x3 x4 x5 x6 iK F sn P H n D cs r
 |9,_,n,D,cs,r=>kK9 x0 x1 x2 x3 x4 x5 x6 iK F sn P H n D cs r
 |i+10,hi,_,_,_,_=>absurd hi (by omega)
theorem Nj{α:Type}(L:List (List Nat))(X:List α)(f:α→List T)(sz:Nat)(St:Nat→List T→List b8)(r: ∀x,(f x).length=sz)(D:L.length=X.length)(F:X.length≤50)
  (Ic: ∀(i:Nat) (H:i<L.length) (I:i<X.length) (n:Nat),n≤100→ ∀cs:List T,cs.length=n*sz→np L[i] (St n cs) (St (n+1) (cs++f X[i]))) (p:Nat→Bool): ∀k,k≤L.length→yX (j0 p 0 (L.take k)) (St 0 []) (St (j0 p 0 (X.take k)).length ((j0 p 0 (X.take k)).flatMap f))
 |0,_=>by simp[j0,yX]
 |k+1,hk=>by
  have ih:=Nj L X f sz St r D F Ic p k (by omega)
  rw[vu p L k (by omega),vu p X k (by omega)]
  have J:(j0 p 0 (X.take k)).length≤k:=by
   have:=(kW p 0 (X.take k)).length_le
   rw[List.length_take]at this
   omega
  refine uN ih ?_
  by_cases h:p k=true
  ·rw[if_pos h,if_pos h,List.length_append,List.length_singleton,List.flatMap_append,List.flatMap_cons,List.flatMap_nil,List.append_nil]
   exact⟨_,Ic k (by omega) (by omega) _ (by omega) _ (nR r _),rfl⟩
  ·rw[if_neg h,if_neg h,List.append_nil]
   exact rfl
theorem yY(x:Ex):(mV x).length=4:=by obtain⟨d,e,_⟩:=iM x;rw[e];rfl
def Ce(n:Nat)(cs:List T):List b8:=if n=0 then []else [⟨n,.cells cs 0 false⟩]
def slR(n:Nat):T:=if n=0 then .nilsl else .isl .S 2 n 0 n 6
def slK(k n:Nat):T:=if n=0 then .nilsl else .isl .S k n 0 n 5
theorem acV(i:List T)(iK:T)(sn:List T)(n:Nat)(cs:List T):qH i iK sn n cs=xh i iK (slR n) sn (Ce n cs) 0 []:=by
 unfold qH xh slR Ce
 simp
theorem acW(i:List T)(iK r:T)(sn:List T)(P:List b8)(n:Nat)(cs:List T):xh i iK r sn P n cs=Ni i iK r (slK (2+P.length) n) sn (P++Ce n cs) []:=by
 unfold xh Ni slK Ce
 simp
theorem acX(i:List T)(iK:T)(sn:List T):nD i iK sn=qH i iK sn 0 []:=by
 unfold nD qH
 simp
def atQ(b:Nat→Int):List b8:=
 Ni (hdT b) (SJ b) (slR (rI b).ru.length) (slK (2+(Ce (rI b).ru.length ((rI b).ru.flatMap mU)).length) (rI b).co.length) snU (Ce (rI b).ru.length ((rI b).ru.flatMap mU)++Ce (rI b).co.length ((rI b).co.flatMap ua)) ((rI b).cr.flatMap mV)
theorem akk(b:Nat→Int):yX (R5 b) kS0 (atQ b):=by
 unfold R5
 have I:=aki b
 have F:=Nj yR lU mU 6 (qH (hdT b) (SJ b) snU) (fun u=>by unfold mU;rw[List.length_cons,List.length_cons,yY]) rfl (by decide) (fun i F _ n H cs r=>aAD _ _ _ _ _ _ _ _ _ i F n H cs r) (Ca b) 18 (by decide)
 have K:yR.take 18=yR:=rfl
 have N:lU.take 18=lU:=rfl
 rw[K,N,acV _ _ _ (j0 (Ca b) 0 lU).length]at F
 rw[acX]at I
 have O:(Ce (j0 (Ca b) 0 lU).length ((j0 (Ca b) 0 lU).flatMap mU)).length≤1:=by unfold Ce;split <;> simp
 have J:=Nj yS pM ua 5 (xh (hdT b) (SJ b) (slR (j0 (Ca b) 0 lU).length) snU (Ce (j0 (Ca b) 0 lU).length ((j0 (Ca b) 0 lU).flatMap mU))) (fun u=>by unfold ua;rw[List.length_cons,yY]) rfl (by decide) (fun i F _ n H cs r=>aAE _ _ _ _ _ _ _ _ _ _ _ O i F n H cs r) (HM b) 10 (by decide)
 have U:yS.take 10=yS:=rfl
 have V:pM.take 10=pM:=rfl
 rw[U,V,acW _ _ _ _ _ (j0 (HM b) 0 pM).length]at J
 refine uN (uN (uN I F) J) ?_
 have D:(Ce (j0 (Ca b) 0 lU).length ((j0 (Ca b) 0 lU).flatMap mU)++Ce (j0 (HM b) 0 pM).length ((j0 (HM b) 0 pM).flatMap ua)).length≤2:=by
  have:(Ce (j0 (HM b) 0 pM).length ((j0 (HM b) 0 pM).flatMap ua)).length≤1:=by unfold Ce;split <;> simp
  rw[List.length_append];omega
 show yX (crD b) _ (Ni (hdT b) (SJ b) (slR (j0 (Ca b) 0 lU).length) (slK (2+(Ce (j0 (Ca b) 0 lU).length ((j0 (Ca b) 0 lU).flatMap mU)).length) (j0 (HM b) 0 pM).length) snU (Ce (j0 (Ca b) 0 lU).length ((j0 (Ca b) 0 lU).flatMap mU)++Ce (j0 (HM b) 0 pM).length ((j0 (HM b) 0 pM).flatMap ua)) ((crX b).flatMap mV))
 unfold crD crX
 by_cases h:b 41%4<3
 ·rw[if_pos h,if_pos h,List.flatMap_cons,List.flatMap_nil,List.append_nil]
  refine⟨_, ?_,rfl⟩
  have:b 41%4=0∨b 41%4=1∨b 41%4=2:=by omega
  rcases this with h|h|h
  ·rw[h];exact cK0 _ _ _ _ _ _ _ _ _ _ _ _ D
  ·rw[h];exact cK1 _ _ _ _ _ _ _ _ _ _ _ _ D
  ·rw[h];exact cK2 _ _ _ _ _ _ _ _ _ _ _ _ D
 ·rw[if_neg h,if_neg h]
  exact rfl
def HW(n:Nat)(cs:List T):T:=if n=0 then .nilsl else .sl cs n false
theorem akl(x0 x1 x2 x3 x4 x5 x6 iK:T)(sn:List T)(hx:froz1 x0=true∧froz1 x1=true∧froz1 x2=true∧froz1 x3=true∧froz1 x4=true∧froz1 x5=true∧froz1 x6=true∧froz1 iK=true)(n m:Nat)(rs ks cr:List T)(hr:rs.length=n*6)(hk:ks.length=m*5)(hc:cr= []∨cr.length=4)(q:Nat)(lh:gW b8):
  ∃us,wG q lh (Ni [x0,x1,x2,x3,x4,x5,x6] iK (slR n) (slK (2+(Ce n rs).length) m) sn (Ce n rs++Ce m ks) cr) false [x0,x1,x2,x3,x4,x5,x6,iK,slR n,slK (2+(Ce n rs).length) m,if cr= []then .nilsl else .isl .S (2+(Ce n rs++Ce m ks).length) 1 0 1 4,.nilsl,.nilsl,.i .i64 0]=some ([x0,x1,x2,x3,x4,x5,x6,iK,HW n rs,HW m ks,HW (if cr= []then 0 else 1) cr,.nilsl,.nilsl,.i .i64 0],us):=by
 obtain⟨J,K,N,O,U,V,W,X⟩:=hx
 unfold Ni slR slK Ce HW
 have F:cr≠ []→cr.length=1*4:=fun h=>by rw[hc.resolve_left h]
 have Y:=fun C D t=>D0 (m:=q) (lh:=lh) (s:=C::D::⟨n,.cells rs 0 false⟩::t) (k:=2) rfl hr
 have eK2:=fun C D t=>D0 (m:=q) (lh:=lh) (s:=C::D::⟨m,.cells ks 0 false⟩::t) (k:=2) rfl hk
 have eK3:=fun C D r t=>D0 (m:=q) (lh:=lh) (s:=C::D::r::⟨m,.cells ks 0 false⟩::t) (k:=3) rfl hk
 have eC2:=fun h C D t=>D0 (m:=q) (lh:=lh) (s:=C::D::⟨1,.cells cr 0 false⟩::t) (k:=2) rfl (F h)
 have H:=fun h C D r t=>D0 (m:=q) (lh:=lh) (s:=C::D::r::⟨1,.cells cr 0 false⟩::t) (k:=3) rfl (F h)
 have I:=fun h C D r Z t=>D0 (m:=q) (lh:=lh) (s:=C::D::r::Z::⟨1,.cells cr 0 false⟩::t) (k:=4) rfl (F h)
 have n1: ¬(1:Nat)=0:=by decide
 by_cases hn:n=0 <;> by_cases hm:m=0 <;> by_cases LV:cr= []
 all_goals
  simp only[qA,hn,hm,LV,n1,J,K,N,O,U,V,W,X,Y,eK2,eK3,eC2,H,I,List.length_append]
  exact⟨_,rfl⟩
def tH(l:List Nat):Bool:=decide (l.length≤100)&&l.all fun c=>decide (32≤c)&&decide (c≤126)
theorem wY{r:Int}(P:Int→Prop)(i:P 0)(D:P 1)(F:P 2)(n:Int)(h:r=n%3):P r:=by
 have:r=0∨r=1∨r=2:=by omega
 rcases this with rfl|rfl|rfl <;> assumption
theorem lo0(n:Int):tH ([114,101,112,111,114,116,32]++DJ (n%3))=true:=wY (fun r=>tH ([114,101,112,111,114,116,32]++DJ r)=true) (by decide) (by decide) (by decide) n rfl
theorem lo1(n:Int):tH ([114,101,108,101,97,115,101,32]++Uf (n%3))=true:=wY (fun r=>tH ([114,101,108,101,97,115,101,32]++Uf r)=true) (by decide) (by decide) (by decide) n rfl
theorem lo2(n:Int):tH ([99,111,110,110,101,99,116,32]++LH (n%3))=true:=wY (fun r=>tH ([99,111,110,110,101,99,116,32]++LH r)=true) (by decide) (by decide) (by decide) n rfl
theorem lo3(n:Int):tH ([115,105,116,32]++Sn (n%3))=true:=wY (fun r=>tH ([115,105,116,32]++Sn r)=true) (by decide) (by decide) (by decide) n rfl
theorem lo4(n:Int):tH ([108,97,121,111,118,101,114,32]++hv4 (n%3))=true:=wY (fun r=>tH ([108,97,121,111,118,101,114,32]++hv4 r)=true) (by decide) (by decide) (by decide) n rfl
theorem lo5(n:Int):tH ([110,105,103,104,116,32]++RZ (n%3))=true:=wY (fun r=>tH ([110,105,103,104,116,32]++RZ r)=true) (by decide) (by decide) (by decide) n rfl
theorem lo6(n:Int):tH ([99,111,110,115,116,32,115,104,105,102,116,115,32,105,115,32]++SD (n%3))=true:=wY (fun r=>tH ([99,111,110,115,116,32,115,104,105,102,116,115,32,105,115,32]++SD r)=true) (by decide) (by decide) (by decide) n rfl
theorem akm(b:Nat→Int): ∀l∈R5 b,tH l=true:=by
 have hr:yR.all tH=true:=by decide+kernel
 have hk:yS.all tH=true:=by decide+kernel
 have hc:Lv.all tH=true:=by decide+kernel
 intro l hl
 unfold R5 at hl
 rcases List.mem_append.1 hl with hl|hl
 ·rcases List.mem_append.1 hl with hl|hl
  ·rcases List.mem_append.1 hl with hl|hl
   ·unfold Zm at hl
    simp only[List.mem_cons,List.not_mem_nil,or_false]at hl
    rcases hl with rfl|rfl|rfl|rfl|rfl|rfl|rfl
    ·exact lo0 _
    ·exact lo1 _
    ·exact lo2 _
    ·exact lo3 _
    ·exact lo4 _
    ·exact lo5 _
    ·exact lo6 _
   ·exact List.all_eq_true.1 hr l ((kW _ _ _).subset hl)
  ·exact List.all_eq_true.1 hk l ((kW _ _ _).subset hl)
 ·unfold crD at hl
  split at hl
  ·rename_i h
   rw[List.mem_singleton]at hl
   subst hl
   have i:(b 41%4).toNat<Lv.length:=by show(b 41%4).toNat<3;omega
   rw[List.getD_eq_getElem?_getD,List.getElem?_eq_getElem i]
   exact List.all_eq_true.1 hc _ (List.getElem_mem i)
  ·simp at hl
theorem PF(b:Nat→Int):(R5 b).length≤100:=by
 unfold R5 crD
 have i:=(kW (Ca b) 0 yR).length_le
 have r:=(kW (HM b) 0 yS).length_le
 have D:yR.length=18:=rfl
 have F:yS.length=10:=rfl
 have H:(Zm b).length=7:=rfl
 simp only[List.length_append]
 split <;> simp <;> omega
theorem akn(b:Nat→Int):Ya (pN (R5 b))∧ ∀l∈R5 b,10∉l:=acD (R5 b) (fun l i=>by
 have h:=akm b l i
 unfold tH at h
 simp only[Bool.and_eq_true,decide_eq_true_eq,List.all_eq_true]at h
 exact h) (PF b)
theorem yZ{n:Nat}{cs:List T}(h:n=0→cs= []):IsSl (HW n cs) n cs:=nS h
theorem K0: ∀l:List Ex,j3 l (l.flatMap mV)
 | []=>by rw[j3];rfl
 |x::l=>by rw[j3];exact⟨_,_,rfl,AI x,K0 l⟩
theorem afC(b:Nat→Int):uc (rI b) (SJ b) (HW (rI b).ru.length ((rI b).ru.flatMap mU)) (HW (rI b).co.length ((rI b).co.flatMap ua)) (HW (rI b).cr.length ((rI b).cr.flatMap mV)) .nilsl .nilsl:=by
 refine⟨?_, ?_, ?_, ?_, ?_, ?_⟩
 ·refine⟨.s B9::mV (AE (kB b 6)),.inr ⟨_,rfl⟩, ?_⟩
  show lS [(B9,AE (kB b 6))] _
  rw[lS]
  exact⟨mV (AE (kB b 6)),[],by simp,AI _,by rw[lS]⟩
 ·exact⟨_,yZ fun h=>by rw[List.length_eq_zero_iff.1 h];rfl,Eg _⟩
 ·exact⟨_,yZ fun h=>by rw[List.length_eq_zero_iff.1 h];rfl,KZ _⟩
 ·exact⟨_,yZ fun h=>by rw[List.length_eq_zero_iff.1 h];rfl,K0 _⟩
 ·exact⟨[],.inl ⟨rfl,rfl,rfl⟩,rfl⟩
 ·exact⟨[],.inl ⟨rfl,rfl,rfl⟩,rfl⟩
theorem ako(b:Nat→Int):mE (rI b)=0:=by
 have h:=ajl b
 unfold mi at h
 by_cases i:mE (rI b)=0
 ·exact i
 ·rw[if_pos i]at h;exact h
mutual
def smB:Ex→Bool
 | .mk _ _ s a=>decide (s.length≤100)&&acY a
def acY:List Ex→Bool
 | []=>true
 |x::r=>smB x&&acY r
end
mutual
theorem Eh: ∀x:Ex,smB x=true→x.sm
 | .mk _ _ s a,h=>by
   rw[smB,Bool.and_eq_true,decide_eq_true_eq]at h
   rw[Ex.sm]
   exact⟨abL (by omega),PG a h.2⟩
theorem PG: ∀l:List Ex,acY l=true→XJ l
 | [],_=>by rw[XJ];trivial
 |x::r,h=>by
  rw[acY,Bool.and_eq_true]at h
  rw[XJ]
  exact⟨Eh x h.1,PG r h.2⟩
end
theorem afE(k:Nat→Nat)(hk: ∀i,k i≤2)(D:List Ru)(F:List Co)(cr:List Ex)(H:D.Sublist lU)(I:F.Sublist pM)(J: ∀x∈cr,x∈Im):Rs (D5 k D F cr):=by
 have K:(lU.all fun u=>smB u.x)=true:=by decide+kernel
 have N:(pM.all fun u=>smB u.x)=true:=by decide+kernel
 have O:(Im.all smB)=true:=by decide+kernel
 have U: ∀j,j≤2→smB (AE j)=true:=fun j V=>three (fun j=>smB (AE j)=true) (by decide+kernel) (by decide+kernel) (by decide+kernel) V
 refine⟨fun c hc=> ?_,fun u r=>⟨Nat.zero_le _,Eh _ (List.all_eq_true.1 K u (H.subset r))⟩,fun u r=>⟨Nat.zero_le _,Eh _ (List.all_eq_true.1 N u (I.subset r))⟩,fun x hx=>⟨Nat.zero_le _,Eh _ (List.all_eq_true.1 O x (J x hx))⟩⟩
 have hc:c=(B9,AE (k 6)):=List.mem_singleton.1 hc
 subst hc
 exact⟨Nat.zero_le _,Eh _ (U _ (hk 6))⟩
end Go.Proofs.YtcpceiclnbmgiaaGreat
