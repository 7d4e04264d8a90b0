/- Walks of functions of the program and of the reference, and their plain laws, part 28. Conditions: the theorems' own. -/
import Derived.Test.YtcpceiclnbmgiaaGreatM23
import Derived.KernelRfl
set_option maxRecDepth 1000000
set_option maxHeartbeats 16000000
namespace Go.Proofs.YtcpceiclnbmgiaaGreat
open Go Go.Ev
theorem eR1: ∃s,be pE 126 [.sl (tR1.drop 16) 11 false] []=some (.tup [.agg (nR (lQ.getD 1 ⟨0,[],.mk 1 2 [] []⟩).x),.i .i64 (-1)],s):=iu (m:=1000) (by rw[←fy];kernel_rfl)
theorem aAZ: ∃s,be pE 126 [.sl (N4.drop 16) 9 false] []=some (.tup [.agg (nR (lQ.getD 11 ⟨0,[],.mk 1 2 [] []⟩).x),.i .i64 (-1)],s):=iu (m:=1000) (by rw[←fy];kernel_rfl)
theorem eK9: ∃s,be pE 126 [.sl (tK9.drop 12) 8 false] []=some (.tup [.agg (nR (n6.getD 9 ⟨0,.mk 1 2 [] []⟩).x),.i .i64 (-1)],s):=iu (m:=1000) (by rw[←fy];kernel_rfl)
theorem sC0: ∃s,be pE 78 [.s lC0] []=some (.tup [.sl tC0 9 false,.i .i64 0,.i .i64 0],s):=iu (m:=1000) (by rw[←fy];kernel_rfl)
theorem sR7: ∃s,be pE 78 [.s lR7] []=some (.tup [.sl tR7 7 false,.i .i64 0,.i .i64 0],s):=iu (m:=1000) (by rw[←fy];kernel_rfl)
theorem sK4: ∃s,be pE 78 [.s lK4] []=some (.tup [.sl tK4 6 false,.i .i64 0,.i .i64 0],s):=iu (m:=1000) (by rw[←fy];kernel_rfl)
theorem aA0: ∃s,be pE 78 [.s aut] []=some (.tup [.sl akF 7 false,.i .i64 0,.i .i64 0],s):=iu (m:=1000) (by rw[←fy];kernel_rfl)
theorem aA1: ∃s,be pE 126 [.sl (N7.drop 16) 3 false] []=some (.tup [.agg (nR (lQ.getD 14 ⟨0,[],.mk 1 2 [] []⟩).x),.i .i64 (-1)],s):=iu (m:=1000) (by rw[←fy];kernel_rfl)
theorem eK4: ∃s,be pE 126 [.sl (tK4.drop 12) 3 false] []=some (.tup [.agg (nR (n6.getD 4 ⟨0,.mk 1 2 [] []⟩).x),.i .i64 (-1)],s):=iu (m:=1000) (by rw[←fy];kernel_rfl)
theorem aA2: ∃s,be pE 78 [.s auf] []=some (.tup [.sl akr 2 false,.i .i64 0,.i .i64 0],s):=iu (m:=1000) (by rw[←fy];kernel_rfl)
theorem aA3: ∃s,be pE 78 [.s auk] []=some (.tup [.sl akw 2 false,.i .i64 0,.i .i64 0],s):=iu (m:=1000) (by rw[←fy];kernel_rfl)
end Go.Proofs.YtcpceiclnbmgiaaGreat
