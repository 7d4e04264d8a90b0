/- Walks of functions of the program and of the reference, and their plain laws, part 24. Conditions: the theorems' own. -/
import Derived.Test.YtcpceiclnbmgiaaGreatM23
import Derived.KernelRfl
set_option maxRecDepth 1000000
set_option maxHeartbeats 16000000
namespace Go.Proofs.YtcpceiclnbmgiaaGreat
open Go Go.Ev
theorem aAG: ∃s,be pE 78 [.s auv] []=some (.tup [.sl N4 13 false,.i .i64 0,.i .i64 0],s):=iu (m:=1000) (by rw[←fy];kernel_rfl)
theorem eK3: ∃s,be pE 126 [.sl (tK3.drop 12) 6 false] []=some (.tup [.agg (nR (n6.getD 3 ⟨0,.mk 1 2 [] []⟩).x),.i .i64 (-1)],s):=iu (m:=1000) (by rw[←fy];kernel_rfl)
theorem sK3: ∃s,be pE 78 [.s lK3] []=some (.tup [.sl tK3 9 false,.i .i64 0,.i .i64 0],s):=iu (m:=1000) (by rw[←fy];kernel_rfl)
theorem sC2: ∃s,be pE 78 [.s lC2] []=some (.tup [.sl tC2 8 false,.i .i64 0,.i .i64 0],s):=iu (m:=1000) (by rw[←fy];kernel_rfl)
theorem eR0: ∃s,be pE 126 [.sl (tR0.drop 16) 5 false] []=some (.tup [.agg (nR (lQ.getD 0 ⟨0,[],.mk 1 2 [] []⟩).x),.i .i64 (-1)],s):=iu (m:=1000) (by rw[←fy];kernel_rfl)
theorem sK5: ∃s,be pE 78 [.s lK5] []=some (.tup [.sl tK5 6 false,.i .i64 0,.i .i64 0],s):=iu (m:=1000) (by rw[←fy];kernel_rfl)
theorem eK8: ∃s,be pE 126 [.sl (tK8.drop 12) 3 false] []=some (.tup [.agg (nR (n6.getD 8 ⟨0,.mk 1 2 [] []⟩).x),.i .i64 (-1)],s):=iu (m:=1000) (by rw[←fy];kernel_rfl)
theorem eR3: ∃s,be pE 126 [.sl (tR3.drop 16) 3 false] []=some (.tup [.agg (nR (lQ.getD 3 ⟨0,[],.mk 1 2 [] []⟩).x),.i .i64 (-1)],s):=iu (m:=1000) (by rw[←fy];kernel_rfl)
theorem aAI: ∃s,be pE 126 [.sl (N5.drop 16) 3 false] []=some (.tup [.agg (nR (lQ.getD 12 ⟨0,[],.mk 1 2 [] []⟩).x),.i .i64 (-1)],s):=iu (m:=1000) (by rw[←fy];kernel_rfl)
theorem aAJ: ∃s,be pE 78 [.s aub] []=some (.tup [.sl akn 2 false,.i .i64 0,.i .i64 0],s):=iu (m:=1000) (by rw[←fy];kernel_rfl)
end Go.Proofs.YtcpceiclnbmgiaaGreat
