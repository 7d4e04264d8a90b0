/- Walks of functions of the program and of the reference, and their plain laws, part 27. Conditions: the theorems' own. -/
import Derived.Test.YtcpceiclnbmgiaaGreatM23
import Derived.KernelRfl
set_option maxRecDepth 1000000
set_option maxHeartbeats 16000000
namespace Go.Proofs.YtcpceiclnbmgiaaGreat
open Go Go.Ev
theorem sR5: ∃s,be pE 78 [.s lR5] []=some (.tup [.sl tR5 15 false,.i .i64 0,.i .i64 0],s):=iu (m:=1000) (by rw[←fy];kernel_rfl)
theorem eR8: ∃s,be pE 126 [.sl (tR8.drop 16) 8 false] []=some (.tup [.agg (nR (lQ.getD 8 ⟨0,[],.mk 1 2 [] []⟩).x),.i .i64 (-1)],s):=iu (m:=1000) (by rw[←fy];kernel_rfl)
theorem sR9: ∃s,be pE 78 [.s lR9] []=some (.tup [.sl tR9 9 false,.i .i64 0,.i .i64 0],s):=iu (m:=1000) (by rw[←fy];kernel_rfl)
theorem aAV: ∃s,be pE 78 [.s auA] []=some (.tup [.sl N8 7 false,.i .i64 0,.i .i64 0],s):=iu (m:=1000) (by rw[←fy];kernel_rfl)
theorem aAW: ∃s,be pE 78 [.s auB] []=some (.tup [.sl N9 7 false,.i .i64 0,.i .i64 0],s):=iu (m:=1000) (by rw[←fy];kernel_rfl)
theorem sC1: ∃s,be pE 78 [.s lC1] []=some (.tup [.sl tC1 6 false,.i .i64 0,.i .i64 0],s):=iu (m:=1000) (by rw[←fy];kernel_rfl)
theorem eK0: ∃s,be pE 126 [.sl (tK0.drop 12) 5 false] []=some (.tup [.agg (nR (n6.getD 0 ⟨0,.mk 1 2 [] []⟩).x),.i .i64 (-1)],s):=iu (m:=1000) (by rw[←fy];kernel_rfl)
theorem aAX: ∃s,be pE 126 [.sl (N8.drop 16) 3 false] []=some (.tup [.agg (nR (lQ.getD 15 ⟨0,[],.mk 1 2 [] []⟩).x),.i .i64 (-1)],s):=iu (m:=1000) (by rw[←fy];kernel_rfl)
theorem eC1: ∃s,be pE 126 [.sl (tC1.drop 12) 3 false] []=some (.tup [.agg (nR (It.getD 1 (.mk 1 2 [] []))),.i .i64 (-1)],s):=iu (m:=1000) (by rw[←fy];kernel_rfl)
theorem aAY: ∃s,be pE 78 [.s auc] []=some (.tup [.sl ako 2 false,.i .i64 0,.i .i64 0],s):=iu (m:=1000) (by rw[←fy];kernel_rfl)
end Go.Proofs.YtcpceiclnbmgiaaGreat
