/- Walks of functions of the program and of the reference, and their plain laws, part 31. Conditions: the theorems' own. -/
import Derived.Test.YtcpceiclnbmgiaaGreatM23
import Derived.KernelRfl
set_option maxRecDepth 1000000
set_option maxHeartbeats 16000000
namespace Go.Proofs.YtcpceiclnbmgiaaGreat
open Go Go.Ev
theorem sR8: ∃s,be pE 78 [.s lR8] []=some (.tup [.sl tR8 12 false,.i .i64 0,.i .i64 0],s):=iu (m:=1000) (by rw[←gP];kernel_rfl)
theorem eK6: ∃s,be pE 126 [.sl (tK6.drop 12) 10 false] []=some (.tup [.agg (nL (pb.getD 6 ⟨0,.mk 1 2 [] []⟩).x),.i .i64 (-1)],s):=iu (m:=1000) (by rw[←gP];kernel_rfl)
theorem aAV: ∃s,be pE 78 [.s auc] []=some (.tup [.sl NA 9 false,.i .i64 0,.i .i64 0],s):=iu (m:=1000) (by rw[←gP];kernel_rfl)
theorem sK1: ∃s,be pE 78 [.s lK1] []=some (.tup [.sl tK1 10 false,.i .i64 0,.i .i64 0],s):=iu (m:=1000) (by rw[←gP];kernel_rfl)
theorem eK7: ∃s,be pE 126 [.sl (tK7.drop 12) 6 false] []=some (.tup [.agg (nL (pb.getD 7 ⟨0,.mk 1 2 [] []⟩).x),.i .i64 (-1)],s):=iu (m:=1000) (by rw[←gP];kernel_rfl)
theorem sK7: ∃s,be pE 78 [.s lK7] []=some (.tup [.sl tK7 9 false,.i .i64 0,.i .i64 0],s):=iu (m:=1000) (by rw[←gP];kernel_rfl)
theorem aAW: ∃s,be pE 78 [.s at8] []=some (.tup [.sl aj8 4 false,.i .i64 0,.i .i64 0],s):=iu (m:=1000) (by rw[←gP];kernel_rfl)
theorem eR7: ∃s,be pE 126 [.sl (tR7.drop 16) 3 false] []=some (.tup [.agg (nL (l0.getD 7 ⟨0,[],.mk 1 2 [] []⟩).x),.i .i64 (-1)],s):=iu (m:=1000) (by rw[←gP];kernel_rfl)
theorem aAX: ∃s,be pE 78 [.s at5] []=some (.tup [.sl aj5 2 false,.i .i64 0,.i .i64 0],s):=iu (m:=1000) (by rw[←gP];kernel_rfl)
theorem aAY: ∃s,be pE 78 [.s atZ] []=some (.tup [.sl aj1 2 false,.i .i64 0,.i .i64 0],s):=iu (m:=1000) (by rw[←gP];kernel_rfl)
end Go.Proofs.YtcpceiclnbmgiaaGreat
