/- Walks of functions of the program and of the reference, and their plain laws, part 29. Conditions: the theorems' own. -/
import Derived.Test.YtcpceiclnbmgiaaGreatM23
import Derived.KernelRfl
set_option maxRecDepth 1000000
set_option maxHeartbeats 16000000
namespace Go.Proofs.YtcpceiclnbmgiaaGreat
open Go Go.Ev
theorem sR1: ∃s,be pE 78 [.s lR1] []=some (.tup [.sl tR1 15 false,.i .i64 0,.i .i64 0],s):=iu (m:=1000) (by rw[←fy];kernel_rfl)
theorem eR2: ∃s,be pE 126 [.sl (tR2.drop 16) 9 false] []=some (.tup [.agg (nR (lQ.getD 2 ⟨0,[],.mk 1 2 [] []⟩).x),.i .i64 (-1)],s):=iu (m:=1000) (by rw[←fy];kernel_rfl)
theorem eK1: ∃s,be pE 126 [.sl (tK1.drop 12) 7 false] []=some (.tup [.agg (nR (n6.getD 1 ⟨0,.mk 1 2 [] []⟩).x),.i .i64 (-1)],s):=iu (m:=1000) (by rw[←fy];kernel_rfl)
theorem aA4: ∃s,be pE 126 [.sl (NZ.drop 16) 5 false] []=some (.tup [.agg (nR (lQ.getD 10 ⟨0,[],.mk 1 2 [] []⟩).x),.i .i64 (-1)],s):=iu (m:=1000) (by rw[←fy];kernel_rfl)
theorem sR3: ∃s,be pE 78 [.s lR3] []=some (.tup [.sl tR3 7 false,.i .i64 0,.i .i64 0],s):=iu (m:=1000) (by rw[←fy];kernel_rfl)
theorem sK8: ∃s,be pE 78 [.s lK8] []=some (.tup [.sl tK8 6 false,.i .i64 0,.i .i64 0],s):=iu (m:=1000) (by rw[←fy];kernel_rfl)
theorem aA5: ∃s,be pE 78 [.s aus] []=some (.tup [.sl akE 6 false,.i .i64 0,.i .i64 0],s):=iu (m:=1000) (by rw[←fy];kernel_rfl)
theorem aA6: ∃s,be pE 126 [.sl (N6.drop 16) 3 false] []=some (.tup [.agg (nR (lQ.getD 13 ⟨0,[],.mk 1 2 [] []⟩).x),.i .i64 (-1)],s):=iu (m:=1000) (by rw[←fy];kernel_rfl)
theorem aA7: ∃s,be pE 78 [.s aur] []=some (.tup [.sl akD 4 false,.i .i64 0,.i .i64 0],s):=iu (m:=1000) (by rw[←fy];kernel_rfl)
theorem aA8: ∃s,be pE 78 [.s aud] []=some (.tup [.sl akp 2 false,.i .i64 0,.i .i64 0],s):=iu (m:=1000) (by rw[←fy];kernel_rfl)
end Go.Proofs.YtcpceiclnbmgiaaGreat
