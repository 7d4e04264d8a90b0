/- Walks of functions of the program and of the reference, and their plain laws, part 26. Conditions: the theorems' own. -/
import Derived.Test.YtcpceiclnbmgiaaGreatM23
import Derived.KernelRfl
set_option maxRecDepth 1000000
set_option maxHeartbeats 16000000
namespace Go.Proofs.YtcpceiclnbmgiaaGreat
open Go Go.Ev
theorem eR5: ∃s,be pE 126 [.sl (tR5.drop 16) 11 false] []=some (.tup [.agg (nR (lQ.getD 5 ⟨0,[],.mk 1 2 [] []⟩).x),.i .i64 (-1)],s):=iu (m:=1000) (by rw[←fy];kernel_rfl)
theorem sR6: ∃s,be pE 78 [.s lR6] []=some (.tup [.sl tR6 11 false,.i .i64 0,.i .i64 0],s):=iu (m:=1000) (by rw[←fy];kernel_rfl)
theorem eC0: ∃s,be pE 126 [.sl (tC0.drop 12) 6 false] []=some (.tup [.agg (nR (It.getD 0 (.mk 1 2 [] []))),.i .i64 (-1)],s):=iu (m:=1000) (by rw[←fy];kernel_rfl)
theorem sR0: ∃s,be pE 78 [.s lR0] []=some (.tup [.sl tR0 9 false,.i .i64 0,.i .i64 0],s):=iu (m:=1000) (by rw[←fy];kernel_rfl)
theorem aAR: ∃s,be pE 78 [.s auC] []=some (.tup [.sl Oa 7 false,.i .i64 0,.i .i64 0],s):=iu (m:=1000) (by rw[←fy];kernel_rfl)
theorem aAS: ∃s,be pE 78 [.s auw] []=some (.tup [.sl N5 7 false,.i .i64 0,.i .i64 0],s):=iu (m:=1000) (by rw[←fy];kernel_rfl)
theorem eR4: ∃s,be pE 126 [.sl (tR4.drop 16) 3 false] []=some (.tup [.agg (nR (lQ.getD 4 ⟨0,[],.mk 1 2 [] []⟩).x),.i .i64 (-1)],s):=iu (m:=1000) (by rw[←fy];kernel_rfl)
theorem eK5: ∃s,be pE 126 [.sl (tK5.drop 12) 3 false] []=some (.tup [.agg (nR (n6.getD 5 ⟨0,.mk 1 2 [] []⟩).x),.i .i64 (-1)],s):=iu (m:=1000) (by rw[←fy];kernel_rfl)
theorem aAT: ∃s,be pE 78 [.s aue] []=some (.tup [.sl akq 2 false,.i .i64 0,.i .i64 0],s):=iu (m:=1000) (by rw[←fy];kernel_rfl)
theorem aAU: ∃s,be pE 78 [.s aui] []=some (.tup [.sl aku 2 false,.i .i64 0,.i .i64 0],s):=iu (m:=1000) (by rw[←fy];kernel_rfl)
end Go.Proofs.YtcpceiclnbmgiaaGreat
