/- Walks of functions of the program and of the reference, and their plain laws, part 25. Conditions: the theorems' own. -/
import Derived.Test.YtcpceiclnbmgiaaGreatM23
import Derived.KernelRfl
set_option maxRecDepth 1000000
set_option maxHeartbeats 16000000
namespace Go.Proofs.YtcpceiclnbmgiaaGreat
open Go Go.Ev
theorem sR2: ∃s,be pE 78 [.s lR2] []=some (.tup [.sl tR2 13 false,.i .i64 0,.i .i64 0],s):=iu (m:=1000) (by rw[←fy];kernel_rfl)
theorem sK2: ∃s,be pE 78 [.s lK2] []=some (.tup [.sl tK2 11 false,.i .i64 0,.i .i64 0],s):=iu (m:=1000) (by rw[←fy];kernel_rfl)
theorem sK9: ∃s,be pE 78 [.s lK9] []=some (.tup [.sl tK9 11 false,.i .i64 0,.i .i64 0],s):=iu (m:=1000) (by rw[←fy];kernel_rfl)
theorem aAK: ∃s,be pE 78 [.s auz] []=some (.tup [.sl N7 7 false,.i .i64 0,.i .i64 0],s):=iu (m:=1000) (by rw[←fy];kernel_rfl)
theorem sK0: ∃s,be pE 78 [.s lK0] []=some (.tup [.sl tK0 8 false,.i .i64 0,.i .i64 0],s):=iu (m:=1000) (by rw[←fy];kernel_rfl)
theorem eC2: ∃s,be pE 126 [.sl (tC2.drop 12) 5 false] []=some (.tup [.agg (nR (It.getD 2 (.mk 1 2 [] []))),.i .i64 (-1)],s):=iu (m:=1000) (by rw[←fy];kernel_rfl)
theorem aAM: ∃s,be pE 78 [.s auo] []=some (.tup [.sl akA 4 false,.i .i64 0,.i .i64 0],s):=iu (m:=1000) (by rw[←fy];kernel_rfl)
theorem aAN: ∃s,be pE 126 [.sl (Oa.drop 16) 3 false] []=some (.tup [.agg (nR (lQ.getD 17 ⟨0,[],.mk 1 2 [] []⟩).x),.i .i64 (-1)],s):=iu (m:=1000) (by rw[←fy];kernel_rfl)
theorem aAO: ∃s,be pE 78 [.s aul] []=some (.tup [.sl akx 2 false,.i .i64 0,.i .i64 0],s):=iu (m:=1000) (by rw[←fy];kernel_rfl)
theorem aAP: ∃s,be pE 78 [.s aug] []=some (.tup [.sl aks 2 false,.i .i64 0,.i .i64 0],s):=iu (m:=1000) (by rw[←fy];kernel_rfl)
theorem aAQ: ∃s,be pE 78 [.s at9] []=some (.tup [.sl akl 2 false,.i .i64 0,.i .i64 0],s):=iu (m:=1000) (by rw[←fy];kernel_rfl)
end Go.Proofs.YtcpceiclnbmgiaaGreat
