/- Walks of functions of the program and of the reference, and their plain laws, part 25. Conditions: the theorems' own. -/
import Derived.Test.YtcpceiclnbmgiaaGreatM23
import Derived.KernelRfl
set_option maxRecDepth 1000000
set_option maxHeartbeats 16000000
namespace Go.Proofs.YtcpceiclnbmgiaaGreat
open Go Go.Ev
theorem sR2: ∃s,be pE 78 [.s lR2] []=some (.tup [.sl tR2 13 false,.i .i64 0,.i .i64 0],s):=iu (m:=1000) (by rw[←gP];kernel_rfl)
theorem sK2: ∃s,be pE 78 [.s lK2] []=some (.tup [.sl tK2 11 false,.i .i64 0,.i .i64 0],s):=iu (m:=1000) (by rw[←gP];kernel_rfl)
theorem sK9: ∃s,be pE 78 [.s lK9] []=some (.tup [.sl tK9 11 false,.i .i64 0,.i .i64 0],s):=iu (m:=1000) (by rw[←gP];kernel_rfl)
theorem aAi: ∃s,be pE 78 [.s aug] []=some (.tup [.sl NF 7 false,.i .i64 0,.i .i64 0],s):=iu (m:=1000) (by rw[←gP];kernel_rfl)
theorem sK0: ∃s,be pE 78 [.s lK0] []=some (.tup [.sl tK0 8 false,.i .i64 0,.i .i64 0],s):=iu (m:=1000) (by rw[←gP];kernel_rfl)
theorem eC2: ∃s,be pE 126 [.sl (tC2.drop 12) 5 false] []=some (.tup [.agg (nL (Ii.getD 2 (.mk 1 2 [] []))),.i .i64 (-1)],s):=iu (m:=1000) (by rw[←gP];kernel_rfl)
theorem aAk: ∃s,be pE 78 [.s at6] []=some (.tup [.sl aj6 4 false,.i .i64 0,.i .i64 0],s):=iu (m:=1000) (by rw[←gP];kernel_rfl)
theorem aAl: ∃s,be pE 126 [.sl (NI.drop 16) 3 false] []=some (.tup [.agg (nL (l0.getD 17 ⟨0,[],.mk 1 2 [] []⟩).x),.i .i64 (-1)],s):=iu (m:=1000) (by rw[←gP];kernel_rfl)
theorem aAm: ∃s,be pE 78 [.s at1] []=some (.tup [.sl aj3 2 false,.i .i64 0,.i .i64 0],s):=iu (m:=1000) (by rw[←gP];kernel_rfl)
theorem aAn: ∃s,be pE 78 [.s atU] []=some (.tup [.sl ajY 2 false,.i .i64 0,.i .i64 0],s):=iu (m:=1000) (by rw[←gP];kernel_rfl)
theorem aAo: ∃s,be pE 78 [.s atL] []=some (.tup [.sl ajR 2 false,.i .i64 0,.i .i64 0],s):=iu (m:=1000) (by rw[←gP];kernel_rfl)
end Go.Proofs.YtcpceiclnbmgiaaGreat
