/- Walks of functions of the program and of the reference, and their plain laws, part 24. Conditions: the theorems' own. -/
import Derived.Test.YtcpceiclnbmgiaaGreatM23
import Derived.KernelRfl
set_option maxRecDepth 1000000
set_option maxHeartbeats 16000000
namespace Go.Proofs.YtcpceiclnbmgiaaGreat
open Go Go.Ev
theorem aAe: ∃s,be pE 78 [.s aud] []=some (.tup [.sl NB 13 false,.i .i64 0,.i .i64 0],s):=iu (m:=1000) (by rw[←gP];kernel_rfl)
theorem eK3: ∃s,be pE 126 [.sl (tK3.drop 12) 6 false] []=some (.tup [.agg (nL (pb.getD 3 ⟨0,.mk 1 2 [] []⟩).x),.i .i64 (-1)],s):=iu (m:=1000) (by rw[←gP];kernel_rfl)
theorem sK3: ∃s,be pE 78 [.s lK3] []=some (.tup [.sl tK3 9 false,.i .i64 0,.i .i64 0],s):=iu (m:=1000) (by rw[←gP];kernel_rfl)
theorem sC2: ∃s,be pE 78 [.s lC2] []=some (.tup [.sl tC2 8 false,.i .i64 0,.i .i64 0],s):=iu (m:=1000) (by rw[←gP];kernel_rfl)
theorem eR0: ∃s,be pE 126 [.sl (tR0.drop 16) 5 false] []=some (.tup [.agg (nL (l0.getD 0 ⟨0,[],.mk 1 2 [] []⟩).x),.i .i64 (-1)],s):=iu (m:=1000) (by rw[←gP];kernel_rfl)
theorem sK5: ∃s,be pE 78 [.s lK5] []=some (.tup [.sl tK5 6 false,.i .i64 0,.i .i64 0],s):=iu (m:=1000) (by rw[←gP];kernel_rfl)
theorem eK8: ∃s,be pE 126 [.sl (tK8.drop 12) 3 false] []=some (.tup [.agg (nL (pb.getD 8 ⟨0,.mk 1 2 [] []⟩).x),.i .i64 (-1)],s):=iu (m:=1000) (by rw[←gP];kernel_rfl)
theorem eR3: ∃s,be pE 126 [.sl (tR3.drop 16) 3 false] []=some (.tup [.agg (nL (l0.getD 3 ⟨0,[],.mk 1 2 [] []⟩).x),.i .i64 (-1)],s):=iu (m:=1000) (by rw[←gP];kernel_rfl)
theorem aAg: ∃s,be pE 126 [.sl (NC.drop 16) 3 false] []=some (.tup [.agg (nL (l0.getD 12 ⟨0,[],.mk 1 2 [] []⟩).x),.i .i64 (-1)],s):=iu (m:=1000) (by rw[←gP];kernel_rfl)
theorem aAh: ∃s,be pE 78 [.s atN] []=some (.tup [.sl ajT 2 false,.i .i64 0,.i .i64 0],s):=iu (m:=1000) (by rw[←gP];kernel_rfl)
end Go.Proofs.YtcpceiclnbmgiaaGreat
