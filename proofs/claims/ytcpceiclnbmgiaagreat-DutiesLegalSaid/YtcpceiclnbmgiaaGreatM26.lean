/- Walks of functions of the program and of the reference, and their plain laws, part 26. Conditions: the theorems' own. -/
import Derived.Test.YtcpceiclnbmgiaaGreatM23
import Derived.KernelRfl
set_option maxRecDepth 1000000
set_option maxHeartbeats 16000000
namespace Go.Proofs.YtcpceiclnbmgiaaGreat
open Go Go.Ev
theorem eR5: ∃s,be pE 126 [.sl (tR5.drop 16) 11 false] []=some (.tup [.agg (nL (l0.getD 5 ⟨0,[],.mk 1 2 [] []⟩).x),.i .i64 (-1)],s):=iu (m:=1000) (by rw[←gP];kernel_rfl)
theorem sR6: ∃s,be pE 78 [.s lR6] []=some (.tup [.sl tR6 11 false,.i .i64 0,.i .i64 0],s):=iu (m:=1000) (by rw[←gP];kernel_rfl)
theorem eC0: ∃s,be pE 126 [.sl (tC0.drop 12) 6 false] []=some (.tup [.agg (nL (Ii.getD 0 (.mk 1 2 [] []))),.i .i64 (-1)],s):=iu (m:=1000) (by rw[←gP];kernel_rfl)
theorem sR0: ∃s,be pE 78 [.s lR0] []=some (.tup [.sl tR0 9 false,.i .i64 0,.i .i64 0],s):=iu (m:=1000) (by rw[←gP];kernel_rfl)
theorem aAp: ∃s,be pE 78 [.s auj] []=some (.tup [.sl NI 7 false,.i .i64 0,.i .i64 0],s):=iu (m:=1000) (by rw[←gP];kernel_rfl)
theorem aAq: ∃s,be pE 78 [.s aue] []=some (.tup [.sl NC 7 false,.i .i64 0,.i .i64 0],s):=iu (m:=1000) (by rw[←gP];kernel_rfl)
theorem eR4: ∃s,be pE 126 [.sl (tR4.drop 16) 3 false] []=some (.tup [.agg (nL (l0.getD 4 ⟨0,[],.mk 1 2 [] []⟩).x),.i .i64 (-1)],s):=iu (m:=1000) (by rw[←gP];kernel_rfl)
theorem eK5: ∃s,be pE 126 [.sl (tK5.drop 12) 3 false] []=some (.tup [.agg (nL (pb.getD 5 ⟨0,.mk 1 2 [] []⟩).x),.i .i64 (-1)],s):=iu (m:=1000) (by rw[←gP];kernel_rfl)
theorem aAr: ∃s,be pE 78 [.s atQ] []=some (.tup [.sl ajW 2 false,.i .i64 0,.i .i64 0],s):=iu (m:=1000) (by rw[←gP];kernel_rfl)
theorem aAs: ∃s,be pE 78 [.s atY] []=some (.tup [.sl aj0 2 false,.i .i64 0,.i .i64 0],s):=iu (m:=1000) (by rw[←gP];kernel_rfl)
end Go.Proofs.YtcpceiclnbmgiaaGreat
