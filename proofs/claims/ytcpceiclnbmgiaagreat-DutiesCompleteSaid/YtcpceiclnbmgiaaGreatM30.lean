/- Walks of functions of the program and of the reference, and their plain laws, part 30. Conditions: the theorems' own. -/
import Derived.Test.YtcpceiclnbmgiaaGreatM23
import Derived.KernelRfl
set_option maxRecDepth 1000000
set_option maxHeartbeats 16000000
namespace Go.Proofs.YtcpceiclnbmgiaaGreat
open Go Go.Ev
theorem sK6: ∃s,be pE 78 [.s lK6] []=some (.tup [.sl tK6 13 false,.i .i64 0,.i .i64 0],s):=iu (m:=1000) (by rw[←fy];kernel_rfl)
theorem eK2: ∃s,be pE 126 [.sl (tK2.drop 12) 8 false] []=some (.tup [.agg (nR (n6.getD 2 ⟨0,.mk 1 2 [] []⟩).x),.i .i64 (-1)],s):=iu (m:=1000) (by rw[←fy];kernel_rfl)
theorem eR6: ∃s,be pE 126 [.sl (tR6.drop 16) 7 false] []=some (.tup [.agg (nR (lQ.getD 6 ⟨0,[],.mk 1 2 [] []⟩).x),.i .i64 (-1)],s):=iu (m:=1000) (by rw[←fy];kernel_rfl)
theorem eR9: ∃s,be pE 126 [.sl (tR9.drop 16) 5 false] []=some (.tup [.agg (nR (lQ.getD 9 ⟨0,[],.mk 1 2 [] []⟩).x),.i .i64 (-1)],s):=iu (m:=1000) (by rw[←fy];kernel_rfl)
theorem aBh: ∃s,be pE 78 [.s auy] []=some (.tup [.sl N6 7 false,.i .i64 0,.i .i64 0],s):=iu (m:=1000) (by rw[←fy];kernel_rfl)
theorem sR4: ∃s,be pE 78 [.s lR4] []=some (.tup [.sl tR4 7 false,.i .i64 0,.i .i64 0],s):=iu (m:=1000) (by rw[←fy];kernel_rfl)
theorem aBi: ∃s,be pE 78 [.s aup] []=some (.tup [.sl akB 4 false,.i .i64 0,.i .i64 0],s):=iu (m:=1000) (by rw[←fy];kernel_rfl)
theorem aBj: ∃s,be pE 126 [.sl (N9.drop 16) 3 false] []=some (.tup [.agg (nR (lQ.getD 16 ⟨0,[],.mk 1 2 [] []⟩).x),.i .i64 (-1)],s):=iu (m:=1000) (by rw[←fy];kernel_rfl)
theorem aBk: ∃s,be pE 78 [.s aum] []=some (.tup [.sl aky 2 false,.i .i64 0,.i .i64 0],s):=iu (m:=1000) (by rw[←fy];kernel_rfl)
theorem aBl: ∃s,be pE 78 [.s auh] []=some (.tup [.sl akt 2 false,.i .i64 0,.i .i64 0],s):=iu (m:=1000) (by rw[←fy];kernel_rfl)
theorem aBm: ∃s,be pE 78 [.s aua] []=some (.tup [.sl akm 2 false,.i .i64 0,.i .i64 0],s):=iu (m:=1000) (by rw[←fy];kernel_rfl)
end Go.Proofs.YtcpceiclnbmgiaaGreat
