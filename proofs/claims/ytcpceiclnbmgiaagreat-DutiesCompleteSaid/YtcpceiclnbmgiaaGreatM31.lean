/- Walks of functions of the program and of the reference, and their plain laws, part 31. Conditions: the theorems' own. -/
import Derived.Test.YtcpceiclnbmgiaaGreatM23
import Derived.KernelRfl
set_option maxRecDepth 1000000
set_option maxHeartbeats 16000000
namespace Go.Proofs.YtcpceiclnbmgiaaGreat
open Go Go.Ev
theorem sR8: ∃s,be pE 78 [.s lR8] []=some (.tup [.sl tR8 12 false,.i .i64 0,.i .i64 0],s):=iu (m:=1000) (by rw[←fy];kernel_rfl)
theorem eK6: ∃s,be pE 126 [.sl (tK6.drop 12) 10 false] []=some (.tup [.agg (nR (n6.getD 6 ⟨0,.mk 1 2 [] []⟩).x),.i .i64 (-1)],s):=iu (m:=1000) (by rw[←fy];kernel_rfl)
theorem aBn: ∃s,be pE 78 [.s auu] []=some (.tup [.sl NZ 9 false,.i .i64 0,.i .i64 0],s):=iu (m:=1000) (by rw[←fy];kernel_rfl)
theorem sK1: ∃s,be pE 78 [.s lK1] []=some (.tup [.sl tK1 10 false,.i .i64 0,.i .i64 0],s):=iu (m:=1000) (by rw[←fy];kernel_rfl)
theorem eK7: ∃s,be pE 126 [.sl (tK7.drop 12) 6 false] []=some (.tup [.agg (nR (n6.getD 7 ⟨0,.mk 1 2 [] []⟩).x),.i .i64 (-1)],s):=iu (m:=1000) (by rw[←fy];kernel_rfl)
theorem sK7: ∃s,be pE 78 [.s lK7] []=some (.tup [.sl tK7 9 false,.i .i64 0,.i .i64 0],s):=iu (m:=1000) (by rw[←fy];kernel_rfl)
theorem aBo: ∃s,be pE 78 [.s auq] []=some (.tup [.sl akC 4 false,.i .i64 0,.i .i64 0],s):=iu (m:=1000) (by rw[←fy];kernel_rfl)
theorem eR7: ∃s,be pE 126 [.sl (tR7.drop 16) 3 false] []=some (.tup [.agg (nR (lQ.getD 7 ⟨0,[],.mk 1 2 [] []⟩).x),.i .i64 (-1)],s):=iu (m:=1000) (by rw[←fy];kernel_rfl)
theorem aBp: ∃s,be pE 78 [.s aun] []=some (.tup [.sl akz 2 false,.i .i64 0,.i .i64 0],s):=iu (m:=1000) (by rw[←fy];kernel_rfl)
theorem aBq: ∃s,be pE 78 [.s auj] []=some (.tup [.sl akv 2 false,.i .i64 0,.i .i64 0],s):=iu (m:=1000) (by rw[←fy];kernel_rfl)
end Go.Proofs.YtcpceiclnbmgiaaGreat
