/- Walks of functions of the program and of the reference, and their plain laws, part 31. Conditions: the theorems' own. -/
import Derived.Test.YtcpceiclnbmgiaaGreatM23
import Derived.KernelRfl
set_option maxRecDepth 1000000
set_option maxHeartbeats 16000000
namespace Go.Proofs.YtcpceiclnbmgiaaGreat
open Go Go.Ev
theorem sR8: ∃s,be pE 78 [.s lR8] []=some (.tup [.sl tR8 12 false,.i .i64 0,.i .i64 0],s):=gV (m:=1000) (by rw[←gN];kernel_rfl)
theorem eK6: ∃s,be pE 126 [.sl (tK6.drop 12) 10 false] []=some (.tup [.agg (mV (pM.getD 6 ⟨0,.mk 1 2 [] []⟩).x),.i .i64 (-1)],s):=gV (m:=1000) (by rw[←gN];kernel_rfl)
theorem az4: ∃s,be pE 78 [.s atw] []=some (.tup [.sl M5 9 false,.i .i64 0,.i .i64 0],s):=gV (m:=1000) (by rw[←gN];kernel_rfl)
theorem sK1: ∃s,be pE 78 [.s lK1] []=some (.tup [.sl tK1 10 false,.i .i64 0,.i .i64 0],s):=gV (m:=1000) (by rw[←gN];kernel_rfl)
theorem eK7: ∃s,be pE 126 [.sl (tK7.drop 12) 6 false] []=some (.tup [.agg (mV (pM.getD 7 ⟨0,.mk 1 2 [] []⟩).x),.i .i64 (-1)],s):=gV (m:=1000) (by rw[←gN];kernel_rfl)
theorem sK7: ∃s,be pE 78 [.s lK7] []=some (.tup [.sl tK7 9 false,.i .i64 0,.i .i64 0],s):=gV (m:=1000) (by rw[←gN];kernel_rfl)
theorem az5: ∃s,be pE 78 [.s ats] []=some (.tup [.sl ajR 4 false,.i .i64 0,.i .i64 0],s):=gV (m:=1000) (by rw[←gN];kernel_rfl)
theorem eR7: ∃s,be pE 126 [.sl (tR7.drop 16) 3 false] []=some (.tup [.agg (mV (lU.getD 7 ⟨0,[],.mk 1 2 [] []⟩).x),.i .i64 (-1)],s):=gV (m:=1000) (by rw[←gN];kernel_rfl)
theorem az6: ∃s,be pE 78 [.s atp] []=some (.tup [.sl ajO 2 false,.i .i64 0,.i .i64 0],s):=gV (m:=1000) (by rw[←gN];kernel_rfl)
theorem az7: ∃s,be pE 78 [.s atl] []=some (.tup [.sl ajK 2 false,.i .i64 0,.i .i64 0],s):=gV (m:=1000) (by rw[←gN];kernel_rfl)
end Go.Proofs.YtcpceiclnbmgiaaGreat
