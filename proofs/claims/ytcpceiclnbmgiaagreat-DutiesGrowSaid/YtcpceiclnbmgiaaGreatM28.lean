/- Walks of functions of the program and of the reference, and their plain laws, part 28. Conditions: the theorems' own. -/
import Derived.Test.YtcpceiclnbmgiaaGreatM23
import Derived.KernelRfl
set_option maxRecDepth 1000000
set_option maxHeartbeats 16000000
namespace Go.Proofs.YtcpceiclnbmgiaaGreat
open Go Go.Ev
theorem eR1: ∃s,be pE 126 [.sl (tR1.drop 16) 11 false] []=some (.tup [.agg (mV (lU.getD 1 ⟨0,[],.mk 1 2 [] []⟩).x),.i .i64 (-1)],s):=gV (m:=1000) (by rw[←gN];kernel_rfl)
theorem azG: ∃s,be pE 126 [.sl (M6.drop 16) 9 false] []=some (.tup [.agg (mV (lU.getD 11 ⟨0,[],.mk 1 2 [] []⟩).x),.i .i64 (-1)],s):=gV (m:=1000) (by rw[←gN];kernel_rfl)
theorem eK9: ∃s,be pE 126 [.sl (tK9.drop 12) 8 false] []=some (.tup [.agg (mV (pM.getD 9 ⟨0,.mk 1 2 [] []⟩).x),.i .i64 (-1)],s):=gV (m:=1000) (by rw[←gN];kernel_rfl)
theorem sC0: ∃s,be pE 78 [.s lC0] []=some (.tup [.sl tC0 9 false,.i .i64 0,.i .i64 0],s):=gV (m:=1000) (by rw[←gN];kernel_rfl)
theorem sR7: ∃s,be pE 78 [.s lR7] []=some (.tup [.sl tR7 7 false,.i .i64 0,.i .i64 0],s):=gV (m:=1000) (by rw[←gN];kernel_rfl)
theorem sK4: ∃s,be pE 78 [.s lK4] []=some (.tup [.sl tK4 6 false,.i .i64 0,.i .i64 0],s):=gV (m:=1000) (by rw[←gN];kernel_rfl)
theorem azH: ∃s,be pE 78 [.s atv] []=some (.tup [.sl ajU 7 false,.i .i64 0,.i .i64 0],s):=gV (m:=1000) (by rw[←gN];kernel_rfl)
theorem azI: ∃s,be pE 126 [.sl (M9.drop 16) 3 false] []=some (.tup [.agg (mV (lU.getD 14 ⟨0,[],.mk 1 2 [] []⟩).x),.i .i64 (-1)],s):=gV (m:=1000) (by rw[←gN];kernel_rfl)
theorem eK4: ∃s,be pE 126 [.sl (tK4.drop 12) 3 false] []=some (.tup [.agg (mV (pM.getD 4 ⟨0,.mk 1 2 [] []⟩).x),.i .i64 (-1)],s):=gV (m:=1000) (by rw[←gN];kernel_rfl)
theorem azJ: ∃s,be pE 78 [.s ath] []=some (.tup [.sl ajG 2 false,.i .i64 0,.i .i64 0],s):=gV (m:=1000) (by rw[←gN];kernel_rfl)
theorem azK: ∃s,be pE 78 [.s atm] []=some (.tup [.sl ajL 2 false,.i .i64 0,.i .i64 0],s):=gV (m:=1000) (by rw[←gN];kernel_rfl)
end Go.Proofs.YtcpceiclnbmgiaaGreat
