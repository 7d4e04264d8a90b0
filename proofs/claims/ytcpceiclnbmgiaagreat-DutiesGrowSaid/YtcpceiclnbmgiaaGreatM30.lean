/- Walks of functions of the program and of the reference, and their plain laws, part 30. Conditions: the theorems' own. -/
import Derived.Test.YtcpceiclnbmgiaaGreatM23
import Derived.KernelRfl
set_option maxRecDepth 1000000
set_option maxHeartbeats 16000000
namespace Go.Proofs.YtcpceiclnbmgiaaGreat
open Go Go.Ev
theorem sK6: ∃s,be pE 78 [.s lK6] []=some (.tup [.sl tK6 13 false,.i .i64 0,.i .i64 0],s):=gV (m:=1000) (by rw[←gN];kernel_rfl)
theorem eK2: ∃s,be pE 126 [.sl (tK2.drop 12) 8 false] []=some (.tup [.agg (mV (pM.getD 2 ⟨0,.mk 1 2 [] []⟩).x),.i .i64 (-1)],s):=gV (m:=1000) (by rw[←gN];kernel_rfl)
theorem eR6: ∃s,be pE 126 [.sl (tR6.drop 16) 7 false] []=some (.tup [.agg (mV (lU.getD 6 ⟨0,[],.mk 1 2 [] []⟩).x),.i .i64 (-1)],s):=gV (m:=1000) (by rw[←gN];kernel_rfl)
theorem eR9: ∃s,be pE 126 [.sl (tR9.drop 16) 5 false] []=some (.tup [.agg (mV (lU.getD 9 ⟨0,[],.mk 1 2 [] []⟩).x),.i .i64 (-1)],s):=gV (m:=1000) (by rw[←gN];kernel_rfl)
theorem azY: ∃s,be pE 78 [.s atz] []=some (.tup [.sl M8 7 false,.i .i64 0,.i .i64 0],s):=gV (m:=1000) (by rw[←gN];kernel_rfl)
theorem sR4: ∃s,be pE 78 [.s lR4] []=some (.tup [.sl tR4 7 false,.i .i64 0,.i .i64 0],s):=gV (m:=1000) (by rw[←gN];kernel_rfl)
theorem azZ: ∃s,be pE 78 [.s atr] []=some (.tup [.sl ajQ 4 false,.i .i64 0,.i .i64 0],s):=gV (m:=1000) (by rw[←gN];kernel_rfl)
theorem az0: ∃s,be pE 126 [.sl (Nb.drop 16) 3 false] []=some (.tup [.agg (mV (lU.getD 16 ⟨0,[],.mk 1 2 [] []⟩).x),.i .i64 (-1)],s):=gV (m:=1000) (by rw[←gN];kernel_rfl)
theorem az1: ∃s,be pE 78 [.s ato] []=some (.tup [.sl ajN 2 false,.i .i64 0,.i .i64 0],s):=gV (m:=1000) (by rw[←gN];kernel_rfl)
theorem az2: ∃s,be pE 78 [.s atj] []=some (.tup [.sl ajI 2 false,.i .i64 0,.i .i64 0],s):=gV (m:=1000) (by rw[←gN];kernel_rfl)
theorem az3: ∃s,be pE 78 [.s atc] []=some (.tup [.sl ajB 2 false,.i .i64 0,.i .i64 0],s):=gV (m:=1000) (by rw[←gN];kernel_rfl)
end Go.Proofs.YtcpceiclnbmgiaaGreat
