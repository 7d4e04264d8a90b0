/- Walks of functions of the program and of the reference, and their plain laws, part 25. Conditions: the theorems' own. -/
import Derived.Test.YtcpceiclnbmgiaaGreatM23
import Derived.KernelRfl
set_option maxRecDepth 1000000
set_option maxHeartbeats 16000000
namespace Go.Proofs.YtcpceiclnbmgiaaGreat
open Go Go.Ev
theorem sR2: ∃s,be pE 78 [.s lR2] []=some (.tup [.sl tR2 13 false,.i .i64 0,.i .i64 0],s):=gV (m:=1000) (by rw[←gN];kernel_rfl)
theorem sK2: ∃s,be pE 78 [.s lK2] []=some (.tup [.sl tK2 11 false,.i .i64 0,.i .i64 0],s):=gV (m:=1000) (by rw[←gN];kernel_rfl)
theorem sK9: ∃s,be pE 78 [.s lK9] []=some (.tup [.sl tK9 11 false,.i .i64 0,.i .i64 0],s):=gV (m:=1000) (by rw[←gN];kernel_rfl)
theorem azr: ∃s,be pE 78 [.s atA] []=some (.tup [.sl M9 7 false,.i .i64 0,.i .i64 0],s):=gV (m:=1000) (by rw[←gN];kernel_rfl)
theorem sK0: ∃s,be pE 78 [.s lK0] []=some (.tup [.sl tK0 8 false,.i .i64 0,.i .i64 0],s):=gV (m:=1000) (by rw[←gN];kernel_rfl)
theorem eC2: ∃s,be pE 126 [.sl (tC2.drop 12) 5 false] []=some (.tup [.agg (mV (Im.getD 2 (.mk 1 2 [] []))),.i .i64 (-1)],s):=gV (m:=1000) (by rw[←gN];kernel_rfl)
theorem azt: ∃s,be pE 78 [.s atq] []=some (.tup [.sl ajP 4 false,.i .i64 0,.i .i64 0],s):=gV (m:=1000) (by rw[←gN];kernel_rfl)
theorem azu: ∃s,be pE 126 [.sl (Nc.drop 16) 3 false] []=some (.tup [.agg (mV (lU.getD 17 ⟨0,[],.mk 1 2 [] []⟩).x),.i .i64 (-1)],s):=gV (m:=1000) (by rw[←gN];kernel_rfl)
theorem azv: ∃s,be pE 78 [.s atn] []=some (.tup [.sl ajM 2 false,.i .i64 0,.i .i64 0],s):=gV (m:=1000) (by rw[←gN];kernel_rfl)
theorem azw: ∃s,be pE 78 [.s ati] []=some (.tup [.sl ajH 2 false,.i .i64 0,.i .i64 0],s):=gV (m:=1000) (by rw[←gN];kernel_rfl)
theorem azx: ∃s,be pE 78 [.s atb] []=some (.tup [.sl ajA 2 false,.i .i64 0,.i .i64 0],s):=gV (m:=1000) (by rw[←gN];kernel_rfl)
end Go.Proofs.YtcpceiclnbmgiaaGreat
