/- Walks of functions of the program and of the reference, and their plain laws, part 30. Conditions: the theorems' own. -/
import Derived.Test.YtcpceiclnbmgiaaGreatM23
import Derived.KernelRfl
set_option maxRecDepth 1000000
set_option maxHeartbeats 16000000
namespace Go.Proofs.YtcpceiclnbmgiaaGreat
open Go Go.Ev
theorem sK6: ∃s,be pE 78 [.s lK6] []=some (.tup [.sl tK6 13 false,.i .i64 0,.i .i64 0],s):=iu (m:=1000) (by rw[←gP];kernel_rfl)
theorem eK2: ∃s,be pE 126 [.sl (tK2.drop 12) 8 false] []=some (.tup [.agg (nL (pb.getD 2 ⟨0,.mk 1 2 [] []⟩).x),.i .i64 (-1)],s):=iu (m:=1000) (by rw[←gP];kernel_rfl)
theorem eR6: ∃s,be pE 126 [.sl (tR6.drop 16) 7 false] []=some (.tup [.agg (nL (l0.getD 6 ⟨0,[],.mk 1 2 [] []⟩).x),.i .i64 (-1)],s):=iu (m:=1000) (by rw[←gP];kernel_rfl)
theorem eR9: ∃s,be pE 126 [.sl (tR9.drop 16) 5 false] []=some (.tup [.agg (nL (l0.getD 9 ⟨0,[],.mk 1 2 [] []⟩).x),.i .i64 (-1)],s):=iu (m:=1000) (by rw[←gP];kernel_rfl)
theorem aAP: ∃s,be pE 78 [.s auf] []=some (.tup [.sl ND 7 false,.i .i64 0,.i .i64 0],s):=iu (m:=1000) (by rw[←gP];kernel_rfl)
theorem sR4: ∃s,be pE 78 [.s lR4] []=some (.tup [.sl tR4 7 false,.i .i64 0,.i .i64 0],s):=iu (m:=1000) (by rw[←gP];kernel_rfl)
theorem aAQ: ∃s,be pE 78 [.s at7] []=some (.tup [.sl aj7 4 false,.i .i64 0,.i .i64 0],s):=iu (m:=1000) (by rw[←gP];kernel_rfl)
theorem aAR: ∃s,be pE 126 [.sl (NH.drop 16) 3 false] []=some (.tup [.agg (nL (l0.getD 16 ⟨0,[],.mk 1 2 [] []⟩).x),.i .i64 (-1)],s):=iu (m:=1000) (by rw[←gP];kernel_rfl)
theorem aAS: ∃s,be pE 78 [.s at2] []=some (.tup [.sl aj4 2 false,.i .i64 0,.i .i64 0],s):=iu (m:=1000) (by rw[←gP];kernel_rfl)
theorem aAT: ∃s,be pE 78 [.s atX] []=some (.tup [.sl ajZ 2 false,.i .i64 0,.i .i64 0],s):=iu (m:=1000) (by rw[←gP];kernel_rfl)
theorem aAU: ∃s,be pE 78 [.s atM] []=some (.tup [.sl ajS 2 false,.i .i64 0,.i .i64 0],s):=iu (m:=1000) (by rw[←gP];kernel_rfl)
end Go.Proofs.YtcpceiclnbmgiaaGreat
