/-
  DERIVED: THE SHELF's CONTRACTS AT THIS DUMP, IN PLAIN WORDS (tools/lay-plain.mjs out of 'YtnkgnjecmfkcfaaGreatShelfS.lean', which tools/lay-shelf.mjs wrote): THE SAME DECLARATIONS UNDER THE SAME NAMES: 'import', 'namespace', 'open', 'def', 'theorem' AND NOTHING ELSE: no command of the shelf's: FOR A HAND-IN. Each laying: the table of numbers ('.._ren') and one theorem, a field a fact of the dump's own or the kernel's comparison; each contract: ONE APPLICATION.
-/
import Derived.Shelf.Slices.Clone
import Derived.Shelf.Spec.SearchS
import Derived.Shelf.Spec.SlicesInsert
import Derived.Shelf.Spec.SlicesInsertGrow
import Derived.Ground.Names2Prog
import Derived.Test.YtnkgnjecmfkcfaaGreatProg
namespace Go.Proofs
open Go.Shelf
def Tryz.clL_ren:Go.Shelf.Ren:=⟨fun|16=>135|n=>n,fun|24=>36|9=>9|4=>4|n=>n,fun|n=>n⟩
theorem Tryz.clL:Go.Proofs.Lays2.n16 Tryz.prog Tryz.clL_ren:={
 mixed:=by kernel_rfl
 f16:=Tryz.func135.trans (congrArg some (by kernel_rfl))
 t4:=Tryz.underlying4
 a4:=Tryz.isAgg4
 z4:=Tryz.sizeOf4
 v4:=Tryz.zeroValue4
 t9:=Tryz.underlying9
 a9:=Tryz.isAgg9
 z9:=Tryz.sizeOf9
 v9:=Tryz.zeroValue9
 t24:=Tryz.underlying36
 a24:=Tryz.isAgg36
 z24:=Tryz.sizeOf36
 v24:=Tryz.zeroValue36
 i9:=by kernel_rfl}
def Tryz.bsL_ren:Go.Shelf.Ren:=⟨fun|26=>136|33=>218|34=>219|38=>261|n=>n,fun|24=>36|9=>9|3=>3|4=>4|40=>66|0=>0|n=>n,fun|n=>n⟩
theorem Tryz.bsL:Go.Proofs.Lays2.n26 Tryz.prog Tryz.bsL_ren:={
 mixed:=by kernel_rfl
 f26:=Tryz.func136.trans (congrArg some (by kernel_rfl))
 f33:=Tryz.func218.trans (congrArg some (by kernel_rfl))
 f34:=Tryz.func219.trans (congrArg some (by kernel_rfl))
 f38:=Tryz.func261.trans (congrArg some (by kernel_rfl))
 t0:=Tryz.underlying0
 a0:=Tryz.isAgg0
 z0:=Tryz.sizeOf0
 v0:=Tryz.zeroValue0
 t3:=Tryz.underlying3
 a3:=Tryz.isAgg3
 z3:=Tryz.sizeOf3
 v3:=Tryz.zeroValue3
 t4:=Tryz.underlying4
 a4:=Tryz.isAgg4
 z4:=Tryz.sizeOf4
 v4:=Tryz.zeroValue4
 t9:=Tryz.underlying9
 a9:=Tryz.isAgg9
 z9:=Tryz.sizeOf9
 v9:=Tryz.zeroValue9
 t24:=Tryz.underlying36
 a24:=Tryz.isAgg36
 z24:=Tryz.sizeOf36
 v24:=Tryz.zeroValue36
 t40:=Tryz.underlying66
 a40:=Tryz.isAgg66
 z40:=Tryz.sizeOf66
 v40:=Tryz.zeroValue66}
def Tryz.inL_ren:Go.Shelf.Ren:=⟨fun|22=>137|29=>220|30=>221|36=>262|17=>290|n=>n,fun|24=>36|9=>9|3=>3|4=>4|0=>0|n=>n,fun|n=>n⟩
theorem Tryz.inL:Go.Proofs.Lays2.n22 Tryz.prog Tryz.inL_ren:={
 mixed:=by kernel_rfl
 f17:=Tryz.func290.trans (congrArg some (by kernel_rfl))
 f22:=Tryz.func137.trans (congrArg some (by kernel_rfl))
 f29:=Tryz.func220.trans (congrArg some (by kernel_rfl))
 f30:=Tryz.func221.trans (congrArg some (by kernel_rfl))
 f36:=Tryz.func262.trans (congrArg some (by kernel_rfl))
 t0:=Tryz.underlying0
 a0:=Tryz.isAgg0
 z0:=Tryz.sizeOf0
 v0:=Tryz.zeroValue0
 t3:=Tryz.underlying3
 a3:=Tryz.isAgg3
 z3:=Tryz.sizeOf3
 v3:=Tryz.zeroValue3
 t4:=Tryz.underlying4
 a4:=Tryz.isAgg4
 z4:=Tryz.sizeOf4
 v4:=Tryz.zeroValue4
 t9:=Tryz.underlying9
 a9:=Tryz.isAgg9
 z9:=Tryz.sizeOf9
 v9:=Tryz.zeroValue9
 t24:=Tryz.underlying36
 a24:=Tryz.isAgg36
 z24:=Tryz.sizeOf36
 v24:=Tryz.zeroValue36
 i9:=by kernel_rfl}
end Go.Proofs
