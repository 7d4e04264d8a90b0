/- stringslite.IndexByte and stringslite.Index at one byte: laid by the shelf's contract.sh off its templates. Conditions: the second speaks of a substr of one byte. -/
import Derived.Test.YtnkgnjecmfkcfaaGreatChecked
import Derived.Lib.Strings
import Derived.Lib.Slices
import Derived.Lib.Walk
import Derived.Lib.Bytealg
namespace Go.Proofs
set_option maxHeartbeats 1000000 in
set_option maxRecDepth 100000 in
theorem Tryz.stringslite_IndexByte(s:ByteArray)(c:Int)(w:World):
  Calls Tryz.prog 319 #[.string s,.int .u8 c] w fun e w'=>e= .returned (.int .i64 (Lib.indexByte s.data.toList c.toNat.toUInt8))∧w'=w:=by
 go_enter Tryz.func319,Tryz.ntmps319
 go_wp2
 rw[run_callFunc_extern Tryz.func324 (by kernel_rfl) (by kernel_rfl) (by kernel_rfl) (e:=Extern.BytealgIndexByte.indexByte) (by kernel_rfl),Lib.run_indexByteString]
 simp only[Result.andThen]
 rw[Oper.upon_value]
 go_wp2
 go_ret
 exact⟨rfl,rfl⟩
set_option maxHeartbeats 2000000 in
set_option maxRecDepth 100000 in
theorem Tryz.stringslite_Index_one(s:ByteArray)(c:UInt8)(w:World):
  Calls Tryz.prog 316 #[.string s,.string ⟨#[c]⟩] w fun e w'=>e= .returned (.int .i64 (Lib.indexByte s.data.toList c))∧w'=w:=by
 go_enter Tryz.func316,Tryz.ntmps316
 go_wp2_with (go_at_call 319;refine(Tryz.stringslite_IndexByte _ _ _).mono ?_;rintro e w' ⟨rfl,rfl⟩)
 ·have h:([c]==s.toList)=true:=by assumption
  go_ret
  refine⟨?_,rfl⟩
  have e:s.data.toList= [c]:=by rw[←Lib.toList_data];exact(beq_iff_eq.1 h).symm
  rw[e]
  simp[Lib.indexByte]
 ·go_ret
  exact⟨rfl,rfl⟩
end Go.Proofs
