/- strings.IndexByte. -/
import Derived.Test.YthobbcafemkhbaaProg
import Derived.Test.YthobbcafemkhbaaBase
import Derived.Lib.Bytealg
import Derived.Lib.IndexLaws
namespace Go.Proofs.Ythobbcafemkhbaa
open Go.RowKit

set_option maxHeartbeats 400000 in
theorem slIndexByte (s : ByteArray) (c : Int) (w : World) :
    Calls Try.prog 77 #[.string s, .int .u8 c] w fun e w' => e = .returned (.int .i64 (Lib.indexByte s.data.toList c.toNat.toUInt8)) ∧ w = w' := by
  go_enter Try.func77, Try.ntmps77
  go_wp2
  rw [run_callFunc_extern Try.func83 (by kernel_rfl) (by kernel_rfl) (by kernel_rfl) (e := Extern.BytealgIndexByte.indexByte) (by kernel_rfl), Lib.run_indexByteString]
  simp only [Result.andThen]
  rw [Oper.upon_value]
  go_wp2
  go_ret
  exact ⟨rfl, rfl⟩

set_option maxHeartbeats 400000 in
theorem stIndexByte (s : ByteArray) (c : Int) (w : World) :
    Calls Try.prog 71 #[.string s, .int .u8 c] w fun e w' => e = .returned (.int .i64 (Lib.indexByte s.data.toList c.toNat.toUInt8)) ∧ w = w' := by
  go_enter Try.func71, Try.ntmps71
  go_wp2_with (go_at_call 77; refine (slIndexByte _ _ _).mono ?_; rintro e w' ⟨rfl, rfl⟩)
  go_ret
  exact ⟨rfl, rfl⟩
end Go.Proofs.Ythobbcafemkhbaa
