/- cordwoodlaw18.awake: the example of the chapter. -/
import Derived.Test.YthobbcafemkhbaaDiff
import Derived.Test.YthobbcafemkhbaaRdiff
import Derived.Test.YthobbcafemkhbaaLines2
namespace Go.Proofs.Ythobbcafemkhbaa
open Go.RowKit

theorem elems_strs : ∀ (xs : List ByteArray), Elems 1 Str1 xs (xs.map .string)
  | [] => rfl
  | x :: xs => ⟨[.string x], _, rfl, rfl, rfl, elems_strs xs⟩
theorem strs_lit (w : World) (xs : List ByteArray) (hx : xs.length ≤ 1000000) : Strs (w.alloc (.cells (xs.map Value.string).toArray 9)) (.slice (some ⟨w.heap.size, 0, none⟩) xs.length xs.length) xs :=
  ⟨_, xs.length, xs.map .string, rfl, Nat.le_refl _, by unfold maxLen; omega, by simpa using CellsAt.of_new w (xs.map Value.string).toArray 9 (0, 0), elems_strs xs⟩

def sa : ByteArray := ⟨#[97, 10]⟩
def sb : ByteArray := ⟨#[98, 10]⟩
def sc : ByteArray := ⟨#[99]⟩
def sx : ByteArray := ⟨#[120, 10]⟩
theorem ex_diff : diffL [sa, sb, sc] [sa, sx, sc] = [((1 : Int), [sb], [sx])] := by decide +kernel
theorem ex_lines : lines [97, 10, 98, 10, 99] = [[97, 10], [98, 10], [99]] := by decide +kernel

theorem hks_lit (w : World) (n : Int) (hn0 : -9223372036854775808 ≤ n) (hn1 : n ≤ 9223372036854775807) (vo vn : Value) (o e : List ByteArray) (ho : Strs w vo o) (he : Strs w vn e) :
    Hks (w.alloc (.cells #[.int .i64 n, vo, vn] 92)) (.slice (some ⟨w.heap.size, 0, none⟩) 1 1) [(n, o, e)] :=
  ⟨_, 1, [.int .i64 n, vo, vn], rfl, Nat.le_refl _, by unfold maxLen; omega, by simpa using CellsAt.of_new w #[.int .i64 n, vo, vn] 92 (0, 0), Elems.one ⟨vo, vn, rfl, ho.keep (Keeps.alloc _ _), he.keep (Keeps.alloc _ _), hn0, hn1⟩ rfl⟩

end Go.Proofs.Ythobbcafemkhbaa
