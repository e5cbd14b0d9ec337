/- linediff.Apply: the walk. -/
import Derived.Test.YthobbcafemkhbaaClosW
import Derived.Test.YthobbcafemkhbaaMetricP
import Derived.Test.YthobbcafemkhbaaAwake
namespace Go.Proofs.Ythobbcafemkhbaa
open Go.RowKit

section
variable {α : Type} [DecidableEq α]
def preR (out : List α) : Except Int (List α) → Except Int (List α)
  | .ok r => .ok (out ++ r)
  | .error c => .error c
def resL : Except Int (List α) → List α
  | .ok r => r
  | .error _ => []
def resC : Except Int (List α) → Int
  | .ok _ => 0
  | .error c => c
variable {full : Except Int (List α)} {a out : List α} {k i m : Nat} {hs : List (Int × List α × List α)} {n : Int} {o e : List α}
theorem ap_end (h : full = preR out (apR a k (hs.drop i))) (hi : ¬ i < hs.length) : full = .ok (out ++ a.drop k) := by
  rw [h, List.drop_of_length_le (by omega)]; rfl
theorem ap_order (h : full = preR out (apR a k (hs.drop i))) (hi : i < hs.length) (he : hs[i] = (n, o, e)) (h1 : n < (k : Int)) : full = .error 10 := by
  rw [h, List.drop_eq_getElem_cons hi, he, apR, if_pos h1]; rfl
theorem ap_range (h : full = preR out (apR a k (hs.drop i))) (hi : i < hs.length) (he : hs[i] = ((m : Int), o, e)) (h1 : k ≤ m) (h2 : a.length < m + o.length) : full = .error 2 := by
  rw [h, List.drop_eq_getElem_cons hi, he, apR, if_neg (by omega), if_pos (by omega)]; rfl
theorem ap_mis (h : full = preR out (apR a k (hs.drop i))) (hi : i < hs.length) (he : hs[i] = ((m : Int), o, e)) (h1 : k ≤ m) (h2 : m + o.length ≤ a.length) (h3 : ¬ (a.drop m).take o.length = o) : full = .error 11 := by
  rw [h, List.drop_eq_getElem_cons hi, he, apR, if_neg (by omega), if_neg (by omega), if_pos (by simpa using h3)]; rfl
theorem ap_go (h : full = preR out (apR a k (hs.drop i))) (hi : i < hs.length) (he : hs[i] = ((m : Int), o, e)) (h1 : k ≤ m) (h2 : m + o.length ≤ a.length) (h3 : (a.drop m).take o.length = o) :
    full = preR (out ++ (a.drop k).take (m - k) ++ e) (apR a (m + o.length) (hs.drop (i + 1))) := by
  rw [h, List.drop_eq_getElem_cons hi, he, apR, if_neg (by omega), if_neg (by omega), if_neg (by simpa using h3), Int.toNat_natCast]
  cases apR a (m + o.length) (hs.drop (i + 1)) with
  | ok r => simp [preR]
  | error c => rfl
end

theorem strs_empty (w : World) (A : Option Addr) (c : Nat) (hc : c ≤ maxLen) : Strs w (.slice A 0 c) [] := ⟨A, c, [], rfl, by simp, hc, CellsAt.nil _ _, rfl⟩
def ApPost (W : World) (r : Except Int (List ByteArray)) (e : Ending) (w' : World) : Prop :=
  ∃ v c, e = .returned (.tuple #[v, .int .i64 c]) ∧ Strs w' v (resL r) ∧ c = resC r ∧ Below W.heap.size W w'
def ApRel (W : World) (xs : List ByteArray) (hs : List Hk) (full : Except Int (List ByteArray)) (v s t : Value) (wr : World) : Prop :=
  ∃ (k i : Nat) (out : List ByteArray), s = .int .i64 k ∧ t = .int .i64 i ∧ k ≤ xs.length ∧ i ≤ hs.length ∧ Ow wr W.heap.size 9 1 Str1 v out ∧ out.length ≤ k + i * 100000 ∧
    Hid (full = preR out (apR xs k (hs.drop i))) ∧ Below W.heap.size W wr

theorem strs_cells {w : World} {A : Option Addr} {n c : Nat} {xs : List ByteArray} (h : Strs w (.slice A n c) xs) : CellsAt w A (xs.map .string) := (StrsB.of_strs h).cellsAt
theorem ow_append {w' : World} {B : Nat} {v' : Value} {out xs : List ByteArray} {oc : List Value} {k : Nat} (he : Elems 1 Str1 out oc) (hk : k = xs.length)
    (h : w'.ownsRow B 9 1 v' (out.length + k) (oc ++ xs.map .string)) : Ow w' B 9 1 Str1 v' (out ++ xs) :=
  ⟨_, by subst hk; simpa using h, he.append (elems_strs xs)⟩

end Go.Proofs.Ythobbcafemkhbaa
