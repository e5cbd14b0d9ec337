/- Text: the text of lines, by strings.Join and by the reference implementation. -/
import Derived.Test.YthobbcafemkhbaaApplyW
import Derived.Test.YthobbcafemkhbaaShelf
import Derived.Lib.Join
namespace Go.Proofs.Ythobbcafemkhbaa
open Go.RowKit

/-- The text of lines. -/
def textB (l : List ByteArray) : ByteArray := ⟨(l.map (·.data.toList)).flatten.toArray⟩
theorem textB_nil : textB [] = ⟨#[]⟩ := rfl
theorem textB_append (a b : List ByteArray) : textB (a ++ b) = textB a ++ textB b := by
  apply ByteArray.ext
  simp [textB]
theorem textB_one (s : ByteArray) : textB [s] = s := by
  apply ByteArray.ext
  simp [textB]
theorem textB_succ {l : List ByteArray} {k : Nat} (h : k < l.length) : textB (l.take (k + 1)) = textB (l.take k) ++ l[k] := by
  rw [List.take_succ_eq_append_getElem h, textB_append, textB_one]
theorem join_empty : ∀ (l : List (List UInt8)), Lib.join l [] = l.flatten
  | [] => rfl
  | x :: r => by
    rw [Lib.join_cons]
    simp [Lib.joinTail]
theorem textB_size : ∀ (l : List ByteArray), (textB l).size = (l.map ByteArray.size).sum
  | [] => rfl
  | x :: l => by
    rw [show x :: l = [x] ++ l from rfl, textB_append, textB_one, ByteArray.size_append, textB_size l]
    simp
theorem sum_le : ∀ {l : List ByteArray} {n : Nat}, (∀ s ∈ l, s.size ≤ n) → (l.map ByteArray.size).sum ≤ l.length * n
  | [], n, _ => by simp
  | x :: l, n, h => by
    have h1 := sum_le (l := l) fun s hs => h s (List.mem_cons_of_mem _ hs)
    have h2 := h x List.mem_cons_self
    rw [List.map_cons, List.sum_cons, List.length_cons, Nat.add_mul]
    omega

theorem join_any (W : World) (va : Value) (xs : List ByteArray) (ha : Strs W va xs) (hn : xs.length ≤ 100000) (hb : (textB xs).size ≤ 100000000) :
    Calls Try.prog 63 #[va, .string ⟨#[]⟩] W fun e w' => e = .returned (.string (textB xs)) ∧ Below W.heap.size W w' := by
  obtain ⟨A, c, rfl, hc, hm⟩ := ha.form
  by_cases h0 : 0 < xs.length
  · obtain ⟨b, off, rfl, h1⟩ := ha.get h0
    have hcells : ∀ (j : Nat) x, xs[j]? = some x → W.cell? ⟨b, off + j, none⟩ = some (.string x) := fun j x hj => by
      obtain ⟨hlt, rfl⟩ := List.getElem?_eq_some_iff.1 hj
      obtain ⟨b', off', e, h2⟩ := ha.get hlt
      cases e
      exact h2
    have e1 : Lib.join (xs.map (·.data.toList)) (⟨#[]⟩ : ByteArray).data.toList = (xs.map (·.data.toList)).flatten := join_empty _
    have hlen : (Lib.join (xs.map (·.data.toList)) (⟨#[]⟩ : ByteArray).data.toList).length ≤ 140737488355328 := by
      rw [e1]
      have h3 : (textB xs).size = (xs.map (·.data.toList)).flatten.length := by simp [textB, ByteArray.size]
      omega
    have c1 := strings_Join b off c xs ⟨#[]⟩ W hcells (block_lt_of_cell h1) (by omega) hc hlen
    rw [e1] at c1
    exact c1
  · obtain rfl : xs = [] := List.eq_nil_of_length_eq_zero (by omega)
    exact (strings_Join_none A c ⟨#[]⟩ W).mono fun e w' ⟨he, hw⟩ => ⟨he, hw ▸ Below.refl _ _⟩

theorem text_any (W : World) (va : Value) (xs : List ByteArray) (ha : Strs W va xs) (hn : xs.length ≤ 100000) (hb : (textB xs).size ≤ 100000000) :
    Calls Try.prog 44 #[va] W fun e w' => e = .returned (.string (textB xs)) ∧ Below W.heap.size W w' := by
  have c1 := join_any W va xs ha hn hb
  obtain ⟨A, c, rfl, hc, hm⟩ := ha.form
  clear ha hb
  generalize textB xs = T at *
  go_enter Try.func44, Try.ntmps44
  go_wp2_with fail
  refine c1.mono ?_
  clear c1
  rintro e w1 ⟨rfl, hb1⟩
  go_wp2
  go_ret
  exact ⟨rfl, hb1⟩

set_option maxHeartbeats 1000000 in
theorem rtext_any (W : World) (va : Value) (xs : List ByteArray) (ha : Strs W va xs) (hn : xs.length ≤ 100000) (hb : (textB xs).size ≤ 100000000) :
    Calls Try.prog 21 #[va] W fun e w' => e = .returned (.string (textB xs)) ∧ Drawn W w' := by
  obtain ⟨A, c, rfl, hc, hm⟩ := ha.form
  have hk : ∀ k, (textB (xs.take k)).size ≤ 100000000 := fun k => by
    have : textB xs = textB (xs.take k) ++ textB (xs.drop k) := by rw [← textB_append, List.take_append_drop]
    rw [this, ByteArray.size_append] at hb
    omega
  have HK := Lib.hid hk
  clear hk hb
  go_enter Try.func21, Try.ntmps21
  go_wp2
  go_loopw [3, 4] (fun s t wr => ∃ k : Nat, k ≤ xs.length ∧ t = .int .i64 k ∧ s = .string (textB (xs.take k)) ∧ Drawn W wr) (fun _ t _ => xs.length - (intOf t).toNat)
  case atStart => exact ⟨0, by omega, rfl, rfl, Drawn.refl _⟩
  case round =>
    obtain ⟨k, hk, rfl, rfl, hd⟩ := hrel
    have ha := ha.keep hd.keeps
    by_cases hlt : k < xs.length
    · obtain ⟨b, off, rfl, ha1⟩ := ha.get hlt
      have HS := Lib.hid (textB_succ hlt)
      have h1 := HK.out k
      have h2 := HK.out (k + 1)
      rw [HS.out, ByteArray.size_append] at h2
      generalize textB (xs.take k) = T at *
      generalize xs[k] = x at *
      go_wp2
      exact ⟨⟨k + 1, by omega, by go_num, by rw [HS.out], hd⟩, by simp [intOf]; omega⟩
    · go_wp2
      go_ret
      exact ⟨congrArg (fun t => Ending.returned (Value.string t)) (congrArg textB (List.take_of_length_le (by omega))), hd⟩
end Go.Proofs.Ythobbcafemkhbaa
