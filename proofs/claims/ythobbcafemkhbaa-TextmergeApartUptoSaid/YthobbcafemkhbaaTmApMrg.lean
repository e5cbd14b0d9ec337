/- Merge and Clean of the texts of TextmergeApart. -/
import Derived.Test.YthobbcafemkhbaaTmLaw2
import Derived.Test.YthobbcafemkhbaaTmUnmP
namespace Go.Proofs.Ythobbcafemkhbaa
open Go.RowKit
set_option linter.unusedVariables false

/-- A line of a part: short, whole, and not the one in the middle. -/
def apOk (mid s : ByteArray) : Prop := s.size ≤ 20 ∧ s ≠ mid ∧ oneL s ∧ endL s
def apOkL (mid : ByteArray) (l : List ByteArray) : Prop := l.length ≤ 8 ∧ ∀ s ∈ l, apOk mid s
/-- A line in the middle. -/
def apMid (mid : ByteArray) : Prop := mid.size ≤ 20 ∧ oneL mid ∧ endL mid
def apTxt (mid : ByteArray) (a b : List ByteArray) : ByteArray := textB a ++ mid ++ textB b
theorem apTxt_eq (mid : ByteArray) (a b : List ByteArray) : apTxt mid a b = textB (a ++ mid :: b) := by
  unfold apTxt
  rw [show a ++ mid :: b = a ++ ([mid] ++ b) from rfl, textB_append, textB_append, textB_one, ByteArray.append_assoc]
theorem ap_all {mid : ByteArray} {a b : List ByteArray} (hm : apMid mid) (ha : apOkL mid a) (hb : apOkL mid b) : ∀ s ∈ a ++ mid :: b, s.size ≤ 20 ∧ oneL s ∧ endL s := by
  intro s hs
  rcases List.mem_append.1 hs with h | h
  · obtain ⟨h1, _, h2, h3⟩ := ha.2 s h; exact ⟨h1, h2, h3⟩
  · rcases List.mem_cons.1 h with rfl | h
    · exact hm
    · obtain ⟨h1, _, h2, h3⟩ := hb.2 s h; exact ⟨h1, h2, h3⟩
theorem ap_lns {mid : ByteArray} {a b : List ByteArray} (hm : apMid mid) (ha : apOkL mid a) (hb : apOkL mid b) : lns (apTxt mid a b) = a ++ mid :: b := by
  rw [apTxt_eq]
  exact lns_textB _ ⟨fun s hs => (ap_all hm ha hb s hs).2.1, fun s hs => (ap_all hm ha hb s (List.dropLast_subset _ hs)).2.2⟩
theorem ap_size {mid : ByteArray} {a b : List ByteArray} (hm : apMid mid) (ha : apOkL mid a) (hb : apOkL mid b) : (apTxt mid a b).size ≤ 1000 ∧ (lns (apTxt mid a b)).length ≤ 20 := by
  have h1 := ha.1
  have h2 := hb.1
  rw [ap_lns hm ha hb, apTxt_eq, textB_size]
  have h3 := sum_le (l := a ++ mid :: b) (n := 20) fun s hs => (ap_all hm ha hb s hs).1
  rw [List.length_append, List.length_cons] at h3 ⊢
  exact ⟨by omega, by omega⟩
theorem ap_part {mid : ByteArray} {a : List ByteArray} (ha : apOkL mid a) : (textB a).size ≤ 1000 := by
  have h1 := ha.1
  rw [textB_size]
  have h3 := sum_le (l := a) (n := 20) fun s hs => (ha.2 s hs).1
  omega
theorem ap_merge {mid : ByteArray} {F L NF NL : List ByteArray} (hm : apMid mid) (h0 : apOkL mid F) (h1 : apOkL mid L) (h2 : apOkL mid NF) (h3 : apOkL mid NL) (w : World) :
    Calls Try.prog 14 #[.string (apTxt mid F L), .string (apTxt mid NF L), .string (apTxt mid F NL)] w fun e w' => ∃ v, e = .returned (.tuple #[v, .int .i64 0]) ∧ Rgs w' v (addL [] (NF ++ mid :: NL)) ∧ Below w.heap.size w w' := by
  obtain ⟨a1, a2⟩ := ap_size hm h0 h1
  obtain ⟨b1, b2⟩ := ap_size hm h2 h1
  obtain ⟨c1, c2⟩ := ap_size hm h0 h3
  have h := merge_any (apTxt mid F L) (apTxt mid NF L) (apTxt mid F NL) (by omega) (by omega) (by omega) (by omega) (by omega) (by omega) w
  rw [ap_lns hm h0 h1, ap_lns hm h2 h1, ap_lns hm h0 h3, merge_apart F NF L NL mid (fun h => (h0.2 _ h).2.1 rfl) (fun h => (h2.2 _ h).2.1 rfl)] at h
  exact h
theorem ap_clean {mid : ByteArray} {a b : List ByteArray} (hm : apMid mid) (ha : apOkL mid a) (hb : apOkL mid b) (w : World) (v : Value) (h : Rgs w v (addL [] (a ++ mid :: b))) :
    Calls Try.prog 18 #[v] w fun e w' => e = .returned (.tuple #[.string (apTxt mid a b), .bool true]) ∧ Below w.heap.size w w' := by
  obtain ⟨s1, s2⟩ := ap_size hm ha hb
  have hne : a ++ mid :: b ≠ [] := by simp
  have hz : SzR (addL [] (a ++ mid :: b)) := by
    rw [addL_empty hne]
    intro x hx
    rw [List.mem_singleton.1 hx]
    exact ⟨(fun s hs => absurd hs (by simp)), (fun s hs => Nat.le_trans (ap_all hm ha hb s hs).1 (by omega)), (fun s hs => absurd hs (by simp))⟩
  have hl := ap_lns hm ha hb
  have := clean_any w v _ h hz (fun x hx => by rw [addL_one x hx, ← apTxt_eq, ← hl]; omega)
  rw [← hl, clnS_lines] at this
  exact this
end Go.Proofs.Ythobbcafemkhbaa
