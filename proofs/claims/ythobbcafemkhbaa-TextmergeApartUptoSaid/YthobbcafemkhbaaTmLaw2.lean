/- The walk of the law TextmergeTrivial. -/
import Derived.Test.YthobbcafemkhbaaTmLaw1
import Derived.Test.YthobbcafemkhbaaTmVldP
namespace Go.Proofs.Ythobbcafemkhbaa
open Go.RowKit
set_option linter.unusedVariables false

theorem few2 (a b : ByteArray) : fewB [a, b] = (few1 a && few1 b) := by unfold fewB; simp
theorem few_lit2 (w : World) (a b : ByteArray) : Calls Try.prog 12 #[.slice (some ⟨w.heap.size, 0, none⟩) 2 2] (w.alloc (.cells #[.string a, .string b] 9)) fun e w' => e = .returned (.bool (few1 a && few1 b)) ∧ Below w.heap.size w w' := by
  have h := few_any _ _ [a, b] (strs_lit w [a, b] (by simp))
  rw [few2] at h
  exact h.mono fun e w' ⟨h1, h2⟩ => ⟨h1, ((Below.refl _ _).alloc (Nat.le_refl _) _).trans (h2.mono (by simp))⟩

theorem lns_sz {s : ByteArray} {n : Nat} (h : s.size ≤ n) : ∀ x ∈ lns s, x.size ≤ n := by
  intro x hx
  obtain ⟨k, hk, rfl⟩ := List.getElem_of_mem hx
  have h1 : textB (lns s) = textB ((lns s).take (k + 1)) ++ textB ((lns s).drop (k + 1)) := by rw [← textB_append, List.take_append_drop]
  rw [textB_lns, textB_succ hk] at h1
  have := congrArg ByteArray.size h1
  rw [ByteArray.size_append, ByteArray.size_append] at this
  omega
/-- The lines of regions are lines of the three texts. -/
theorem addL_mem {P : ByteArray → Prop} {L : List Rg} {ls : List ByteArray} (h : ∀ x ∈ L, (∀ s ∈ x.2.1, P s) ∧ (∀ s ∈ x.2.2.1, P s) ∧ ∀ s ∈ x.2.2.2, P s) (k : ∀ s ∈ ls, P s) : ∀ x ∈ addL L ls, (∀ s ∈ x.2.1, P s) ∧ (∀ s ∈ x.2.2.1, P s) ∧ ∀ s ∈ x.2.2.2, P s := by
  have e : ∀ (L : List Rg), StrR P (fun _ => True) L ↔ ∀ x ∈ L, (∀ s ∈ x.2.1, P s) ∧ (∀ s ∈ x.2.2.1, P s) ∧ ∀ s ∈ x.2.2.2, P s := fun L =>
    ⟨fun h x hx => ⟨fun s hs => ((h x hx).1 s hs).1, fun s hs => ((h x hx).2.1 s hs).1, fun s hs => ((h x hx).2.2 s hs).1⟩, fun h x hx => ⟨fun s hs => ⟨(h x hx).1 s hs, trivial⟩, fun s hs => ⟨(h x hx).2.1 s hs, trivial⟩, fun s hs => ⟨(h x hx).2.2 s hs, trivial⟩⟩⟩
  exact (e _).1 (str_addL ((e _).2 h) fun s hs => ⟨k s hs, trivial⟩)
theorem all_str {P : ByteArray → Prop} {L : List Rg} : (QR P (fun _ => True) L) ↔ ∀ x ∈ L, (∀ s ∈ x.2.1, P s) ∧ (∀ s ∈ x.2.2.1, P s) ∧ ∀ s ∈ x.2.2.2, P s := by
  constructor
  · rintro (rfl | ⟨L', y, rfl, h1, h2⟩) x hx
    · cases hx
    · rcases List.mem_append.1 hx with h | h
      · exact ⟨fun s hs => ((h1 x h).1 s hs).1, fun s hs => ((h1 x h).2.1 s hs).1, fun s hs => ((h1 x h).2.2 s hs).1⟩
      · rw [List.mem_singleton.1 h]
        exact ⟨h2.1.1, h2.2.1.1, h2.2.2.1⟩
  · intro h
    exact StrR.q fun x hx => ⟨fun s hs => ⟨(h x hx).1 s hs, trivial⟩, fun s hs => ⟨(h x hx).2.1 s hs, trivial⟩, fun s hs => ⟨(h x hx).2.2 s hs, trivial⟩⟩
theorem merge_all {P : ByteArray → Prop} {a b c : List ByteArray} (ha : ∀ s ∈ a, P s) (hb : ∀ s ∈ b, P s) (hc : ∀ s ∈ c, P s) : ∀ x ∈ mergeL a b c, (∀ s ∈ x.2.1, P s) ∧ (∀ s ∈ x.2.2.1, P s) ∧ ∀ s ∈ x.2.2.2, P s :=
  all_str.1 (merge_valid (S := P) (W := fun _ => True) a b c ⟨ha, fun _ _ => trivial⟩ ⟨hb, fun _ _ => trivial⟩ ⟨hc, fun _ _ => trivial⟩).1
theorem merge_sz {a b c : ByteArray} (ha : few1 a = true) (hb : few1 b = true) (hc : few1 c = true) : SzR (mergeL (lns a) (lns b) (lns c)) := by
  have key : ∀ {s : ByteArray}, few1 s = true → ∀ x ∈ lns s, x.size ≤ 1000000000 := fun h => lns_sz (by have := (few_ok h).1; omega)
  exact merge_all (key ha) (key hb) (key hc)
theorem addL_one {ls : List ByteArray} : ∀ x ∈ addL ([] : List Rg) ls, x.2.2.1 = ls := by
  intro x hx
  by_cases h0 : ls = []
  · subst h0; rw [addL_nil] at hx; cases hx
  · rw [addL_empty h0] at hx
    rw [List.mem_singleton.1 hx]

/-- Clean, of regions that are one text. -/
theorem clean_lines (s : ByteArray) (hs : few1 s = true) (w : World) (v : Value) (h : Rgs w v (addL [] (lns s))) : Calls Try.prog 18 #[v] w fun e w' => e = .returned (.tuple #[.string s, .bool true]) ∧ Below w.heap.size w w' := by
  have hz : SzR (addL [] (lns s)) := by
    have := merge_sz hs hs hs
    rwa [merge_left] at this
  obtain ⟨h1, h2⟩ := few_ok hs
  have := clean_any w v _ h hz (fun x hx => by rw [addL_one x hx, textB_lns]; omega)
  rw [clnS_lines] at this
  exact this

set_option maxRecDepth 100000 in
set_option maxHeartbeats 1000000 in
theorem law_trivial (w : World) (a : ByteArray) (ha : a.size ≤ 9223372036854775807) (b : ByteArray) (hb : b.size ≤ 9223372036854775807) :
    Calls Try.prog 5 #[.string a, .string b] w fun e w' => e = .returned (.bool true) ∧ Below w.heap.size w w' := by
  have cf := Lib.hid (few_lit2 w a b)
  have AW := Lib.hid awake19_any
  cases hf : (few1 a && few1 b)
  · rw [hf] at cf
    clear hf
    go_enter Try.func5, Try.ntmps5
    go_wp2_with fail
    refine cf.out.mono ?_
    rintro e w1 ⟨rfl, b1⟩
    go_wp2_with fail
    refine (AW.out w1).mono ?_
    rintro e w2 ⟨rfl, b2⟩
    have hB := b1.trans (b2.mono b1.size)
    go_wp2
    go_ret
    exact ⟨rfl, hB⟩
  · rw [hf] at cf
    rw [Bool.and_eq_true] at hf
    obtain ⟨fa, fb⟩ := hf
    have HM : Hid (∀ s0 s1 : ByteArray, ((s0 = a ∧ s1 = b) ∨ (s0 = b ∧ s1 = a) ∨ (s0 = b ∧ s1 = b)) → ∀ w, Calls Try.prog 14 #[.string a, .string s0, .string s1] w fun e w' => ∃ v, e = .returned (.tuple #[v, .int .i64 0]) ∧ Rgs w' v (addL [] (lns b)) ∧ Below w.heap.size w w') := by
      intro s0 s1 h w
      rcases h with ⟨rfl, rfl⟩ | ⟨rfl, rfl⟩ | ⟨rfl, rfl⟩
      · have := merge_len fa fa fb w
        rwa [merge_left] at this
      · have := merge_len fa fb fa w
        rwa [merge_right] at this
      · have := merge_len fa fb fb w
        rwa [merge_both] at this
    have HC := Lib.hid (clean_lines b fb)
    have hbb : (b.toList == b.toList) = true := by simp
    clear fa fb
    go_enter Try.func5, Try.ntmps5
    go_wp2_with fail
    refine cf.out.mono ?_
    rintro e w1 ⟨rfl, b1⟩
    have hblk := Blk.new w1 #[.string a, .string b, .string b, .string a, .string b, .string b] 31
    have hB := b1.alloc b1.size (.cells #[.string a, .string b, .string b, .string a, .string b, .string b] 31)
    have hcell : ∀ k, k < 3 → ∃ s0 s1, (w1.alloc (.cells #[.string a, .string b, .string b, .string a, .string b, .string b] 31)).cell? ⟨w1.heap.size, k * 2, none⟩ = some (.string s0) ∧ (w1.alloc (.cells #[.string a, .string b, .string b, .string a, .string b, .string b] 31)).cell? ⟨w1.heap.size, k * 2 + 1, none⟩ = some (.string s1) ∧ ((s0 = a ∧ s1 = b) ∨ (s0 = b ∧ s1 = a) ∨ (s0 = b ∧ s1 = b)) := by
      intro k hk
      match k, hk with
      | 0, _ => exact ⟨a, b, hblk.cell rfl, hblk.cell rfl, .inl ⟨rfl, rfl⟩⟩
      | 1, _ => exact ⟨b, a, hblk.cell rfl, hblk.cell rfl, .inr (.inl ⟨rfl, rfl⟩)⟩
      | 2, _ => exact ⟨b, b, hblk.cell rfl, hblk.cell rfl, .inr (.inr ⟨rfl, rfl⟩)⟩
    have HCELL := Lib.hid hcell
    clear cf hblk hcell b1
    go_wp2_with fail
    generalize w1.alloc (.cells #[.string a, .string b, .string b, .string a, .string b, .string b] 31) = w2 at *
    generalize w1.heap.size = g at *
    go_loopw [28] (fun i wr => ∃ k : Nat, k ≤ 3 ∧ i = .int .i64 k ∧ Below w2.heap.size w2 wr) (fun i _ => 3 - (intOf i).toNat)
    case atStart => exact ⟨0, by omega, rfl, Below.refl _ _⟩
    case round =>
      obtain ⟨k, hk, rfl, hb2⟩ := hrel
      by_cases hlt : k < 3
      · obtain ⟨s0, s1, q0, q1, hs⟩ := HCELL.out k hlt
        have q0 := cell_later hb2 q0
        have q1 := cell_later hb2 q1
        have CM := Lib.hid (HM.out s0 s1 hs)
        clear hs
        have hb3 := hb2.alloc hb2.size (.cells #[.string s0, .string s1] 31)
        go_wp2_with fail
        refine (CM.out _).mono ?_
        rintro e w3 ⟨v3, rfl, r3, b3⟩
        have hb4 := hb3.trans (b3.mono hb3.size)
        have CC := Lib.hid (HC.out w3 v3 r3)
        obtain ⟨A3, c3, rfl, _, _⟩ := r3.form
        clear q0 q1 r3 b3 CM hb3 hb2
        go_wp2_with fail
        refine CC.out.mono ?_
        rintro e w4 ⟨rfl, b4⟩
        have hb5 := hb4.trans (b4.mono hb4.size)
        clear CC b4 hb4
        go_wp2
        go_roundw
        case rel => exact ⟨k + 1, by omega, by go_num, hb5⟩
        case measure => simp [intOf]; omega
      · have hb3 := hB.trans (hb2.mono hB.size)
        go_wp2_with fail
        refine (AW.out _).mono ?_
        rintro e w3 ⟨rfl, b3⟩
        have hb4 := hb3.trans (b3.mono hb3.size)
        go_wp2
        go_ret
        exact ⟨rfl, hb4⟩
end Go.Proofs.Ythobbcafemkhbaa
