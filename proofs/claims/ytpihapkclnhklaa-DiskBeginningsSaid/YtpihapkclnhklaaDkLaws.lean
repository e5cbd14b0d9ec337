/- Plain laws on disks: what stays valid, what is read after a write, a sync, a loss of power. -/
import Derived.Test.YtpihapkclnhklaaDkRead2
import Derived.Test.YtpihapkclnhklaaDkRef6
namespace Go.Proofs.Ytpihapkclnhklaa

theorem putW_sizes {z : Int} {l : List ByteArray} {w : Int × ByteArray} (h : ∀ s ∈ l, (s.size : Int) = z) (hw : (w.2.size : Int) = z) : ∀ s ∈ putW l w, (s.size : Int) = z := fun s hs => by
  rcases List.mem_or_eq_of_mem_set hs with h' | rfl
  · exact h s h'
  · exact hw
theorem foldl_sizes {z : Int} : ∀ (p : List (Int × ByteArray)) (l : List ByteArray), (∀ s ∈ l, (s.size : Int) = z) → (∀ w ∈ p, (w.2.size : Int) = z) → ∀ s ∈ p.foldl putW l, (s.size : Int) = z
  | [], _, h, _ => h
  | w :: p, l, h, hp => foldl_sizes p (putW l w) (putW_sizes h (hp w List.mem_cons_self)) (fun w' hw => hp w' (List.mem_cons_of_mem _ hw))
theorem cur_sizes {d : Dk} (h : Valid d) : ∀ s ∈ cur d, (s.size : Int) = d.size := foldl_sizes _ _ h.ss fun w hw => (h.ws w hw).2.2

theorem Valid.write {d : Dk} (h : Valid d) {i l : Int} {s : ByteArray} (h0 : 0 ≤ i) (h1 : i < d.secs.length) (hs : (s.size : Int) = d.size) (hl : -1 ≤ l) : Valid { d with pend := d.pend ++ [(i, s)], left := l } :=
  ⟨h.s1, h.s2, h.n1, h.n2, h.ss, fun w hw => by
    rcases List.mem_append.1 hw with hw | hw
    · exact h.ws w hw
    · cases List.mem_singleton.1 hw
      exact ⟨h0, h1, hs⟩, hl⟩
theorem Valid.left {d : Dk} (h : Valid d) {l : Int} (hl : -1 ≤ l) : Valid { d with left := l } := ⟨h.s1, h.s2, h.n1, h.n2, h.ss, h.ws, hl⟩
theorem Valid.sync {d : Dk} (h : Valid d) {l : Int} (hl : -1 ≤ l) : Valid ⟨d.size, cur d, [], l⟩ :=
  ⟨h.s1, h.s2, by rw [cur_length]; exact h.n1, by rw [cur_length]; exact h.n2, cur_sizes h, (fun w hw => by cases hw), hl⟩
theorem lessZ_ge {n : Int} (h : -1 ≤ n) : -1 ≤ lessZ n := by unfold lessZ; split <;> omega

theorem rd_cur {d : Dk} {i : Nat} (h : Valid d) (hi : i < d.secs.length) : rdB d i = (cur d)[i]'(by rw [cur_length]; exact hi) := rd_val (chk_zero.2 h) hi
theorem rdE_ok {d : Dk} {i : Nat} (h : Valid d) (hi : i < d.secs.length) : rdE d i = 0 := (rd_in (chk_zero.2 h) hi (by rw [cur_length]; exact hi)).1
theorem rd_size {d : Dk} {i : Nat} (h : Valid d) (hi : i < d.secs.length) : ((rdB d i).size : Int) = d.size := by
  rw [rd_cur h hi]; exact cur_sizes h _ (List.getElem_mem _)

theorem cur_write (d : Dk) (w : Int × ByteArray) (l : Int) : cur { d with pend := d.pend ++ [w], left := l } = putW (cur d) w := by
  simp [cur, List.foldl_append]
theorem rd_write_same {d : Dk} (h : Valid d) {k : Nat} {l : Int} {s : ByteArray} (hk : k < d.secs.length) (hs : (s.size : Int) = d.size) (hl : -1 ≤ l) : rdB { d with pend := d.pend ++ [((k : Int), s)], left := l } k = s := by
  rw [rd_cur (h.write (by omega) (by omega) hs hl) hk]
  have e := cur_write d ((k : Int), s) l
  simp only [e, putW, Int.toNat_natCast]
  exact List.getElem_set_self _
theorem rd_write_other {d : Dk} (h : Valid d) {k m : Nat} {l : Int} {s : ByteArray} (hk : k < d.secs.length) (hm : m < d.secs.length) (hne : m ≠ k) (hs : (s.size : Int) = d.size) (hl : -1 ≤ l) :
    rdB { d with pend := d.pend ++ [((k : Int), s)], left := l } m = rdB d m := by
  rw [rd_cur (h.write (by omega) (by omega) hs hl) hm, rd_cur h hm]
  have e := cur_write d ((k : Int), s) l
  simp only [e, putW, Int.toNat_natCast]
  exact List.getElem_set_ne (fun h => hne h.symm) _
theorem rd_left {d : Dk} (h : Valid d) {m : Nat} {l : Int} (hm : m < d.secs.length) (hl : -1 ≤ l) : rdB { d with left := l } m = rdB d m := by
  rw [rd_cur (h.left hl) hm, rd_cur h hm]; rfl
theorem rd_sync {d : Dk} (h : Valid d) {m : Nat} {l : Int} (hm : m < d.secs.length) (hl : -1 ≤ l) : rdB ⟨d.size, cur d, [], l⟩ m = rdB d m := by
  rw [rd_cur (h.sync hl) (by rw [cur_length]; exact hm), rd_cur h hm]; rfl

theorem sy_valid {d : Dk} (h : Valid d) (hl : ¬ d.left = 0) : syE d = 0 ∧ syD d = ⟨d.size, cur d, [], lessZ d.left⟩ := sy_ok (chk_zero.2 h) hl

/-! a loss of power -/
theorem cutW_sizes {z : Int} (hz : 1 ≤ z) : ∀ (p : List (Int × ByteArray)) (l : List ByteArray) (ps : List Int), (∀ s ∈ l, (s.size : Int) = z) → (∀ w ∈ p, 0 ≤ w.1 ∧ w.1 < l.length ∧ (w.2.size : Int) = z) → ∀ s ∈ cutW z l p ps, (s.size : Int) = z
  | [], _, _, h, _ => by rw [cutW]; exact h
  | w :: p, l, ps, h, hp => by
    rw [cutW]
    obtain ⟨h0, h1, h2⟩ := hp w List.mem_cons_self
    have hm : w.1.toNat < l.length := by omega
    have e : l.getD w.1.toNat ⟨#[]⟩ = l[w.1.toNat] := by rw [List.getD_eq_getElem?_getD, List.getElem?_eq_getElem hm]; rfl
    have ho := h _ (List.getElem_mem hm)
    have hq := pick_le (ps.headD 0) z hz
    refine cutW_sizes hz p _ ps.tail (cut_sizes h ?_) (fun w' hw => by rw [List.length_set]; exact hp w' (List.mem_cons_of_mem _ hw))
    rw [e, torn_size (by omega) (by omega)]
    exact ho
theorem cutW_len {z : Int} : ∀ (p : List (Int × ByteArray)) (l : List ByteArray) (ps : List Int), (cutW z l p ps).length = l.length
  | [], _, _ => rfl
  | w :: p, l, ps => by rw [cutW, cutW_len p, List.length_set]
theorem Valid.cut {d : Dk} (h : Valid d) (ps : List Int) : Valid (cutD d ps) := by
  rw [← cutD_ok (chk_zero.2 h)]
  exact ⟨h.s1, h.s2, by rw [cutW_len]; exact h.n1, by rw [cutW_len]; exact h.n2, cutW_sizes h.s1 _ _ _ h.ss h.ws, (fun w hw => by cases hw), by simp⟩
theorem cutW_other {z : Int} {i : Nat} : ∀ (p : List (Int × ByteArray)) (l : List ByteArray) (ps : List Int), (∀ w ∈ p, 0 ≤ w.1 ∧ w.1 ≠ (i : Int)) → (cutW z l p ps)[i]? = l[i]?
  | [], _, _, _ => rfl
  | w :: p, l, ps, h => by
    have hw := h w List.mem_cons_self
    rw [cutW, cutW_other p _ _ (fun w' hw' => h w' (List.mem_cons_of_mem _ hw')), List.getElem?_set_ne (by omega)]
theorem cutW_nil {z : Int} : ∀ (p : List (Int × ByteArray)) (l : List ByteArray), cutW z l p [] = l
  | [], _ => rfl
  | w :: p, l => by
    rw [cutW]
    have e : l.set w.1.toNat (torn (pick (([] : List Int).headD 0) z) w.2 (l.getD w.1.toNat ⟨#[]⟩)) = l := by
      rw [show (([] : List Int).headD 0) = 0 from rfl, pick_zero, torn_zero]
      apply List.ext_getElem?
      intro j
      by_cases hj : w.1.toNat = j
      · subst hj
        by_cases hl : w.1.toNat < l.length
        · rw [List.getElem?_set_self hl, List.getD_eq_getElem?_getD, List.getElem?_eq_getElem hl]; rfl
        · rw [List.set_eq_of_length_le (by omega)]
      · rw [List.getElem?_set_ne hj]
    rw [e]
    exact cutW_nil p l
theorem pick_all {z : Int} (h : 1 ≤ z) : (pick z z : Int) = z := by
  unfold pick
  rw [Int.tmod_eq_of_lt (by omega) (by omega)]
  omega
theorem torn_all {s t : ByteArray} (h : s.size = t.size) : torn t.size s t = s := by
  apply ByteArray.ext
  unfold torn
  have e1 : t.data.extract t.size t.size = #[] := Array.extract_empty_of_size_le_start (Nat.le_refl _)
  rw [ByteArray.data_append, ByteArray.data_extract, ByteArray.data_extract, e1, Array.append_empty, ← h]
  exact Array.extract_size
theorem cutW_all {z : Int} (hz : 1 ≤ z) : ∀ (p : List (Int × ByteArray)) (l : List ByteArray) (n : Nat), p.length ≤ n → (∀ s ∈ l, (s.size : Int) = z) → (∀ w ∈ p, 0 ≤ w.1 ∧ w.1 < l.length ∧ (w.2.size : Int) = z) → cutW z l p (List.replicate n z) = p.foldl putW l
  | [], _, _, _, _, _ => rfl
  | w :: p, l, 0, hn, _, _ => by simp at hn
  | w :: p, l, n + 1, hn, h, hp => by
    obtain ⟨h0, h1, h2⟩ := hp w List.mem_cons_self
    have hm : w.1.toNat < l.length := by omega
    have e : l.getD w.1.toNat ⟨#[]⟩ = l[w.1.toNat] := by rw [List.getD_eq_getElem?_getD, List.getElem?_eq_getElem hm]; rfl
    have ho := h _ (List.getElem_mem hm)
    have hq := pick_all hz
    have ht : torn (pick ((List.replicate (n + 1) z).headD 0) z) w.2 (l.getD w.1.toNat ⟨#[]⟩) = w.2 := by
      rw [e, show ((List.replicate (n + 1) z).headD 0) = z from rfl, show pick z z = (l[w.1.toNat]).size by omega]
      exact torn_all (by omega)
    rw [cutW, ht, show (List.replicate (n + 1) z).tail = List.replicate n z from rfl, List.foldl_cons]
    exact cutW_all hz p _ n (by simpa using hn) (putW_sizes (w := w) h h2) (fun w' hw => by rw [List.length_set]; exact hp w' (List.mem_cons_of_mem _ hw))
end Go.Proofs.Ytpihapkclnhklaa
