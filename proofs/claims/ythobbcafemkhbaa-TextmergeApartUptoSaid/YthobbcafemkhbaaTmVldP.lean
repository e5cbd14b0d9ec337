/- Plain: what both programs take for valid; the lines of a text are proper lines. -/
import Derived.Test.YthobbcafemkhbaaTmClean
import Derived.Test.YthobbcafemkhbaaTmRmerge
namespace Go.Proofs.Ythobbcafemkhbaa

/-! ### lines of a text -/
theorem idx_of {l : List UInt8} {o : Nat} (h : l[o]? = some 10) (hn : ∀ k, k < o → l[k]? ≠ some 10) : Lib.indexByte l 10 = (o : Int) := by
  rcases index_cases l with h1 | ⟨p, h1, _⟩
  · exact absurd h (Lib.indexByte_none h1 o)
  · obtain ⟨h2, h3⟩ := Lib.indexByte_some h1
    have : p = o := by
      rcases Nat.lt_trichotomy p o with h4 | h4 | h4
      · exact absurd h2 (hn p h4)
      · exact h4
      · exact absurd h (h3 o h4)
    rw [h1, this]
theorem lines_first {s : List UInt8} (hs : s ≠ []) : (lines (s.take (firstLen s))).length = 1 ∧ (s.drop (firstLen s) ≠ [] → (s.take (firstLen s)).getLast? = some 10) := by
  rcases index_cases s with h | ⟨o, h, hlt⟩
  · have hf : firstLen s = s.length := by unfold firstLen; rw [if_pos h]
    rw [hf, List.take_of_length_le (Nat.le_refl _), List.drop_of_length_le (Nat.le_refl _)]
    exact ⟨(lines_len_one hs).2 hf, fun h => absurd rfl h⟩
  · have hf : firstLen s = o + 1 := by unfold firstLen; rw [if_neg (by omega), h]; omega
    obtain ⟨h1, h2⟩ := Lib.indexByte_some h
    have hl : (s.take (o + 1)).length = o + 1 := by rw [List.length_take]; omega
    have hne : s.take (o + 1) ≠ [] := fun e => by rw [e] at hl; simp at hl
    have h3 : (s.take (o + 1))[o]? = some 10 := by rw [List.getElem?_take, if_pos (by omega)]; exact h1
    have h4 : ∀ k, k < o → (s.take (o + 1))[k]? ≠ some 10 := fun k hk => by rw [List.getElem?_take, if_pos (by omega)]; exact h2 k hk
    have h5 := idx_of h3 h4
    rw [hf]
    refine ⟨(lines_len_one hne).2 ?_, fun _ => ?_⟩
    · unfold firstLen; rw [if_neg (by omega), h5, hl]; omega
    · rw [List.getLast?_eq_getElem?, hl]; exact h3
theorem lines_prp : ∀ (n : Nat) (s : List UInt8), s.length ≤ n → (∀ x ∈ lines s, (lines x).length = 1) ∧ ∀ x ∈ (lines s).dropLast, x.getLast? = some 10
  | 0, s, h => by
    obtain rfl : s = [] := List.eq_nil_of_length_eq_zero (by omega)
    exact ⟨(fun _ h => by cases h), (fun _ h => by cases h)⟩
  | n + 1, s, h => by
    by_cases hs : s = []
    · subst hs
      exact ⟨(fun _ h => by cases h), (fun _ h => by cases h)⟩
    obtain ⟨f1, f2⟩ := lines_first hs
    have hp := firstLen_pos hs
    obtain ⟨i1, i2⟩ := lines_prp n (s.drop (firstLen s)) (by rw [List.length_drop]; omega)
    rw [lines_step hs]
    refine ⟨fun x hx => ?_, fun x hx => ?_⟩
    · rcases List.mem_cons.1 hx with rfl | hx
      · exact f1
      · exact i1 x hx
    · by_cases hd : s.drop (firstLen s) = []
      · rw [hd, lines_nil] at hx
        cases hx
      · have hne : lines (s.drop (firstLen s)) ≠ [] := by rw [lines_step hd]; simp
        rw [List.dropLast_cons_of_ne_nil hne] at hx
        rcases List.mem_cons.1 hx with rfl | hx
        · exact f2 hd
        · exact i2 x hx
theorem flatten_linesF (s cur : List UInt8) : (linesF cur s).flatten = cur ++ s := by
  induction s generalizing cur with
  | nil =>
    unfold linesF
    split
    · rename_i h; simp [h]
    · simp
  | cons c s ih =>
    unfold linesF
    split
    · rename_i h
      rw [List.flatten_cons, ih, h]; simp
    · rw [ih]; simp
theorem textB_lns (s : ByteArray) : textB (lns s) = s := by
  apply ByteArray.ext
  unfold textB lns lines
  simp only [List.map_map]
  rw [show ((fun x : ByteArray => x.data.toList) ∘ fun x : List UInt8 => (⟨x.toArray⟩ : ByteArray)) = id from rfl, List.map_id, flatten_linesF]
  rfl
/-- A single line; with its line feed. -/
def oneL (s : ByteArray) : Prop := (lines s.data.toList).length = 1
def endL (s : ByteArray) : Prop := s.data.toList.getLast? = some 10
theorem lns_prp (s : ByteArray) : prpL oneL endL (lns s) := by
  obtain ⟨h1, h2⟩ := lines_prp _ s.data.toList (Nat.le_refl _)
  refine ⟨fun x hx => ?_, fun x hx => ?_⟩
  · obtain ⟨l, hl, rfl⟩ := List.mem_map.1 hx
    exact h1 l hl
  · unfold lns at hx
    rw [← List.map_dropLast] at hx
    obtain ⟨l, hl, rfl⟩ := List.mem_map.1 hx
    exact h2 l hl
theorem oneL_pos {s : ByteArray} (h : oneL s) : 0 < s.size := by
  rcases Nat.eq_zero_or_pos s.size with h0 | h0
  · have : s.data.toList = [] := List.eq_nil_of_length_eq_zero h0
    unfold oneL at h
    rw [this] at h
    cases h
  · exact h0
theorem wholeB_iff (s : ByteArray) : wholeB s = true ↔ oneL s ∧ endL s := by
  unfold wholeB
  rw [Bool.and_eq_true, Bool.and_eq_true, decide_eq_true_iff, decide_eq_true_iff, decide_eq_true_iff]
  have e : endL s ↔ s.data.toList[s.size - 1]? = some 10 := by
    unfold endL
    rw [List.getLast?_eq_getElem?]
    exact Iff.rfl
  rw [e]
  exact ⟨fun ⟨⟨_, h1⟩, h2⟩ => ⟨h1, h2⟩, fun ⟨h1, h2⟩ => ⟨⟨oneL_pos h1, h1⟩, h2⟩⟩

/-! ### valid -/
theorem linF_iff (last : Bool) (n : Nat) : ∀ (l : List ByteArray) (k : Nat), k + l.length = n → (linF last n k l = true ↔ (∀ x ∈ l, oneL x) ∧ ∀ x ∈ (if last = true then l.dropLast else l), endL x)
  | [], k, _ => by cases last <;> simp [linF]
  | x :: l, k, h => by
    have ih := linF_iff last n l (k + 1) (by simp at h; omega)
    show (lineOk last n k x && linF last n (k + 1) l) = true ↔ _
    rw [Bool.and_eq_true, ih]
    unfold lineOk
    rw [Bool.or_eq_true, wholeB_iff]
    cases last with
    | false =>
      simp only [Bool.false_and, Bool.false_eq_true, or_false, if_false, List.forall_mem_cons]
      exact ⟨fun ⟨⟨a, b⟩, c, d⟩ => ⟨⟨a, c⟩, b, d⟩, fun ⟨⟨a, c⟩, b, d⟩ => ⟨⟨a, b⟩, c, d⟩⟩
    | true =>
      simp only [Bool.true_and, Bool.and_eq_true, decide_eq_true_eq, if_true]
      by_cases hl : l = []
      · subst hl
        simp at h
        constructor
        · rintro ⟨h1, h2, h3⟩
          refine ⟨fun y hy => ?_, fun y hy => by cases hy⟩
          rw [List.mem_singleton.1 hy]
          rcases h1 with h1 | h1
          · exact h1.1
          · exact h1.2
        · rintro ⟨h1, _⟩
          exact ⟨.inr ⟨by omega, h1 x List.mem_cons_self⟩, (fun _ h => by cases h), (fun _ h => by cases h)⟩
      · have hlt : k + 1 < n := by have := List.length_pos_iff.2 hl; simp at h; omega
        rw [List.dropLast_cons_of_ne_nil hl]
        simp only [List.forall_mem_cons]
        constructor
        · rintro ⟨h1 | h1, h2, h3⟩
          · exact ⟨⟨h1.1, h2⟩, h1.2, h3⟩
          · exact absurd hlt h1.1
        · rintro ⟨⟨h1, h2⟩, h3, h4⟩
          exact ⟨.inl ⟨h1, h3⟩, h2, h4⟩
theorem linesB_last (l : List ByteArray) : linesB true l = true ↔ prpL oneL endL l := by
  unfold linesB
  rw [linF_iff true l.length l 0 (by omega)]
  exact Iff.rfl
theorem linesB_mid (l : List ByteArray) : linesB false l = true ↔ strL oneL endL l := by
  unfold linesB
  rw [linF_iff false l.length l 0 (by omega)]
  exact ⟨fun ⟨h1, h2⟩ x hx => ⟨h1 x hx, h2 x hx⟩, fun h => ⟨fun x hx => (h x hx).1, fun x hx => (h x hx).2⟩⟩
theorem okB_iff (pp : Bool) (x : Rg) : okB pp x = true ↔ okR pp x := by
  obtain ⟨c, b, l, r⟩ := x
  have e : ∀ (p q : List ByteArray), (!eqB p q) = true ↔ p ≠ q := fun p q => by
    by_cases h : p = q
    · rw [eqB_true h]; simp [h]
    · rw [eqB_false h]; simp [h]
  have e' : ∀ (p q : List ByteArray), eqB p q = true ↔ p = q := fun p q => eqB_iff
  cases c
  · rw [okR_plain]
    unfold okB
    rw [if_neg (by simp), Bool.and_eq_true, Bool.and_eq_true, Bool.and_eq_true, e, e', e', Bool.not_eq_true']
    exact ⟨fun ⟨a, b, c, d⟩ => ⟨d, a, b, c⟩, fun ⟨d, a, b, c⟩ => ⟨a, b, c, d⟩⟩
  · rw [okR_conf]
    unfold okB
    rw [if_pos rfl, Bool.and_eq_true, Bool.and_eq_true, e, e, e]
theorem QR_one {α : Type} {S W : α → Prop} {x : RgA α} (h : rPrp S W x) : QR S W [x] := .inr ⟨[], x, rfl, (fun _ h => by cases h), h⟩
theorem QR_more {α : Type} {S W : α → Prop} {x : RgA α} {L : List (RgA α)} (h : rStr S W x) (hL : L ≠ []) (hq : QR S W L) : QR S W (x :: L) := by
  rcases hq with h1 | ⟨L', y, rfl, h1, h2⟩
  · exact absurd h1 hL
  · exact .inr ⟨x :: L', y, rfl, fun z hz => (List.mem_cons.1 hz).elim (fun e => e ▸ h) (h1 z), h2⟩
theorem vldF_iff : ∀ (L : List Rg) (pp : Bool), vldF pp L = true ↔ QR oneL endL L ∧ svF pp L
  | [], pp => ⟨fun _ => ⟨.inl rfl, trivial⟩, fun _ => rfl⟩
  | x :: t, pp => by
    show (lnB t.isEmpty x && (okB pp x && vldF (!x.1) t)) = true ↔ _
    rw [Bool.and_eq_true, Bool.and_eq_true, okB_iff, vldF_iff t]
    unfold lnB
    rw [Bool.and_eq_true, Bool.and_eq_true]
    by_cases ht : t = []
    · subst ht
      rw [show ([] : List Rg).isEmpty = true from rfl, linesB_last, linesB_last, linesB_last]
      constructor
      · rintro ⟨h1, h2, h3⟩
        exact ⟨QR_one h1, h2, trivial⟩
      · rintro ⟨h1, h2, _⟩
        rcases QR_cons h1 with ⟨_, h3⟩ | ⟨h3, _⟩
        · exact ⟨h3, h2, .inl rfl, trivial⟩
        · exact absurd rfl h3
    · have he : t.isEmpty = false := by cases t with
        | nil => exact absurd rfl ht
        | cons _ _ => rfl
      rw [he, linesB_mid, linesB_mid, linesB_mid]
      constructor
      · rintro ⟨h1, h2, h3, h4⟩
        exact ⟨QR_more h1 ht h3, h2, h4⟩
      · rintro ⟨h1, h2, h4⟩
        rcases QR_cons h1 with ⟨h3, _⟩ | ⟨_, h3, h5⟩
        · exact absurd h3 ht
        · exact ⟨h3, h2, h5, h4⟩
theorem vld_merge (a b c : ByteArray) : vldF false (mergeL (lns a) (lns b) (lns c)) = true := (vldF_iff _ _).2 (merge_valid _ _ _ (lns_prp a) (lns_prp b) (lns_prp c))
theorem vld_stl {L : List Rg} (h : vldF false L = true) (i s : Nat) : vldF false (stlF i s 0 L []) = true := by
  obtain ⟨h1, h2⟩ := (vldF_iff _ _).1 h
  exact (vldF_iff _ _).2 (stl_valid i s L 0 false [] h1 h2 (fun _ h => by cases h) trivial)
/-- Clean, of valid regions: those without conflict. -/
theorem clnS_valid {L : List Rg} (h : vldF false L = true) : clnS L = if L.countP (·.1) = 0 then (textB (txtR L), true) else (⟨#[]⟩, false) := by
  obtain ⟨_, hv⟩ := (vldF_iff _ _).1 h
  by_cases hc : L.countP (·.1) = 0
  · rw [if_pos hc]
    have he := cln_one hc hv
    by_cases ht : txtR L = []
    · rw [ht, addL_nil] at he
      rw [ht, he]
      exact clnS_nil rfl
    · rw [addL_empty ht] at he
      generalize txtR L = t at *
      subst he
      exact clnS_one h rfl rfl
  · rw [if_neg hc]
    match L, h, hc with
    | [], _, hc => exact absurd rfl hc
    | [(true, c)], _, _ => exact clnS_conf rfl rfl
    | [(false, c)], _, hc => exact absurd (by simp) hc
    | _ :: _ :: _, _, _ => exact clnS_more (by simp)
theorem clnS_lines (s : ByteArray) : clnS (addL [] (lns s)) = (s, true) := by
  have h : vldF false (addL [] (lns s)) = true := by
    have := vld_merge s s s
    rwa [merge_left] at this
  rw [clnS_valid h]
  have hc : (addL ([] : List Rg) (lns s)).countP (·.1) = 0 := by
    by_cases h0 : lns s = []
    · rw [h0, addL_nil]; rfl
    · rw [addL_empty h0]; rfl
  rw [if_pos hc, txt_addL, show txtR ([] : List Rg) = [] from rfl, List.nil_append, textB_lns]
end Go.Proofs.Ythobbcafemkhbaa
