/- Plain: the lines of a text that is made of whole lines. Plain: marked texts: what Mark writes, what Unmark reads. -/
import Derived.Test.YthobbcafemkhbaaTmVldP
import Derived.Test.YthobbcafemkhbaaTmMark
namespace Go.Proofs.Ythobbcafemkhbaa

theorem lines_one {x : List UInt8} (h : (lines x).length = 1) : lines x = [x] := by
  have hx : x ≠ [] := by rintro rfl; cases h
  have hf := (lines_len_one hx).1 h
  rw [lines_step hx, hf, List.take_of_length_le (Nat.le_refl _), List.drop_of_length_le (Nat.le_refl _)]
  rfl
theorem lines_cons {x : List UInt8} (h : (lines x).length = 1) (he : x.getLast? = some 10) (rest : List UInt8) : lines (x ++ rest) = x :: lines rest := by
  have hx : x ≠ [] := by rintro rfl; cases h
  have hf := (lines_len_one hx).1 h
  have hpos := List.length_pos_iff.2 hx
  have hl : x[x.length - 1]? = some 10 := by rw [← List.getLast?_eq_getElem?]; exact he
  -- the first line feed stands at the end
  have hi : Lib.indexByte x 10 = ((x.length - 1 : Nat) : Int) := by
    rcases index_cases x with h1 | ⟨o, h1, h2⟩
    · exact absurd hl (Lib.indexByte_none h1 _)
    · unfold firstLen at hf
      rw [if_neg (by omega), h1] at hf
      rw [h1]
      omega
  obtain ⟨g1, g2⟩ := Lib.indexByte_some hi
  have hi2 : Lib.indexByte (x ++ rest) 10 = ((x.length - 1 : Nat) : Int) := idx_of (by rw [List.getElem?_append_left (by omega)]; exact g1) fun k hk => by rw [List.getElem?_append_left (by omega)]; exact g2 k hk
  have hf2 : firstLen (x ++ rest) = x.length := by unfold firstLen; rw [if_neg (by omega), hi2]; omega
  rw [lines_step (by simp [hx]), hf2, List.take_left, List.drop_left]
/-- The lines of the text of proper lines. -/
theorem lns_textB : ∀ (l : List ByteArray), prpL oneL endL l → lns (textB l) = l
  | [], _ => rfl
  | [x], h => by
    rw [textB_one]
    unfold lns
    rw [lines_one (h.1 x List.mem_cons_self)]
    rfl
  | x :: y :: l, h => by
    have h1 : oneL x := h.1 x List.mem_cons_self
    have h2 : endL x := h.2 x (by rw [List.dropLast_cons_of_ne_nil (by simp)]; exact List.mem_cons_self)
    have ih := lns_textB (y :: l) (prpL.right (l := [x]) h)
    have e : (textB (x :: y :: l)).data.toList = x.data.toList ++ (textB (y :: l)).data.toList := by simp [textB]
    unfold lns at ih ⊢
    rw [e, lines_cons h1 h2, List.map_cons, ih]
end Go.Proofs.Ythobbcafemkhbaa

namespace Go.Proofs.Ythobbcafemkhbaa

/-! ### markers -/
theorem mk_cases (s : ByteArray) : mkN s = -1 ∨ ∃ k : Nat, ∃ h : k < mks.length, mkN s = (k : Int) ∧ (s = mks[k] ∨ s = mks[k].extract 0 7) := by
  have go : ∀ (j : Nat), j ≤ 4 → mkF s (4 - j) (mks.drop (4 - j)) = -1 ∨ ∃ k : Nat, ∃ h : k < mks.length, mkF s (4 - j) (mks.drop (4 - j)) = (k : Int) ∧ (s = mks[k] ∨ s = mks[k].extract 0 7) := by
    intro j
    induction j with
    | zero => intro _; left; rfl
    | succ j ih =>
      intro hj
      have hk : 4 - (j + 1) < mks.length := by show _ < 4; omega
      by_cases h : s = mks[4 - (j + 1)] ∨ s = mks[4 - (j + 1)].extract 0 7
      · exact .inr ⟨_, hk, mk_yes hk h, h⟩
      · rw [mk_no hk h, show 4 - (j + 1) + 1 = 4 - j by omega]
        exact ih (by omega)
  exact go 4 (Nat.le_refl _)
theorem mk_lt {s : ByteArray} (h : 0 ≤ mkN s) : ∃ k : Nat, ∃ hk : k < mks.length, mkN s = (k : Int) ∧ (s = mks[k] ∨ s = mks[k].extract 0 7) := by
  rcases mk_cases s with h1 | h1
  · omega
  · exact h1
theorem mks_end : ∀ m ∈ mks, endL m := by unfold endL; decide
theorem mks_one : ∀ m ∈ mks, oneL m := by unfold oneL; decide +kernel
theorem mks_cut : ∀ m ∈ mks, ¬ endL (m.extract 0 7) ∧ (m.extract 0 7).size = 7 := by unfold endL; decide +kernel
theorem mks_num : ∀ k, (h : k < mks.length) → mkN mks[k] = (k : Int) := by decide +kernel
/-- The marker that a line stands for. -/
def nrm (s : ByteArray) : ByteArray := if 0 ≤ mkN s then mks.getD (mkN s).toNat s else s
theorem nrm_at {s : ByteArray} {k : Nat} (hk : k < mks.length) (h : mkN s = (k : Int)) : nrm s = mks[k] := by
  unfold nrm
  rw [if_pos (by omega), h, Int.toNat_natCast, List.getD_eq_getElem?_getD, List.getElem?_eq_getElem hk]
  rfl
theorem nrm_no {s : ByteArray} (h : ¬ 0 ≤ mkN s) : nrm s = s := if_neg h
theorem nrm_size (s : ByteArray) : s.size ≤ (nrm s).size ∧ (0 ≤ mkN s → ¬ endL s → s.size < (nrm s).size) := by
  by_cases h : 0 ≤ mkN s
  · obtain ⟨k, hk, h1, h2⟩ := mk_lt h
    rw [nrm_at hk h1]
    have hz := mks_size mks[k] (List.getElem_mem hk)
    have hc := (mks_cut mks[k] (List.getElem_mem hk)).2
    rcases h2 with h2 | h2
    · rw [h2]
      exact ⟨Nat.le_refl _, fun _ h3 => absurd (mks_end _ (List.getElem_mem hk)) h3⟩
    · rw [h2]
      exact ⟨by omega, fun _ _ => by omega⟩
  · rw [nrm_no h]
    exact ⟨Nat.le_refl _, fun h1 => absurd h1 h⟩
theorem nrm_end {s : ByteArray} (h : 0 ≤ mkN s) (he : endL s) : nrm s = s := by
  obtain ⟨k, hk, h1, h2⟩ := mk_lt h
  rw [nrm_at hk h1]
  rcases h2 with h2 | h2
  · exact h2.symm
  · exact absurd (h2 ▸ he) (mks_cut _ (List.getElem_mem hk)).1

/-! ### reading -/
abbrev Cur := List ByteArray × List ByteArray × List ByteArray
def cur0 : Cur := ([], [], [])
def addC (st : Nat) (c : Cur) (x : ByteArray) : Cur := if st = 1 then (c.1, c.2.1 ++ [x], c.2.2) else if st = 2 then (c.1 ++ [x], c.2.1, c.2.2) else (c.1, c.2.1, c.2.2 ++ [x])
def stG (ok : ByteArray → Bool) : Nat → Cur → List Rg → List ByteArray → Option (List Rg)
  | st, _, out, [] => if st = 0 then some out else none
  | st, c, out, x :: xs =>
    if 0 ≤ mkN x then (if mkN x = (st : Int) ∧ ok x = true then (if st = 3 then stG ok 0 cur0 (out ++ [(true, c)]) xs else stG ok (st + 1) c out xs) else none)
    else if st = 0 then stG ok 0 c (addL out [x]) xs else stG ok st (addC st c x) out xs
def endB (s : ByteArray) : Bool := decide (s.data.toList.getLast? = some 10)
theorem endB_iff (s : ByteArray) : endB s = true ↔ endL s := decide_eq_true_iff
def stS (l : List ByteArray) : Option (List Rg) := stG endB 0 cur0 [] l
def stR (l : List ByteArray) : Option (List Rg) := stG (fun _ => true) 0 cur0 [] l

/-! ### writing -/
def mkLines (x : Rg) : List ByteArray := if x.1 = true then mk0 :: (x.2.2.1 ++ mk1 :: (x.2.1 ++ mk2 :: (x.2.2.2 ++ [mk3]))) else x.2.2.1
def mkAll (L : List Rg) : List ByteArray := L.flatMap mkLines
def unfR (x : Rg) : Bool := unfB x.1 x.2.1 || (unfB x.1 x.2.2.1 || unfB x.1 x.2.2.2)
/-- Mark: the text and the error. -/
def markS (L : List Rg) : ByteArray × Int := if vldF false L = true then (if L.any unfR = true then (⟨#[]⟩, 3) else (textB (mkAll L), 0)) else (⟨#[]⟩, 1)
theorem mkAll_snoc (L : List Rg) (x : Rg) : mkAll (L ++ [x]) = mkAll L ++ mkLines x := by simp [mkAll]
theorem mkAll_addL (L : List Rg) (ls : List ByteArray) : mkAll (addL L ls) = mkAll L ++ ls := by
  by_cases h : ls = []
  · subst h; rw [addL_nil, List.append_nil]
  rcases rg_cases L with e | ⟨L', b, l, r, e⟩ | ⟨L', b, l, r, e⟩
  · subst e; rw [addL_empty h]; simp [mkAll, mkLines]
  · subst e; rw [addL_plain _ _ _ _ h, mkAll_snoc, mkAll_snoc, List.append_assoc]; rfl
  · subst e; rw [addL_conf _ _ _ _ h, mkAll_snoc]; rfl
/-- The lines of a conflict that is being read. -/
def parT (st : Nat) (c : Cur) : List ByteArray :=
  if st = 0 then [] else if st = 1 then mk0 :: c.2.1 else if st = 2 then mk0 :: (c.2.1 ++ mk1 :: c.1) else mk0 :: (c.2.1 ++ mk1 :: (c.1 ++ mk2 :: c.2.2))
def curOk (st : Nat) (c : Cur) : Prop := st ≤ 3 ∧ (st = 0 → c = cur0) ∧ (st = 1 → c.1 = [] ∧ c.2.2 = []) ∧ (st = 2 → c.2.2 = [])
theorem curOk.zero : curOk 0 cur0 := ⟨by omega, fun _ => rfl, (fun h => by omega), (fun h => by omega)⟩
theorem curOk.step {st : Nat} {c : Cur} (h : curOk st c) (hs : st ≠ 3) : curOk (st + 1) c := by
  obtain ⟨h0, h1, h2, h3⟩ := h
  refine ⟨by omega, fun h => by omega, fun h => ?_, fun h => ?_⟩
  · rw [h1 (by omega)]; exact ⟨rfl, rfl⟩
  · exact (h2 (by omega)).2
theorem curOk.add {st : Nat} {c : Cur} (h : curOk st c) (hs : st ≠ 0) (x : ByteArray) : curOk st (addC st c x) := by
  obtain ⟨h0, h1, h2, h3⟩ := h
  refine ⟨h0, fun h => absurd h hs, fun h => ?_, fun h => ?_⟩
  · subst h; exact h2 rfl
  · subst h; exact h3 rfl
theorem parT_step {st : Nat} {c : Cur} (h : curOk st c) (hs : st ≠ 3) {m : ByteArray} (hk : st < mks.length) (hm : m = mks[st]) : parT (st + 1) c = parT st c ++ [m] := by
  subst hm
  obtain ⟨h0, h1, h2, h3⟩ := h
  match st, h0, hs, hk, h1, h2, h3 with
  | 0, _, _, _, h1, _, _ => rw [h1 rfl]; rfl
  | 1, _, _, _, _, h2, _ => unfold parT; simp [h2 rfl]; rfl
  | 2, _, _, _, _, _, h3 => unfold parT; simp [h3 rfl]; rfl
  | n + 3, h0, hs, _, _, _, _ => exact absurd (show n + 3 = 3 by omega) hs
theorem parT_end (c : Cur) : parT 3 c ++ [mk3] = mkLines (true, c) := by unfold parT mkLines; simp
theorem parT_add {st : Nat} {c : Cur} (h : curOk st c) (hs : st ≠ 0) (x : ByteArray) : parT st (addC st c x) = parT st c ++ [x] := by
  obtain ⟨h0, _⟩ := h
  match st, h0, hs with
  | 1, _, _ => unfold parT addC; simp
  | 2, _, _ => unfold parT addC; simp
  | 3, _, _ => unfold parT addC; simp

/-- What is read is written again, but for markers without line feeds. -/
theorem st_lines (ok : ByteArray → Bool) : ∀ (xs : List ByteArray) (st : Nat) (c : Cur) (out L : List Rg), curOk st c → stG ok st c out xs = some L → mkAll L = mkAll out ++ (parT st c ++ xs.map nrm)
  | [], st, c, out, L, hc, h => by
    unfold stG at h
    by_cases hs : st = 0
    · subst hs
      rw [if_pos rfl] at h
      obtain rfl := Option.some.inj h
      simp [parT]
    · rw [if_neg hs] at h; cases h
  | x :: xs, st, c, out, L, hc, h => by
    unfold stG at h
    by_cases hm : 0 ≤ mkN x
    · rw [if_pos hm] at h
      by_cases hk : mkN x = (st : Int) ∧ ok x = true
      · rw [if_pos hk] at h
        have hst : st < mks.length := by show st < 4; have := hc.1; omega
        have hn := nrm_at hst hk.1
        by_cases h3 : st = 3
        · subst h3
          rw [if_pos rfl] at h
          rw [st_lines ok xs 0 cur0 _ L curOk.zero h, mkAll_snoc, ← parT_end, List.map_cons, hn]
          simp [parT]; rfl
        · rw [if_neg h3] at h
          rw [st_lines ok xs (st + 1) c out L (hc.step h3) h, parT_step hc h3 hst rfl, List.map_cons, hn]
          simp
      · rw [if_neg hk] at h; cases h
    · rw [if_neg hm] at h
      by_cases h0 : st = 0
      · subst h0
        rw [if_pos rfl] at h
        rw [st_lines ok xs 0 c _ L hc h, mkAll_addL, List.map_cons, nrm_no hm]
        simp [parT]
      · rw [if_neg h0] at h
        rw [st_lines ok xs st _ out L (hc.add h0 x) h, parT_add hc h0, List.map_cons, nrm_no hm]
        simp
/-- Both ways of reading agree where each marker has its line feed. -/
theorem st_strict : ∀ (xs : List ByteArray) (st : Nat) (c : Cur) (out : List Rg), (∀ x ∈ xs, 0 ≤ mkN x → endL x) → stG endB st c out xs = stG (fun _ => true) st c out xs
  | [], _, _, _, _ => rfl
  | x :: xs, st, c, out, h => by
    have ih := fun st c out => st_strict xs st c out fun y hy => h y (List.mem_cons_of_mem _ hy)
    unfold stG
    by_cases hm : 0 ≤ mkN x
    · rw [if_pos hm, if_pos hm, ih, ih, (endB_iff x).2 (h x List.mem_cons_self hm)]
    · rw [if_neg hm, if_neg hm, ih, ih]
theorem st_loose : ∀ (xs : List ByteArray) (st : Nat) (c : Cur) (out L : List Rg), stG endB st c out xs = some L → stG (fun _ => true) st c out xs = some L ∧ ∀ x ∈ xs, 0 ≤ mkN x → endL x
  | [], _, _, _, _, h => ⟨h, (fun _ h => by cases h)⟩
  | x :: xs, st, c, out, L, h => by
    unfold stG at h ⊢
    by_cases hm : 0 ≤ mkN x
    · rw [if_pos hm] at h ⊢
      by_cases hk : mkN x = (st : Int) ∧ endB x = true
      · rw [if_pos hk] at h
        rw [if_pos ⟨hk.1, rfl⟩]
        have he := (endB_iff x).1 hk.2
        by_cases h3 : st = 3
        · rw [if_pos h3] at h ⊢
          obtain ⟨h1, h2⟩ := st_loose xs _ _ _ L h
          exact ⟨h1, List.forall_mem_cons.2 ⟨fun _ => he, h2⟩⟩
        · rw [if_neg h3] at h ⊢
          obtain ⟨h1, h2⟩ := st_loose xs _ _ _ L h
          exact ⟨h1, List.forall_mem_cons.2 ⟨fun _ => he, h2⟩⟩
      · rw [if_neg hk] at h; cases h
    · rw [if_neg hm] at h ⊢
      by_cases h0 : st = 0
      · rw [if_pos h0] at h ⊢
        obtain ⟨h1, h2⟩ := st_loose xs _ _ _ L h
        exact ⟨h1, List.forall_mem_cons.2 ⟨fun h => absurd h hm, h2⟩⟩
      · rw [if_neg h0] at h ⊢
        obtain ⟨h1, h2⟩ := st_loose xs _ _ _ L h
        exact ⟨h1, List.forall_mem_cons.2 ⟨fun h => absurd h hm, h2⟩⟩
theorem map_nrm_end : ∀ {xs : List ByteArray}, (∀ x ∈ xs, 0 ≤ mkN x → endL x) → xs.map nrm = xs
  | [], _ => rfl
  | x :: xs, h => by
    rw [List.map_cons, map_nrm_end fun y hy => h y (List.mem_cons_of_mem _ hy)]
    by_cases hm : 0 ≤ mkN x
    · rw [nrm_end hm (h x List.mem_cons_self hm)]
    · rw [nrm_no hm]
theorem map_nrm_size : ∀ (xs : List ByteArray), (textB xs).size ≤ (textB (xs.map nrm)).size ∧ ((textB xs).size = (textB (xs.map nrm)).size → ∀ x ∈ xs, 0 ≤ mkN x → endL x)
  | [] => ⟨Nat.le_refl _, (fun _ _ h => by cases h)⟩
  | x :: xs => by
    obtain ⟨h1, h2⟩ := map_nrm_size xs
    obtain ⟨h3, h4⟩ := nrm_size x
    rw [textB_size, textB_size] at h1 h2 ⊢
    simp only [List.map_cons, List.sum_cons] at *
    refine ⟨by omega, fun h => List.forall_mem_cons.2 ⟨fun hm => ?_, h2 (by omega)⟩⟩
    refine Classical.byContradiction fun he => ?_
    have := h4 hm he
    omega

/-! ### what has been read fits -/
theorem unf1_false {conf : Bool} {s : ByteArray} : unf1 conf s = false ↔ ¬ 0 ≤ mkN s ∧ (conf = true → wholeB s = true) := by
  unfold unf1
  rw [Bool.or_eq_false_iff, decide_eq_false_iff_not]
  cases conf <;> simp
theorem unfB_false {conf : Bool} {l : List ByteArray} : unfB conf l = false ↔ ∀ s ∈ l, unf1 conf s = false := by
  unfold unfB
  rw [List.any_eq_false]
  exact ⟨fun h s hs => by simpa using h s hs, fun h s hs => by rw [h s hs]; simp⟩
theorem unfR_false {x : Rg} : unfR x = false ↔ (∀ s ∈ x.2.1, unf1 x.1 s = false) ∧ (∀ s ∈ x.2.2.1, unf1 x.1 s = false) ∧ ∀ s ∈ x.2.2.2, unf1 x.1 s = false := by
  unfold unfR
  rw [Bool.or_eq_false_iff, Bool.or_eq_false_iff, unfB_false, unfB_false, unfB_false]
theorem any_unf {L : List Rg} : L.any unfR = false ↔ ∀ x ∈ L, unfR x = false := by
  rw [List.any_eq_false]
  exact ⟨fun h s hs => by simpa using h s hs, fun h s hs => by rw [h s hs]; simp⟩
theorem unf_addL {L : List Rg} {x : ByteArray} (h : ∀ y ∈ L, unfR y = false) (hx : ¬ 0 ≤ mkN x) : ∀ y ∈ addL L [x], unfR y = false := by
  have hx1 : unf1 false x = false := unf1_false.2 ⟨hx, fun h => by cases h⟩
  have hne : ([x] : List ByteArray) ≠ [] := by simp
  rcases rg_cases L with e | ⟨L', b, l, r, e⟩ | ⟨L', b, l, r, e⟩
  · subst e
    rw [addL_empty hne]
    intro y hy
    rw [List.mem_singleton.1 hy]
    exact unfR_false.2 ⟨(fun _ h => by cases h), (fun s hs => by rw [List.mem_singleton.1 hs]; exact hx1), (fun _ h => by cases h)⟩
  · subst e
    rw [addL_plain _ _ _ _ hne]
    intro y hy
    rcases List.mem_append.1 hy with hy | hy
    · exact h y (List.mem_append_left _ hy)
    · rw [List.mem_singleton.1 hy]
      obtain ⟨_, h2, _⟩ := unfR_false.1 (h (false, b, l, r) (List.mem_append_right _ (List.mem_singleton.2 rfl)))
      refine unfR_false.2 ⟨(fun _ h => by cases h), (fun s hs => ?_), (fun _ h => by cases h)⟩
      rcases List.mem_append.1 hs with hs | hs
      · exact h2 s hs
      · rw [List.mem_singleton.1 hs]; exact hx1
  · subst e
    rw [addL_conf _ _ _ _ hne]
    intro y hy
    rcases List.mem_append.1 hy with hy | hy
    · exact h y hy
    · rw [List.mem_singleton.1 hy]
      exact unfR_false.2 ⟨(fun _ h => by cases h), (fun s hs => by rw [List.mem_singleton.1 hs]; exact hx1), (fun _ h => by cases h)⟩
theorem addC_all {p : ByteArray → Prop} {st : Nat} {c : Cur} {x : ByteArray} (h : (∀ s ∈ c.1, p s) ∧ (∀ s ∈ c.2.1, p s) ∧ ∀ s ∈ c.2.2, p s) (hx : p x) :
    (∀ s ∈ (addC st c x).1, p s) ∧ (∀ s ∈ (addC st c x).2.1, p s) ∧ ∀ s ∈ (addC st c x).2.2, p s := by
  have ha : ∀ {l : List ByteArray}, (∀ s ∈ l, p s) → ∀ s ∈ l ++ [x], p s := fun h s hs => by
    rcases List.mem_append.1 hs with hs | hs
    · exact h s hs
    · rw [List.mem_singleton.1 hs]; exact hx
  obtain ⟨h1, h2, h3⟩ := h
  unfold addC
  split
  · exact ⟨h1, ha h2, h3⟩
  · split
    · exact ⟨ha h1, h2, h3⟩
    · exact ⟨h1, h2, ha h3⟩
theorem st_fit : ∀ (xs : List ByteArray) (st : Nat) (c : Cur) (out L : List Rg), prpL oneL endL xs → (∀ y ∈ out, unfR y = false) →
    ((∀ s ∈ c.1, unf1 true s = false) ∧ (∀ s ∈ c.2.1, unf1 true s = false) ∧ ∀ s ∈ c.2.2, unf1 true s = false) → stG endB st c out xs = some L → ∀ y ∈ L, unfR y = false
  | [], st, c, out, L, _, ho, _, h => by
    unfold stG at h
    by_cases hs : st = 0
    · rw [if_pos hs] at h
      obtain rfl := Option.some.inj h
      exact ho
    · rw [if_neg hs] at h; cases h
  | x :: xs, st, c, out, L, hp, ho, hc, h => by
    have hp' : prpL oneL endL xs := prpL.right (l := [x]) hp
    unfold stG at h
    by_cases hm : 0 ≤ mkN x
    · rw [if_pos hm] at h
      by_cases hk : mkN x = (st : Int) ∧ endB x = true
      · rw [if_pos hk] at h
        by_cases h3 : st = 3
        · rw [if_pos h3] at h
          refine st_fit xs 0 cur0 _ L hp' (fun y hy => ?_) ⟨(fun _ h => by cases h), (fun _ h => by cases h), (fun _ h => by cases h)⟩ h
          rcases List.mem_append.1 hy with hy | hy
          · exact ho y hy
          · rw [List.mem_singleton.1 hy]; exact unfR_false.2 hc
        · rw [if_neg h3] at h
          exact st_fit xs _ c out L hp' ho hc h
      · rw [if_neg hk] at h; cases h
    · rw [if_neg hm] at h
      by_cases h0 : st = 0
      · rw [if_pos h0] at h
        exact st_fit xs 0 c _ L hp' (unf_addL ho hm) hc h
      · rw [if_neg h0] at h
        have hxs : xs ≠ [] := by
          rintro rfl
          unfold stG at h
          rw [if_neg h0] at h; cases h
        have hw : wholeB x = true := (wholeB_iff x).2 ⟨hp.1 x List.mem_cons_self, hp.2 x (by rw [List.dropLast_cons_of_ne_nil hxs]; exact List.mem_cons_self)⟩
        exact st_fit xs st _ out L hp' ho (addC_all hc (unf1_false.2 ⟨hm, fun _ => hw⟩)) h

/-- What Unmark has read, Mark writes again. -/
theorem mark_read {s : ByteArray} {L : List Rg} (h : stS (lns s) = some L) : markS L = if vldF false L = true then (s, 0) else (⟨#[]⟩, 1) := by
  have h1 := st_lines endB _ 0 cur0 [] L curOk.zero h
  rw [map_nrm_end (st_loose _ _ _ _ _ h).2] at h1
  have h2 : L.any unfR = false := any_unf.2 (st_fit _ 0 cur0 [] L (lns_prp s) (fun _ h => by cases h) ⟨(fun _ h => by cases h), (fun _ h => by cases h), (fun _ h => by cases h)⟩ h)
  unfold markS
  rw [h2, h1]
  simp only [mkAll, parT, List.flatMap_nil, List.nil_append, if_true, textB_lns, Bool.false_eq_true, if_false]
/-- Unmark of the program, and of the reference. -/
def unmS (s : ByteArray) : Option (List Rg) := match stS (lns s) with
  | some L => if vldF false L = true then some L else none
  | none => none
def unmR (s : ByteArray) : Option (List Rg) := match stR (lns s) with
  | some L => if markS L = (s, 0) then some L else none
  | none => none
theorem unm_eq (s : ByteArray) : unmR s = unmS s := by
  unfold unmR unmS
  cases h : stS (lns s) with
  | some L =>
    rw [show stR (lns s) = some L from (st_loose _ _ _ _ _ h).1]
    show (if markS L = (s, 0) then some L else none) = if vldF false L = true then some L else none
    rw [mark_read h]
    by_cases hv : vldF false L = true
    · rw [if_pos hv, if_pos hv, if_pos rfl]
    · rw [if_neg hv, if_neg hv, if_neg (fun e => absurd (congrArg Prod.snd e) (show ¬ (1 : Int) = 0 by decide))]
  | none =>
    cases h2 : stR (lns s) with
    | none => rfl
    | some L =>
      show (if markS L = (s, 0) then some L else none) = none
      refine if_neg fun e => ?_
      have h1 := st_lines _ _ 0 cur0 [] L curOk.zero h2
      simp only [mkAll, parT, List.flatMap_nil, List.nil_append, if_true] at h1
      have h3 : textB ((lns s).map nrm) = s := by
        rw [← h1]
        unfold markS at e
        by_cases hv : vldF false L = true
        · rw [if_pos hv] at e
          by_cases hu : L.any unfR = true
          · rw [if_pos hu] at e
            exact absurd (congrArg Prod.snd e) (show ¬ (3 : Int) = 0 by decide)
          · rw [if_neg hu] at e
            exact congrArg Prod.fst e
        · rw [if_neg hv] at e
          exact absurd (congrArg Prod.snd e) (show ¬ (1 : Int) = 0 by decide)
      have h4 := (map_nrm_size (lns s)).2 (by rw [h3, textB_lns])
      have h5 := st_strict (lns s) 0 cur0 [] h4
      rw [show stG endB 0 cur0 [] (lns s) = stS (lns s) from rfl, show stG (fun _ => true) 0 cur0 [] (lns s) = stR (lns s) from rfl, h, h2] at h5
      cases h5

/-! ### what Mark has written is read again -/
theorem st_plain : ∀ (l : List ByteArray) (out : List Rg) (xs : List ByteArray), (∀ s ∈ l, ¬ 0 ≤ mkN s) → stG endB 0 cur0 out (l ++ xs) = stG endB 0 cur0 (addL out l) xs
  | [], out, xs, _ => by rw [addL_nil]; rfl
  | x :: l, out, xs, h => by
    rw [List.cons_append, stG, if_neg (h x List.mem_cons_self), if_pos rfl, st_plain l _ xs fun s hs => h s (List.mem_cons_of_mem _ hs), addL_addL]
    rfl
theorem st_part {st : Nat} (hs : st ≠ 0) : ∀ (l : List ByteArray) (c : Cur) (out : List Rg) (xs : List ByteArray), (∀ s ∈ l, ¬ 0 ≤ mkN s) → stG endB st c out (l ++ xs) = stG endB st (l.foldl (addC st) c) out xs
  | [], c, out, xs, _ => rfl
  | x :: l, c, out, xs, h => by
    rw [List.cons_append]
    rw [stG, if_neg (h x List.mem_cons_self), if_neg hs, st_part hs l _ out xs fun s hs => h s (List.mem_cons_of_mem _ hs)]
    rfl
theorem fold1 : ∀ (l : List ByteArray) (c : Cur), l.foldl (addC 1) c = (c.1, c.2.1 ++ l, c.2.2)
  | [], c => by simp
  | x :: l, c => by rw [List.foldl_cons, fold1 l]; simp [addC]
theorem fold2 : ∀ (l : List ByteArray) (c : Cur), l.foldl (addC 2) c = (c.1 ++ l, c.2.1, c.2.2)
  | [], c => by simp
  | x :: l, c => by rw [List.foldl_cons, fold2 l]; simp [addC]
theorem fold3 : ∀ (l : List ByteArray) (c : Cur), l.foldl (addC 3) c = (c.1, c.2.1, c.2.2 ++ l)
  | [], c => by simp
  | x :: l, c => by rw [List.foldl_cons, fold3 l]; simp [addC]
theorem st_mark {st : Nat} (hk : st < mks.length) (c : Cur) (out : List Rg) (xs : List ByteArray) : stG endB st c out (mks[st] :: xs) = if st = 3 then stG endB 0 cur0 (out ++ [(true, c)]) xs else stG endB (st + 1) c out xs := by
  rw [stG, if_pos (by rw [mks_num st hk]; omega), if_pos ⟨mks_num st hk, (endB_iff _).2 (mks_end _ (List.getElem_mem hk))⟩]
theorem st_conf {b l r : List ByteArray} (out : List Rg) (xs : List ByteArray) (hb : ∀ s ∈ b, ¬ 0 ≤ mkN s) (hl : ∀ s ∈ l, ¬ 0 ≤ mkN s) (hr : ∀ s ∈ r, ¬ 0 ≤ mkN s) :
    stG endB 0 cur0 out (mkLines (true, b, l, r) ++ xs) = stG endB 0 cur0 (out ++ [(true, b, l, r)]) xs := by
  have e : mkLines (true, b, l, r) ++ xs = mks[0] :: (l ++ mks[1] :: (b ++ mks[2] :: (r ++ mks[3] :: xs))) := by unfold mkLines; simp; exact ⟨rfl, rfl, rfl, rfl⟩
  rw [e, st_mark (by decide), if_neg (by omega), st_part (by omega) l _ _ _ hl, st_mark (by decide), if_neg (by omega), st_part (by omega) b _ _ _ hb, st_mark (by decide), if_neg (by omega),
    st_part (by omega) r _ _ _ hr, st_mark (by decide), if_pos rfl, fold1, fold2, fold3]
  rfl
theorem st_written : ∀ (L out : List Rg), (out = [] ∨ (∃ Y c, out = Y ++ [(true, c)]) ∨ ∀ x t, L = x :: t → x.1 = true) → (∃ pp, svF pp L) → (∀ x ∈ L, unfR x = false) → stG endB 0 cur0 out (mkAll L) = some (out ++ L)
  | [], out, _, _, _ => by simp [mkAll, stG]
  | (true, b, l, r) :: L, out, ho, ⟨pp, hv⟩, hu => by
    obtain ⟨u1, u2, u3⟩ := unfR_false.1 (hu _ List.mem_cons_self)
    have e : mkAll ((true, b, l, r) :: L) = mkLines (true, b, l, r) ++ mkAll L := by simp [mkAll]
    rw [e, st_conf out _ (fun s hs => (unf1_false.1 (u1 s hs)).1) (fun s hs => (unf1_false.1 (u2 s hs)).1) (fun s hs => (unf1_false.1 (u3 s hs)).1),
      st_written L _ (.inr (.inl ⟨out, _, rfl⟩)) ⟨_, hv.2⟩ fun x hx => hu x (List.mem_cons_of_mem _ hx), List.append_assoc]
    rfl
  | (false, b, l, r) :: L, out, ho, ⟨pp, hv⟩, hu => by
    obtain ⟨u1, u2, u3⟩ := unfR_false.1 (hu _ List.mem_cons_self)
    obtain ⟨h1, h2, h3, h4⟩ := okR_plain.1 hv.1
    subst h3 h4
    have e : mkAll ((false, [], l, []) :: L) = l ++ mkAll L := by simp [mkAll, mkLines]
    have ea : addL out l = out ++ [(false, [], l, [])] := by
      rcases ho with rfl | ⟨Y, ⟨b, l', r⟩, rfl⟩ | h
      · rw [addL_empty h2]; rfl
      · rw [addL_conf _ _ _ _ h2]
      · exact absurd (h _ _ rfl) (by simp)
    rw [e, st_plain l out _ fun s hs => (unf1_false.1 (u2 s hs)).1, ea, st_written L _ (.inr (.inr fun x t hx => ?_)) ⟨_, hv.2⟩ fun x hx => hu x (List.mem_cons_of_mem _ hx), List.append_assoc]
    · rfl
    · subst hx
      obtain ⟨c, b', l', r'⟩ := x
      cases c
      · have := (okR_plain.1 hv.2.1).1
        simp at this
      · rfl
theorem mkLines_prp {x : Rg} (h : rPrp oneL endL x) (hu : unfR x = false) : prpL oneL endL (mkLines x) := by
  obtain ⟨c, b, l, r⟩ := x
  cases c
  · exact h.2.1
  · obtain ⟨u1, u2, u3⟩ := unfR_false.1 hu
    have hm : ∀ m ∈ mks, oneL m ∧ endL m := fun m hm => ⟨mks_one m hm, mks_end m hm⟩
    have hw : ∀ {l : List ByteArray}, (∀ s ∈ l, unf1 true s = false) → ∀ s ∈ l, oneL s ∧ endL s := fun h s hs => (wholeB_iff s).1 ((unf1_false.1 (h s hs)).2 rfl)
    have : strL oneL endL (mkLines (true, b, l, r)) := by
      intro s hs
      unfold mkLines at hs
      simp only [if_true, List.mem_cons, List.mem_append, List.not_mem_nil, or_false] at hs
      rcases hs with rfl | hs | rfl | hs | rfl | hs | rfl
      · exact hm _ (by simp [mks])
      · exact hw u2 s hs
      · exact hm _ (by simp [mks])
      · exact hw u1 s hs
      · exact hm _ (by simp [mks])
      · exact hw u3 s hs
      · exact hm _ (by simp [mks])
    exact this.prp
theorem mkLines_str {x : Rg} (h : rStr oneL endL x) (hu : unfR x = false) : strL oneL endL (mkLines x) := by
  obtain ⟨c, b, l, r⟩ := x
  cases c
  · exact h.2.1
  · have hm : ∀ m ∈ mks, oneL m ∧ endL m := fun m hm => ⟨mks_one m hm, mks_end m hm⟩
    intro s hs
    unfold mkLines at hs
    simp only [if_true, List.mem_cons, List.mem_append, List.not_mem_nil, or_false] at hs
    rcases hs with rfl | hs | rfl | hs | rfl | hs | rfl
    · exact hm _ (by simp [mks])
    · exact h.2.1 s hs
    · exact hm _ (by simp [mks])
    · exact h.1 s hs
    · exact hm _ (by simp [mks])
    · exact h.2.2 s hs
    · exact hm _ (by simp [mks])
theorem mkAll_prp {L : List Rg} (h : QR oneL endL L) (hu : ∀ x ∈ L, unfR x = false) : prpL oneL endL (mkAll L) := by
  rcases h with rfl | ⟨L', x, rfl, h1, h2⟩
  · exact ⟨(fun _ h => by cases h), (fun _ h => by cases h)⟩
  · rw [mkAll_snoc]
    refine prpL_app (fun s hs => ?_) (mkLines_prp h2 (hu x (List.mem_append_right _ (List.mem_singleton.2 rfl))))
    obtain ⟨y, hy, hs⟩ := List.mem_flatMap.1 hs
    exact mkLines_str (h1 y hy) (hu y (List.mem_append_left _ hy)) s hs
/-- Valid regions that fit: their marked text is read as they are. -/
theorem unm_mark {L : List Rg} (hv : vldF false L = true) (hu : L.any unfR = false) : unmS (textB (mkAll L)) = some L := by
  obtain ⟨h1, h2⟩ := (vldF_iff _ _).1 hv
  unfold unmS
  rw [lns_textB _ (mkAll_prp h1 (any_unf.1 hu))]
  rw [show stS (mkAll L) = some L from (st_written L [] (.inl rfl) ⟨_, h2⟩ (any_unf.1 hu)).trans (by simp)]
  show (if vldF false L = true then some L else none) = some L
  rw [if_pos hv]
end Go.Proofs.Ythobbcafemkhbaa
