/- Plain: numbers, texts and lists of texts as bytes. Plain: frames, areas, and what the functions of the journal compute. Plain: the journal on a disk: what its functions compute. Plain: the frames of an area, one after another. Plain: areas as lists of sectors. Plain: what runs of the journal leave, where power may be lost. Plain: how Append, Rewrite and Format end, where power may be lost within them. Plain: Rewrite; how Append and Rewrite end. Plain: what is reached by acts on a journal, and what they leave. Plain: the statements of the chapter about disks that acts have reached. Plain: the example of the chapter. -/
import Derived.Test.YtockmhhiomdlkaaBase
import Derived.Test.YtockmhhiomdlkaaDkPlain
namespace Go.Proofs.Ytockmhhiomdlkaa
set_option linter.unusedVariables false
set_option linter.unusedSimpArgs false

def strB (l : List UInt8) : ByteArray := ⟨l.toArray⟩
theorem strB_data (l : List UInt8) : (strB l).data.toList = l := by simp [strB]
theorem strB_toList (l : List UInt8) : (strB l).toList = l := (ByteArray.toList_eq _).trans (strB_data l)
theorem strB_size (l : List UInt8) : (strB l).size = l.length := by simp [strB, ByteArray.size]
theorem strB_of (s : ByteArray) : strB s.data.toList = s := by simp [strB]
/-- The encoding of a number. -/
def digL (n : Nat) : List UInt8 := if n < 128 then [UInt8.ofNat n] else UInt8.ofNat (n % 128 + 128) :: digL (n / 128)
termination_by n
decreasing_by omega
theorem digL_last {n : Nat} (h : n < 128) : digL n = [UInt8.ofNat n] := by rw [digL, if_pos h]
theorem digL_more {n : Nat} (h : ¬ n < 128) : digL n = UInt8.ofNat (n % 128 + 128) :: digL (n / 128) := by rw [digL, if_neg h]
theorem digL_len : ∀ (n f : Nat), n < 128 ^ (f + 1) → (digL n).length ≤ f + 1
  | n, 0, h => by rw [digL_last (by simpa using h)]; simp
  | n, f + 1, h => by
    by_cases hn : n < 128
    · rw [digL_last hn]; simp
    · rw [digL_more hn, List.length_cons]
      have : n / 128 < 128 ^ (f + 1) := by
        rw [Nat.div_lt_iff_lt_mul (by omega)]
        rw [Nat.pow_succ] at h
        exact h
      have := digL_len (n / 128) f this
      omega
theorem digL_pos (n : Nat) : 0 < (digL n).length := by
  by_cases hn : n < 128
  · rw [digL_last hn]; simp
  · rw [digL_more hn]; simp
/-- What PutInt answers. -/
def putI (n : Int) : List UInt8 × Int := if 0 ≤ n ∧ n ≤ 1099511627776 then (digL n.toNat, 0) else ([], 2)
/-- What PutText answers. -/
def putT (s : List UInt8) : List UInt8 × Int := if s.length ≤ 65536 then (digL s.length ++ s, 0) else ([], 4)
/-- A number at the beginning: digits left, digits read, their sum, the next weight. -/
def getF : Nat → Nat → Nat → Nat → List UInt8 → Nat × Nat × Int
  | 0, _, _, _, _ => (0, 0, 13)
  | _ + 1, _, _, _, [] => (0, 0, 12)
  | f + 1, i, n, u, d :: s => if 128 ≤ d.toNat then getF f (i + 1) (n + (d.toNat - 128) * u) (u * 128) s else if (d.toNat = 0 ∧ 0 < i) ∨ 1099511627776 < n + d.toNat * u then (0, 0, 13) else (n + d.toNat * u, i + 1, 0)
def getI (s : List UInt8) : Nat × Nat × Int := getF 6 0 0 1 s
theorem getF_enc : ∀ (m f i n u : Nat) (t : List UInt8), (digL m).length ≤ f → n + m * u ≤ 1099511627776 → (0 < i → m ≠ 0) → getF f i n u (digL m ++ t) = (n + m * u, i + (digL m).length, 0) := by
  intro m
  induction m using Nat.strongRecOn with
  | ind m ih =>
    intro f i n u t hl hb hi
    obtain ⟨f, rfl⟩ : ∃ g, f = g + 1 := ⟨f - 1, by have := digL_pos m; omega⟩
    by_cases hm : m < 128
    · have hx : (UInt8.ofNat m).toNat = m := UInt8.toNat_ofNat_of_lt' (by simp [UInt8.size]; omega)
      rw [digL_last hm]
      show (if 128 ≤ (UInt8.ofNat m).toNat then _ else if ((UInt8.ofNat m).toNat = 0 ∧ 0 < i) ∨ 1099511627776 < n + (UInt8.ofNat m).toNat * u then _ else _) = _
      rw [hx, if_neg (by omega), if_neg (by rintro (⟨h1, h2⟩ | h); exact hi h2 h1; omega)]
      rfl
    · have hx : (UInt8.ofNat (m % 128 + 128)).toNat = m % 128 + 128 := UInt8.toNat_ofNat_of_lt' (by simp [UInt8.size]; omega)
      rw [digL_more hm] at hl ⊢
      rw [List.length_cons] at hl ⊢
      show (if 128 ≤ (UInt8.ofNat (m % 128 + 128)).toNat then getF f (i + 1) (n + ((UInt8.ofNat (m % 128 + 128)).toNat - 128) * u) (u * 128) (digL (m / 128) ++ t) else _) = _
      have hmu : m * u = (m % 128) * u + m / 128 * (u * 128) := by
        have h1 : m = m % 128 + m / 128 * 128 := by omega
        have h2 : m / 128 * (u * 128) = m / 128 * 128 * u := by rw [Nat.mul_comm u 128, ← Nat.mul_assoc]
        rw [h2, ← Nat.add_mul, ← h1]
      rw [hx, if_pos (by omega), Nat.add_sub_cancel, ih (m / 128) (by omega) f (i + 1) _ _ t (by omega) (by omega) (by omega)]
      refine Prod.ext (by simp only; omega) (Prod.ext (by simp only; omega) rfl)
theorem getF_dec : ∀ (f i n u : Nat) (s : List UInt8) (r k : Nat), getF f i n u s = (r, k, 0) → ∃ m t, s = digL m ++ t ∧ r = n + m * u ∧ k = i + (digL m).length ∧ r ≤ 1099511627776 ∧ (0 < i → m ≠ 0)
  | 0, i, n, u, s, r, k, h => by simp [getF] at h
  | f + 1, i, n, u, [], r, k, h => by simp [getF] at h
  | f + 1, i, n, u, d :: s, r, k, h => by
    have h' : (if 128 ≤ d.toNat then getF f (i + 1) (n + (d.toNat - 128) * u) (u * 128) s else if (d.toNat = 0 ∧ 0 < i) ∨ 1099511627776 < n + d.toNat * u then (0, 0, 13) else (n + d.toNat * u, i + 1, 0)) = (r, k, 0) := h
    have hd := d.toNat_lt
    split at h'
    · rename_i hge
      obtain ⟨m, t, rfl, h2, h3, h4, h5⟩ := getF_dec f (i + 1) _ _ s r k h'
      have hm := h5 (by omega)
      have hq : (d.toNat - 128 + m * 128) % 128 = d.toNat - 128 := by omega
      have hq2 : (d.toNat - 128 + m * 128) / 128 = m := by omega
      have hdig : digL (d.toNat - 128 + m * 128) = d :: digL m := by
        rw [digL_more (by omega), hq, hq2, Nat.sub_add_cancel hge]
        simp
      refine ⟨d.toNat - 128 + m * 128, t, by rw [hdig]; rfl, ?_, by rw [hdig, List.length_cons]; omega, h4, fun _ => by omega⟩
      rw [h2, Nat.add_mul]
      have : m * (u * 128) = m * 128 * u := by rw [Nat.mul_comm u 128, ← Nat.mul_assoc]
      omega
    · split at h'
      · simp at h'
      · rename_i h1 h2
        injection h' with h3 h4
        injection h4 with h4 _
        have hdig : digL d.toNat = [d] := by rw [digL_last (by omega)]; simp
        exact ⟨d.toNat, s, by rw [hdig]; rfl, h3.symm, by rw [hdig]; simp; omega, by omega, fun hi e => h2 (.inl ⟨e, hi⟩)⟩
theorem getF_err : ∀ (f i n u : Nat) (s : List UInt8), (getF f i n u s).2.2 = 0 ∨ getF f i n u s = (0, 0, 12) ∨ getF f i n u s = (0, 0, 13)
  | 0, i, n, u, s => .inr (.inr rfl)
  | f + 1, i, n, u, [] => .inr (.inl rfl)
  | f + 1, i, n, u, d :: s => by
    unfold getF
    split
    · exact getF_err f _ _ _ s
    · split
      · exact .inr (.inr rfl)
      · exact .inl rfl
theorem getI_err (s : List UInt8) : (getI s).2.2 = 0 ∨ getI s = (0, 0, 12) ∨ getI s = (0, 0, 13) := getF_err ..
theorem getI_enc {m : Nat} (t : List UInt8) (h : m ≤ 1099511627776) : getI (digL m ++ t) = (m, (digL m).length, 0) := by
  unfold getI
  rw [getF_enc m 6 0 0 1 t (digL_len m 5 (by omega)) (by omega) (fun h => by omega)]
  simp
theorem getI_dec {s : List UInt8} {m k : Nat} (h : getI s = (m, k, 0)) : m ≤ 1099511627776 ∧ k = (digL m).length ∧ s = digL m ++ s.drop k := by
  obtain ⟨m', t, rfl, h2, h3, h4, _⟩ := getF_dec 6 0 0 1 s m k h
  have e : m = m' := by omega
  subst e
  rw [Nat.zero_add] at h3
  subst h3
  refine ⟨h4, rfl, ?_⟩
  rw [List.drop_left]
theorem getI_bd (s : List UInt8) : (getI s).1 ≤ 1099511627776 ∧ (getI s).2.1 ≤ s.length := by
  rcases getI_err s with h | h | h
  · have e : getI s = ((getI s).1, (getI s).2.1, 0) := by rw [← h]
    obtain ⟨h1, h2, h3⟩ := getI_dec e
    refine ⟨h1, ?_⟩
    rw [h2]
    have := congrArg List.length h3
    rw [List.length_append] at this
    omega
  · rw [h]; simp
  · rw [h]; simp

/-- A text at the beginning. -/
def getT (s : List UInt8) : List UInt8 × Nat × Int :=
  if (getI s).2.2 ≠ 0 then ([], 0, (getI s).2.2) else if 65536 < (getI s).1 then ([], 0, 13) else if s.length - (getI s).2.1 < (getI s).1 then ([], 0, 12) else ((s.drop (getI s).2.1).take (getI s).1, (getI s).2.1 + (getI s).1, 0)
theorem getT_err (s : List UInt8) : (getT s).2.2 = 0 ∨ getT s = ([], 0, 12) ∨ getT s = ([], 0, 13) := by
  unfold getT
  split
  · rcases getI_err s with h | h | h
    · contradiction
    · rw [h]; exact .inr (.inl rfl)
    · rw [h]; exact .inr (.inr rfl)
  · split
    · exact .inr (.inr rfl)
    · split
      · exact .inr (.inl rfl)
      · exact .inl rfl
theorem getT_enc {d : List UInt8} (t : List UInt8) (h : d.length ≤ 65536) : getT ((digL d.length ++ d) ++ t) = (d, (digL d.length ++ d).length, 0) := by
  unfold getT
  rw [List.append_assoc, getI_enc (d ++ t) (by omega)]
  simp only [ne_eq, not_true_eq_false, if_false]
  rw [if_neg (by omega), if_neg (by simp only [List.length_append]; omega), List.drop_left, List.take_left, List.length_append]
theorem getT_dec {s d : List UInt8} {k : Nat} (h : getT s = (d, k, 0)) : d.length ≤ 65536 ∧ k = (digL d.length ++ d).length ∧ s = (digL d.length ++ d) ++ s.drop k := by
  unfold getT at h
  split at h
  · rename_i hne
    injection h with _ h
    injection h with _ h
    exact absurd h hne
  · rename_i h0
    have h0' : (getI s).2.2 = 0 := by
      rcases Classical.em ((getI s).2.2 = 0) with e | e
      · exact e
      · exact absurd e h0
    split at h
    · simp at h
    · rename_i h1
      split at h
      · simp at h
      · rename_i h2
        injection h with h3 h
        injection h with h4 _
        have e : getI s = ((getI s).1, (getI s).2.1, 0) := by rw [← h0']
        obtain ⟨g1, g2, g3⟩ := getI_dec e
        have hdl : d.length = (getI s).1 := by rw [← h3, List.length_take, List.length_drop]; omega
        have hk : k = (digL d.length ++ d).length := by rw [List.length_append, hdl, ← g2, h4]
        refine ⟨by omega, hk, ?_⟩
        rw [← h4]
        rw [hdl, ← List.drop_drop, List.append_assoc, ← h3, List.take_append_drop]
        exact g3


/-- A list of texts at the beginning: the loop. -/
def getTsA (s : List UInt8) : Nat → Nat → List (List UInt8) → List (List UInt8) × Nat × Int
  | 0, at_, l => (l, at_, 0)
  | n + 1, at_, l => if (getT (s.drop at_)).2.2 ≠ 0 then ([], 0, (getT (s.drop at_)).2.2) else getTsA s n (at_ + (getT (s.drop at_)).2.1) (l ++ [(getT (s.drop at_)).1])
def getTs (s : List UInt8) : List (List UInt8) × Nat × Int := if (getI s).2.2 ≠ 0 then ([], 0, (getI s).2.2) else if 1000 < (getI s).1 then ([], 0, 13) else getTsA s (getI s).1 (getI s).2.1 []
def encT (t : List UInt8) : List UInt8 := digL t.length ++ t
def putTsB (l : List (List UInt8)) : List UInt8 := digL l.length ++ l.flatMap encT
def putTs (l : List (List UInt8)) : List UInt8 × Int := if 1000 < l.length ∨ ¬ ∀ t ∈ l, t.length ≤ 65536 then ([], 4) else (putTsB l, 0)
theorem getTsA_enc {s : List UInt8} : ∀ (l pre : List (List UInt8)) (at_ : Nat) (t : List UInt8), (∀ x ∈ l, x.length ≤ 65536) → s.drop at_ = l.flatMap encT ++ t → getTsA s l.length at_ pre = (pre ++ l, at_ + (l.flatMap encT).length, 0)
  | [], pre, at_, t, _, _ => by simp [getTsA]
  | x :: l, pre, at_, t, hc, hs => by
    rw [List.flatMap_cons, List.append_assoc] at hs
    have e := getT_enc (l.flatMap encT ++ t) (hc x (by simp))
    have e' : getT (s.drop at_) = (x, (encT x).length, 0) := by rw [hs]; exact e
    show (if (getT (s.drop at_)).2.2 ≠ 0 then ([], 0, (getT (s.drop at_)).2.2) else getTsA s l.length (at_ + (getT (s.drop at_)).2.1) (pre ++ [(getT (s.drop at_)).1])) = _
    rw [e']
    simp only [ne_eq, not_true_eq_false, if_false]
    rw [getTsA_enc l (pre ++ [x]) (at_ + (encT x).length) t (fun y hy => hc y (by simp [hy])) (by rw [← List.drop_drop, hs, List.drop_left])]
    simp [List.flatMap_cons, Nat.add_assoc]
theorem getTsA_dec {s : List UInt8} : ∀ (n at_ : Nat) (pre l : List (List UInt8)) (e : Nat), getTsA s n at_ pre = (l, e, 0) → ∃ l', l = pre ++ l' ∧ l'.length = n ∧ (∀ x ∈ l', x.length ≤ 65536) ∧ e = at_ + (l'.flatMap encT).length ∧ s.drop at_ = l'.flatMap encT ++ s.drop e
  | 0, at_, pre, l, e, h => by
    injection h with h1 h2
    injection h2 with h2 _
    exact ⟨[], by simp [h1], rfl, fun x hx => by simp at hx, by simp [h2], by simp [h2]⟩
  | n + 1, at_, pre, l, e, h => by
    have h' : (if (getT (s.drop at_)).2.2 ≠ 0 then ([], 0, (getT (s.drop at_)).2.2) else getTsA s n (at_ + (getT (s.drop at_)).2.1) (pre ++ [(getT (s.drop at_)).1])) = (l, e, 0) := h
    split at h'
    · rename_i hne
      injection h' with _ h2
      injection h2 with _ h2
      exact absurd h2 hne
    · rename_i h0
      have h0' : (getT (s.drop at_)).2.2 = 0 := by
        rcases Classical.em ((getT (s.drop at_)).2.2 = 0) with e | e
        · exact e
        · exact absurd e h0
      obtain ⟨l', h1, h2, h3, h4, h5⟩ := getTsA_dec n _ _ l e h'
      have ex : getT (s.drop at_) = ((getT (s.drop at_)).1, (getT (s.drop at_)).2.1, 0) := by rw [← h0']
      obtain ⟨g1, g2, g3⟩ := getT_dec ex
      rw [← List.drop_drop] at h5
      refine ⟨(getT (s.drop at_)).1 :: l', by rw [h1, List.append_assoc]; rfl, by simp [h2], fun x hx => ?_, ?_, ?_⟩
      · rcases List.mem_cons.1 hx with rfl | hx
        · exact g1
        · exact h3 x hx
      · rw [List.flatMap_cons, List.length_append, h4, g2]
        show _ = _ + ((encT (getT (s.drop at_)).1).length + _)
        unfold encT
        omega
      · rw [List.flatMap_cons, List.append_assoc, ← h5]
        exact g3
theorem getTs_enc {l : List (List UInt8)} (t : List UInt8) (hn : l.length ≤ 1000) (h : ∀ x ∈ l, x.length ≤ 65536) : getTs (putTsB l ++ t) = (l, (putTsB l).length, 0) := by
  unfold getTs putTsB
  have e1 := getI_enc (m := l.length) (l.flatMap encT ++ t) (by omega)
  rw [List.append_assoc, e1]
  simp only [ne_eq, not_true_eq_false, if_false]
  rw [if_neg (by omega), getTsA_enc l [] _ t h (by rw [List.drop_left])]
  simp
theorem getTs_dec {s : List UInt8} {l : List (List UInt8)} {k : Nat} (h : getTs s = (l, k, 0)) : l.length ≤ 1000 ∧ (∀ x ∈ l, x.length ≤ 65536) ∧ k = (putTsB l).length ∧ s = putTsB l ++ s.drop k := by
  unfold getTs at h
  split at h
  · rename_i hne
    injection h with _ h2
    injection h2 with _ h2
    exact absurd h2 hne
  · rename_i h0
    have h0' : (getI s).2.2 = 0 := by
      rcases Classical.em ((getI s).2.2 = 0) with e | e
      · exact e
      · exact absurd e h0
    split at h
    · simp at h
    · rename_i hn
      have e : getI s = ((getI s).1, (getI s).2.1, 0) := by rw [← h0']
      obtain ⟨g1, g2, g3⟩ := getI_dec e
      obtain ⟨l', k1, k2, k3, k4, k5⟩ := getTsA_dec _ _ _ _ _ h
      rw [List.nil_append] at k1
      subst k1
      unfold putTsB
      rw [k2]
      refine ⟨by omega, k3, by rw [List.length_append, ← g2, k4], ?_⟩
      rw [List.append_assoc, ← k5]
      exact g3
theorem getTsA_err {s : List UInt8} : ∀ (n at_ : Nat) (l : List (List UInt8)), (getTsA s n at_ l).2.2 = 0 ∨ getTsA s n at_ l = ([], 0, 12) ∨ getTsA s n at_ l = ([], 0, 13)
  | 0, at_, l => .inl rfl
  | n + 1, at_, l => by
    unfold getTsA
    split
    · rename_i hne
      rcases getT_err (s.drop at_) with h | h | h
      · exact absurd h hne
      · rw [h]; exact .inr (.inl rfl)
      · rw [h]; exact .inr (.inr rfl)
    · exact getTsA_err n _ _
theorem getTs_err (s : List UInt8) : (getTs s).2.2 = 0 ∨ getTs s = ([], 0, 12) ∨ getTs s = ([], 0, 13) := by
  unfold getTs
  split
  · rename_i hne
    rcases getI_err s with h | h | h
    · exact absurd h hne
    · rw [h]; exact .inr (.inl rfl)
    · rw [h]; exact .inr (.inr rfl)
  · split
    · exact .inr (.inr rfl)
    · exact getTsA_err ..
end Go.Proofs.Ytockmhhiomdlkaa

namespace Go.Proofs.Ytockmhhiomdlkaa
set_option linter.unusedVariables false
set_option linter.unusedSimpArgs false

abbrev Txt := List UInt8
/-- The bytes of a frame. -/
def frB (l : List Txt) : Txt := 1 :: (digL (putTsB l).length ++ putTsB l)
/-- The frame at the beginning: the records, the number of its bytes, whether it is right. -/
def decFr (s : Txt) : List Txt × Nat × Bool :=
  if s.head? ≠ some 1 then ([], 0, false)
  else if (getI (s.drop 1)).2.2 ≠ 0 ∨ s.length - (1 + (getI (s.drop 1)).2.1) < (getI (s.drop 1)).1 then ([], 0, false)
  else if (getTs ((s.drop (1 + (getI (s.drop 1)).2.1)).take (getI (s.drop 1)).1)).2.2 = 0 ∧ (getTs ((s.drop (1 + (getI (s.drop 1)).2.1)).take (getI (s.drop 1)).1)).2.1 = (getI (s.drop 1)).1 then
    ((getTs ((s.drop (1 + (getI (s.drop 1)).2.1)).take (getI (s.drop 1)).1)).1, 1 + (getI (s.drop 1)).2.1 + (getI (s.drop 1)).1, true)
  else ([], 0, false)
/-- Lists of texts that can be put into a frame. -/
abbrev OkL (l : List Txt) : Prop := l.length ≤ 1000 ∧ ∀ x ∈ l, x.length ≤ 65536
theorem putTsB_len (l : List Txt) (h : OkL l) : (putTsB l).length ≤ 100000000 := by
  have hd := digL_len l.length 5 (by have := h.1; omega)
  have key : ∀ m : List Txt, (∀ x ∈ m, x.length ≤ 65536) → (m.flatMap encT).length ≤ m.length * 65542 := by
    intro m
    induction m with
    | nil => intro _; simp
    | cons x m ih =>
      intro hm
      have h1 := ih fun y hy => hm y (by simp [hy])
      have h2 := hm x (by simp)
      have h3 := digL_len x.length 5 (by omega)
      rw [List.flatMap_cons, List.length_append, List.length_cons]
      have h4 : (encT x).length = (digL x.length).length + x.length := by unfold encT; rw [List.length_append]
      omega
  have h4 := key l h.2
  have h5 := h.1
  unfold putTsB
  rw [List.length_append]
  have : l.length * 65542 ≤ 1000 * 65542 := Nat.mul_le_mul_right _ h5
  omega
theorem frB_pos (l : List Txt) : 1 ≤ (frB l).length := by simp [frB]
theorem decFr_enc {l : List Txt} (t : Txt) (h : OkL l) : decFr (frB l ++ t) = (l, (frB l).length, true) := by
  have hl := putTsB_len l h
  have hI := getI_enc (m := (putTsB l).length) (putTsB l ++ t) (by omega)
  have hs : (frB l ++ t).drop 1 = digL (putTsB l).length ++ (putTsB l ++ t) := by simp [frB]
  have hd : (frB l ++ t).drop (1 + (digL (putTsB l).length).length) = putTsB l ++ t := by
    rw [← List.drop_drop, hs, List.drop_left]
  have hT := getTs_enc (l := l) [] h.1 h.2
  rw [List.append_nil] at hT
  unfold decFr
  rw [if_neg (by simp [frB]), hs, hI]
  simp only [hd]
  rw [if_neg, List.take_left, hT, if_pos ⟨rfl, rfl⟩]
  · refine Prod.ext rfl (Prod.ext ?_ rfl)
    simp only [frB, List.length_cons, List.length_append]
    omega
  · rintro (h | h)
    · exact h rfl
    · simp only [frB, List.cons_append, List.length_cons, List.length_append] at h
      omega
theorem decFr_dec {s : Txt} {l : List Txt} {c : Nat} (h : decFr s = (l, c, true)) : OkL l ∧ c = (frB l).length ∧ s = frB l ++ s.drop c := by
  unfold decFr at h
  split at h
  · simp at h
  · rename_i h1
    have h1' : s.head? = some 1 := by
      rcases Classical.em (s.head? = some 1) with e | e
      · exact e
      · exact absurd e h1
    split at h
    · simp at h
    · rename_i h2
      split at h
      · rename_i h3
        injection h with e1 h
        injection h with e2 _
        have h20 : (getI (s.drop 1)).2.2 = 0 := by
          rcases Classical.em ((getI (s.drop 1)).2.2 = 0) with e | e
          · exact e
          · exact absurd (.inl e) h2
        have h21 : ¬ s.length - (1 + (getI (s.drop 1)).2.1) < (getI (s.drop 1)).1 := fun e => h2 (.inr e)
        have eI : getI (s.drop 1) = ((getI (s.drop 1)).1, (getI (s.drop 1)).2.1, 0) := by rw [← h20]
        obtain ⟨g1, g2, g3⟩ := getI_dec eI
        generalize getI (s.drop 1) = q at *
        obtain ⟨n, k, e0⟩ := q
        simp only at *
        have eT : getTs ((s.drop (1 + k)).take n) = (l, n, 0) := by
          rw [← e1]
          generalize getTs ((s.drop (1 + k)).take n) = r at *
          obtain ⟨r1, r2, r3⟩ := r
          simp only at h3
          rw [h3.1, h3.2]
        obtain ⟨t1, t2, t3, t4⟩ := getTs_dec eT
        have hlen : ((s.drop (1 + k)).take n).length = n := by rw [List.length_take, List.length_drop]; omega
        have t5 : ((s.drop (1 + k)).take n).drop n = [] := List.drop_eq_nil_of_le (by omega)
        rw [t5, List.append_nil] at t4
        have hc : c = (frB l).length := by
          simp only [frB, List.length_cons, List.length_append]
          rw [← t3, ← g2]
          omega
        refine ⟨⟨t1, t2⟩, hc, ?_⟩
        obtain ⟨hd, tl, rfl⟩ : ∃ a b, s = a :: b := by
          cases s with
          | nil => simp at h1'
          | cons a b => exact ⟨a, b, rfl⟩
        have hhd : hd = 1 := by simpa using h1'
        subst hhd
        rw [List.drop_succ_cons, List.drop_zero] at g3
        have e5 : tl.drop k = putTsB l ++ tl.drop (k + n) := by
          have := List.take_append_drop n (tl.drop k)
          rw [List.drop_drop] at this
          rw [← this]
          congr 1
          rw [← t4, show 1 + k = k + 1 by omega, List.drop_succ_cons]
        rw [← e2, show 1 + k + n = (k + n) + 1 by omega, List.drop_succ_cons]
        show 1 :: tl = 1 :: ((digL (putTsB l).length ++ putTsB l) ++ tl.drop (k + n))
        rw [List.append_assoc, ← e5, ← t3]
        congr 1
      · simp at h
/-- The frame stays where what is behind it changes. -/
theorem decFr_same {s s' : Txt} {l : List Txt} {c : Nat} (h : decFr s = (l, c, true)) (he : s'.take c = s.take c) : decFr s' = (l, c, true) := by
  obtain ⟨h1, h2, h3⟩ := decFr_dec h
  have e : s' = frB l ++ s'.drop c := by
    have h4 : s.take c = frB l := by rw [h3, h2, List.take_left]
    conv => lhs; rw [← List.take_append_drop c s']
    rw [he, h4]
  rw [e, h2]
  exact decFr_enc _ h1

/-- How many sectors a number of bytes needs. -/
def need (c sz : Nat) : Nat := (c + sz - 1) / sz
theorem need_pos {c sz : Nat} (hc : 1 ≤ c) (hs : 1 ≤ sz) : 1 ≤ need c sz := by
  unfold need
  rw [Nat.le_div_iff_mul_le (by omega)]
  omega
theorem need_le {c sz m : Nat} (hs : 1 ≤ sz) (h : c ≤ m * sz) : need c sz ≤ m := by
  unfold need
  rw [← Nat.lt_succ_iff, Nat.div_lt_iff_lt_mul (by omega)]
  rw [Nat.succ_mul]
  omega
theorem le_need {c sz : Nat} (hs : 1 ≤ sz) : c ≤ need c sz * sz := by
  unfold need
  have h1 := Nat.div_add_mod (c + sz - 1) sz
  have h2 := Nat.mod_lt (c + sz - 1) (show 0 < sz by omega)
  rw [Nat.mul_comm] at h1
  omega
/-- The frames of an area of H sectors: the records, and the sectors that they use; none if the area is not right. -/
def frA (a : Txt) (sz H : Nat) : Nat → Nat → List Txt → Option (List Txt × Nat)
  | 0, k, acc => some (acc, k)
  | f + 1, k, acc => if k < H ∧ a[k * sz]? ≠ some 0 then (if (decFr (a.drop (k * sz))).2.2 then frA a sz H f (k + need (decFr (a.drop (k * sz))).2.1 sz) (acc ++ (decFr (a.drop (k * sz))).1) else none) else some (acc, k)
def areaR (a : Txt) (sz H : Nat) : Option (List Txt × Nat) := frA a sz H (H + 1) 0 []
theorem frA_stop {a : Txt} {sz H f k : Nat} {acc : List Txt} (h : ¬ (k < H ∧ a[k * sz]? ≠ some 0)) : frA a sz H f k acc = some (acc, k) := by
  cases f with
  | zero => rfl
  | succ f =>
    unfold frA
    rw [if_neg h]
theorem frA_go {a : Txt} {sz H f k : Nat} {acc : List Txt} (h : k < H ∧ a[k * sz]? ≠ some 0) : frA a sz H (f + 1) k acc = if (decFr (a.drop (k * sz))).2.2 then frA a sz H f (k + need (decFr (a.drop (k * sz))).2.1 sz) (acc ++ (decFr (a.drop (k * sz))).1) else none := by
  show (if k < H ∧ a[k * sz]? ≠ some 0 then _ else _) = _
  rw [if_pos h]
theorem decFr_len {s : Txt} {l : List Txt} {c : Nat} (h : decFr s = (l, c, true)) : 1 ≤ c ∧ c ≤ s.length := by
  obtain ⟨h1, h2, h3⟩ := decFr_dec h
  have := frB_pos l
  have h4 := congrArg List.length h3
  rw [List.length_append] at h4
  omega
/-- What the walk over an area says of its end. -/
theorem frA_end {a : Txt} {sz H : Nat} (hs : 1 ≤ sz) (ha : a.length = H * sz) : ∀ (f k : Nat) (acc r : List Txt) (u : Nat), H < k + f → k ≤ H → frA a sz H f k acc = some (r, u) → k ≤ u ∧ u ≤ H ∧ (u < H → a[u * sz]? = some 0)
  | 0, k, acc, r, u, hf, hk, h => by omega
  | f + 1, k, acc, r, u, hf, hk, h => by
    by_cases hc : k < H ∧ a[k * sz]? ≠ some 0
    · rw [frA_go hc] at h
      cases hd : decFr (a.drop (k * sz)) with
      | mk l q =>
        obtain ⟨c, ok⟩ := q
        rw [hd] at h
        cases ok with
        | false => simp at h
        | true =>
          simp only [if_true] at h
          obtain ⟨c1, c2⟩ := decFr_len hd
          have hn := need_pos c1 hs
          have hm : c ≤ (H - k) * sz := by
            rw [List.length_drop, ha] at c2
            rw [Nat.sub_mul]; exact c2
          have hn2 := need_le hs hm
          have := frA_end hs ha f _ _ r u (by omega) (by omega) h
          exact ⟨by omega, this.2.1, this.2.2⟩
    · rw [frA_stop hc] at h
      injection h with h
      injection h with h1 h2
      subst h2
      refine ⟨Nat.le_refl _, hk, fun hlt => ?_⟩
      rcases Classical.em (a[k * sz]? = some 0) with e | e
      · exact e
      · exact absurd ⟨hlt, e⟩ hc
/-- An area that is the same up to where its frames end. -/
theorem frA_same {a a' : Txt} {sz H : Nat} (hs : 1 ≤ sz) (ha : a.length = H * sz) (hl : a'.length = a.length) : ∀ (f k : Nat) (acc r : List Txt) (u f' : Nat), H < k + f → H < k + f' → k ≤ H → frA a sz H f k acc = some (r, u) → a'.take (u * sz) = a.take (u * sz) →
    frA a' sz H f' k acc = frA a' sz H (H + 1) u r
  | 0, k, acc, r, u, f', hf, hf', hk, h, he => by omega
  | f + 1, k, acc, r, u, f', hf, hf', hk, h, he => by
    have hend := frA_end hs ha (f + 1) k acc r u hf hk h
    by_cases hc : k < H ∧ a[k * sz]? ≠ some 0
    · rw [frA_go hc] at h
      cases hd : decFr (a.drop (k * sz)) with
      | mk l q =>
        obtain ⟨c, ok⟩ := q
        rw [hd] at h
        cases ok with
        | false => simp at h
        | true =>
          simp only [if_true] at h
          obtain ⟨c1, c2⟩ := decFr_len hd
          have hn := need_pos c1 hs
          have hm : c ≤ (H - k) * sz := by
            rw [List.length_drop, ha] at c2
            rw [Nat.sub_mul]; exact c2
          have hn2 := need_le hs hm
          have hln := le_need (c := c) hs
          have hend2 := frA_end hs ha f _ _ r u (by omega) (by omega) h
          have hku : (k + need c sz) * sz ≤ u * sz := Nat.mul_le_mul_right _ hend2.1
          rw [Nat.add_mul] at hku
          have hu : k * sz + c ≤ u * sz := by omega
          have hk0 : k * sz < u * sz := by omega
          have e1 : a'[k * sz]? = a[k * sz]? := by
            have := congrArg (·[k * sz]?) he
            simpa [List.getElem?_take, hk0] using this
          have e2 : (a'.drop (k * sz)).take c = (a.drop (k * sz)).take c := by
            have := congrArg (fun x => (x.drop (k * sz)).take c) he
            simp only [List.drop_take, List.take_take] at this
            rw [Nat.min_eq_left (by omega)] at this
            exact this
          have hd' := decFr_same hd e2
          obtain ⟨f'', rfl⟩ : ∃ g, f' = g + 1 := ⟨f' - 1, by omega⟩
          rw [frA_go (by rw [e1]; exact hc), hd']
          simp only [if_true]
          exact frA_same hs ha hl f _ _ r u f'' (by omega) (by omega) (by omega) h he
    · rw [frA_stop hc] at h
      injection h with h
      injection h with h1 h2
      subst h1
      subst h2
      -- fuel does not matter
      exact frA_fuel hs (by rw [hl]; exact ha) f' (H + 1) k acc hf' (by omega) hk
where
  frA_fuel {a : Txt} {sz H : Nat} (hs : 1 ≤ sz) (ha : a.length = H * sz) : ∀ (f f' k : Nat) (acc : List Txt), H < k + f → H < k + f' → k ≤ H → frA a sz H f k acc = frA a sz H f' k acc
    | 0, f', k, acc, hf, hf', hk => by omega
    | f + 1, 0, k, acc, hf, hf', hk => by omega
    | f + 1, f' + 1, k, acc, hf, hf', hk => by
      by_cases hc : k < H ∧ a[k * sz]? ≠ some 0
      · rw [frA_go hc, frA_go hc]
        cases hd : decFr (a.drop (k * sz)) with
        | mk l q =>
          obtain ⟨c, ok⟩ := q
          cases ok with
          | false => rfl
          | true =>
            simp only [if_true]
            obtain ⟨c1, c2⟩ := decFr_len hd
            have hn := need_pos c1 hs
            have hm : c ≤ (H - k) * sz := by
              rw [List.length_drop, ha] at c2
              rw [Nat.sub_mul]; exact c2
            have hn2 := need_le hs hm
            exact frA_fuel hs ha f f' _ _ (by omega) (by omega) (by omega)
      · rw [frA_stop hc, frA_stop hc]
end Go.Proofs.Ytockmhhiomdlkaa

namespace Go.Proofs.Ytockmhhiomdlkaa
set_option linter.unusedVariables false
set_option linter.unusedSimpArgs false

def bts (s : ByteArray) : Txt := s.data.toList
theorem bts_len (s : ByteArray) : (bts s).length = s.size := rfl
theorem bts_strB (l : Txt) : bts (strB l) = l := strB_data l
/-- The first byte of a sector. -/
def byte0 (s : ByteArray) : UInt8 := (bts s).headD 0
def halfN (n : Nat) : Nat := (n - 1) / 2
def areaOf (l : List ByteArray) (start H : Nat) : Txt := ((l.drop start).take H).flatMap bts
def firstS (n act : Nat) : Nat := 1 + (act - 1) * halfN n
/-- What the sectors say: the active area, the records, the sectors that are used. -/
def openL (l : List ByteArray) (sz : Nat) : Option (Nat × List Txt × Nat) :=
  if (byte0 (l.getD 0 ⟨#[]⟩)).toNat = 1 ∨ (byte0 (l.getD 0 ⟨#[]⟩)).toNat = 2 then
    (areaR (areaOf l (firstS l.length (byte0 (l.getD 0 ⟨#[]⟩)).toNat) (halfN l.length)) sz (halfN l.length)).map fun x => ((byte0 (l.getD 0 ⟨#[]⟩)).toNat, x.1, x.2)
  else none
def chkJ (d : Dk) : Int := if chk d ≠ 0 then chk d else if d.secs.length < 3 then 2 else 0
def openD (d : Dk) : (Nat × List Txt × Nat) × Int :=
  if chkJ d ≠ 0 then ((0, [], 0), chkJ d) else match openL (cur d) d.size.toNat with
    | none => ((0, [], 0), 13)
    | some x => (x, 0)
def recD (d : Dk) : List Txt × Int := ((openD d).1.2.1, (openD d).2)
def roomD (d : Dk) : Nat × Int := if (openD d).2 ≠ 0 then (0, (openD d).2) else (halfN d.secs.length - (openD d).1.2.2, 0)

/-! ### the operations -/
def padT (sz : Nat) (t : Txt) : Txt := t ++ List.replicate (sz - t.length) 0
def zeroS (sz : Nat) : ByteArray := strB (List.replicate sz 0)
def markS (sz act : Nat) : ByteArray := strB (padT sz [UInt8.ofNat act])
/-- The sectors of a frame. -/
def frS (l : List Txt) (sz : Nat) : List ByteArray := if l = [] then [] else (List.range (need (frB l).length sz)).map fun i => strB (padT sz (((frB l).drop (i * sz)).take sz))
def unflag (s : ByteArray) : ByteArray := strB (0 :: (bts s).drop 1)
abbrev Wop := Nat × ByteArray
def wrO : Nat → List ByteArray → List Wop
  | _, [] => []
  | at_, s :: l => (at_, s) :: wrO (at_ + 1) l
def fillO (at_ : Nat) (S : List ByteArray) (e sz : Nat) : List Wop := wrO at_ S ++ if at_ + S.length < e then [(at_ + S.length, zeroS sz)] else []
/-- One operation: a write, or a sync. -/
def stepD (d : Dk) : Option Wop → Dk × Int
  | some w => (wrD d w.1 w.2, wrE d w.1 w.2)
  | none => (syD d, syE d)
def runD : Dk → List (Option Wop) → Dk × Int
  | d, [] => (d, 0)
  | d, o :: os => if (stepD d o).2 ≠ 0 then stepD d o else runD (stepD d o).1 os
/-- Writes, a sync, one write, a sync. -/
def twoO (W : List Wop) (w : Wop) : List (Option Wop) := W.map some ++ [none, some w, none]
def hd0 (S : List ByteArray) : ByteArray := S.headD ⟨#[]⟩
def appW (n sz act used : Nat) (l : List Txt) : List Wop := fillO (firstS n act + used) (unflag (hd0 (frS l sz)) :: (frS l sz).drop 1) (firstS n act + halfN n) sz
def appD (d : Dk) (l : List Txt) : Dk × Int :=
  if (openD d).2 ≠ 0 then (noDisk, (openD d).2) else if ¬ OkL l then (noDisk, 4) else if l = [] then (d, 0)
  else if halfN d.secs.length - (openD d).1.2.2 < (frS l d.size.toNat).length then (noDisk, 19)
  else runD d (twoO (appW d.secs.length d.size.toNat (openD d).1.1 (openD d).1.2.2 l) (firstS d.secs.length (openD d).1.1 + (openD d).1.2.2, hd0 (frS l d.size.toNat)))
def rewW (n sz act : Nat) (l : List Txt) : List Wop := fillO (firstS n (3 - act)) (frS l sz) (firstS n (3 - act) + halfN n) sz
def rewD (d : Dk) (l : List Txt) : Dk × Int :=
  if (openD d).2 ≠ 0 then (noDisk, (openD d).2) else if ¬ OkL l then (noDisk, 4)
  else if halfN d.secs.length < (frS l d.size.toNat).length then (noDisk, 19)
  else runD d (twoO (rewW d.secs.length d.size.toNat (openD d).1.1 l) (0, markS d.size.toNat (3 - (openD d).1.1)))
def fmtD (d : Dk) : Dk × Int :=
  if chkJ d ≠ 0 then (noDisk, chkJ d) else runD d (twoO [(firstS d.secs.length 1, zeroS d.size.toNat), (firstS d.secs.length 2, zeroS d.size.toNat)] (0, markS d.size.toNat 1))

/-! ### running writes -/
/-- Writes that fit a disk. -/
def WOk (n : Nat) (size : Int) (W : List Wop) : Prop := ∀ w ∈ W, w.1 < n ∧ (w.2.size : Int) = size
def toP (W : List Wop) : List (Int × ByteArray) := W.map fun w => ((w.1 : Int), w.2)
theorem toP_append (V W : List Wop) : toP (V ++ W) = toP V ++ toP W := by simp [toP]
theorem valid_pend {d : Dk} (h : Valid d) {W : List Wop} (hW : WOk d.secs.length d.size W) (lf : Int) (hl : -1 ≤ lf) : Valid { d with pend := d.pend ++ toP W, left := lf } :=
  ⟨h.s1, h.s2, h.n1, h.n2, h.ss, fun w hw => by
    rcases List.mem_append.1 hw with hw | hw
    · exact h.ws w hw
    · obtain ⟨v, hv, rfl⟩ := List.mem_map.1 hw
      have := hW v hv
      simp only
      omega, hl⟩
theorem wrE_of {d : Dk} (h : Valid d) {w : Wop} (hw : w.1 < d.secs.length ∧ (w.2.size : Int) = d.size) : wrE d w.1 w.2 = if d.left = 0 then 20 else 0 := by
  unfold wrE
  rw [if_neg (fun e => e (chk_zero.2 h)), if_neg (by omega), if_neg (fun e => e hw.2)]
theorem run_writes (rest : List (Option Wop)) : ∀ (W : List Wop) (d : Dk), Valid d → WOk d.secs.length d.size W →
    (d.left ≠ -1 ∧ ∃ m, m < W.length ∧ runD d (W.map some ++ rest) = ({ d with pend := d.pend ++ toP (W.take m), left := 0 }, 20)) ∨
    (∃ lf, -1 ≤ lf ∧ (d.left = -1 → lf = -1) ∧ runD d (W.map some ++ rest) = runD { d with pend := d.pend ++ toP W, left := lf } rest)
  | [], d, hv, hW => .inr ⟨d.left, hv.lf, fun h => h, by simp [toP]⟩
  | w :: W, d, hv, hW => by
    have hw := hW w (by simp)
    have he := wrE_of hv hw
    show (d.left ≠ -1 ∧ ∃ m, m < (w :: W).length ∧ (if (wrE d w.1 w.2) ≠ 0 then (wrD d w.1 w.2, wrE d w.1 w.2) else runD (wrD d w.1 w.2) (W.map some ++ rest)) = _) ∨ (∃ lf, -1 ≤ lf ∧ (d.left = -1 → lf = -1) ∧ (if (wrE d w.1 w.2) ≠ 0 then (wrD d w.1 w.2, wrE d w.1 w.2) else runD (wrD d w.1 w.2) (W.map some ++ rest)) = _)
    by_cases hl : d.left = 0
    · rw [if_pos hl] at he
      left
      refine ⟨by omega, 0, by simp, ?_⟩
      rw [he, if_pos (by decide)]
      have hd : wrD d w.1 w.2 = d := by unfold wrD; rw [he, if_neg (by decide), if_pos rfl]
      rw [hd]
      obtain ⟨a, b, c, e⟩ := d
      simp only at hl
      subst hl
      simp [toP]
    · rw [if_neg hl] at he
      have hd : wrD d w.1 w.2 = { d with pend := d.pend ++ toP [w], left := lessZ d.left } := by unfold wrD; rw [he, if_pos rfl]; rfl
      have hlz : -1 ≤ lessZ d.left ∧ (d.left = -1 → lessZ d.left = -1) ∧ (lessZ d.left = -1 → d.left = -1) := by
        have := hv.lf
        unfold lessZ
        split <;> omega
      have hv2 := valid_pend hv (W := [w]) (fun x hx => (show x = w by simpa using hx) ▸ hw) (lessZ d.left) hlz.1
      rw [he, if_neg (by decide), hd]
      have ih := run_writes rest W _ hv2 (fun x hx => hW x (by simp [hx]))
      rcases ih with ⟨i1, m, i2, i3⟩ | ⟨lf, i1, i2, i3⟩
      · left
        refine ⟨fun e => i1 (hlz.2.1 e), m + 1, by simp; omega, ?_⟩
        rw [i3]
        simp [toP, List.append_assoc]
      · right
        refine ⟨lf, i1, fun e => i2 (hlz.2.1 e), ?_⟩
        rw [i3]
        simp [toP, List.append_assoc]
theorem run_sync {d : Dk} (h : Valid d) (rest : List (Option Wop)) : runD d (none :: rest) = if d.left = 0 then (d, 20) else runD ⟨d.size, cur d, [], lessZ d.left⟩ rest := by
  have he : syE d = if d.left = 0 then 20 else 0 := by unfold syE; rw [if_neg (fun e => e (chk_zero.2 h))]
  show (if (syE d) ≠ 0 then (syD d, syE d) else runD (syD d) rest) = _
  by_cases hl : d.left = 0
  · rw [if_pos hl] at he ⊢
    rw [he, if_pos (by decide)]
    unfold syD
    rw [he, if_neg (by decide), if_pos rfl]
  · rw [if_neg hl] at he ⊢
    rw [he, if_neg (by decide)]
    unfold syD
    rw [he, if_pos rfl]
theorem putW_mem {l : List ByteArray} {w : Int × ByteArray} {size : Int} (hl : ∀ s ∈ l, (s.size : Int) = size) (hw : (w.2.size : Int) = size) : ∀ s ∈ putW l w, (s.size : Int) = size := fun s hs => by
  unfold putW at hs
  rcases List.mem_or_eq_of_mem_set hs with h | h
  · exact hl s h
  · rw [h]; exact hw
theorem foldl_putW_mem {size : Int} : ∀ (p : List (Int × ByteArray)) (l : List ByteArray), (∀ s ∈ l, (s.size : Int) = size) → (∀ w ∈ p, (w.2.size : Int) = size) → ∀ s ∈ p.foldl putW l, (s.size : Int) = size
  | [], l, hl, _ => hl
  | w :: p, l, hl, hp => foldl_putW_mem p (putW l w) (putW_mem hl (hp w (by simp))) fun x hx => hp x (by simp [hx])
theorem valid_cur {d : Dk} (h : Valid d) (lf : Int) (hl : -1 ≤ lf) : Valid ⟨d.size, cur d, [], lf⟩ :=
  ⟨h.s1, h.s2, by rw [show (Dk.mk d.size (cur d) [] lf).secs = cur d from rfl, cur_length]; exact h.n1, by rw [show (Dk.mk d.size (cur d) [] lf).secs = cur d from rfl, cur_length]; exact h.n2,
    foldl_putW_mem _ _ h.ss fun w hw => (h.ws w hw).2.2, fun w hw => by simp at hw, hl⟩
def putsW (l : List ByteArray) (W : List Wop) : List ByteArray := (toP W).foldl putW l
/-- How a run of this form ends. -/
theorem run_two {d : Dk} (h : Valid d) (hp : d.pend = []) {W : List Wop} {w : Wop} (hW : WOk d.secs.length d.size W) (hw : w.1 < d.secs.length ∧ (w.2.size : Int) = d.size) :
    (∃ lf, -1 ≤ lf ∧ (d.left = -1 → lf = -1) ∧ runD d (twoO W w) = (⟨d.size, putsW (putsW d.secs W) [w], [], lf⟩, 0)) ∨
    (d.left ≠ -1 ∧ ∃ m, m ≤ W.length ∧ runD d (twoO W w) = (⟨d.size, d.secs, toP (W.take m), 0⟩, 20)) ∨
    (d.left ≠ -1 ∧ ∃ p, (p = [] ∨ p = [w]) ∧ runD d (twoO W w) = (⟨d.size, putsW d.secs W, toP p, 0⟩, 20)) := by
  unfold twoO
  rcases run_writes [none, some w, none] W d h hW with ⟨h1, m, h2, h3⟩ | ⟨lf, h1, h2, h3⟩
  · right; left
    refine ⟨h1, m, by omega, ?_⟩
    rw [h3, hp, List.nil_append]
  · rw [h3, hp, List.nil_append]
    have hv1 : Valid ⟨d.size, d.secs, toP W, lf⟩ := by
      have := valid_pend h hW lf h1
      rw [hp, List.nil_append] at this
      exact this
    rw [run_sync hv1]
    by_cases hl : lf = 0
    · rw [if_pos hl]
      right; left
      refine ⟨fun e => by have := h2 e; omega, W.length, Nat.le_refl _, ?_⟩
      rw [List.take_length, hl]
    · rw [if_neg hl]
      have hlz : -1 ≤ lessZ lf ∧ (lf = -1 → lessZ lf = -1) := by unfold lessZ; split <;> omega
      have hv2 := valid_cur hv1 (lessZ lf) hlz.1
      have hcl : (cur ⟨d.size, d.secs, toP W, lf⟩).length = d.secs.length := cur_length _
      have hr := run_writes [none] [w] ⟨d.size, cur ⟨d.size, d.secs, toP W, lf⟩, [], lessZ lf⟩ hv2 (fun x hx => by
        have e : x = w := by simpa using hx
        simp only
        rw [e, hcl]
        exact hw)
      have e1 : cur ⟨d.size, d.secs, toP W, lf⟩ = putsW d.secs W := rfl
      rw [e1] at hr ⊢
      rcases hr with ⟨k1, m, k2, k3⟩ | ⟨lf2, k1, k2, k3⟩
      · right; right
        refine ⟨fun e => k1 (hlz.2 (h2 e)), [], .inl rfl, ?_⟩
        have hm : m = 0 := by simp at k2; omega
        subst hm
        simp only [List.map_cons, List.map_nil, List.singleton_append] at k3
        rw [k3]
        simp [toP]
      · simp only [List.map_cons, List.map_nil, List.singleton_append, List.nil_append] at k3
        rw [k3]
        have hv3 : Valid ⟨d.size, putsW d.secs W, toP [w], lf2⟩ := by
          have := valid_pend hv2 (W := [w]) (fun x hx => by
            have e : x = w := by simpa using hx
            simp only
            rw [e, hcl]
            exact hw) lf2 k1
          exact (by simpa using this : Valid ⟨d.size, cur ⟨d.size, d.secs, toP W, lf⟩, toP [w], lf2⟩)
        rw [run_sync hv3]
        by_cases hl2 : lf2 = 0
        · rw [if_pos hl2]
          right; right
          refine ⟨fun e => by have := k2 (hlz.2 (h2 e)); omega, [w], .inr rfl, by rw [hl2]⟩
        · rw [if_neg hl2]
          left
          refine ⟨lessZ lf2, by unfold lessZ; split <;> omega, fun e => ?_, rfl⟩
          have := k2 (hlz.2 (h2 e))
          rw [this]; rfl
end Go.Proofs.Ytockmhhiomdlkaa

namespace Go.Proofs.Ytockmhhiomdlkaa
set_option linter.unusedVariables false
set_option linter.unusedSimpArgs false

/-- The frames from a sector on: their records and ends; and whether something that is no frame follows. -/
def frX (a : Txt) (sz H : Nat) : Nat → Nat → List (List Txt × Nat) × Bool
  | 0, k => ([], false)
  | f + 1, k => if k < H ∧ a[k * sz]? ≠ some 0 then (if (decFr (a.drop (k * sz))).2.2 then
      (((decFr (a.drop (k * sz))).1, k + need (decFr (a.drop (k * sz))).2.1 sz) :: (frX a sz H f (k + need (decFr (a.drop (k * sz))).2.1 sz)).1, (frX a sz H f (k + need (decFr (a.drop (k * sz))).2.1 sz)).2) else ([], true)) else ([], false)
def lastE (l : List (List Txt × Nat)) (k : Nat) : Nat := (l.getLast?.map (·.2)).getD k
theorem lastE_nil (k : Nat) : lastE [] k = k := rfl
theorem lastE_snoc (l : List (List Txt × Nat)) (x : List Txt × Nat) (k : Nat) : lastE (l ++ [x]) k = x.2 := by simp [lastE]
theorem lastE_cons (l : List (List Txt × Nat)) (x : List Txt × Nat) (k : Nat) : lastE (x :: l) k = lastE l x.2 := by
  unfold lastE
  cases l with
  | nil => rfl
  | cons y l => rw [List.getLast?_cons_cons]; cases h : (y :: l).getLast? with
    | none => simp at h
    | some z => rfl
theorem frX_go {a : Txt} {sz H f k : Nat} (h : k < H ∧ a[k * sz]? ≠ some 0) {l : List Txt} {c : Nat} (hd : decFr (a.drop (k * sz)) = (l, c, true)) : frX a sz H (f + 1) k = ((l, k + need c sz) :: (frX a sz H f (k + need c sz)).1, (frX a sz H f (k + need c sz)).2) := by
  show (if k < H ∧ a[k * sz]? ≠ some 0 then _ else _) = _
  rw [if_pos h, hd]
  rfl
theorem frX_bad {a : Txt} {sz H f k : Nat} (h : k < H ∧ a[k * sz]? ≠ some 0) (hd : (decFr (a.drop (k * sz))).2.2 = false) : frX a sz H (f + 1) k = ([], true) := by
  show (if k < H ∧ a[k * sz]? ≠ some 0 then _ else _) = _
  rw [if_pos h, hd]
  rfl
theorem frX_end {a : Txt} {sz H f k : Nat} (h : ¬ (k < H ∧ a[k * sz]? ≠ some 0)) : frX a sz H f k = ([], false) := by
  cases f with
  | zero => rfl
  | succ f => show (if k < H ∧ a[k * sz]? ≠ some 0 then _ else _) = _; rw [if_neg h]
theorem frA_X {a : Txt} {sz H : Nat} : ∀ (f k : Nat) (acc : List Txt), frA a sz H f k acc = if (frX a sz H f k).2 = true then none else some (acc ++ (frX a sz H f k).1.flatMap (·.1), lastE (frX a sz H f k).1 k)
  | 0, k, acc => by simp [frA, frX, lastE]
  | f + 1, k, acc => by
    by_cases h : k < H ∧ a[k * sz]? ≠ some 0
    · rw [frA_go h]
      cases hd : decFr (a.drop (k * sz)) with
      | mk l q =>
        obtain ⟨c, ok⟩ := q
        cases ok with
        | false =>
          rw [frX_bad h (by rw [hd])]
          simp
        | true =>
          rw [frX_go h hd, if_pos rfl, frA_X f]
          simp only [List.flatMap_cons, lastE_cons, List.append_assoc]
    · rw [frA_stop h, frX_end h]
      simp [lastE]
def areaX (a : Txt) (sz H : Nat) : List (List Txt × Nat) × Bool := frX a sz H (H + 1) 0
theorem areaR_X (a : Txt) (sz H : Nat) : areaR a sz H = if (areaX a sz H).2 = true then none else some ((areaX a sz H).1.flatMap (·.1), lastE (areaX a sz H).1 0) := by
  unfold areaR areaX
  rw [frA_X]; rfl
/-- How many frames there are, and how many records each has. -/
theorem frX_bd {a : Txt} {sz H : Nat} (hs : 1 ≤ sz) (ha : a.length = H * sz) : ∀ (f k : Nat), k ≤ H → (frX a sz H f k).1.length ≤ H - k ∧ ∀ x ∈ (frX a sz H f k).1, x.1.length ≤ 1000 ∧ x.2 ≤ H
  | 0, k, hk => by simp [frX]
  | f + 1, k, hk => by
    by_cases h : k < H ∧ a[k * sz]? ≠ some 0
    · cases hd : decFr (a.drop (k * sz)) with
      | mk l q =>
        obtain ⟨c, ok⟩ := q
        cases ok with
        | false => rw [frX_bad h (by rw [hd])]; simp
        | true =>
          obtain ⟨c1, c2⟩ := decFr_len hd
          have hn := need_pos c1 hs
          have hm : c ≤ (H - k) * sz := by
            rw [List.length_drop, ha] at c2
            rw [Nat.sub_mul]; exact c2
          have hn2 := need_le hs hm
          have ih := frX_bd hs ha f (k + need c sz) (by omega)
          rw [frX_go h hd]
          refine ⟨by simp only [List.length_cons]; omega, fun x hx => ?_⟩
          rcases List.mem_cons.1 hx with rfl | hx
          · exact ⟨(decFr_dec hd).1.1, by simp only; omega⟩
          · exact ih.2 x hx
    · rw [frX_end h]; simp
end Go.Proofs.Ytockmhhiomdlkaa

namespace Go.Proofs.Ytockmhhiomdlkaa
set_option linter.unusedVariables false
set_option linter.unusedSimpArgs false

/-- All sectors have the size. -/
def Siz (sz : Nat) (L : List ByteArray) : Prop := ∀ s ∈ L, s.size = sz
theorem Siz.take {sz : Nat} {L : List ByteArray} (h : Siz sz L) (n : Nat) : Siz sz (L.take n) := fun s hs => h s (List.mem_of_mem_take hs)
theorem Siz.drop {sz : Nat} {L : List ByteArray} (h : Siz sz L) (n : Nat) : Siz sz (L.drop n) := fun s hs => h s (List.mem_of_mem_drop hs)
theorem fb_len {sz : Nat} : ∀ {L : List ByteArray}, Siz sz L → (L.flatMap bts).length = L.length * sz
  | [], _ => by simp
  | s :: L, h => by
    have h1 := h s (by simp)
    have h2 := fb_len (L := L) fun x hx => h x (by simp [hx])
    rw [List.flatMap_cons, List.length_append, h2, List.length_cons, bts_len, h1, Nat.add_mul]
    omega
theorem fb_take {sz : Nat} : ∀ {L : List ByteArray} (u : Nat), Siz sz L → (L.flatMap bts).take (u * sz) = (L.take u).flatMap bts
  | L, 0, _ => by simp
  | [], u + 1, _ => by simp
  | s :: L, u + 1, h => by
    have h1 : (bts s).length = sz := h s (by simp)
    rw [List.flatMap_cons, List.take_succ_cons, List.flatMap_cons, show (u + 1) * sz = (bts s).length + u * sz by rw [h1, Nat.add_mul]; omega, List.take_length_add_append, fb_take u fun x hx => h x (by simp [hx])]
theorem fb_drop {sz : Nat} : ∀ {L : List ByteArray} (u : Nat), Siz sz L → (L.flatMap bts).drop (u * sz) = (L.drop u).flatMap bts
  | L, 0, _ => by simp
  | [], u + 1, _ => by simp
  | s :: L, u + 1, h => by
    have h1 : (bts s).length = sz := h s (by simp)
    rw [List.flatMap_cons, List.drop_succ_cons, show (u + 1) * sz = (bts s).length + u * sz by rw [h1, Nat.add_mul]; omega, List.drop_length_add_append, fb_drop u fun x hx => h x (by simp [hx])]
theorem byte0_cons {s : ByteArray} (h : 1 ≤ s.size) : ∃ t, bts s = byte0 s :: t := by
  unfold byte0
  cases hb : bts s with
  | nil =>
    have := bts_len s
    rw [hb] at this
    simp at this
    omega
  | cons a t => exact ⟨t, rfl⟩
theorem fb_at {sz : Nat} {L : List ByteArray} (h : Siz sz L) (hs : 1 ≤ sz) {k : Nat} (hk : k < L.length) : (L.flatMap bts)[k * sz]? = some (byte0 (L.getD k ⟨#[]⟩)) := by
  have e : (L.flatMap bts)[k * sz]? = ((L.flatMap bts).drop (k * sz))[0]? := by simp
  rw [e, fb_drop k h, List.drop_eq_getElem_cons hk, List.flatMap_cons]
  obtain ⟨t, ht⟩ := byte0_cons (s := L[k]) (by rw [h _ (List.getElem_mem hk)]; exact hs)
  rw [ht]
  simp [List.getD, List.getElem?_eq_getElem hk]
/-- The frame's sectors hold its bytes and zero bytes. -/
theorem chunks_flat {sz : Nat} (hs : 1 ≤ sz) (t : Txt) : ∀ m : Nat, ((List.range m).map fun i => strB (padT sz ((t.drop (i * sz)).take sz))).flatMap bts = t.take (m * sz) ++ List.replicate (m * sz - t.length) 0
  | 0 => by simp
  | m + 1 => by
    rw [List.range_succ, List.map_append, List.flatMap_append, chunks_flat hs t m]
    simp only [List.map_cons, List.map_nil, List.flatMap_cons, List.flatMap_nil, List.append_nil, bts_strB]
    unfold padT
    have e : (m + 1) * sz = m * sz + sz := by rw [Nat.add_mul]; omega
    by_cases h : m * sz ≤ t.length
    · rw [show m * sz - t.length = 0 by omega, List.replicate_zero, List.append_nil, ← List.append_assoc, e, List.take_add]
      congr 2
      rw [List.length_take, List.length_drop]
      omega
    · have h1 : t.drop (m * sz) = [] := List.drop_eq_nil_of_le (by omega)
      rw [h1, List.take_nil, List.nil_append, List.append_assoc, List.take_of_length_le (by omega), List.take_of_length_le (by omega)]
      congr 1
      simp only [List.length_nil, Nat.sub_zero]
      rw [List.replicate_append_replicate]
      congr 1
      omega
theorem frS_len {l : List Txt} (h : l ≠ []) (sz : Nat) : (frS l sz).length = need (frB l).length sz := by
  unfold frS
  rw [if_neg h]
  simp
theorem frS_siz (l : List Txt) {sz : Nat} : Siz sz (frS l sz) := fun s hs => by
  unfold frS at hs
  split at hs
  · simp at hs
  · obtain ⟨i, _, rfl⟩ := List.mem_map.1 hs
    rw [strB_size]
    unfold padT
    rw [List.length_append, List.length_replicate, List.length_take]
    omega
theorem frS_flat {l : List Txt} (h : l ≠ []) {sz : Nat} (hs : 1 ≤ sz) : (frS l sz).flatMap bts = frB l ++ List.replicate (need (frB l).length sz * sz - (frB l).length) 0 := by
  unfold frS
  rw [if_neg h, chunks_flat hs, List.take_of_length_le (le_need hs)]
theorem frS_pos {l : List Txt} (h : l ≠ []) {sz : Nat} (hs : 1 ≤ sz) : 1 ≤ (frS l sz).length := by
  rw [frS_len h]
  exact need_pos (frB_pos l) hs

/-! ### areas -/
theorem area_same {sz H : Nat} (hs : 1 ≤ sz) {L L' : List ByteArray} (hL : Siz sz L) (hL' : Siz sz L') (hl : L.length = H) (hl' : L'.length = H) {r : List Txt} {u : Nat} (h : areaR (L.flatMap bts) sz H = some (r, u)) (ht : L'.take u = L.take u) :
    areaR (L'.flatMap bts) sz H = frA (L'.flatMap bts) sz H (H + 1) u r := by
  have ha : (L.flatMap bts).length = H * sz := by rw [fb_len hL, hl]
  have ha' : (L'.flatMap bts).length = H * sz := by rw [fb_len hL', hl']
  unfold areaR at h ⊢
  exact frA_same hs ha (by rw [ha', ha]) (H + 1) 0 [] r u (H + 1) (by omega) (by omega) (by omega) h (by rw [fb_take u hL, fb_take u hL', ht])
theorem area_end {sz H : Nat} (hs : 1 ≤ sz) {L : List ByteArray} (hL : Siz sz L) (hl : L.length = H) {r : List Txt} {u : Nat} (h : areaR (L.flatMap bts) sz H = some (r, u)) : u ≤ H ∧ (u < H → byte0 (L.getD u ⟨#[]⟩) = 0) := by
  have ha : (L.flatMap bts).length = H * sz := by rw [fb_len hL, hl]
  have he := frA_end hs ha (H + 1) 0 [] r u (by omega) (by omega) h
  refine ⟨he.2.1, fun hlt => ?_⟩
  have h1 := he.2.2 hlt
  rw [fb_at hL hs (by omega)] at h1
  exact Option.some.inj h1
theorem area_keep {sz H : Nat} (hs : 1 ≤ sz) {L L' : List ByteArray} (hL : Siz sz L) (hL' : Siz sz L') (hl : L.length = H) (hl' : L'.length = H) {r : List Txt} {u : Nat} (h : areaR (L.flatMap bts) sz H = some (r, u)) (ht : L'.take u = L.take u)
    (h0 : u < H → byte0 (L'.getD u ⟨#[]⟩) = 0) : areaR (L'.flatMap bts) sz H = some (r, u) := by
  rw [area_same hs hL hL' hl hl' h ht]
  refine frA_stop fun hc => ?_
  have := h0 hc.1
  rw [fb_at hL' hs (by omega), this] at hc
  exact hc.2 rfl
theorem area_more {sz H : Nat} (hs : 1 ≤ sz) {L L' : List ByteArray} (hL : Siz sz L) (hL' : Siz sz L') (hl : L.length = H) (hl' : L'.length = H) {r : List Txt} {u : Nat} (h : areaR (L.flatMap bts) sz H = some (r, u)) (ht : L'.take u = L.take u)
    {l : List Txt} (hne : l ≠ []) (hok : OkL l) {T : List ByteArray} (hd : L'.drop u = frS l sz ++ T) (h0 : ∀ s t, T = s :: t → byte0 s = 0) : areaR (L'.flatMap bts) sz H = some (r ++ l, u + (frS l sz).length) := by
  rw [area_same hs hL hL' hl hl' h ht]
  have hue := (area_end hs hL hl h).1
  have hp := frS_pos hne hs
  have hlen := congrArg List.length hd
  rw [List.length_drop, List.length_append, hl'] at hlen
  have hbytes : (L'.flatMap bts).drop (u * sz) = frB l ++ (List.replicate (need (frB l).length sz * sz - (frB l).length) 0 ++ T.flatMap bts) := by
    rw [fb_drop u hL', hd, List.flatMap_append, frS_flat hne hs, List.append_assoc]
  have hdec : decFr ((L'.flatMap bts).drop (u * sz)) = (l, (frB l).length, true) := by rw [hbytes]; exact decFr_enc _ hok
  have hfirst : (L'.flatMap bts)[u * sz]? = some 1 := by
    have e : (L'.flatMap bts)[u * sz]? = ((L'.flatMap bts).drop (u * sz))[0]? := by simp
    rw [e, hbytes]
    rfl
  rw [frA_go ⟨by omega, by rw [hfirst]; simp⟩, hdec]
  simp only [if_true]
  rw [← frS_len hne sz]
  refine frA_stop fun hc => ?_
  have hT : ∃ s t, T = s :: t := by
    cases T with
    | nil => simp at hlen; omega
    | cons s t => exact ⟨s, t, rfl⟩
  obtain ⟨s, t, rfl⟩ := hT
  have h1 := h0 s t rfl
  have e : L'.getD (u + (frS l sz).length) ⟨#[]⟩ = s := by
    have : (L'.drop u)[(frS l sz).length]? = some s := by rw [hd]; simp
    rw [List.getElem?_drop] at this
    simp [List.getD, this]
  rw [fb_at hL' hs (by omega), e, h1] at hc
  exact hc.2 rfl
/-- A frame at the beginning of an area. -/
theorem area_new {sz H : Nat} (hs : 1 ≤ sz) {L' : List ByteArray} (hL' : Siz sz L') (hl' : L'.length = H) {l : List Txt} (hok : OkL l) {T : List ByteArray} (hd : L' = frS l sz ++ T) (h0 : ∀ s t, T = s :: t → byte0 s = 0) : areaR (L'.flatMap bts) sz H = some (l, (frS l sz).length) := by
  by_cases hne : l = []
  · subst hne
    have he : frS [] sz = [] := rfl
    rw [he, List.nil_append] at hd
    subst hd
    show frA _ sz H (H + 1) 0 [] = _
    rw [he]
    refine frA_stop fun hc => ?_
    have hT : ∃ s t, L' = s :: t := by
      cases L' with
      | nil => simp at hl'; omega
      | cons s t => exact ⟨s, t, rfl⟩
    obtain ⟨s, t, rfl⟩ := hT
    have h1 := h0 s t rfl
    rw [fb_at hL' hs (by omega)] at hc
    simp only [List.getD_cons_zero, h1] at hc
    exact hc.2 rfl
  · have hbytes : L'.flatMap bts = frB l ++ (List.replicate (need (frB l).length sz * sz - (frB l).length) 0 ++ T.flatMap bts) := by
      rw [hd, List.flatMap_append, frS_flat hne hs, List.append_assoc]
    have hp := frS_pos hne hs
    have hlen := congrArg List.length hd
    rw [List.length_append, hl'] at hlen
    have hdec : decFr ((L'.flatMap bts).drop (0 * sz)) = (l, (frB l).length, true) := by rw [Nat.zero_mul, List.drop_zero, hbytes]; exact decFr_enc _ hok
    have hfirst : (L'.flatMap bts)[0 * sz]? = some 1 := by rw [Nat.zero_mul, hbytes]; rfl
    show frA _ sz H (H + 1) 0 [] = _
    rw [frA_go ⟨by omega, by rw [hfirst]; simp⟩, hdec]
    simp only [if_true, List.nil_append, Nat.zero_add]
    rw [← frS_len hne sz]
    refine frA_stop fun hc => ?_
    have hT : ∃ s t, T = s :: t := by
      cases T with
      | nil => simp at hlen; omega
      | cons s t => exact ⟨s, t, rfl⟩
    obtain ⟨s, t, rfl⟩ := hT
    have h1 := h0 s t rfl
    have e : L'.getD ((frS l sz).length) ⟨#[]⟩ = s := by rw [hd]; simp [List.getD]
    rw [fb_at hL' hs (by omega), e, h1] at hc
    exact hc.2 rfl
end Go.Proofs.Ytockmhhiomdlkaa

namespace Go.Proofs.Ytockmhhiomdlkaa
set_option linter.unusedVariables false
set_option linter.unusedSimpArgs false

/-! ### writes to sectors -/
theorem putsW_len (l : List ByteArray) (W : List Wop) : (putsW l W).length = l.length := foldl_putW_length _ _
theorem putsW_cons (l : List ByteArray) (w : Wop) (W : List Wop) : putsW l (w :: W) = putsW (l.set w.1 w.2) W := by
  unfold putsW toP
  rw [List.map_cons, List.foldl_cons]
  unfold putW
  simp
theorem putsW_append (l : List ByteArray) (V W : List Wop) : putsW l (V ++ W) = putsW (putsW l V) W := by
  unfold putsW
  rw [toP_append, List.foldl_append]
theorem putsW_out : ∀ (W : List Wop) (l : List ByteArray) (i : Nat), (∀ w ∈ W, w.1 ≠ i) → (putsW l W)[i]? = l[i]?
  | [], l, i, _ => rfl
  | w :: W, l, i, h => by
    rw [putsW_cons, putsW_out W _ i fun x hx => h x (by simp [hx]), List.getElem?_set_ne (h w (by simp))]
theorem putsW_siz {sz : Nat} : ∀ (W : List Wop) (l : List ByteArray), Siz sz l → (∀ w ∈ W, w.2.size = sz) → Siz sz (putsW l W)
  | [], l, h, _ => h
  | w :: W, l, h, hw => by
    rw [putsW_cons]
    refine putsW_siz W _ (fun s hs => ?_) fun x hx => hw x (by simp [hx])
    rcases List.mem_or_eq_of_mem_set hs with h1 | h1
    · exact h s h1
    · rw [h1]; exact hw w (by simp)
theorem wrO_mem : ∀ (S : List ByteArray) (a : Nat), ∀ w ∈ wrO a S, a ≤ w.1 ∧ w.1 < a + S.length ∧ w.2 ∈ S
  | [], a, w, h => by simp [wrO] at h
  | s :: S, a, w, h => by
    rcases List.mem_cons.1 h with rfl | h
    · simp
    · obtain ⟨h1, h2, h3⟩ := wrO_mem S (a + 1) w h
      rw [List.length_cons]
      exact ⟨by omega, by omega, by simp [h3]⟩
theorem putsW_wrO : ∀ (S : List ByteArray) (a : Nat) (l : List ByteArray), a + S.length ≤ l.length → putsW l (wrO a S) = l.take a ++ S ++ l.drop (a + S.length)
  | [], a, l, _ => by simp [wrO, putsW, toP]
  | s :: S, a, l, h => by
    rw [List.length_cons] at h
    show putsW l ((a, s) :: wrO (a + 1) S) = _
    rw [putsW_cons, putsW_wrO S (a + 1) _ (by rw [List.length_set]; omega), List.length_cons]
    simp only
    rw [show a + 1 + S.length = a + (S.length + 1) by omega, List.drop_set_of_lt (by omega), List.take_succ_eq_append_getElem (by rw [List.length_set]; omega), List.getElem_set_self]
    rw [List.take_set_of_le (by omega)]
    simp
theorem wrO_append (a : Nat) (S : List ByteArray) (s : ByteArray) : wrO a (S ++ [s]) = wrO a S ++ [(a + S.length, s)] := by
  induction S generalizing a with
  | nil => rfl
  | cons x S ih =>
    show (a, x) :: wrO (a + 1) (S ++ [s]) = (a, x) :: (wrO (a + 1) S ++ _)
    rw [ih, List.length_cons, show a + 1 + S.length = a + (S.length + 1) by omega]
/-- fill's writes: the sectors, and a zero one where there is room. -/
def fillS (m : Nat) (S : List ByteArray) (sz : Nat) : List ByteArray := if S.length < m then S ++ [zeroS sz] else S
theorem fillO_eq {a m sz : Nat} (S : List ByteArray) : fillO a S (a + m) sz = wrO a (fillS m S sz) := by
  unfold fillO fillS
  by_cases h : S.length < m
  · rw [if_pos (by omega), if_pos h, wrO_append]
  · rw [if_neg (by omega), if_neg h, List.append_nil]
theorem fillS_len {m sz : Nat} {S : List ByteArray} (h : S.length ≤ m) : (fillS m S sz).length ≤ m := by
  unfold fillS
  split
  · simp; omega
  · exact h
theorem zeroS_size (sz : Nat) : (zeroS sz).size = sz := by unfold zeroS; rw [strB_size]; simp
theorem zeroS_byte (sz : Nat) : byte0 (zeroS sz) = 0 := by
  unfold zeroS byte0
  rw [bts_strB]
  cases sz with
  | zero => rfl
  | succ n => rfl
theorem markS_size {sz : Nat} (h : 1 ≤ sz) (a : Nat) : (markS sz a).size = sz := by unfold markS padT; rw [strB_size]; simp; omega
theorem markS_byte (sz : Nat) (a : Nat) : byte0 (markS sz a) = UInt8.ofNat a := by unfold markS byte0 padT; rw [bts_strB]; rfl
theorem fillS_siz {m sz : Nat} {S : List ByteArray} (h : Siz sz S) : Siz sz (fillS m S sz) := by
  unfold fillS
  split
  · intro s hs
    rcases List.mem_append.1 hs with hs | hs
    · exact h s hs
    · have : s = zeroS sz := by simpa using hs
      rw [this]; exact zeroS_size sz
  · exact h

/-! ### a loss of power -/
theorem cutW_len {size : Int} : ∀ (W : List (Int × ByteArray)) (l : List ByteArray) (ps : List Int), (cutW size l W ps).length = l.length
  | [], l, ps => by simp [cutW]
  | w :: W, l, ps => by
    show (cutW size (l.set _ _) W ps.tail).length = _
    rw [cutW_len W]
    simp
theorem cutW_out {size : Int} : ∀ (W : List Wop) (l : List ByteArray) (ps : List Int) (i : Nat), (∀ w ∈ W, w.1 ≠ i) → (cutW size l (toP W) ps)[i]? = l[i]?
  | [], l, ps, i, _ => by simp [cutW, toP]
  | w :: W, l, ps, i, h => by
    show (cutW size (l.set ((w.1 : Int)).toNat _) (toP W) ps.tail)[i]? = _
    rw [cutW_out W _ ps.tail i fun x hx => h x (by simp [hx]), Int.toNat_natCast, List.getElem?_set_ne (h w (by simp))]
theorem pick_le' (n : Int) {size : Int} (h : 1 ≤ size) : pick n size ≤ size.toNat := by
  have := pick_le n size h
  omega
theorem getD_siz {sz : Nat} {l : List ByteArray} (h : Siz sz l) {i : Nat} (hi : i < l.length) : (l.getD i ⟨#[]⟩).size = sz := by
  rw [List.getD, List.getElem?_eq_getElem hi]
  exact h _ (List.getElem_mem hi)
theorem cutW_siz {size : Int} {sz : Nat} (hz : size = sz) (hs : 1 ≤ sz) : ∀ (W : List Wop) (l : List ByteArray) (ps : List Int), Siz sz l → (∀ w ∈ W, w.1 < l.length ∧ w.2.size = sz) → Siz sz (cutW size l (toP W) ps)
  | [], l, ps, h, _ => by simpa [cutW, toP] using h
  | w :: W, l, ps, h, hw => by
    show Siz sz (cutW size (l.set ((w.1 : Int)).toNat (torn (pick (ps.headD 0) size) w.2 (l.getD ((w.1 : Int)).toNat ⟨#[]⟩))) (toP W) ps.tail)
    rw [Int.toNat_natCast]
    obtain ⟨h1, h2⟩ := hw w (by simp)
    have hg := getD_siz h h1
    have hp := pick_le' (ps.headD 0) (size := size) (by omega)
    refine cutW_siz hz hs W _ ps.tail (fun s hs' => ?_) fun x hx => by rw [List.length_set]; exact hw x (by simp [hx])
    rcases List.mem_or_eq_of_mem_set hs' with h3 | h3
    · exact h s h3
    · rw [h3, torn_size (by rw [hg, h2]) (by rw [hg]; omega), hg]
theorem torn_bts {k : Nat} {x y : ByteArray} (h : k ≤ x.size) : bts (torn k x y) = (bts x).take k ++ (bts y).drop k := by
  unfold torn bts
  rw [ByteArray.data_append, Array.toList_append, ByteArray.data_extract, ByteArray.data_extract, Array.toList_extract, Array.toList_extract, List.extract_eq_take_drop, List.extract_eq_take_drop]
  congr 1
  apply List.take_of_length_le
  rw [List.length_drop]
  exact Nat.le_refl _
theorem torn_byte {k : Nat} {x y : ByteArray} (hx : x.size = y.size) (hk : k ≤ x.size) (h1 : 1 ≤ x.size) : byte0 (torn k x y) = if k = 0 then byte0 y else byte0 x := by
  unfold byte0
  rw [torn_bts hk]
  obtain ⟨tx, hx1⟩ := byte0_cons h1
  obtain ⟨ty, hy1⟩ := byte0_cons (s := y) (by omega)
  cases k with
  | zero => simp
  | succ k =>
    rw [hx1]
    simp
/-- A sector whose first byte is zero before and in all writes has it zero afterwards. -/
theorem cutW_zero {size : Int} {sz : Nat} (hz : size = sz) (hs : 1 ≤ sz) {i : Nat} : ∀ (W : List Wop) (l : List ByteArray) (ps : List Int), Siz sz l → (∀ w ∈ W, w.1 < l.length ∧ w.2.size = sz) → i < l.length → byte0 (l.getD i ⟨#[]⟩) = 0 → (∀ w ∈ W, w.1 = i → byte0 w.2 = 0) →
    byte0 ((cutW size l (toP W) ps).getD i ⟨#[]⟩) = 0
  | [], l, ps, h, _, _, h0, _ => by simpa [cutW, toP] using h0
  | w :: W, l, ps, h, hw, hi, h0, hb => by
    show byte0 ((cutW size (l.set ((w.1 : Int)).toNat (torn (pick (ps.headD 0) size) w.2 (l.getD ((w.1 : Int)).toNat ⟨#[]⟩))) (toP W) ps.tail).getD i ⟨#[]⟩) = 0
    rw [Int.toNat_natCast]
    obtain ⟨h1, h2⟩ := hw w (by simp)
    have hg := getD_siz h h1
    have hp := pick_le' (ps.headD 0) (size := size) (by omega)
    refine cutW_zero hz hs W _ ps.tail (fun s hs' => ?_) (fun x hx => by rw [List.length_set]; exact hw x (by simp [hx])) (by rw [List.length_set]; exact hi) ?_ fun x hx => hb x (by simp [hx])
    · rcases List.mem_or_eq_of_mem_set hs' with h3 | h3
      · exact h s h3
      · rw [h3, torn_size (by rw [hg, h2]) (by rw [hg]; omega), hg]
    · by_cases e : w.1 = i
      · have hb1 := hb w (by simp) e
        rw [e] at hg ⊢
        rw [List.getD, List.getElem?_set_self hi]
        simp only [Option.getD_some]
        rw [torn_byte (by rw [hg, h2]) (by rw [h2]; omega) (by rw [h2]; exact hs)]
        split
        · exact h0
        · exact hb1
      · rw [List.getD, List.getElem?_set_ne e]
        exact h0

/-! ### journals -/
/-- A disk without pending writes, that holds a journal: its active area, the records, and the sectors that they use. -/
structure Good (d : Dk) (act : Nat) (r : List Txt) (u : Nat) : Prop where
  v : Valid d
  n : 3 ≤ d.secs.length
  p : d.pend = []
  o : openL d.secs d.size.toNat = some (act, r, u)
theorem Good.open_ {d : Dk} {act : Nat} {r : List Txt} {u : Nat} (h : Good d act r u) : openD d = ((act, r, u), 0) := by
  have h1 : chkJ d = 0 := by unfold chkJ; rw [if_neg (fun e => e (chk_zero.2 h.v)), if_neg (by have := h.n; omega)]
  have h2 : cur d = d.secs := by unfold cur; rw [h.p]; rfl
  unfold openD
  rw [if_neg (fun e => e h1), h2, h.o]
theorem Good.sz {d : Dk} {act : Nat} {r : List Txt} {u : Nat} (h : Good d act r u) : d.size = (d.size.toNat : Int) ∧ 1 ≤ d.size.toNat ∧ d.size.toNat ≤ 512 ∧ Siz d.size.toNat d.secs := by
  have h1 := h.v.s1
  have h2 := h.v.s2
  refine ⟨by omega, by omega, by omega, fun s hs => ?_⟩
  have := h.v.ss s hs
  omega
/-- The active area as sectors. -/
structure Act (l : List ByteArray) (sz act : Nat) (r : List Txt) (u : Nat) : Prop where
  a : act = 1 ∨ act = 2
  b : (byte0 (l.getD 0 ⟨#[]⟩)).toNat = act
  r : areaR (((l.drop (firstS l.length act)).take (halfN l.length)).flatMap bts) sz (halfN l.length) = some (r, u)
theorem openL_act {l : List ByteArray} {sz act : Nat} {r : List Txt} {u : Nat} : openL l sz = some (act, r, u) ↔ Act l sz act r u := by
  constructor
  · intro h
    unfold openL at h
    split at h
    · rename_i hb
      cases ha : areaR (areaOf l (firstS l.length (byte0 (l.getD 0 ⟨#[]⟩)).toNat) (halfN l.length)) sz (halfN l.length) with
      | none => rw [ha] at h; simp at h
      | some x =>
        rw [ha] at h
        simp only [Option.map_some, Option.some.injEq, Prod.mk.injEq] at h
        obtain ⟨h1, h2, h3⟩ := h
        subst h1
        refine ⟨hb, rfl, ?_⟩
        rw [show areaR (((l.drop (firstS l.length _)).take (halfN l.length)).flatMap bts) sz (halfN l.length) = _ from ha, ← h2, ← h3]
    · simp at h
  · rintro ⟨h1, h2, h3⟩
    unfold openL
    rw [h2, if_pos h1]
    unfold areaOf
    rw [h3]
    rfl
theorem half_bd {n : Nat} (h : 3 ≤ n) : 1 ≤ halfN n ∧ 1 + 2 * halfN n ≤ n := by unfold halfN; omega
theorem first_bd {n act : Nat} (h : 3 ≤ n) (ha : act = 1 ∨ act = 2) : 1 ≤ firstS n act ∧ firstS n act + halfN n ≤ n ∧ (act = 1 → firstS n act = 1) ∧ (act = 2 → firstS n act = 1 + halfN n) := by
  have := half_bd h
  unfold firstS
  rcases ha with rfl | rfl <;> simp <;> omega
/-- What is written outside the active area's frames does not matter, if the sector behind them keeps its zero byte. -/
theorem act_keep {l l' : List ByteArray} {sz act : Nat} {r : List Txt} {u : Nat} (hs : 1 ≤ sz) (hn : 3 ≤ l.length) (h : Act l sz act r u) (hl : l'.length = l.length) (hS : Siz sz l) (hS' : Siz sz l') (h0 : byte0 (l'.getD 0 ⟨#[]⟩) = byte0 (l.getD 0 ⟨#[]⟩))
    (hi : ∀ i, firstS l.length act ≤ i → i < firstS l.length act + u → l'[i]? = l[i]?) (hu : u < halfN l.length → byte0 (l'.getD (firstS l.length act + u) ⟨#[]⟩) = 0) : Act l' sz act r u := by
  obtain ⟨a, b, c⟩ := h
  have hf := first_bd hn a
  have hL : ((l.drop (firstS l.length act)).take (halfN l.length)).length = halfN l.length := by rw [List.length_take, List.length_drop]; omega
  have hL' : ((l'.drop (firstS l.length act)).take (halfN l.length)).length = halfN l.length := by rw [List.length_take, List.length_drop]; omega
  have hue := (area_end hs ((hS.drop _).take _) hL c).1
  refine ⟨a, by rw [h0]; exact b, ?_⟩
  rw [hl]
  refine area_keep hs ((hS.drop _).take _) ((hS'.drop _).take _) hL hL' c ?_ fun hlt => ?_
  · rw [List.take_take, List.take_take, Nat.min_eq_left hue]
    apply List.ext_getElem?
    intro i
    rw [List.getElem?_take, List.getElem?_take]
    split
    · rw [List.getElem?_drop, List.getElem?_drop]
      exact hi _ (by omega) (by omega)
    · rfl
  · have := hu hlt
    rw [List.getD, List.getElem?_take, if_pos hlt, List.getElem?_drop]
    exact this
end Go.Proofs.Ytockmhhiomdlkaa

namespace Go.Proofs.Ytockmhhiomdlkaa
set_option linter.unusedVariables false
set_option linter.unusedSimpArgs false

theorem putsW_zero {i : Nat} : ∀ (W : List Wop) (l : List ByteArray), i < l.length → byte0 (l.getD i ⟨#[]⟩) = 0 → (∀ w ∈ W, w.1 = i → byte0 w.2 = 0) → byte0 ((putsW l W).getD i ⟨#[]⟩) = 0
  | [], l, _, h0, _ => h0
  | w :: W, l, hi, h0, hb => by
    rw [putsW_cons]
    refine putsW_zero W _ (by rw [List.length_set]; exact hi) ?_ fun x hx => hb x (by simp [hx])
    by_cases e : w.1 = i
    · rw [e, List.getD, List.getElem?_set_self hi]
      exact hb w (by simp) e
    · rw [List.getD, List.getElem?_set_ne e]
      exact h0
theorem wrO_head {s : ByteArray} {S : List ByteArray} {a : Nat} : ∀ w ∈ wrO a (s :: S), w.1 = a → w.2 = s := fun w hw e => by
  rcases List.mem_cons.1 hw with rfl | hw
  · rfl
  · have := (wrO_mem S (a + 1) w hw).1
    omega
theorem unflag_byte (s : ByteArray) : byte0 (unflag s) = 0 := by unfold unflag byte0; rw [bts_strB]; rfl
theorem unflag_size {s : ByteArray} (h : 1 ≤ s.size) : (unflag s).size = s.size := by
  unfold unflag
  rw [strB_size, List.length_cons, List.length_drop, bts_len]
  omega
theorem bts_inj {x y : ByteArray} (h : bts x = bts y) : x = y := by
  have h1 := strB_of x
  have h2 := strB_of y
  rw [← h1, ← h2]
  exact congrArg strB h
theorem torn_unflag {s : ByteArray} (hs : 1 ≤ s.size) {k : Nat} (hk : k ≤ s.size) : torn k s (unflag s) = if k = 0 then unflag s else s := by
  apply bts_inj
  rw [torn_bts hk]
  cases k with
  | zero => simp
  | succ k =>
    rw [if_neg (by omega)]
    obtain ⟨t, ht⟩ := byte0_cons hs
    have hu : bts (unflag s) = 0 :: t := by unfold unflag; rw [bts_strB, ht]; rfl
    rw [hu, ht, List.take_succ_cons, List.drop_succ_cons, List.cons_append, List.take_append_drop]
/-- A disk that has been left: what can be read, and what a loss of power leaves. -/
structure Left_ (d : Dk) (P : List Txt → Prop) : Prop where
  v : Valid d
  n : 3 ≤ d.secs.length
  now : ∃ act r u, openD d = ((act, r, u), 0) ∧ P r
  cut : ∀ ps, ∃ act r u, Good (cutD d ps) act r u ∧ P r ∧ (cutD d ps).size = d.size ∧ (cutD d ps).secs.length = d.secs.length
theorem cutD_of {d : Dk} (h : Valid d) (ps : List Int) : cutD d ps = ⟨d.size, cutW d.size d.secs d.pend ps, [], -1⟩ := by unfold cutD; rw [if_neg (fun e => e (chk_zero.2 h))]
theorem valid_mk {size : Int} {sz : Nat} {l : List ByteArray} {lf : Int} (hz : size = sz) (h1 : 1 ≤ sz) (h2 : sz ≤ 512) (hn : 1 ≤ l.length) (hn2 : l.length ≤ 1000) (hs : Siz sz l) (hl : -1 ≤ lf) : Valid ⟨size, l, [], lf⟩ :=
  ⟨by simp only; omega, by simp only; omega, hn, hn2, fun s h => by have := hs s h; simp only; omega, fun w hw => by simp at hw, hl⟩
theorem valid_mkp {size : Int} {sz : Nat} {l : List ByteArray} {lf : Int} {W : List Wop} (hz : size = sz) (h1 : 1 ≤ sz) (h2 : sz ≤ 512) (hn : 1 ≤ l.length) (hn2 : l.length ≤ 1000) (hs : Siz sz l) (hW : ∀ w ∈ W, w.1 < l.length ∧ w.2.size = sz) (hl : -1 ≤ lf) : Valid ⟨size, l, toP W, lf⟩ :=
  ⟨by simp only; omega, by simp only; omega, hn, hn2, fun s h => by have := hs s h; simp only; omega, fun w hw => by
    obtain ⟨v, hv, rfl⟩ := List.mem_map.1 hw
    have := hW v hv
    simp only
    omega, hl⟩
theorem good_mk {size : Int} {sz : Nat} {l : List ByteArray} {lf : Int} {act : Nat} {r : List Txt} {u : Nat} (hz : size = sz) (h1 : 1 ≤ sz) (h2 : sz ≤ 512) (hn : 3 ≤ l.length) (hn2 : l.length ≤ 1000) (hs : Siz sz l) (hl : -1 ≤ lf) (ha : Act l sz act r u) : Good ⟨size, l, [], lf⟩ act r u :=
  ⟨valid_mk hz h1 h2 (by omega) hn2 hs hl, hn, rfl, openL_act.2 (by rw [show (Dk.mk size l [] lf).size.toNat = sz by simp only; omega]; exact ha)⟩
theorem Good.left {d : Dk} {act : Nat} {r : List Txt} {u : Nat} (h : Good d act r u) {P : List Txt → Prop} (hP : P r) : Left_ d P := by
  obtain ⟨z1, z2, z3, z4⟩ := h.sz
  refine ⟨h.v, h.n, ⟨act, r, u, h.open_, hP⟩, fun ps => ?_⟩
  rw [cutD_of h.v, h.p]
  have e : cutW d.size d.secs [] ps = d.secs := by simp [cutW]
  rw [e]
  exact ⟨act, r, u, good_mk z1 z2 z3 h.n h.v.n2 z4 (by omega) (openL_act.1 h.o), hP, rfl, rfl⟩
/-- From writes that are pending. -/
theorem left_mk {size : Int} {sz : Nat} {l : List ByteArray} {W : List Wop} (hz : size = sz) (h1 : 1 ≤ sz) (h2 : sz ≤ 512) (hn : 3 ≤ l.length) (hn2 : l.length ≤ 1000) (hs : Siz sz l) (hW : ∀ w ∈ W, w.1 < l.length ∧ w.2.size = sz) {P : List Txt → Prop}
    (hnow : ∃ act r u, Act (putsW l W) sz act r u ∧ P r) (hcut : ∀ ps, ∃ act r u, Act (cutW size l (toP W) ps) sz act r u ∧ P r) : Left_ ⟨size, l, toP W, 0⟩ P := by
  have hv := valid_mkp (lf := 0) hz h1 h2 (by omega) hn2 hs hW (by omega)
  refine ⟨hv, hn, ?_, fun ps => ?_⟩
  · obtain ⟨act, r, u, ha, hp⟩ := hnow
    refine ⟨act, r, u, ?_, hp⟩
    have e1 : chkJ ⟨size, l, toP W, 0⟩ = 0 := by unfold chkJ; rw [if_neg (fun e => e (chk_zero.2 hv)), if_neg (by simp only; omega)]
    have e2 : cur ⟨size, l, toP W, 0⟩ = putsW l W := rfl
    unfold openD
    rw [if_neg (fun e => e e1), e2, show (Dk.mk size l (toP W) 0).size.toNat = sz by simp only; omega, openL_act.2 ha]
  · obtain ⟨act, r, u, ha, hp⟩ := hcut ps
    rw [cutD_of hv]
    have hcl := cutW_len (size := size) (toP W) l ps
    refine ⟨act, r, u, good_mk hz h1 h2 (by simp only [hcl]; exact hn) (by simp only [hcl]; exact hn2) (cutW_siz hz h1 W l ps hs hW) (by omega) ha, hp, rfl, ?_⟩
    simp only [hcl]

/-! ### Append -/
theorem frS_head {l : List Txt} (h : l ≠ []) {sz : Nat} (hs : 1 ≤ sz) : frS l sz = hd0 (frS l sz) :: (frS l sz).drop 1 := by
  have := frS_pos h hs
  cases hS : frS l sz with
  | nil => rw [hS] at this; simp at this
  | cons a t => rfl
theorem frS_hd_size {l : List Txt} (h : l ≠ []) {sz : Nat} (hs : 1 ≤ sz) : (hd0 (frS l sz)).size = sz := by
  have e := frS_head h hs
  exact frS_siz l (hd0 (frS l sz)) (by rw [e]; simp [hd0])
theorem getD_of {l : List ByteArray} {i : Nat} {s : ByteArray} (h : l[i]? = some s) : l.getD i ⟨#[]⟩ = s := by rw [List.getD, h]; rfl
theorem getD_eq {l l' : List ByteArray} {i : Nat} (h : l'[i]? = l[i]?) : l'.getD i ⟨#[]⟩ = l.getD i ⟨#[]⟩ := by rw [List.getD, List.getD, h]
/-- Append's first writes, and the sectors behind both phases. -/
structure AppF (secs : List ByteArray) (sz act : Nat) (r : List Txt) (u : Nat) (l : List Txt) (W : List Wop) (w : Wop) : Prop where
  ok : ∀ x ∈ W, x.1 < secs.length ∧ x.2.size = sz
  okw : w.1 < secs.length ∧ w.2.size = sz
  part : ∀ V, (∃ k, V = W.take k) → Act (putsW secs V) sz act r u ∧ ∀ size : Int, size = sz → ∀ ps, Act (cutW size secs (toP V) ps) sz act r u
  fin : Act (putsW (putsW secs W) [w]) sz act (r ++ l) (u + (frS l sz).length)
  torn : ∀ size : Int, size = sz → ∀ ps, cutW size (putsW secs W) (toP [w]) ps = putsW secs W ∨ cutW size (putsW secs W) (toP [w]) ps = putsW (putsW secs W) [w]
theorem app_facts {secs : List ByteArray} {sz act : Nat} {r : List Txt} {u : Nat} {l : List Txt} (hs : 1 ≤ sz) (hn : 3 ≤ secs.length) (hS : Siz sz secs) (ha : Act secs sz act r u) (hne : l ≠ []) (hok : OkL l) (hroom : (frS l sz).length ≤ halfN secs.length - u) :
    AppF secs sz act r u l (appW secs.length sz act u l) (firstS secs.length act + u, hd0 (frS l sz)) := by
  have hf := first_bd hn ha.a
  have hL : ((secs.drop (firstS secs.length act)).take (halfN secs.length)).length = halfN secs.length := by rw [List.length_take, List.length_drop]; omega
  obtain ⟨hue, hz0⟩ := area_end hs ((hS.drop _).take _) hL ha.r
  have hpos := frS_pos hne hs
  have hhd := frS_head hne hs
  have hhs := frS_hd_size hne hs
  have hzero : byte0 (secs.getD (firstS secs.length act + u) ⟨#[]⟩) = 0 := by
    have := hz0 (by omega)
    rw [List.getD, List.getElem?_take, if_pos (by omega), List.getElem?_drop] at this
    exact this
  obtain ⟨S', hS'⟩ : ∃ S', S' = unflag (hd0 (frS l sz)) :: (frS l sz).drop 1 := ⟨_, rfl⟩
  obtain ⟨F, hF⟩ : ∃ F, F = fillS (halfN secs.length - u) S' sz := ⟨_, rfl⟩
  have hS'l : S'.length = (frS l sz).length := by rw [hS', List.length_cons, List.length_drop]; omega
  have hS's : Siz sz S' := fun s h => by
    rw [hS'] at h
    rcases List.mem_cons.1 h with rfl | h
    · rw [unflag_size (by rw [hhs]; exact hs), hhs]
    · exact frS_siz l s (List.mem_of_mem_drop h)
  have hFl : F.length ≤ halfN secs.length - u := by rw [hF]; exact fillS_len (by omega)
  have hFs : Siz sz F := by rw [hF]; exact fillS_siz hS's
  have hFh : ∃ F', F = unflag (hd0 (frS l sz)) :: F' := by
    rw [hF, hS']
    unfold fillS
    split
    · exact ⟨_, rfl⟩
    · exact ⟨_, rfl⟩
  obtain ⟨F', hF'⟩ := hFh
  have hW : appW secs.length sz act u l = wrO (firstS secs.length act + u) F := by
    unfold appW
    rw [← hS', hF, show firstS secs.length act + halfN secs.length = (firstS secs.length act + u) + (halfN secs.length - u) by omega, fillO_eq]
  rw [hW]
  have hWm := wrO_mem F (firstS secs.length act + u)
  have hWok : ∀ x ∈ wrO (firstS secs.length act + u) F, x.1 < secs.length ∧ x.2.size = sz := fun x hx => by
    obtain ⟨h1, h2, h3⟩ := hWm x hx
    exact ⟨by omega, hFs _ h3⟩
  have hWz : ∀ x ∈ wrO (firstS secs.length act + u) F, x.1 = firstS secs.length act + u → byte0 x.2 = 0 := fun x hx e => by
    rw [hF'] at hx
    rw [wrO_head x hx e]
    exact unflag_byte _
  have hd1 : putsW secs (wrO (firstS secs.length act + u) F) = secs.take (firstS secs.length act + u) ++ F ++ secs.drop (firstS secs.length act + u + F.length) := putsW_wrO F _ secs (by omega)
  have hd1a : (putsW secs (wrO (firstS secs.length act + u) F))[firstS secs.length act + u]? = some (unflag (hd0 (frS l sz))) := by
    rw [hd1, hF', List.append_assoc, List.getElem?_append_right (by rw [List.length_take]; omega), List.length_take, show firstS secs.length act + u - min (firstS secs.length act + u) secs.length = 0 by omega]
    rfl
  have hsiz1 : Siz sz (putsW secs (wrO (firstS secs.length act + u) F)) := putsW_siz _ _ hS fun x hx => (hWok x hx).2
  have hlen1 : (putsW secs (wrO (firstS secs.length act + u) F)).length = secs.length := putsW_len _ _
  have hset : putsW (putsW secs (wrO (firstS secs.length act + u) F)) [(firstS secs.length act + u, hd0 (frS l sz))] = (putsW secs (wrO (firstS secs.length act + u) F)).set (firstS secs.length act + u) (hd0 (frS l sz)) := by
    rw [putsW_cons]; rfl
  refine ⟨hWok, ⟨by simp only; omega, hhs⟩, ?_, ?_, ?_⟩
  · rintro V ⟨k, rfl⟩
    have hsub : ∀ x ∈ (wrO (firstS secs.length act + u) F).take k, x ∈ wrO (firstS secs.length act + u) F := fun x hx => List.mem_of_mem_take hx
    constructor
    · refine act_keep hs hn ha (putsW_len _ _) hS (putsW_siz _ _ hS fun x hx => (hWok x (hsub x hx)).2) ?_ ?_ ?_
      · rw [getD_eq (putsW_out _ _ 0 fun x hx => by have := (hWm x (hsub x hx)).1; omega)]
      · intro i h1 h2
        exact putsW_out _ _ i fun x hx => by have := (hWm x (hsub x hx)).1; omega
      · intro hlt
        exact putsW_zero _ _ (by omega) hzero fun x hx => hWz x (hsub x hx)
    · intro size hz ps
      refine act_keep hs hn ha (cutW_len _ _ _) hS (cutW_siz hz hs _ _ ps hS fun x hx => hWok x (hsub x hx)) ?_ ?_ ?_
      · rw [getD_eq (cutW_out _ _ ps 0 fun x hx => by have := (hWm x (hsub x hx)).1; omega)]
      · intro i h1 h2
        exact cutW_out _ _ ps i fun x hx => by have := (hWm x (hsub x hx)).1; omega
      · intro hlt
        exact cutW_zero hz hs _ _ ps hS (fun x hx => hWok x (hsub x hx)) (by omega) hzero fun x hx => hWz x (hsub x hx)
  · rw [hset]
    have hl2 : ((putsW secs (wrO (firstS secs.length act + u) F)).set (firstS secs.length act + u) (hd0 (frS l sz))).length = secs.length := by rw [List.length_set, hlen1]
    have hsiz2 : Siz sz ((putsW secs (wrO (firstS secs.length act + u) F)).set (firstS secs.length act + u) (hd0 (frS l sz))) := fun s h => by
      rcases List.mem_or_eq_of_mem_set h with h1 | h1
      · exact hsiz1 s h1
      · rw [h1]; exact hhs
    refine ⟨ha.a, ?_, ?_⟩
    · rw [getD_eq (l := secs) (i := 0)]
      · exact ha.b
      · rw [List.getElem?_set_ne (by omega)]
        exact putsW_out _ _ 0 fun x hx => by have := (hWm x hx).1; omega
    · rw [hl2]
      have hLl : ((((putsW secs (wrO (firstS secs.length act + u) F)).set (firstS secs.length act + u) (hd0 (frS l sz))).drop (firstS secs.length act)).take (halfN secs.length)).length = halfN secs.length := by rw [List.length_take, List.length_drop, hl2]; omega
      -- the sectors from 'used' on
      have htail : ∃ T, (((((putsW secs (wrO (firstS secs.length act + u) F)).set (firstS secs.length act + u) (hd0 (frS l sz))).drop (firstS secs.length act)).take (halfN secs.length)).drop u = frS l sz ++ T) ∧ ∀ s t, T = s :: t → byte0 s = 0 := by
        have e1 : (putsW secs (wrO (firstS secs.length act + u) F)).set (firstS secs.length act + u) (hd0 (frS l sz)) = secs.take (firstS secs.length act + u) ++ (hd0 (frS l sz) :: F') ++ secs.drop (firstS secs.length act + u + F.length) := by
          rw [hd1, hF', List.append_assoc, List.set_append_right _ _ (by rw [List.length_take]; omega), List.length_take, show firstS secs.length act + u - min (firstS secs.length act + u) secs.length = 0 by omega]
          simp
        have e2 : hd0 (frS l sz) :: F' = frS l sz ++ (if S'.length < halfN secs.length - u then [zeroS sz] else []) := by
          have : F' = (frS l sz).drop 1 ++ (if S'.length < halfN secs.length - u then [zeroS sz] else []) := by
            have h1 := hF
            rw [hF', hS'] at h1
            unfold fillS at h1
            rw [← hS'] at h1
            split at h1
            · rename_i hc
              rw [if_pos hc]
              rw [hS'] at h1
              exact (List.cons.inj h1).2
            · rename_i hc
              rw [if_neg hc, List.append_nil]
              rw [hS'] at h1
              exact (List.cons.inj h1).2
          rw [this, ← List.cons_append, ← hhd]
        rw [List.drop_take, List.drop_drop, e1, e2, List.append_assoc, List.drop_append_of_le_length (by rw [List.length_take]; omega), List.drop_eq_nil_of_le (by rw [List.length_take]; omega), List.nil_append, List.append_assoc, List.take_append, List.take_of_length_le hroom]
        refine ⟨_, rfl, fun s t hT => ?_⟩
        split at hT
        · rename_i hc
          rw [hS'l] at hc
          obtain ⟨q, hq⟩ : ∃ q, halfN secs.length - u - (frS l sz).length = q + 1 := ⟨halfN secs.length - u - (frS l sz).length - 1, by omega⟩
          rw [hq] at hT
          simp only [List.singleton_append, List.cons_append, List.nil_append, List.take_succ_cons, List.cons.injEq] at hT
          rw [← hT.1]
          exact zeroS_byte sz
        · rename_i hc
          rw [hS'l] at hc
          rw [show halfN secs.length - u - (frS l sz).length = 0 by omega, List.take_zero] at hT
          cases hT
      obtain ⟨T, hT1, hT2⟩ := htail
      refine area_more hs ((hS.drop _).take _) ((hsiz2.drop _).take _) hL hLl ha.r ?_ hne hok hT1 hT2
      rw [List.take_take, List.take_take, Nat.min_eq_left hue]
      apply List.ext_getElem?
      intro i
      rw [List.getElem?_take, List.getElem?_take]
      split
      · rw [List.getElem?_drop, List.getElem?_drop, List.getElem?_set_ne (by omega)]
        exact putsW_out _ _ _ fun x hx => by have := (hWm x hx).1; omega
      · rfl
  · intro size hz ps
    rw [hset]
    show cutW size ((putsW secs (wrO (firstS secs.length act + u) F)).set (((firstS secs.length act + u : Nat) : Int)).toNat (torn (pick (ps.headD 0) size) (hd0 (frS l sz)) ((putsW secs (wrO (firstS secs.length act + u) F)).getD (((firstS secs.length act + u : Nat) : Int)).toNat ⟨#[]⟩))) [] ps.tail = _ ∨ cutW size ((putsW secs (wrO (firstS secs.length act + u) F)).set (((firstS secs.length act + u : Nat) : Int)).toNat (torn (pick (ps.headD 0) size) (hd0 (frS l sz)) ((putsW secs (wrO (firstS secs.length act + u) F)).getD (((firstS secs.length act + u : Nat) : Int)).toNat ⟨#[]⟩))) [] ps.tail = _
    have e0 : ∀ (L : List ByteArray) (q : List Int), cutW size L [] q = L := fun L q => by simp [cutW]
    have hp := pick_le' (ps.headD 0) (size := size) (by omega)
    rw [e0, Int.toNat_natCast, getD_of hd1a, torn_unflag (by rw [hhs]; exact hs) (by rw [hhs]; omega)]
    split
    · left
      apply List.ext_getElem?
      intro i
      by_cases e : firstS secs.length act + u = i
      · rw [← e, List.getElem?_set_self (by rw [hlen1]; omega), hd1a]
      · rw [List.getElem?_set_ne e]
    · right; rfl
end Go.Proofs.Ytockmhhiomdlkaa

namespace Go.Proofs.Ytockmhhiomdlkaa
set_option linter.unusedVariables false
set_option linter.unusedSimpArgs false

/-- The other area becomes the active one by the first byte of the sector 0. -/
theorem act_new {L l' : List ByteArray} {sz oth : Nat} {l : List Txt} {m : Nat} (ho : oth = 1 ∨ oth = 2) (hn : 3 ≤ L.length) (hl : l'.length = L.length) (h0 : byte0 (l'.getD 0 ⟨#[]⟩) = UInt8.ofNat oth) (hi : ∀ i, 1 ≤ i → l'[i]? = L[i]?)
    (ha : areaR (((L.drop (firstS L.length oth)).take (halfN L.length)).flatMap bts) sz (halfN L.length) = some (l, m)) : Act l' sz oth l m := by
  have hf := first_bd hn ho
  refine ⟨ho, ?_, ?_⟩
  · rw [h0]
    rcases ho with rfl | rfl <;> rfl
  · rw [hl]
    have e : (l'.drop (firstS L.length oth)).take (halfN L.length) = (L.drop (firstS L.length oth)).take (halfN L.length) := by
      apply List.ext_getElem?
      intro i
      rw [List.getElem?_take, List.getElem?_take]
      split
      · rw [List.getElem?_drop, List.getElem?_drop]
        exact hi _ (by omega)
      · rfl
    rw [e]
    exact ha
structure RewF (secs : List ByteArray) (sz act oth : Nat) (r : List Txt) (u : Nat) (l : List Txt) (W : List Wop) (w : Wop) : Prop where
  ok : ∀ x ∈ W, x.1 < secs.length ∧ x.2.size = sz
  okw : w.1 < secs.length ∧ w.2.size = sz
  part : ∀ V, (∃ k, V = W.take k) → Act (putsW secs V) sz act r u ∧ ∀ size : Int, size = sz → ∀ ps, Act (cutW size secs (toP V) ps) sz act r u
  fin : Act (putsW (putsW secs W) [w]) sz oth l (frS l sz).length
  torn : ∀ size : Int, size = sz → ∀ ps, Act (cutW size (putsW secs W) (toP [w]) ps) sz act r u ∨ Act (cutW size (putsW secs W) (toP [w]) ps) sz oth l (frS l sz).length
theorem rew_facts {secs : List ByteArray} {sz act : Nat} {r : List Txt} {u : Nat} {l : List Txt} (hs : 1 ≤ sz) (hn : 3 ≤ secs.length) (hS : Siz sz secs) (ha : Act secs sz act r u) (hok : OkL l) (hroom : (frS l sz).length ≤ halfN secs.length) :
    RewF secs sz act (3 - act) r u l (rewW secs.length sz act l) (0, markS sz (3 - act)) := by
  have hf := first_bd hn ha.a
  have hoth : 3 - act = 1 ∨ 3 - act = 2 := by have := ha.a; omega
  have hg := first_bd hn hoth
  have hh := half_bd hn
  have hne : act ≠ 3 - act := by have := ha.a; omega
  have hL : ((secs.drop (firstS secs.length act)).take (halfN secs.length)).length = halfN secs.length := by rw [List.length_take, List.length_drop]; omega
  obtain ⟨hue, hz0⟩ := area_end hs ((hS.drop _).take _) hL ha.r
  obtain ⟨F, hF⟩ : ∃ F, F = fillS (halfN secs.length) (frS l sz) sz := ⟨_, rfl⟩
  have hFl : F.length ≤ halfN secs.length := by rw [hF]; exact fillS_len hroom
  have hFs : Siz sz F := by rw [hF]; exact fillS_siz (frS_siz l)
  have hW : rewW secs.length sz act l = wrO (firstS secs.length (3 - act)) F := by
    unfold rewW
    rw [hF, fillO_eq]
  rw [hW]
  have hWm := wrO_mem F (firstS secs.length (3 - act))
  have hWok : ∀ x ∈ wrO (firstS secs.length (3 - act)) F, x.1 < secs.length ∧ x.2.size = sz := fun x hx => by
    obtain ⟨h1, h2, h3⟩ := hWm x hx
    exact ⟨by omega, hFs _ h3⟩
  -- the active area is elsewhere
  have hfar : ∀ i, firstS secs.length act ≤ i → i < firstS secs.length act + halfN secs.length → i < firstS secs.length (3 - act) ∨ firstS secs.length (3 - act) + halfN secs.length ≤ i := fun i h1 h2 => by
    rcases ha.a with e | e
    · have := hf.2.2.1 e
      have := hg.2.2.2 (by omega)
      omega
    · have := hf.2.2.2 e
      have := hg.2.2.1 (by omega)
      omega
  have hout : ∀ i, i = 0 ∨ (firstS secs.length act ≤ i ∧ i < firstS secs.length act + halfN secs.length) → ∀ x ∈ wrO (firstS secs.length (3 - act)) F, x.1 ≠ i := fun i hi x hx => by
    have h1 := hWm x hx
    rcases hi with rfl | ⟨h2, h3⟩
    · omega
    · have := hfar i h2 h3
      omega
  have hzero : u < halfN secs.length → byte0 (secs.getD (firstS secs.length act + u) ⟨#[]⟩) = 0 := fun hlt => by
    have := hz0 hlt
    rw [List.getD, List.getElem?_take, if_pos (by omega), List.getElem?_drop] at this
    exact this
  have hd1 : putsW secs (wrO (firstS secs.length (3 - act)) F) = secs.take (firstS secs.length (3 - act)) ++ F ++ secs.drop (firstS secs.length (3 - act) + F.length) := putsW_wrO F _ secs (by omega)
  have hsiz1 : Siz sz (putsW secs (wrO (firstS secs.length (3 - act)) F)) := putsW_siz _ _ hS fun x hx => (hWok x hx).2
  have hlen1 : (putsW secs (wrO (firstS secs.length (3 - act)) F)).length = secs.length := putsW_len _ _
  have keep : ∀ l', l'.length = secs.length → Siz sz l' → (∀ i, i = 0 ∨ (firstS secs.length act ≤ i ∧ i < firstS secs.length act + halfN secs.length) → l'[i]? = secs[i]?) → Act l' sz act r u := fun l' h1 h2 h3 =>
    act_keep hs hn ha h1 hS h2 (by rw [getD_eq (h3 0 (.inl rfl))]) (fun i i1 i2 => h3 i (.inr ⟨i1, by omega⟩)) (fun hlt => by rw [getD_eq (h3 _ (.inr ⟨by omega, by omega⟩))]; exact hzero hlt)
  have harea : areaR ((((putsW secs (wrO (firstS secs.length (3 - act)) F)).drop (firstS (putsW secs (wrO (firstS secs.length (3 - act)) F)).length (3 - act))).take (halfN (putsW secs (wrO (firstS secs.length (3 - act)) F)).length)).flatMap bts) sz (halfN (putsW secs (wrO (firstS secs.length (3 - act)) F)).length) = some (l, (frS l sz).length) := by
    rw [hlen1]
    have hLl : (((putsW secs (wrO (firstS secs.length (3 - act)) F)).drop (firstS secs.length (3 - act))).take (halfN secs.length)).length = halfN secs.length := by rw [List.length_take, List.length_drop, hlen1]; omega
    refine area_new hs ((hsiz1.drop _).take _) hLl hok (T := ((if (frS l sz).length < halfN secs.length then [zeroS sz] else []) ++ secs.drop (firstS secs.length (3 - act) + F.length)).take (halfN secs.length - (frS l sz).length)) ?_ fun s t hT => ?_
    · rw [hd1, List.append_assoc, List.drop_append_of_le_length (by rw [List.length_take]; omega), List.drop_eq_nil_of_le (by rw [List.length_take]; omega), List.nil_append]
      have e : F = frS l sz ++ (if (frS l sz).length < halfN secs.length then [zeroS sz] else []) := by
        rw [hF]
        unfold fillS
        split
        · rfl
        · rw [List.append_nil]
      conv => lhs; rw [e]
      rw [List.append_assoc, List.take_append, List.take_of_length_le hroom, ← e]
    · split at hT
      · rename_i hc
        obtain ⟨q, hq⟩ : ∃ q, halfN secs.length - (frS l sz).length = q + 1 := ⟨halfN secs.length - (frS l sz).length - 1, by omega⟩
        rw [hq] at hT
        simp only [List.singleton_append, List.cons_append, List.nil_append, List.take_succ_cons, List.cons.injEq] at hT
        rw [← hT.1]
        exact zeroS_byte sz
      · rename_i hc
        rw [show halfN secs.length - (frS l sz).length = 0 by omega, List.take_zero] at hT
        cases hT
  have hset : putsW (putsW secs (wrO (firstS secs.length (3 - act)) F)) [(0, markS sz (3 - act))] = (putsW secs (wrO (firstS secs.length (3 - act)) F)).set 0 (markS sz (3 - act)) := by
    rw [putsW_cons]; rfl
  refine ⟨hWok, ⟨by simp only; omega, markS_size hs _⟩, ?_, ?_, ?_⟩
  · rintro V ⟨k, rfl⟩
    have hsub : ∀ x ∈ (wrO (firstS secs.length (3 - act)) F).take k, x ∈ wrO (firstS secs.length (3 - act)) F := fun x hx => List.mem_of_mem_take hx
    refine ⟨keep _ (putsW_len _ _) (putsW_siz _ _ hS fun x hx => (hWok x (hsub x hx)).2) fun i hi => putsW_out _ _ i fun x hx => hout i hi x (hsub x hx), fun size hz ps => ?_⟩
    exact keep _ (cutW_len _ _ _) (cutW_siz hz hs _ _ ps hS fun x hx => hWok x (hsub x hx)) fun i hi => cutW_out _ _ ps i fun x hx => hout i hi x (hsub x hx)
  · rw [hset]
    refine act_new hoth (by rw [hlen1]; exact hn) (List.length_set ..) ?_ (fun i hi => by rw [List.getElem?_set_ne (by omega)]) harea
    rw [getD_of (List.getElem?_set_self (by rw [hlen1]; omega))]
    exact markS_byte sz _
  · intro size hz ps
    show Act (cutW size ((putsW secs (wrO (firstS secs.length (3 - act)) F)).set (((0 : Nat) : Int)).toNat (torn (pick (ps.headD 0) size) (markS sz (3 - act)) ((putsW secs (wrO (firstS secs.length (3 - act)) F)).getD (((0 : Nat) : Int)).toNat ⟨#[]⟩))) [] ps.tail) sz act r u ∨ Act (cutW size ((putsW secs (wrO (firstS secs.length (3 - act)) F)).set (((0 : Nat) : Int)).toNat (torn (pick (ps.headD 0) size) (markS sz (3 - act)) ((putsW secs (wrO (firstS secs.length (3 - act)) F)).getD (((0 : Nat) : Int)).toNat ⟨#[]⟩))) [] ps.tail) sz (3 - act) l (frS l sz).length
    have e0 : ∀ (L : List ByteArray) (q : List Int), cutW size L [] q = L := fun L q => by simp [cutW]
    have hp := pick_le' (ps.headD 0) (size := size) (by omega)
    have hold := getD_siz hsiz1 (i := 0) (by rw [hlen1]; omega)
    have hms := markS_size hs (3 - act)
    rw [e0, Int.toNat_natCast]
    have htb := torn_byte (k := pick (ps.headD 0) size) (x := markS sz (3 - act)) (y := (putsW secs (wrO (firstS secs.length (3 - act)) F)).getD 0 ⟨#[]⟩) (by rw [hms, hold]) (by rw [hms]; omega) (by rw [hms]; exact hs)
    have hts : (torn (pick (ps.headD 0) size) (markS sz (3 - act)) ((putsW secs (wrO (firstS secs.length (3 - act)) F)).getD 0 ⟨#[]⟩)).size = sz := by rw [torn_size (by rw [hms, hold]) (by rw [hold]; omega), hold]
    generalize torn (pick (ps.headD 0) size) (markS sz (3 - act)) ((putsW secs (wrO (firstS secs.length (3 - act)) F)).getD 0 ⟨#[]⟩) = t at *
    have hget0 : ((putsW secs (wrO (firstS secs.length (3 - act)) F)).set 0 t).getD 0 ⟨#[]⟩ = t := getD_of (List.getElem?_set_self (by rw [hlen1]; omega))
    split at htb
    · left
      refine act_keep hs hn ha (by rw [List.length_set, hlen1]) hS (fun s h => ?_) ?_ (fun i i1 i2 => ?_) fun hlt => ?_
      · rcases List.mem_or_eq_of_mem_set h with h1 | h1
        · exact hsiz1 s h1
        · rw [h1]; exact hts
      · rw [hget0, htb, getD_eq (putsW_out _ _ 0 (hout 0 (.inl rfl)))]
      · rw [List.getElem?_set_ne (by omega)]
        exact putsW_out _ _ i (hout i (.inr ⟨i1, by omega⟩))
      · rw [getD_eq (l := secs) (i := firstS secs.length act + u)]
        · exact hzero hlt
        · rw [List.getElem?_set_ne (by omega)]
          exact putsW_out _ _ _ (hout _ (.inr ⟨by omega, by omega⟩))
    · right
      exact act_new hoth (by rw [hlen1]; exact hn) (List.length_set ..) (by rw [hget0, htb]; exact markS_byte sz _) (fun i hi => by rw [List.getElem?_set_ne (by omega)]) harea

/-! ### how they end -/
/-- An answer of Append or Rewrite on a journal: the records r before, r' afterwards. -/
inductive Out (d : Dk) (r r' : List Txt) : Dk × Int → Prop
  | ok (d' : Dk) (act u : Nat) (h : Good d' act r' u) (hl : d.left = -1 → d'.left = -1) (hs : d'.size = d.size ∧ d'.secs.length = d.secs.length) : Out d r r' (d', 0)
  | lost (d' : Dk) (h : Left_ d' fun x => x = r ∨ x = r') (h0 : d'.left = 0) (hl : d.left ≠ -1) (hs : d'.size = d.size ∧ d'.secs.length = d.secs.length) : Out d r r' (d', 20)
  | bad (e : Int) (h : e = 4 ∨ e = 19) : Out d r r' (noDisk, e)
theorem run_out {d : Dk} {act : Nat} {r r' : List Txt} {u : Nat} (hg : Good d act r u) {W : List Wop} {w : Wop} {a2 u2 : Nat} (hok : ∀ x ∈ W, x.1 < d.secs.length ∧ x.2.size = d.size.toNat) (hokw : w.1 < d.secs.length ∧ w.2.size = d.size.toNat)
    (hpart : ∀ V, (∃ k, V = W.take k) → Act (putsW d.secs V) d.size.toNat act r u ∧ ∀ size : Int, size = d.size.toNat → ∀ ps, Act (cutW size d.secs (toP V) ps) d.size.toNat act r u)
    (hfin : Act (putsW (putsW d.secs W) [w]) d.size.toNat a2 r' u2)
    (htorn : ∀ size : Int, size = d.size.toNat → ∀ ps, Act (cutW size (putsW d.secs W) (toP [w]) ps) d.size.toNat act r u ∨ Act (cutW size (putsW d.secs W) (toP [w]) ps) d.size.toNat a2 r' u2) :
    Out d r r' (runD d (twoO W w)) := by
  obtain ⟨z1, z2, z3, z4⟩ := hg.sz
  have hl1 : (putsW d.secs W).length = d.secs.length := putsW_len _ _
  have hs1 : Siz d.size.toNat (putsW d.secs W) := putsW_siz _ _ z4 fun x hx => (hok x hx).2
  have hl2 : (putsW (putsW d.secs W) [w]).length = d.secs.length := by rw [putsW_len, hl1]
  have hs2 : Siz d.size.toNat (putsW (putsW d.secs W) [w]) := putsW_siz _ _ hs1 fun x hx => by
    have e : x = w := by simpa using hx
    rw [e]; exact hokw.2
  have hn2 := hg.v.n2
  have hmid := hpart W ⟨W.length, by rw [List.take_length]⟩
  rcases run_two hg.v hg.p (W := W) (w := w) (fun x hx => ⟨(hok x hx).1, by have := (hok x hx).2; omega⟩) ⟨hokw.1, by have := hokw.2; omega⟩ with ⟨lf, h1, h2, h3⟩ | ⟨h1, m, h2, h3⟩ | ⟨h1, p, h2, h3⟩
  · rw [h3]
    exact .ok _ a2 u2 (good_mk z1 z2 z3 (by rw [hl2]; exact hg.n) (by rw [hl2]; exact hn2) hs2 h1 hfin) h2 ⟨rfl, hl2⟩
  · rw [h3]
    refine .lost _ (left_mk z1 z2 z3 hg.n hn2 z4 (fun x hx => hok x (List.mem_of_mem_take hx)) ?_ fun ps => ?_) rfl h1 ⟨rfl, rfl⟩
    · exact ⟨act, r, u, (hpart _ ⟨m, rfl⟩).1, .inl rfl⟩
    · exact ⟨act, r, u, (hpart _ ⟨m, rfl⟩).2 _ z1 ps, .inl rfl⟩
  · rw [h3]
    have hl : (⟨d.size, putsW d.secs W, toP p, 0⟩ : Dk).size = d.size ∧ (⟨d.size, putsW d.secs W, toP p, 0⟩ : Dk).secs.length = d.secs.length := ⟨rfl, hl1⟩
    refine .lost _ (left_mk z1 z2 z3 (by rw [hl1]; exact hg.n) (by rw [hl1]; exact hn2) hs1 (fun x hx => ?_) ?_ fun ps => ?_) rfl h1 hl
    · rcases h2 with rfl | rfl
      · simp at hx
      · have e : x = w := by simpa using hx
        rw [e, hl1]; exact hokw
    · rcases h2 with rfl | rfl
      · exact ⟨act, r, u, hmid.1, .inl rfl⟩
      · exact ⟨a2, r', u2, hfin, .inr rfl⟩
    · rcases h2 with rfl | rfl
      · have e : cutW d.size (putsW d.secs W) (toP []) ps = putsW d.secs W := by simp [cutW, toP]
        rw [e]
        exact ⟨act, r, u, hmid.1, .inl rfl⟩
      · rcases htorn _ z1 ps with h | h
        · exact ⟨act, r, u, h, .inl rfl⟩
        · exact ⟨a2, r', u2, h, .inr rfl⟩
theorem app_out {d : Dk} {act : Nat} {r : List Txt} {u : Nat} (hg : Good d act r u) (l : List Txt) : Out d r (r ++ l) (appD d l) := by
  obtain ⟨z1, z2, z3, z4⟩ := hg.sz
  unfold appD
  rw [hg.open_, if_neg (by simp)]
  by_cases hok : OkL l
  · rw [if_neg (fun e => e hok)]
    by_cases hne : l = []
    · rw [if_pos hne, hne, List.append_nil]
      exact .ok d act u hg (fun h => h) ⟨rfl, rfl⟩
    · rw [if_neg hne]
      split
      · exact .bad _ (.inr rfl)
      · rename_i hroom
        simp only at hroom
        have hf := app_facts z2 hg.n z4 (openL_act.1 hg.o) hne hok (by omega)
        refine run_out hg hf.ok hf.okw hf.part hf.fin fun size hz ps => ?_
        rcases hf.torn size hz ps with e | e
        · left
          rw [e]
          exact (hf.part _ ⟨_, (List.take_length).symm⟩).1
        · right
          rw [e]
          exact hf.fin
  · rw [if_pos hok]
    exact .bad _ (.inl rfl)
theorem rew_out {d : Dk} {act : Nat} {r : List Txt} {u : Nat} (hg : Good d act r u) (l : List Txt) : Out d r l (rewD d l) := by
  obtain ⟨z1, z2, z3, z4⟩ := hg.sz
  unfold rewD
  rw [hg.open_, if_neg (by simp)]
  by_cases hok : OkL l
  · rw [if_neg (fun e => e hok)]
    split
    · exact .bad _ (.inr rfl)
    · rename_i hroom
      have hf := rew_facts z2 hg.n z4 (openL_act.1 hg.o) hok (by omega)
      exact run_out hg hf.ok hf.okw hf.part hf.fin hf.torn
  · rw [if_pos hok]
    exact .bad _ (.inl rfl)
end Go.Proofs.Ytockmhhiomdlkaa

namespace Go.Proofs.Ytockmhhiomdlkaa
set_option linter.unusedVariables false
set_option linter.unusedSimpArgs false

/-! ### a disk that has lost its power does nothing -/
theorem run_stuck {d : Dk} (hv : Valid d) (h0 : d.left = 0) {W : List Wop} (w : Wop) (hW : WOk d.secs.length d.size W) : runD d (twoO W w) = (d, 20) := by
  unfold twoO
  cases W with
  | nil =>
    simp only [List.map_nil, List.nil_append]
    rw [run_sync hv, if_pos h0]
  | cons x W =>
    have hw := hW x (by simp)
    have he := wrE_of hv hw
    rw [if_pos h0] at he
    have hd : wrD d x.1 x.2 = d := by unfold wrD; rw [he, if_neg (by decide), if_pos rfl]
    show (if (wrE d x.1 x.2) ≠ 0 then (wrD d x.1 x.2, wrE d x.1 x.2) else runD (wrD d x.1 x.2) (W.map some ++ _)) = _
    rw [he, if_pos (by decide), hd]
theorem opnD_some {d : Dk} (hv : Valid d) (hn : 3 ≤ d.secs.length) {x : Nat × List Txt × Nat} (h : openD d = (x, 0)) : openL (cur d) d.size.toNat = some x := by
  have h1 : chkJ d = 0 := by unfold chkJ; rw [if_neg (fun e => e (chk_zero.2 hv)), if_neg (by omega)]
  unfold openD at h
  rw [if_neg (fun e => e h1)] at h
  cases ho : openL (cur d) d.size.toNat with
  | none => rw [ho] at h; simp at h
  | some y => rw [ho] at h; simp only [Prod.mk.injEq, and_true] at h; rw [h]
theorem cur_siz {d : Dk} (hv : Valid d) : Siz d.size.toNat (cur d) := fun s hs => by
  have := foldl_putW_mem d.pend d.secs hv.ss (fun w hw => (hv.ws w hw).2.2) s hs
  omega
/-- A disk on which a journal can be opened. -/
structure Opn (d : Dk) (act : Nat) (r : List Txt) (u : Nat) : Prop where
  v : Valid d
  n : 3 ≤ d.secs.length
  o : openD d = ((act, r, u), 0)
theorem Opn.act {d : Dk} {act : Nat} {r : List Txt} {u : Nat} (h : Opn d act r u) : Act (cur d) d.size.toNat act r u := openL_act.1 (opnD_some h.v h.n h.o)
theorem Good.opn {d : Dk} {act : Nat} {r : List Txt} {u : Nat} (h : Good d act r u) : Opn d act r u := ⟨h.v, h.n, h.open_⟩
/-- Why Append refuses, 0 if it does not. -/
def appB (n sz u : Nat) (l : List Txt) : Int := if ¬ OkL l then 4 else if l = [] then 0 else if halfN n - u < (frS l sz).length then 19 else 0
def rewB (n sz : Nat) (l : List Txt) : Int := if ¬ OkL l then 4 else if halfN n < (frS l sz).length then 19 else 0
theorem appD_eq {d : Dk} {act : Nat} {r : List Txt} {u : Nat} (h : Opn d act r u) (l : List Txt) : appD d l = if appB d.secs.length d.size.toNat u l ≠ 0 then (noDisk, appB d.secs.length d.size.toNat u l) else if l = [] then (d, 0)
    else runD d (twoO (appW d.secs.length d.size.toNat act u l) (firstS d.secs.length act + u, hd0 (frS l d.size.toNat))) := by
  by_cases hok : OkL l
  · by_cases hne : l = []
    · have hb : appB d.secs.length d.size.toNat u l = 0 := by unfold appB; rw [if_neg (c := ¬ OkL l) (fun e => e hok), if_pos (c := l = []) hne]
      rw [hb, if_neg (c := (0 : Int) ≠ 0) (by decide), if_pos (c := l = []) hne]
      unfold appD
      rw [h.o, if_neg (by simp), if_neg (c := ¬ OkL l) (fun e => e hok), if_pos (c := l = []) hne]
    · by_cases hr : halfN d.secs.length - u < (frS l d.size.toNat).length
      · have hb : appB d.secs.length d.size.toNat u l = 19 := by unfold appB; rw [if_neg (c := ¬ OkL l) (fun e => e hok), if_neg (c := l = []) hne, if_pos hr]
        rw [hb, if_pos (c := (19 : Int) ≠ 0) (by decide)]
        unfold appD
        rw [h.o, if_neg (by simp), if_neg (c := ¬ OkL l) (fun e => e hok), if_neg (c := l = []) hne]
        simp only
        rw [if_pos hr]
      · have hb : appB d.secs.length d.size.toNat u l = 0 := by unfold appB; rw [if_neg (c := ¬ OkL l) (fun e => e hok), if_neg (c := l = []) hne, if_neg hr]
        rw [hb, if_neg (c := (0 : Int) ≠ 0) (by decide), if_neg (c := l = []) hne]
        unfold appD
        rw [h.o, if_neg (by simp), if_neg (c := ¬ OkL l) (fun e => e hok), if_neg (c := l = []) hne]
        simp only
        rw [if_neg hr]
  · have hb : appB d.secs.length d.size.toNat u l = 4 := by unfold appB; rw [if_pos (c := ¬ OkL l) hok]
    rw [hb, if_pos (c := (4 : Int) ≠ 0) (by decide)]
    unfold appD
    rw [h.o, if_neg (by simp), if_pos (c := ¬ OkL l) hok]
theorem rewD_eq {d : Dk} {act : Nat} {r : List Txt} {u : Nat} (h : Opn d act r u) (l : List Txt) : rewD d l = if rewB d.secs.length d.size.toNat l ≠ 0 then (noDisk, rewB d.secs.length d.size.toNat l)
    else runD d (twoO (rewW d.secs.length d.size.toNat act l) (0, markS d.size.toNat (3 - act))) := by
  by_cases hok : OkL l
  · by_cases hr : halfN d.secs.length < (frS l d.size.toNat).length
    · have hb : rewB d.secs.length d.size.toNat l = 19 := by unfold rewB; rw [if_neg (c := ¬ OkL l) (fun e => e hok), if_pos hr]
      rw [hb, if_pos (c := (19 : Int) ≠ 0) (by decide)]
      unfold rewD
      rw [h.o, if_neg (by simp), if_neg (c := ¬ OkL l) (fun e => e hok), if_pos hr]
    · have hb : rewB d.secs.length d.size.toNat l = 0 := by unfold rewB; rw [if_neg (c := ¬ OkL l) (fun e => e hok), if_neg hr]
      rw [hb, if_neg (c := (0 : Int) ≠ 0) (by decide)]
      unfold rewD
      rw [h.o, if_neg (by simp), if_neg (c := ¬ OkL l) (fun e => e hok), if_neg hr]
  · have hb : rewB d.secs.length d.size.toNat l = 4 := by unfold rewB; rw [if_pos (c := ¬ OkL l) hok]
    rw [hb, if_pos (c := (4 : Int) ≠ 0) (by decide)]
    unfold rewD
    rw [h.o, if_neg (by simp), if_pos (c := ¬ OkL l) hok]
theorem appB_bad {n sz u : Nat} {l : List Txt} (h : appB n sz u l ≠ 0) : appB n sz u l = 4 ∨ appB n sz u l = 19 := by
  unfold appB at h ⊢
  split
  · exact .inl rfl
  · rename_i h1
    rw [if_neg h1] at h
    split
    · rename_i h2; rw [if_pos h2] at h; exact absurd rfl h
    · rename_i h2
      rw [if_neg h2] at h
      split
      · exact .inr rfl
      · rename_i h3; rw [if_neg h3] at h; exact absurd rfl h
theorem rewB_bad {n sz : Nat} {l : List Txt} (h : rewB n sz l ≠ 0) : rewB n sz l = 4 ∨ rewB n sz l = 19 := by
  unfold rewB at h ⊢
  split
  · exact .inl rfl
  · rename_i h1
    rw [if_neg h1] at h
    split
    · exact .inr rfl
    · rename_i h3; rw [if_neg h3] at h; exact absurd rfl h
theorem appB_zero {n sz u : Nat} {l : List Txt} (h : appB n sz u l = 0) : OkL l ∧ (l ≠ [] → (frS l sz).length ≤ halfN n - u) := by
  unfold appB at h
  by_cases h1 : OkL l
  · rw [if_neg (fun e => e h1)] at h
    refine ⟨h1, fun h2 => ?_⟩
    rw [if_neg h2] at h
    by_cases h3 : halfN n - u < (frS l sz).length
    · rw [if_pos h3] at h; exact absurd h (by decide)
    · omega
  · rw [if_pos h1] at h; exact absurd h (by decide)
theorem rewB_zero {n sz : Nat} {l : List Txt} (h : rewB n sz l = 0) : OkL l ∧ (frS l sz).length ≤ halfN n := by
  unfold rewB at h
  by_cases h1 : OkL l
  · rw [if_neg (fun e => e h1)] at h
    refine ⟨h1, ?_⟩
    by_cases h3 : halfN n < (frS l sz).length
    · rw [if_pos h3] at h; exact absurd h (by decide)
    · omega
  · rw [if_pos h1] at h; exact absurd h (by decide)
theorem app_wok {d : Dk} {act : Nat} {r : List Txt} {u : Nat} (h : Opn d act r u) {l : List Txt} (hne : l ≠ []) (hb : appB d.secs.length d.size.toNat u l = 0) : WOk d.secs.length d.size (appW d.secs.length d.size.toNat act u l) := by
  have h1 := h.v.s1
  have hf := app_facts (secs := cur d) (by omega) (by rw [cur_length]; exact h.n) (cur_siz h.v) h.act hne (appB_zero hb).1 (by rw [cur_length]; exact (appB_zero hb).2 hne)
  have h2 := hf.ok
  rw [cur_length] at h2
  exact fun w hw => ⟨(h2 w hw).1, by have := (h2 w hw).2; omega⟩
theorem rew_wok {d : Dk} {act : Nat} {r : List Txt} {u : Nat} (h : Opn d act r u) {l : List Txt} (hb : rewB d.secs.length d.size.toNat l = 0) : WOk d.secs.length d.size (rewW d.secs.length d.size.toNat act l) := by
  have h1 := h.v.s1
  have hf := rew_facts (secs := cur d) (by omega) (by rw [cur_length]; exact h.n) (cur_siz h.v) h.act (rewB_zero hb).1 (by rw [cur_length]; exact (rewB_zero hb).2)
  have h2 := hf.ok
  rw [cur_length] at h2
  exact fun w hw => ⟨(h2 w hw).1, by have := (h2 w hw).2; omega⟩
theorem app_stuck {d : Dk} {act : Nat} {r : List Txt} {u : Nat} (h : Opn d act r u) (h0 : d.left = 0) (l : List Txt) : appD d l = if appB d.secs.length d.size.toNat u l ≠ 0 then (noDisk, appB d.secs.length d.size.toNat u l) else if l = [] then (d, 0) else (d, 20) := by
  rw [appD_eq h]
  by_cases hb : appB d.secs.length d.size.toNat u l = 0
  · by_cases hne : l = []
    · simp only [hb, ne_eq, not_true_eq_false, if_false, hne, if_true]
    · simp only [hb, ne_eq, not_true_eq_false, if_false, hne]
      exact run_stuck h.v h0 _ (app_wok h hne hb)
  · rw [if_pos hb, if_pos hb]
theorem rew_stuck {d : Dk} {act : Nat} {r : List Txt} {u : Nat} (h : Opn d act r u) (h0 : d.left = 0) (l : List Txt) : rewD d l = if rewB d.secs.length d.size.toNat l ≠ 0 then (noDisk, rewB d.secs.length d.size.toNat l) else (d, 20) := by
  rw [rewD_eq h]
  by_cases hb : rewB d.secs.length d.size.toNat l = 0
  · rw [if_neg (fun e => e hb), if_neg (fun e => e hb), run_stuck h.v h0 _ (rew_wok h hb)]
  · rw [if_pos hb, if_pos hb]

/-! ### pending writes are few -/
theorem wrO_length : ∀ (S : List ByteArray) (a : Nat), (wrO a S).length = S.length
  | [], _ => rfl
  | s :: S, a => by show (wrO (a + 1) S).length + 1 = S.length + 1; rw [wrO_length S]
theorem fillO_len (a : Nat) (S : List ByteArray) (e sz : Nat) : (fillO a S e sz).length ≤ S.length + 1 := by
  unfold fillO
  rw [List.length_append, wrO_length]
  split <;> simp
theorem run_pend {d : Dk} (hv : Valid d) (hp : d.pend = []) {W : List Wop} {w : Wop} (hW : WOk d.secs.length d.size W) (hw : w.1 < d.secs.length ∧ (w.2.size : Int) = d.size) : (runD d (twoO W w)).1.pend.length ≤ W.length + 1 := by
  rcases run_two hv hp hW hw with ⟨lf, h1, h2, h3⟩ | ⟨h1, m, h2, h3⟩ | ⟨h1, p, h2, h3⟩
  · rw [h3]; simp
  · rw [h3]; simp [toP]; omega
  · rw [h3]; rcases h2 with rfl | rfl <;> simp [toP]
theorem half_le {d : Dk} (hv : Valid d) : halfN d.secs.length ≤ 500 := by have := hv.n2; unfold halfN; omega
theorem app_pend {d : Dk} {act : Nat} {r : List Txt} {u : Nat} (h : Good d act r u) (l : List Txt) : (appD d l).1.pend.length ≤ 1001 := by
  rw [appD_eq h.opn]
  by_cases hb : appB d.secs.length d.size.toNat u l = 0
  · rw [if_neg (fun e => e hb)]
    by_cases hne : l = []
    · rw [if_pos hne, h.p]; simp
    · rw [if_neg hne]
      obtain ⟨z1, z2, z3, z4⟩ := h.sz
      have hf := app_facts z2 h.n z4 (openL_act.1 h.o) hne (appB_zero hb).1 ((appB_zero hb).2 hne)
      have h1 := run_pend h.v h.p (W := appW d.secs.length d.size.toNat act u l) (w := (firstS d.secs.length act + u, hd0 (frS l d.size.toNat))) (app_wok h.opn hne hb) ⟨hf.okw.1, by have := hf.okw.2; omega⟩
      have h2 := fillO_len (firstS d.secs.length act + u) (unflag (hd0 (frS l d.size.toNat)) :: (frS l d.size.toNat).drop 1) (firstS d.secs.length act + halfN d.secs.length) d.size.toNat
      have h3 := (appB_zero hb).2 hne
      have h4 := half_le h.v
      have h5 := frS_pos hne (sz := d.size.toNat) z2
      rw [List.length_cons, List.length_drop] at h2
      have h6 : (appW d.secs.length d.size.toNat act u l).length ≤ (frS l d.size.toNat).length + 1 := by unfold appW; omega
      omega
  · rw [if_pos hb]; simp [noDisk]
theorem rew_pend {d : Dk} {act : Nat} {r : List Txt} {u : Nat} (h : Good d act r u) (l : List Txt) : (rewD d l).1.pend.length ≤ 1001 := by
  rw [rewD_eq h.opn]
  by_cases hb : rewB d.secs.length d.size.toNat l = 0
  · rw [if_neg (fun e => e hb)]
    obtain ⟨z1, z2, z3, z4⟩ := h.sz
    have hf := rew_facts z2 h.n z4 (openL_act.1 h.o) (rewB_zero hb).1 (rewB_zero hb).2
    have h1 := run_pend h.v h.p (W := rewW d.secs.length d.size.toNat act l) (w := (0, markS d.size.toNat (3 - act))) (rew_wok h.opn hb) ⟨hf.okw.1, by have := hf.okw.2; omega⟩
    have h2 := fillO_len (firstS d.secs.length (3 - act)) (frS l d.size.toNat) (firstS d.secs.length (3 - act) + halfN d.secs.length) d.size.toNat
    have h3 := (rewB_zero hb).2
    have h4 := half_le h.v
    have h6 : (rewW d.secs.length d.size.toNat act l).length ≤ (frS l d.size.toNat).length + 1 := by unfold rewW; omega
    omega
  · rw [if_pos hb]; simp [noDisk]

/-! ### acts -/
structure ActJ where
  kind : Int
  recs : List Txt
  left : Int
  ps : List Int
def actD (d : Dk) (a : ActJ) : Dk × Int :=
  if a.kind = 0 then appD d a.recs else if a.kind = 1 then rewD d a.recs
  else if a.kind = 2 then (if d.left = -1 ∧ 0 ≤ a.left then { d with left := a.left.tmod 12 } else d, 0)
  else if a.kind = 3 then (cutD d a.ps, 0) else (d, 0)
def doD (d : Dk) (a : ActJ) : Dk × Int := if (actD d a).2 ≠ 0 ∧ (actD d a).2 ≠ 20 then (d, (actD d a).2) else actD d a
/-- A disk behind acts: the records that are sure, and those that are in doubt. -/
inductive Jst (d : Dk) (s : List Txt) (un : Option (List Txt)) : Prop
  | good (act u : Nat) (h : Good d act s u) (e : un = none)
  | lost (x : List Txt) (e : un = some x) (h : Left_ d fun y => y = s ∨ y = x) (h0 : d.left = 0) (hb : d.pend.length ≤ 1001)
theorem Left_.opn {d : Dk} {P : List Txt → Prop} (h : Left_ d P) : ∃ act r u, Opn d act r u ∧ P r := by
  obtain ⟨act, r, u, h1, h2⟩ := h.now
  exact ⟨act, r, u, ⟨h.v, h.n, h1⟩, h2⟩
theorem Jst.valid {d : Dk} {s : List Txt} {un : Option (List Txt)} (h : Jst d s un) : Valid d ∧ 3 ≤ d.secs.length ∧ d.pend.length ≤ 1001 := by
  rcases h with ⟨act, u, h, e⟩ | ⟨x, e, h, h0, hb⟩
  · exact ⟨h.v, h.n, by rw [h.p]; simp⟩
  · exact ⟨h.v, h.n, hb⟩
theorem Jst.opn {d : Dk} {s : List Txt} {un : Option (List Txt)} (h : Jst d s un) : ∃ act r u, Opn d act r u ∧ (r = s ∨ un = some r) := by
  rcases h with ⟨act, u, h, e⟩ | ⟨x, e, h, h0, hb⟩
  · exact ⟨act, s, u, h.opn, .inl rfl⟩
  · obtain ⟨act, r, u, h1, h2⟩ := h.opn
    refine ⟨act, r, u, h1, ?_⟩
    rcases h2 with rfl | rfl
    · exact .inl rfl
    · exact .inr e
theorem good_nleft {d : Dk} {act : Nat} {r : List Txt} {u : Nat} (h : Good d act r u) (lf : Int) (hl : -1 ≤ lf) : Good { d with left := lf } act r u :=
  ⟨⟨h.v.s1, h.v.s2, h.v.n1, h.v.n2, h.v.ss, h.v.ws, hl⟩, h.n, h.p, h.o⟩
/-- What the story remembers behind an act. -/
def after (s : List Txt) (a : ActJ) : List Txt := if a.kind = 1 then a.recs else s ++ a.recs
def sureN (d : Dk) (s : List Txt) (un : Option (List Txt)) (a : ActJ) : List Txt :=
  if a.kind = 0 ∨ a.kind = 1 then (if (doD d a).2 = 0 then after s a else s)
  else if a.kind = 3 then (if un = some (recD (doD d a).1).1 then (recD (doD d a).1).1 else s) else s
def undN (d : Dk) (s : List Txt) (un : Option (List Txt)) (a : ActJ) : Option (List Txt) :=
  if a.kind = 0 ∨ a.kind = 1 then (if (doD d a).2 ≠ 0 ∧ (doD d a).2 = 20 ∧ d.left ≠ 0 then some (after s a) else un)
  else if a.kind = 3 then none else un
theorem Opn.rec_ {d : Dk} {act : Nat} {r : List Txt} {u : Nat} (h : Opn d act r u) : recD d = (r, 0) := by unfold recD; rw [h.o]
theorem do_noop {d : Dk} {a : ActJ} (h0 : a.kind ≠ 0) (h1 : a.kind ≠ 1) (h2 : a.kind ≠ 2) (h3 : a.kind ≠ 3) : doD d a = (d, 0) := by
  unfold doD actD
  rw [if_neg h0, if_neg h1, if_neg h2, if_neg h3, if_neg (by simp)]
/-- Append and Rewrite in one form: what they leave on a good disk. -/
theorem out_do {d : Dk} {act : Nat} {s r' : List Txt} {u : Nat} (h : Good d act s u) {x : Dk × Int} (ho : Out d s r' x) (hpn : x.1.pend.length ≤ 1001) (h0 : d.left = 0 → x.2 = 20 → x.1 = d) :
    let y := if x.2 ≠ 0 ∧ x.2 ≠ 20 then (d, x.2) else x
    Jst y.1 (if y.2 = 0 then r' else s) (if y.2 ≠ 0 ∧ y.2 = 20 ∧ d.left ≠ 0 then some r' else none) ∧ y.1.size = d.size ∧ y.1.secs.length = d.secs.length := by
  rcases ho with ⟨d', a2, u2, hg, hl, hs⟩ | ⟨d', hL, hl0, hl, hs⟩ | ⟨e, he⟩
  · exact ⟨.good a2 u2 hg rfl, hs⟩
  · refine ⟨?_, hs⟩
    simp only
    by_cases hz : d.left = 0
    · have e := h0 hz rfl
      simp only at e
      subst e
      simp [hz]
      exact .good act u h rfl
    · simp [hz]
      exact .lost r' rfl hL hl0 hpn
  · have hy : (if (noDisk, e).2 ≠ 0 ∧ (noDisk, e).2 ≠ 20 then (d, (noDisk, e).2) else (noDisk, e)) = (d, e) := by
      rw [if_pos (by rcases he with rfl | rfl <;> decide)]
    simp only at hy ⊢
    rw [hy]
    refine ⟨?_, rfl, rfl⟩
    rcases he with rfl | rfl <;> exact .good act u h rfl
theorem stuck_do {d : Dk} {b : Int} (hb : b = 0 ∨ b = 4 ∨ b = 19) {l : List Txt} : 
    (let x := if b ≠ 0 then (noDisk, b) else if l = [] then (d, 0) else (d, 20)
    let y := if x.2 ≠ 0 ∧ x.2 ≠ 20 then (d, x.2) else x
    y.1 = d ∧ (y.2 = 0 → l = [])) ∧
    (let x := if b ≠ 0 then (noDisk, b) else (d, 20)
    let y := if x.2 ≠ 0 ∧ x.2 ≠ 20 then (d, x.2) else x
    y.1 = d ∧ y.2 ≠ 0) := by
  rcases hb with rfl | rfl | rfl
  · by_cases hl : l = [] <;> simp [hl]
  · simp
  · simp
theorem appB_cases (n sz u : Nat) (l : List Txt) : appB n sz u l = 0 ∨ appB n sz u l = 4 ∨ appB n sz u l = 19 := by
  by_cases h : appB n sz u l = 0
  · exact .inl h
  · exact .inr (appB_bad h)
theorem rewB_cases (n sz : Nat) (l : List Txt) : rewB n sz l = 0 ∨ rewB n sz l = 4 ∨ rewB n sz l = 19 := by
  by_cases h : rewB n sz l = 0
  · exact .inl h
  · exact .inr (rewB_bad h)
/-- On a disk that has lost its power, acts other than a loss of power leave it. -/
theorem do_stuck {d : Dk} {act : Nat} {r : List Txt} {u : Nat} (h : Opn d act r u) (h0 : d.left = 0) {a : ActJ} (h3 : a.kind ≠ 3) : (doD d a).1 = d ∧ ((a.kind = 0 ∨ a.kind = 1) → (doD d a).2 = 0 → a.kind = 0 ∧ a.recs = []) := by
  by_cases k0 : a.kind = 0
  · unfold doD actD
    rw [if_pos k0, app_stuck h h0]
    have := (stuck_do (d := d) (l := a.recs) (appB_cases d.secs.length d.size.toNat u a.recs)).1
    exact ⟨this.1, fun _ e => ⟨k0, this.2 e⟩⟩
  · by_cases k1 : a.kind = 1
    · unfold doD actD
      rw [if_neg k0, if_pos k1, rew_stuck h h0]
      have := (stuck_do (d := d) (l := a.recs) (rewB_cases d.secs.length d.size.toNat a.recs)).2
      exact ⟨this.1, fun _ e => absurd e this.2⟩
    · by_cases k2 : a.kind = 2
      · unfold doD actD
        simp only [if_neg k0, if_neg k1, if_pos k2, if_neg (by omega : ¬ (d.left = -1 ∧ 0 ≤ a.left))]
        exact ⟨rfl, fun e => by omega⟩
      · rw [do_noop k0 k1 k2 h3]
        exact ⟨rfl, fun e => by omega⟩
theorem do_cut {d : Dk} {a : ActJ} (h3 : a.kind = 3) : doD d a = (cutD d a.ps, 0) := by
  have e : actD d a = (cutD d a.ps, 0) := by
    unfold actD
    rw [if_neg (c := a.kind = 0) (by omega), if_neg (c := a.kind = 1) (by omega), if_neg (c := a.kind = 2) (by omega), if_pos h3]
  unfold doD
  rw [e, if_neg (by simp)]
/-- Every act leads from such a disk to such a disk. -/
theorem Jst.step {d : Dk} {s : List Txt} {un : Option (List Txt)} (h : Jst d s un) (a : ActJ) :
    Jst (doD d a).1 (sureN d s un a) (undN d s un a) ∧ (doD d a).1.size = d.size ∧ (doD d a).1.secs.length = d.secs.length ∧ (a.kind = 3 → recD (doD d a).1 = (sureN d s un a, 0)) := by
  rcases h with ⟨act, u, h, e⟩ | ⟨x, e, h, h0, hb⟩
  · subst e
    by_cases k0 : a.kind = 0
    · have ha : after s a = s ++ a.recs := by unfold after; rw [if_neg (by omega)]
      have := out_do h (app_out h a.recs) (app_pend h a.recs) fun hz he => by
        rw [app_stuck h.opn hz] at he ⊢
        rcases appB_cases d.secs.length d.size.toNat u a.recs with e | e | e <;> rw [e] at he ⊢
        · by_cases hl : a.recs = [] <;> simp [hl]
        · simp at he
        · simp at he
      have hd : doD d a = if (appD d a.recs).2 ≠ 0 ∧ (appD d a.recs).2 ≠ 20 then (d, (appD d a.recs).2) else appD d a.recs := by unfold doD actD; rw [if_pos k0]
      simp only [← hd] at this
      refine ⟨?_, this.2.1, this.2.2, fun e => by omega⟩
      unfold sureN undN
      simp only [if_pos (show a.kind = 0 ∨ a.kind = 1 from .inl k0), ha]
      exact this.1
    · by_cases k1 : a.kind = 1
      · have ha : after s a = a.recs := by unfold after; rw [if_pos k1]
        have := out_do h (rew_out h a.recs) (rew_pend h a.recs) fun hz he => by
          rw [rew_stuck h.opn hz] at he ⊢
          rcases rewB_cases d.secs.length d.size.toNat a.recs with e | e | e <;> rw [e] at he ⊢
          · simp
          · simp at he
          · simp at he
        have hd : doD d a = if (rewD d a.recs).2 ≠ 0 ∧ (rewD d a.recs).2 ≠ 20 then (d, (rewD d a.recs).2) else rewD d a.recs := by unfold doD actD; rw [if_neg k0, if_pos k1]
        simp only [← hd] at this
        refine ⟨?_, this.2.1, this.2.2, fun e => by omega⟩
        unfold sureN undN
        simp only [if_pos (show a.kind = 0 ∨ a.kind = 1 from .inr k1), ha]
        exact this.1
      · have hs : a.kind ≠ 3 → sureN d s none a = s := fun h3 => by unfold sureN; rw [if_neg (by omega), if_neg h3]
        have hu : undN d s none a = none := by unfold undN; rw [if_neg (by omega)]; split <;> rfl
        rw [hu]
        by_cases k3 : a.kind = 3
        · rw [do_cut k3]
          have hl := h.left (P := fun y => y = s) rfl
          obtain ⟨a2, r2, u2, g1, g2, g3, g4⟩ := hl.cut a.ps
          subst g2
          have hs3 : sureN d r2 none a = r2 := by unfold sureN; rw [if_neg (by omega), if_pos k3, if_neg (by simp)]
          rw [hs3]
          exact ⟨.good a2 u2 g1 rfl, g3, g4, fun _ => g1.opn.rec_⟩
        · rw [hs k3]
          by_cases k2 : a.kind = 2
          · have hd : doD d a = (if d.left = -1 ∧ 0 ≤ a.left then { d with left := a.left.tmod 12 } else d, 0) := by
              unfold doD actD
              rw [if_neg k0, if_neg k1, if_pos k2, if_neg (by simp)]
            rw [hd]
            refine ⟨.good act u ?_ rfl, ?_, ?_, fun e => by omega⟩
            · simp only
              split
              · rename_i hc
                exact good_nleft h _ (by have := Int.tmod_nonneg 12 hc.2; omega)
              · exact h
            · simp only; split <;> rfl
            · simp only; split <;> rfl
          · rw [do_noop k0 k1 k2 k3]
            exact ⟨.good act u h rfl, rfl, rfl, fun e => by omega⟩
  · subst e
    by_cases k3 : a.kind = 3
    · obtain ⟨a2, r2, u2, g1, g2, g3, g4⟩ := h.cut a.ps
      have hu : undN d s (some x) a = none := by unfold undN; rw [if_neg (by omega), if_pos k3]
      have hr := g1.opn.rec_
      have hs3 : sureN d s (some x) a = r2 := by
        unfold sureN
        rw [if_neg (by omega), if_pos k3, do_cut k3]
        simp only
        rw [hr]
        rcases g2 with rfl | rfl
        · split <;> simp_all
        · simp
      rw [hu, hs3, do_cut k3]
      exact ⟨.good a2 u2 g1 rfl, g3, g4, fun _ => hr⟩
    · obtain ⟨act, r, u, ho, hr⟩ := h.opn
      have hst := do_stuck ho h0 k3
      rw [hst.1]
      refine ⟨.lost x ?_ ?_ h0 hb, rfl, rfl, fun e => by omega⟩
      · unfold undN
        by_cases hk : a.kind = 0 ∨ a.kind = 1
        · rw [if_pos hk, if_neg (fun e => e.2.2 h0)]
        · rw [if_neg hk, if_neg k3]
      · have : sureN d s (some x) a = s := by
          unfold sureN
          by_cases hk : a.kind = 0 ∨ a.kind = 1
          · rw [if_pos hk]
            by_cases hz : (doD d a).2 = 0
            · have := hst.2 hk hz
              rw [if_pos hz]
              unfold after
              rw [if_neg (by omega), this.2, List.append_nil]
            · rw [if_neg hz]
          · rw [if_neg hk, if_neg k3]
        rw [this]
        exact h
end Go.Proofs.Ytockmhhiomdlkaa

namespace Go.Proofs.Ytockmhhiomdlkaa
set_option linter.unusedVariables false
set_option linter.unusedSimpArgs false

def zD (n z : Nat) : Dk := ⟨z, List.replicate n (zeroS z), [], -1⟩
theorem zD_valid {n z : Nat} (hn : 3 ≤ n) (hn2 : n ≤ 1000) (hz : 1 ≤ z) (hz2 : z ≤ 512) : Valid (zD n z) :=
  ⟨by unfold zD; simp only; omega, by unfold zD; simp only; omega, by unfold zD; simp; omega, by unfold zD; simp; omega, fun s h => by
    unfold zD at h ⊢
    rw [(List.mem_replicate.1 h).2, zeroS_size], fun w h => by simp [zD] at h, by simp [zD]⟩
theorem fmt_good {n z : Nat} (hn : 3 ≤ n) (hn2 : n ≤ 1000) (hz : 1 ≤ z) (hz2 : z ≤ 512) : ∃ d, fmtD (zD n z) = (d, 0) ∧ Good d 1 [] 0 ∧ d.left = -1 ∧ d.size = z ∧ d.secs.length = n := by
  have hv := zD_valid hn hn2 hz hz2
  have hsl : (zD n z).secs.length = n := by simp [zD]
  have hc : chkJ (zD n z) = 0 := by unfold chkJ; rw [if_neg (fun e => e (chk_zero.2 hv)), if_neg (by omega)]
  have hh := half_bd hn
  have hsn : (zD n z).size.toNat = z := by simp [zD]
  have f1 := first_bd hn (.inl rfl)
  have f2 := first_bd hn (.inr rfl)
  have hf : fmtD (zD n z) = runD (zD n z) (twoO [(firstS n 1, zeroS z), (firstS n 2, zeroS z)] (0, markS z 1)) := by
    unfold fmtD
    rw [if_neg (fun e => e hc), hsl, hsn]
  have hW : WOk (zD n z).secs.length (zD n z).size [(firstS n 1, zeroS z), (firstS n 2, zeroS z)] := fun w hw => by
    rw [hsl]
    have e : w = (firstS n 1, zeroS z) ∨ w = (firstS n 2, zeroS z) := by simpa using hw
    rcases e with rfl | rfl <;> refine ⟨by simp only; omega, ?_⟩ <;> simp only <;> rw [zeroS_size] <;> rfl
  have hw : (0, markS z 1).1 < (zD n z).secs.length ∧ (((0, markS z 1) : Wop).2.size : Int) = (zD n z).size := ⟨by rw [hsl]; simp only; omega, by simp only; rw [markS_size hz]; rfl⟩
  have hp : putsW (zD n z).secs [(firstS n 1, zeroS z), (firstS n 2, zeroS z)] = List.replicate n (zeroS z) := by
    rw [putsW_cons, putsW_cons]
    show ((List.replicate n (zeroS z)).set _ _).set _ _ = _
    rw [List.set_replicate_self, List.set_replicate_self]
  have hp2 : putsW (List.replicate n (zeroS z)) [(0, markS z 1)] = (List.replicate n (zeroS z)).set 0 (markS z 1) := by rw [putsW_cons]; rfl
  rcases run_two hv rfl hW hw with ⟨lf, h1, h2, h3⟩ | ⟨h1, m, h2, h3⟩ | ⟨h1, p, h2, h3⟩
  · refine ⟨_, hf.trans h3, ?_, h2 rfl, rfl, ?_⟩
    · rw [hp, hp2]
      have hs : Siz z ((List.replicate n (zeroS z)).set 0 (markS z 1)) := fun s hs => by
        rcases List.mem_or_eq_of_mem_set hs with h | rfl
        · rw [(List.mem_replicate.1 h).2, zeroS_size]
        · exact markS_size hz 1
      refine good_mk rfl hz hz2 (by simp; omega) (by simp; omega) hs h1 ?_
      refine act_new (L := List.replicate n (zeroS z)) (.inl rfl) (by simp; omega) (by simp) ?_ (fun i hi => by rw [List.getElem?_set_ne (by omega)]) ?_
      · rw [getD_of (s := markS z 1) (by rw [List.getElem?_set_self (by simp; omega)]), markS_byte]
      · rw [List.length_replicate]
        have hl : (List.take (halfN n) (List.drop (firstS n 1) (List.replicate n (zeroS z)))) = List.replicate (halfN n) (zeroS z) := by
          rw [List.drop_replicate, List.take_replicate, Nat.min_eq_left (by omega)]
        rw [hl]
        have := area_new (sz := z) (H := halfN n) hz (L' := List.replicate (halfN n) (zeroS z)) (fun s h => by rw [(List.mem_replicate.1 h).2, zeroS_size]) (by simp) (l := []) ⟨by simp, fun x h => by simp at h⟩ (T := List.replicate (halfN n) (zeroS z)) rfl fun s t e => by
          have : s ∈ List.replicate (halfN n) (zeroS z) := by rw [e]; simp
          rw [(List.mem_replicate.1 this).2, zeroS_byte]
        exact this
    · simp only [putsW_len]
      exact hsl
  · exact absurd rfl h1
  · exact absurd rfl h1
def reachD (n z : Nat) (l : List ActJ) : Dk := l.foldl (fun d a => (doD d a).1) (fmtD (zD n z)).1
theorem fmt_jst {n z : Nat} (hn : 3 ≤ n) (hn2 : n ≤ 1000) (hz : 1 ≤ z) (hz2 : z ≤ 512) : (fmtD (zD n z)).2 = 0 ∧ Jst (fmtD (zD n z)).1 [] none ∧ (fmtD (zD n z)).1.size = z ∧ (fmtD (zD n z)).1.secs.length = n := by
  obtain ⟨d, h1, h2, h3, h4, h5⟩ := fmt_good hn hn2 hz hz2
  rw [h1]
  exact ⟨rfl, .good 1 0 h2 rfl, h4, h5⟩
theorem app_pend' {d : Dk} {s : List Txt} {un : Option (List Txt)} (h : Jst d s un) (l : List Txt) : (appD d l).1.pend.length ≤ 1001 := by
  rcases h with ⟨act, u, h, e⟩ | ⟨x, e, h, h0, hb⟩
  · exact app_pend h l
  · obtain ⟨act, r, u, ho, hr⟩ := h.opn
    rw [app_stuck ho h0]
    split
    · simp [noDisk]
    · split <;> exact hb
theorem rew_pend' {d : Dk} {s : List Txt} {un : Option (List Txt)} (h : Jst d s un) (l : List Txt) : (rewD d l).1.pend.length ≤ 1001 := by
  rcases h with ⟨act, u, h, e⟩ | ⟨x, e, h, h0, hb⟩
  · exact rew_pend h l
  · obtain ⟨act, r, u, ho, hr⟩ := h.opn
    rw [rew_stuck ho h0]
    split
    · simp [noDisk]
    · exact hb
/-- Contents. -/
theorem contents_ok {d : Dk} {s : List Txt} {un : Option (List Txt)} (h : Jst d s un) (l : List Txt) :
    ∃ r, recD d = (r, 0) ∧ ((appD d l).2 = 0 → recD (appD d l).1 = (r ++ l, 0)) ∧ ((rewD d l).2 = 0 → recD (rewD d l).1 = (l, 0)) := by
  rcases h with ⟨act, u, h, e⟩ | ⟨x, e, h, h0, hb⟩
  · refine ⟨s, h.opn.rec_, fun ha => ?_, fun ha => ?_⟩
    · have := app_out h l
      generalize appD d l = y at *
      rcases this with ⟨d', a2, u2, hg, hl, hs⟩ | ⟨d', hL, hl0, hl, hs⟩ | ⟨e, he⟩
      · exact hg.opn.rec_
      · exact absurd ha (by simp)
      · simp only at ha; omega
    · have := rew_out h l
      generalize rewD d l = y at *
      rcases this with ⟨d', a2, u2, hg, hl, hs⟩ | ⟨d', hL, hl0, hl, hs⟩ | ⟨e, he⟩
      · exact hg.opn.rec_
      · exact absurd ha (by simp)
      · simp only at ha; omega
  · obtain ⟨act, r, u, ho, hr⟩ := h.opn
    refine ⟨r, ho.rec_, fun ha => ?_, fun ha => ?_⟩
    · rw [app_stuck ho h0] at ha ⊢
      rcases appB_cases d.secs.length d.size.toNat u l with e | e | e <;> rw [e] at ha ⊢
      · by_cases hl : l = []
        · subst hl
          simp [ho.rec_]
        · simp [hl] at ha
      · simp at ha
      · simp at ha
    · rw [rew_stuck ho h0] at ha
      rcases rewB_cases d.secs.length d.size.toNat l with e | e | e <;> rw [e] at ha <;> simp at ha
theorem cut_nopend {d : Dk} (hv : Valid d) (hp : d.pend = []) (hn : 3 ≤ d.secs.length) (ps : List Int) : recD (cutD d ps) = recD d := by
  rw [cutD_of hv, hp]
  have e : cutW d.size d.secs [] ps = d.secs := by simp [cutW]
  rw [e]
  have h1 : chkJ d = 0 := by unfold chkJ; rw [if_neg (fun e => e (chk_zero.2 hv)), if_neg (by omega)]
  have hv2 : Valid ⟨d.size, d.secs, [], -1⟩ := ⟨hv.s1, hv.s2, hv.n1, hv.n2, hv.ss, fun w h => by simp at h, by simp⟩
  have h2 : chkJ ⟨d.size, d.secs, [], -1⟩ = 0 := by unfold chkJ; rw [if_neg (fun e => e (chk_zero.2 hv2)), if_neg (by simp only; omega)]
  have c1 : cur d = d.secs := by unfold cur; rw [hp]; rfl
  have c2 : cur ⟨d.size, d.secs, [], -1⟩ = d.secs := rfl
  unfold recD openD
  rw [if_neg (fun e => e h2), if_neg (fun e => e h1), c1, c2]
/-- Durable. -/
theorem durable_ok {d : Dk} {s : List Txt} {un : Option (List Txt)} (h : Jst d s un) (hp : d.pend = []) (a : ActJ) (hk : a.kind = 0 ∨ a.kind = 1) (he : (doD d a).2 = 0) (ps : List Int) :
    (doD d a).1.pend = [] ∧ ∃ x, recD (doD d a).1 = (x, 0) ∧ recD (cutD (doD d a).1 ps) = (x, 0) := by
  have hst := (h.step a).1
  obtain ⟨act, r, u, ho, -⟩ := hst.opn
  have key : (doD d a).1.pend = [] := by
    rcases h with ⟨act, u, h, e⟩ | ⟨x, e, h, h0, hb⟩
    · subst e
      have hun : undN d s none a = none := by unfold undN; rw [if_pos hk, if_neg (fun e => e.1 he)]
      rw [hun] at hst
      rcases hst with ⟨a2, u2, h2, -⟩ | ⟨x, e, -, -, -⟩
      · exact h2.p
      · simp at e
    · obtain ⟨act, r, u, ho, hr⟩ := h.opn
      rw [(do_stuck ho h0 (by omega)).1, hp]
  refine ⟨key, r, ho.rec_, ?_⟩
  rw [cut_nopend ho.v key ho.n, ho.rec_]
/-- Atomic. -/
theorem atomic_ok {d : Dk} {s : List Txt} {un : Option (List Txt)} (h : Jst d s un) (hl : d.left = -1) (a : ActJ) (hk : a.kind = 0 ∨ a.kind = 1) (lf : Int) (hlf : 0 ≤ lf) (ps : List Int) :
    ∃ x y z, recD d = (x, 0) ∧ recD (doD d a).1 = (y, 0) ∧ recD (cutD (doD { d with left := lf } a).1 ps) = (z, 0) ∧ ((doD { d with left := lf } a).2 = (doD d a).2 ∨ (doD { d with left := lf } a).2 = 20) ∧
      ((z = x ∧ (doD { d with left := lf } a).2 ≠ 0) ∨ z = y) := by
  rcases h with ⟨act, u, h, e⟩ | ⟨x, e, h, h0, hb⟩
  · have h' := good_nleft h lf (by omega)
    have key : ∀ (f : Dk → Dk × Int) (r' : List Txt) (B : Int), (∀ l, -1 ≤ l → doD { d with left := l } a = if (f { d with left := l }).2 ≠ 0 ∧ (f { d with left := l }).2 ≠ 20 then ({ d with left := l }, (f { d with left := l }).2) else f { d with left := l }) →
        (∀ l, -1 ≤ l → Out { d with left := l } s r' (f { d with left := l })) → (B = 0 ∨ B = 4 ∨ B = 19) → (∀ l, -1 ≤ l → B ≠ 0 → f { d with left := l } = (noDisk, B)) → (∀ l, -1 ≤ l → B = 0 → (f { d with left := l }).2 ≠ 4 ∧ (f { d with left := l }).2 ≠ 19) →
        ∃ x y z, recD d = (x, 0) ∧ recD (doD d a).1 = (y, 0) ∧ recD (cutD (doD { d with left := lf } a).1 ps) = (z, 0) ∧ ((doD { d with left := lf } a).2 = (doD d a).2 ∨ (doD { d with left := lf } a).2 = 20) ∧
      ((z = x ∧ (doD { d with left := lf } a).2 ≠ 0) ∨ z = y) := by
      intro f r' B hdo hout hB hbad hgood
      have hdd : ({ d with left := -1 } : Dk) = d := by rw [← hl]
      have d1 := hdo (-1) (by omega)
      have o1 := hout (-1) (by omega)
      have d2 := hdo lf (by omega)
      have o2 := hout lf (by omega)
      have b1 := hbad (-1) (by omega)
      have b2 := hbad lf (by omega)
      have g1 := hgood (-1) (by omega)
      have g2 := hgood lf (by omega)
      rw [hdd] at d1 o1 b1 g1
      have hcut : recD (cutD { d with left := lf } ps) = (s, 0) := by
        obtain ⟨a2, r2, u2, q1, q2, q3, q4⟩ := (h'.left (P := fun y => y = s) rfl).cut ps
        rw [q1.opn.rec_, q2]
      by_cases hb0 : B = 0
      · have g1 := g1 hb0
        have g2 := g2 hb0
        rw [d1, d2]
        generalize hy1 : f d = y1 at *
        generalize hy2 : f { d with left := lf } = y2 at *
        rcases o1 with ⟨d1', a1, u1, hg1, hl1, hs1⟩ | ⟨d1', hL1, hl01, hl1, hs1⟩ | ⟨e1, he1⟩
        · rw [if_neg (by simp)]
          rcases o2 with ⟨d2', a2, u2, hg2, hl2, hs2⟩ | ⟨d2', hL2, hl02, hl2, hs2⟩ | ⟨e2, he2⟩
          · rw [if_neg (by simp)]
            obtain ⟨a3, r3, u3, q1, q2, q3, q4⟩ := (hg2.left (P := fun y => y = r') rfl).cut ps
            exact ⟨s, r', r', h.opn.rec_, hg1.opn.rec_, by rw [q1.opn.rec_, q2], .inl rfl, .inr rfl⟩
          · rw [if_neg (by simp)]
            obtain ⟨a3, r3, u3, q1, q2, q3, q4⟩ := hL2.cut ps
            refine ⟨s, r', r3, h.opn.rec_, hg1.opn.rec_, q1.opn.rec_, .inr rfl, ?_⟩
            rcases q2 with rfl | rfl
            · exact .inl ⟨rfl, by simp⟩
            · exact .inr rfl
          · exact absurd he2 (by simp only at g2; omega)
        · exact absurd hl hl1
        · exact absurd he1 (by simp only at g1; omega)
      · rw [d1, d2, b1 hb0, b2 hb0]
        have hc : (noDisk, B).2 ≠ 0 ∧ (noDisk, B).2 ≠ 20 := ⟨hb0, by simp only; omega⟩
        rw [if_pos hc, if_pos hc]
        exact ⟨s, s, s, h.opn.rec_, h.opn.rec_, hcut, .inl rfl, .inr rfl⟩
    rcases hk with hk | hk
    · refine key (fun d => appD d a.recs) (s ++ a.recs) (appB d.secs.length d.size.toNat u a.recs) (fun l hl => ?_) (fun l hl => app_out (good_nleft h l hl) _) (appB_cases _ _ _ _) (fun l hl hb => ?_) (fun l hl hb => ?_)
      · unfold doD actD
        simp only [if_pos hk]
      · have := appD_eq (good_nleft h l hl).opn a.recs
        simp only at this ⊢
        rw [this, if_pos hb]
      · have := appD_eq (good_nleft h l hl).opn a.recs
        have ho := app_out (good_nleft h l hl) a.recs
        simp only at this ⊢
        rw [if_neg (fun e => e hb)] at this
        by_cases hne : a.recs = []
        · rw [if_pos hne] at this
          rw [this]
          simp
        · rw [if_neg hne] at this
          have hf := app_wok (good_nleft h l hl).opn hne hb
          have h1 := (good_nleft h l hl).sz
          have hf2 := app_facts h1.2.1 h.n h1.2.2.2 (openL_act.1 h.o) hne (appB_zero hb).1 ((appB_zero hb).2 hne)
          rcases run_two (good_nleft h l hl).v h.p hf ⟨hf2.okw.1, by have := hf2.okw.2; omega⟩ with ⟨_, _, _, e⟩ | ⟨_, _, _, e⟩ | ⟨_, _, _, e⟩ <;> (simp only at e; rw [this, e]; simp)
    · refine key (fun d => rewD d a.recs) a.recs (rewB d.secs.length d.size.toNat a.recs) (fun l hl => ?_) (fun l hl => rew_out (good_nleft h l hl) _) (rewB_cases _ _ _) (fun l hl hb => ?_) (fun l hl hb => ?_)
      · unfold doD actD
        simp only [if_neg (show ¬ a.kind = 0 by omega), if_pos hk]
      · have := rewD_eq (good_nleft h l hl).opn a.recs
        simp only at this ⊢
        rw [this, if_pos hb]
      · have := rewD_eq (good_nleft h l hl).opn a.recs
        simp only at this ⊢
        rw [if_neg (fun e => e hb)] at this
        have hf := rew_wok (good_nleft h l hl).opn hb
        have h1 := (good_nleft h l hl).sz
        have hf2 := rew_facts h1.2.1 h.n h1.2.2.2 (openL_act.1 h.o) (rewB_zero hb).1 (rewB_zero hb).2
        rcases run_two (good_nleft h l hl).v h.p hf ⟨hf2.okw.1, by have := hf2.okw.2; omega⟩ with ⟨_, _, _, e⟩ | ⟨_, _, _, e⟩ | ⟨_, _, _, e⟩ <;> (simp only at e; rw [this, e]; simp)
  · omega
/-- Space. -/
theorem space_ok {d : Dk} {s : List Txt} {un : Option (List Txt)} (h : Jst d s un) (hl : d.left = -1) (l : List Txt) (hne : l ≠ []) (hok : OkL l) :
    ∃ m, roomD d = (m, 0) ∧ (if m < need (frB l).length d.size.toNat then (appD d l).2 = 19 else (appD d l).2 = 0 ∧ roomD (appD d l).1 = (m - need (frB l).length d.size.toNat, 0)) := by
  rcases h with ⟨act, u, h, e⟩ | ⟨x, e, h, h0, hb⟩
  · have hr : ∀ {d : Dk} {act : Nat} {r : List Txt} {u : Nat}, Good d act r u → roomD d = (halfN d.secs.length - u, 0) := fun h => by unfold roomD; rw [h.open_, if_neg (by simp)]
    refine ⟨_, hr h, ?_⟩
    obtain ⟨z1, z2, z3, z4⟩ := h.sz
    rw [← frS_len hne]
    split
    · rename_i hc
      rw [appD_eq h.opn]
      have : appB d.secs.length d.size.toNat u l = 19 := by unfold appB; rw [if_neg (c := ¬ OkL l) (fun e => e hok), if_neg (c := l = []) hne, if_pos hc]
      rw [this]
      rfl
    · rename_i hc
      have hb : appB d.secs.length d.size.toNat u l = 0 := by unfold appB; rw [if_neg (c := ¬ OkL l) (fun e => e hok), if_neg (c := l = []) hne, if_neg hc]
      rw [appD_eq h.opn, if_neg (fun e => e hb), if_neg hne]
      have hf := app_facts z2 h.n z4 (openL_act.1 h.o) hne hok (by omega)
      have hw : firstS d.secs.length act + u < d.secs.length ∧ ((hd0 (frS l d.size.toNat)).size : Int) = d.size := ⟨hf.okw.1, by have := hf.okw.2; simp only at this; omega⟩
      rcases run_two h.v h.p (app_wok h.opn hne hb) (w := (firstS d.secs.length act + u, hd0 (frS l d.size.toNat))) hw with ⟨lf, h1, h2, e⟩ | ⟨h1, _⟩ | ⟨h1, _⟩
      · rw [e]
        refine ⟨rfl, ?_⟩
        have hl1 : (putsW (putsW d.secs (appW d.secs.length d.size.toNat act u l)) [(firstS d.secs.length act + u, hd0 (frS l d.size.toNat))]).length = d.secs.length := by rw [putsW_len, putsW_len]
        have hs : Siz d.size.toNat (putsW (putsW d.secs (appW d.secs.length d.size.toNat act u l)) [(firstS d.secs.length act + u, hd0 (frS l d.size.toNat))]) := putsW_siz _ _ (putsW_siz _ _ z4 fun x hx => (hf.ok x hx).2) fun x hx => by
          have e : x = (firstS d.secs.length act + u, hd0 (frS l d.size.toNat)) := by simpa using hx
          rw [e]; exact hf.okw.2
        have hg := good_mk z1 z2 z3 (by rw [hl1]; exact h.n) (by rw [hl1]; exact h.v.n2) hs h1 hf.fin
        have := hr hg
        simp only at this ⊢
        rw [this, hl1]
        congr 1
        omega
      · exact absurd hl h1
      · exact absurd hl h1
  · omega
end Go.Proofs.Ytockmhhiomdlkaa

namespace Go.Proofs.Ytockmhhiomdlkaa
set_option linter.unusedSimpArgs false
set_option linter.unusedVariables false
def exJ : Dk := (appD (fmtD (zD 9 4)).1 [[97, 98]]).1
theorem exJ0 : (fmtD (zD 9 4)).2 = 0 := by decide +kernel
theorem exJ1 : (appD (fmtD (zD 9 4)).1 [[97, 98]]).2 = 0 := by decide +kernel
theorem exJ2 : rdE exJ 1 = 0 ∧ rdB exJ 1 = ⟨#[1, 4, 1, 2]⟩ := by decide +kernel
theorem exJ3 : rdE exJ 2 = 0 ∧ rdB exJ 2 = ⟨#[97, 98, 0, 0]⟩ := by decide +kernel
theorem exJ4 : roomD exJ = (2, 0) := by decide +kernel
theorem exJ5 : (fmtD (zD 9 4)).1.pend.length = 0 ∧ exJ.pend.length = 0 := by decide +kernel
end Go.Proofs.Ytockmhhiomdlkaa
