/- Plain: numbers, texts and deltas read from bytes. -/
import Derived.Test.YtiioebpmfjipeaaAppP
import Derived.Test.YtiioebpmfjipeaaDeEnc
namespace Go.Proofs.Ytiioebpmfjipeaa
set_option linter.unusedVariables false
set_option linter.unusedSimpArgs false

/-- A number at the beginning: digits left, digits read, their sum, the next weight. -/
def getF : Nat → Nat → Nat → Nat → List UInt8 → Nat × Nat × Int
  | 0, _, _, _, _ => (0, 0, 13)
  | _ + 1, _, _, _, [] => (0, 0, 12)
  | f + 1, i, n, u, d :: s => if 128 ≤ d.toNat then getF f (i + 1) (n + (d.toNat - 128) * u) (u * 128) s else if (d.toNat = 0 ∧ 0 < i) ∨ 1099511627776 < n + d.toNat * u then (0, 0, 13) else (n + d.toNat * u, i + 1, 0)
def getI (s : List UInt8) : Nat × Nat × Int := getF 6 0 0 1 s
theorem getF_enc : ∀ (m f i n u : Nat) (t : List UInt8), (digL m).length ≤ f → n + m * u ≤ 1099511627776 → (0 < i → m ≠ 0) → getF f i n u (digL m ++ t) = (n + m * u, i + (digL m).length, 0) := by
  intro m
  induction m using Nat.strongRecOn with
  | ind m ih =>
    intro f i n u t hl hb hi
    obtain ⟨f, rfl⟩ : ∃ g, f = g + 1 := ⟨f - 1, by have := digL_pos m; omega⟩
    by_cases hm : m < 128
    · have hx : (UInt8.ofNat m).toNat = m := UInt8.toNat_ofNat_of_lt' (by simp [UInt8.size]; omega)
      rw [digL_last hm]
      show (if 128 ≤ (UInt8.ofNat m).toNat then _ else if ((UInt8.ofNat m).toNat = 0 ∧ 0 < i) ∨ 1099511627776 < n + (UInt8.ofNat m).toNat * u then _ else _) = _
      rw [hx, if_neg (by omega), if_neg (by rintro (⟨h1, h2⟩ | h); exact hi h2 h1; omega)]
      rfl
    · have hx : (UInt8.ofNat (m % 128 + 128)).toNat = m % 128 + 128 := UInt8.toNat_ofNat_of_lt' (by simp [UInt8.size]; omega)
      rw [digL_more hm] at hl ⊢
      rw [List.length_cons] at hl ⊢
      show (if 128 ≤ (UInt8.ofNat (m % 128 + 128)).toNat then getF f (i + 1) (n + ((UInt8.ofNat (m % 128 + 128)).toNat - 128) * u) (u * 128) (digL (m / 128) ++ t) else _) = _
      have hmu : m * u = (m % 128) * u + m / 128 * (u * 128) := by
        have h1 : m = m % 128 + m / 128 * 128 := by omega
        have h2 : m / 128 * (u * 128) = m / 128 * 128 * u := by rw [Nat.mul_comm u 128, ← Nat.mul_assoc]
        rw [h2, ← Nat.add_mul, ← h1]
      rw [hx, if_pos (by omega), Nat.add_sub_cancel, ih (m / 128) (by omega) f (i + 1) _ _ t (by omega) (by omega) (by omega)]
      refine Prod.ext (by simp only; omega) (Prod.ext (by simp only; omega) rfl)
theorem getF_dec : ∀ (f i n u : Nat) (s : List UInt8) (r k : Nat), getF f i n u s = (r, k, 0) → ∃ m t, s = digL m ++ t ∧ r = n + m * u ∧ k = i + (digL m).length ∧ r ≤ 1099511627776 ∧ (0 < i → m ≠ 0)
  | 0, i, n, u, s, r, k, h => by simp [getF] at h
  | f + 1, i, n, u, [], r, k, h => by simp [getF] at h
  | f + 1, i, n, u, d :: s, r, k, h => by
    have h' : (if 128 ≤ d.toNat then getF f (i + 1) (n + (d.toNat - 128) * u) (u * 128) s else if (d.toNat = 0 ∧ 0 < i) ∨ 1099511627776 < n + d.toNat * u then (0, 0, 13) else (n + d.toNat * u, i + 1, 0)) = (r, k, 0) := h
    have hd := d.toNat_lt
    split at h'
    · rename_i hge
      obtain ⟨m, t, rfl, h2, h3, h4, h5⟩ := getF_dec f (i + 1) _ _ s r k h'
      have hm := h5 (by omega)
      have hq : (d.toNat - 128 + m * 128) % 128 = d.toNat - 128 := by omega
      have hq2 : (d.toNat - 128 + m * 128) / 128 = m := by omega
      have hdig : digL (d.toNat - 128 + m * 128) = d :: digL m := by
        rw [digL_more (by omega), hq, hq2, Nat.sub_add_cancel hge]
        simp
      refine ⟨d.toNat - 128 + m * 128, t, by rw [hdig]; rfl, ?_, by rw [hdig, List.length_cons]; omega, h4, fun _ => by omega⟩
      rw [h2, Nat.add_mul]
      have : m * (u * 128) = m * 128 * u := by rw [Nat.mul_comm u 128, ← Nat.mul_assoc]
      omega
    · split at h'
      · simp at h'
      · rename_i h1 h2
        injection h' with h3 h4
        injection h4 with h4 _
        have hdig : digL d.toNat = [d] := by rw [digL_last (by omega)]; simp
        exact ⟨d.toNat, s, by rw [hdig]; rfl, h3.symm, by rw [hdig]; simp; omega, by omega, fun hi e => h2 (.inl ⟨e, hi⟩)⟩
theorem getF_err : ∀ (f i n u : Nat) (s : List UInt8), (getF f i n u s).2.2 = 0 ∨ getF f i n u s = (0, 0, 12) ∨ getF f i n u s = (0, 0, 13)
  | 0, i, n, u, s => .inr (.inr rfl)
  | f + 1, i, n, u, [] => .inr (.inl rfl)
  | f + 1, i, n, u, d :: s => by
    unfold getF
    split
    · exact getF_err f _ _ _ s
    · split
      · exact .inr (.inr rfl)
      · exact .inl rfl
theorem getI_err (s : List UInt8) : (getI s).2.2 = 0 ∨ getI s = (0, 0, 12) ∨ getI s = (0, 0, 13) := getF_err ..
theorem getI_enc {m : Nat} (t : List UInt8) (h : m ≤ 1099511627776) : getI (digL m ++ t) = (m, (digL m).length, 0) := by
  unfold getI
  rw [getF_enc m 6 0 0 1 t (digL_len m 5 (by omega)) (by omega) (fun h => by omega)]
  simp
theorem getI_dec {s : List UInt8} {m k : Nat} (h : getI s = (m, k, 0)) : m ≤ 1099511627776 ∧ k = (digL m).length ∧ s = digL m ++ s.drop k := by
  obtain ⟨m', t, rfl, h2, h3, h4, _⟩ := getF_dec 6 0 0 1 s m k h
  have e : m = m' := by omega
  subst e
  rw [Nat.zero_add] at h3
  subst h3
  refine ⟨h4, rfl, ?_⟩
  rw [List.drop_left]
theorem getI_bd (s : List UInt8) : (getI s).1 ≤ 1099511627776 ∧ (getI s).2.1 ≤ s.length := by
  rcases getI_err s with h | h | h
  · have e : getI s = ((getI s).1, (getI s).2.1, 0) := by rw [← h]
    obtain ⟨h1, h2, h3⟩ := getI_dec e
    refine ⟨h1, ?_⟩
    rw [h2]
    have := congrArg List.length h3
    rw [List.length_append] at this
    omega
  · rw [h]; simp
  · rw [h]; simp

/-- A text at the beginning. -/
def getT (s : List UInt8) : List UInt8 × Nat × Int :=
  if (getI s).2.2 ≠ 0 then ([], 0, (getI s).2.2) else if 65536 < (getI s).1 then ([], 0, 13) else if s.length - (getI s).2.1 < (getI s).1 then ([], 0, 12) else ((s.drop (getI s).2.1).take (getI s).1, (getI s).2.1 + (getI s).1, 0)
theorem getT_err (s : List UInt8) : (getT s).2.2 = 0 ∨ getT s = ([], 0, 12) ∨ getT s = ([], 0, 13) := by
  unfold getT
  split
  · rcases getI_err s with h | h | h
    · contradiction
    · rw [h]; exact .inr (.inl rfl)
    · rw [h]; exact .inr (.inr rfl)
  · split
    · exact .inr (.inr rfl)
    · split
      · exact .inr (.inl rfl)
      · exact .inl rfl
theorem getT_enc {d : List UInt8} (t : List UInt8) (h : d.length ≤ 65536) : getT ((digL d.length ++ d) ++ t) = (d, (digL d.length ++ d).length, 0) := by
  unfold getT
  rw [List.append_assoc, getI_enc (d ++ t) (by omega)]
  simp only [ne_eq, not_true_eq_false, if_false]
  rw [if_neg (by omega), if_neg (by simp only [List.length_append]; omega), List.drop_left, List.take_left, List.length_append]
theorem getT_dec {s d : List UInt8} {k : Nat} (h : getT s = (d, k, 0)) : d.length ≤ 65536 ∧ k = (digL d.length ++ d).length ∧ s = (digL d.length ++ d) ++ s.drop k := by
  unfold getT at h
  split at h
  · rename_i hne
    injection h with _ h
    injection h with _ h
    exact absurd h hne
  · rename_i h0
    have h0' : (getI s).2.2 = 0 := by
      rcases Classical.em ((getI s).2.2 = 0) with e | e
      · exact e
      · exact absurd e h0
    split at h
    · simp at h
    · rename_i h1
      split at h
      · simp at h
      · rename_i h2
        injection h with h3 h
        injection h with h4 _
        have e : getI s = ((getI s).1, (getI s).2.1, 0) := by rw [← h0']
        obtain ⟨g1, g2, g3⟩ := getI_dec e
        have hdl : d.length = (getI s).1 := by rw [← h3, List.length_take, List.length_drop]; omega
        have hk : k = (digL d.length ++ d).length := by rw [List.length_append, hdl, ← g2, h4]
        refine ⟨by omega, hk, ?_⟩
        rw [← h4]
        rw [hdl, ← List.drop_drop, List.append_assoc, ← h3, List.take_append_drop]
        exact g3

/-- An element at the beginning. -/
def decX (s : List UInt8) : DOp × Nat × Bool :=
  if (getI s).2.2 ≠ 0 then (⟨0, 0, []⟩, 0, false)
  else if 0 < (getI s).1 then (⟨(getI (s.drop (getI s).2.1)).1, (getI s).1, []⟩, (getI s).2.1 + (getI (s.drop (getI s).2.1)).2.1, decide ((getI (s.drop (getI s).2.1)).2.2 = 0))
  else (⟨0, 0, (getT (s.drop (getI s).2.1)).1⟩, (getI s).2.1 + (getT (s.drop (getI s).2.1)).2.1, decide ((getT (s.drop (getI s).2.1)).2.2 = 0))
/-- What can be read as an element. -/
structure Can (x : DOp) : Prop where
  o0 : 0 ≤ x.off
  o1 : x.off ≤ 1099511627776
  l0 : 0 ≤ x.len
  l1 : x.len ≤ 1099511627776
  d1 : x.data.length ≤ 65536
  cpy : 0 < x.len → x.data = []
  ins : x.len = 0 → x.off = 0
theorem putI_of {n : Int} (h0 : 0 ≤ n) (h1 : n ≤ 1099511627776) : (putI n).1 = digL n.toNat := by unfold putI; rw [if_pos ⟨h0, h1⟩]
theorem putT_of {d : List UInt8} (h : d.length ≤ 65536) : (putT d).1 = digL d.length ++ d := by unfold putT; rw [if_pos h]
theorem encX_copy {x : DOp} (h : Can x) (hl : 0 < x.len) : encX x = digL x.len.toNat ++ digL x.off.toNat := by
  unfold encX
  rw [putI_of h.l0 h.l1, if_pos ⟨hl, h.cpy hl⟩, putI_of h.o0 h.o1]
theorem encX_text {x : DOp} (h : Can x) (hl : ¬ 0 < x.len) : encX x = digL 0 ++ (digL x.data.length ++ x.data) := by
  unfold encX
  have : x.len = 0 := by have := h.l0; omega
  rw [putI_of h.l0 h.l1, if_neg fun e => hl e.1, putT_of h.d1, this]
  rfl
theorem decX_enc {x : DOp} (t : List UInt8) (h : Can x) : decX (encX x ++ t) = (x, (encX x).length, true) := by
  have h1 := h.l0; have h2 := h.l1; have h3 := h.o0; have h4 := h.o1
  by_cases hl : 0 < x.len
  · rw [encX_copy h hl, List.append_assoc]
    have e1 := getI_enc (m := x.len.toNat) (digL x.off.toNat ++ t) (by omega)
    have e2 := getI_enc (m := x.off.toNat) t (by omega)
    unfold decX
    rw [e1]
    simp only [ne_eq, not_true_eq_false, if_false, List.drop_left]
    rw [if_pos (by omega), e2]
    have hd := h.cpy hl
    obtain ⟨o, l, d⟩ := x
    simp only at hd h1 h3 hl
    subst hd
    refine Prod.ext ?_ (Prod.ext ?_ rfl)
    · simp only [DOp.mk.injEq, and_true]; omega
    · simp only [List.length_append]
  · rw [encX_text h hl, List.append_assoc]
    have e1 := getI_enc (m := 0) ((digL x.data.length ++ x.data) ++ t) (by omega)
    have e2 := getT_enc t h.d1
    unfold decX
    rw [e1]
    simp only [ne_eq, not_true_eq_false, if_false, List.drop_left, Nat.lt_irrefl]
    rw [e2]
    have hz : x.len = 0 := by omega
    have hd := h.ins hz
    obtain ⟨o, l, d⟩ := x
    simp only at hz hd
    subst hz
    subst hd
    refine Prod.ext rfl (Prod.ext ?_ rfl)
    simp only [List.length_append]
theorem decX_dec {s : List UInt8} {x : DOp} {k : Nat} (h : decX s = (x, k, true)) : Can x ∧ k = (encX x).length ∧ s = encX x ++ s.drop k := by
  unfold decX at h
  split at h
  · simp at h
  · rename_i h0
    have h0' : (getI s).2.2 = 0 := by
      rcases Classical.em ((getI s).2.2 = 0) with e | e
      · exact e
      · exact absurd e h0
    have e : getI s = ((getI s).1, (getI s).2.1, 0) := by rw [← h0']
    obtain ⟨g1, g2, g3⟩ := getI_dec e
    split at h
    · rename_i hl
      injection h with h1 h
      injection h with h2 h3
      have h3' : (getI (s.drop (getI s).2.1)).2.2 = 0 := of_decide_eq_true h3
      have e' : getI (s.drop (getI s).2.1) = ((getI (s.drop (getI s).2.1)).1, (getI (s.drop (getI s).2.1)).2.1, 0) := by rw [← h3']
      obtain ⟨k1, k2, k3⟩ := getI_dec e'
      have hc : Can x := by
        subst h1
        exact ⟨by simp only; omega, by simp only; omega, by simp only; omega, by simp only; omega, by simp, fun _ => rfl, fun h => by simp only at h; omega⟩
      have hx : encX x = digL (getI s).1 ++ digL (getI (s.drop (getI s).2.1)).1 := by
        rw [encX_copy hc (by subst h1; simp only; omega)]
        subst h1
        simp
      refine ⟨hc, by rw [hx, List.length_append, ← g2, ← k2, h2], ?_⟩
      rw [hx, ← h2, ← List.drop_drop, List.append_assoc, ← k3]
      exact g3
    · rename_i hl
      injection h with h1 h
      injection h with h2 h3
      have h3' : (getT (s.drop (getI s).2.1)).2.2 = 0 := of_decide_eq_true h3
      have e' : getT (s.drop (getI s).2.1) = ((getT (s.drop (getI s).2.1)).1, (getT (s.drop (getI s).2.1)).2.1, 0) := by rw [← h3']
      obtain ⟨k1, k2, k3⟩ := getT_dec e'
      have hc : Can x := by
        subst h1
        exact ⟨by simp, by simp, by simp, by simp, k1, fun h => by simp at h, fun _ => rfl⟩
      have hz : (getI s).1 = 0 := by omega
      rw [hz] at g2 g3
      have hx : encX x = digL 0 ++ (digL (getT (s.drop (getI s).2.1)).1.length ++ (getT (s.drop (getI s).2.1)).1) := by
        rw [encX_text hc (by subst h1; simp)]
        subst h1
        rfl
      refine ⟨hc, by rw [hx, List.length_append, ← k2, ← h2, ← g2], ?_⟩
      rw [hx, ← h2, ← List.drop_drop, List.append_assoc, ← k3]
      exact g3
/-- Whatever is read, its numbers are small. -/
structure Sml (x : DOp) : Prop where
  o0 : 0 ≤ x.off
  o1 : x.off ≤ 1099511627776
  l0 : 0 ≤ x.len
  l1 : x.len ≤ 1099511627776
  d1 : x.data.length ≤ 65536
theorem decX_sml (s : List UInt8) : Sml (decX s).1 ∧ (decX s).2.1 ≤ s.length := by
  have b1 := getI_bd s
  have b2 := getI_bd (s.drop (getI s).2.1)
  have hd : (s.drop (getI s).2.1).length = s.length - (getI s).2.1 := List.length_drop
  have b3 : (getT (s.drop (getI s).2.1)).1.length ≤ 65536 ∧ (getT (s.drop (getI s).2.1)).2.1 ≤ (s.drop (getI s).2.1).length := by
    generalize s.drop (getI s).2.1 = t
    rcases getT_err t with h | h | h
    · have e : getT t = ((getT t).1, (getT t).2.1, 0) := by rw [← h]
      obtain ⟨k1, k2, k3⟩ := getT_dec e
      refine ⟨k1, ?_⟩
      have := congrArg List.length k3
      rw [List.length_append] at this
      omega
    · rw [h]; simp
    · rw [h]; simp
  unfold decX
  split
  · exact ⟨⟨by simp, by simp, by simp, by simp, by simp⟩, by simp⟩
  · split
    · exact ⟨⟨by simp only; omega, by simp only; omega, by simp only; omega, by simp only; omega, by simp⟩, by simp only; omega⟩
    · exact ⟨⟨by simp, by simp, by simp, by simp, b3.1⟩, by simp only; omega⟩
theorem encX_pos (x : DOp) (h : Can x) : 2 ≤ (encX x).length := by
  by_cases hl : 0 < x.len
  · rw [encX_copy h hl, List.length_append]
    have := digL_pos x.len.toNat
    have := digL_pos x.off.toNat
    omega
  · rw [encX_text h hl, List.length_append, List.length_append]
    have := digL_pos 0
    have := digL_pos x.data.length
    omega

/-- The code's loop. -/
def decA (s : List UInt8) : Nat → Nat → List DOp → Option (List DOp × Nat)
  | 0, at_, l => some (l, at_)
  | n + 1, at_, l => if (decX (s.drop at_)).2.2 then decA s n (at_ + (decX (s.drop at_)).2.1) (l ++ [(decX (s.drop at_)).1]) else none
def decEnd (s : List UInt8) : Option (List DOp × Nat) → List DOp × Int
  | none => ([], 13)
  | some r => if r.2 = s.length ∧ checkD r.1 65536 = 0 then (r.1, 0) else ([], 13)
/-- What Decode answers. -/
def decodeD (s : List UInt8) : List DOp × Int := if (getI s).2.2 ≠ 0 then ([], 13) else decEnd s (decA s (getI s).1 (getI s).2.1 [])
theorem val_can {x : DOp} (h : Val 65536 x) (hd : x.data.length ≤ 65536) : Can x := by
  rcases h.1 with hc | hi
  · have := h.2 hc
    have := hc.1
    exact ⟨by omega, by omega, by omega, by omega, hd, fun _ => hc.2, fun h => by omega⟩
  · obtain ⟨h1, h2, h3⟩ := hi
    exact ⟨by omega, by omega, by omega, by omega, hd, fun h => by omega, fun _ => h2⟩
theorem sumD_mem : ∀ {l : List DOp} {x : DOp}, x ∈ l → szD x ≤ sumD l
  | y :: l, x, h => by
    have h1 := szD_pos y
    have h2 := sumD_pos l
    show szD x ≤ szD y + sumD l
    rcases List.mem_cons.1 h with rfl | h
    · omega
    · have := sumD_mem h; omega
theorem check_can {l : List DOp} (h : checkD l 65536 = 0) : ∀ x ∈ l, Can x := fun x hx => by
  obtain ⟨_, h2, h3⟩ := checkD_iff.1 h
  refine val_can (h2 x hx) ?_
  have h4 := sumD_mem hx
  by_cases hl : 0 < x.len
  · rcases (h2 x hx).1 with h | h
    · rw [h.2]; simp
    · have := h.1; omega
  · have : szD x = x.data.length := if_neg hl
    omega
theorem szD_pos1 {x : DOp} (h : x.cp ∨ x.ins) : 1 ≤ szD x := by
  unfold szD
  split
  · omega
  · have : x.ins := h.resolve_left fun h => by have := h.1; omega
    have := List.length_pos_iff.2 this.2.2
    omega
theorem val_count : ∀ {l : List DOp} {n : Int}, ValL n l → (l.length : Int) ≤ sumD l
  | [], n, _ => Int.le_refl _
  | x :: l, n, h => by
    have h1 := szD_pos1 (h x (by simp)).1
    have h2 := val_count (l := l) (n := n) fun y hy => h y (by simp [hy])
    show ((l.length + 1 : Nat) : Int) ≤ szD x + sumD l
    omega
theorem decA_enc {s : List UInt8} : ∀ (l pre : List DOp) (at_ : Nat) (t : List UInt8), (∀ x ∈ l, Can x) → s.drop at_ = l.flatMap encX ++ t → decA s l.length at_ pre = some (pre ++ l, at_ + (l.flatMap encX).length)
  | [], pre, at_, t, _, _ => by simp [decA]
  | x :: l, pre, at_, t, hc, hs => by
    rw [List.flatMap_cons, List.append_assoc] at hs
    have e := decX_enc (l.flatMap encX ++ t) (hc x (by simp))
    rw [← hs] at e
    show (if (decX (s.drop at_)).2.2 then decA s l.length (at_ + (decX (s.drop at_)).2.1) (pre ++ [(decX (s.drop at_)).1]) else none) = _
    rw [e]
    simp only [if_true]
    rw [decA_enc l (pre ++ [x]) (at_ + (encX x).length) t (fun y hy => hc y (by simp [hy])) (by rw [← List.drop_drop, hs, List.drop_left])]
    simp [List.flatMap_cons, Nat.add_assoc]
theorem decA_dec {s : List UInt8} : ∀ (n at_ : Nat) (pre l : List DOp) (e : Nat), decA s n at_ pre = some (l, e) → ∃ l', l = pre ++ l' ∧ l'.length = n ∧ (∀ x ∈ l', Can x) ∧ e = at_ + (l'.flatMap encX).length ∧ s.drop at_ = l'.flatMap encX ++ s.drop e
  | 0, at_, pre, l, e, h => by
    injection h with h
    injection h with h1 h2
    exact ⟨[], by simp [h1], rfl, fun x hx => by simp at hx, by simp [h2], by simp [h2]⟩
  | n + 1, at_, pre, l, e, h => by
    have h' : (if (decX (s.drop at_)).2.2 then decA s n (at_ + (decX (s.drop at_)).2.1) (pre ++ [(decX (s.drop at_)).1]) else none) = some (l, e) := h
    split at h'
    · rename_i hok
      obtain ⟨l', h1, h2, h3, h4, h5⟩ := decA_dec n _ _ l e h'
      have ex : decX (s.drop at_) = ((decX (s.drop at_)).1, (decX (s.drop at_)).2.1, true) := by rw [← hok]
      obtain ⟨g1, g2, g3⟩ := decX_dec ex
      rw [← List.drop_drop] at h5
      refine ⟨(decX (s.drop at_)).1 :: l', by rw [h1, List.append_assoc]; rfl, by simp [h2], fun x hx => ?_, ?_, ?_⟩
      · rcases List.mem_cons.1 hx with rfl | hx
        · exact g1
        · exact h3 x hx
      · rw [List.flatMap_cons, List.length_append, ← g2, h4]; omega
      · rw [List.flatMap_cons, List.append_assoc, ← h5, ← g3]
    · cases h'
theorem encodeD_ok {l : List DOp} {s : List UInt8} (h : encodeD l = (s, 0)) : checkD l 65536 = 0 ∧ s = (putI l.length).1 ++ l.flatMap encX := by
  unfold encodeD at h
  split at h
  · rename_i hc
    injection h with h1 _
    exact ⟨hc, h1.symm⟩
  · rename_i hc
    injection h with _ h2
    exact absurd h2 hc
theorem check_len {l : List DOp} (h : checkD l 65536 = 0) : l.length ≤ 65536 := by
  obtain ⟨_, h2, h3⟩ := checkD_iff.1 h
  have := val_count h2
  omega
theorem encodeD_form {l : List DOp} {s : List UInt8} (h : encodeD l = (s, 0)) : checkD l 65536 = 0 ∧ s = digL l.length ++ l.flatMap encX := by
  obtain ⟨h1, h2⟩ := encodeD_ok h
  have := check_len h1
  rw [putI_of (by omega) (by omega), Int.toNat_natCast] at h2
  exact ⟨h1, h2⟩
theorem decodeD_enc {l : List DOp} {s : List UInt8} (h : encodeD l = (s, 0)) : decodeD s = (l, 0) := by
  obtain ⟨h1, h2⟩ := encodeD_form h
  have hl := check_len h1
  have e1 : getI s = (l.length, (digL l.length).length, 0) := by rw [h2]; exact getI_enc _ (by omega)
  unfold decodeD
  rw [e1]
  simp only [ne_eq, not_true_eq_false, if_false]
  have hs : s.drop (digL l.length).length = l.flatMap encX ++ [] := by rw [h2, List.drop_left, List.append_nil]
  rw [decA_enc l [] _ [] (check_can h1) hs]
  show (if _ = s.length ∧ checkD ([] ++ l) 65536 = 0 then _ else _) = _
  rw [if_pos ⟨by rw [h2, List.length_append], h1⟩]
  rfl
theorem decodeD_dec {l : List DOp} {s : List UInt8} (h : decodeD s = (l, 0)) : encodeD l = (s, 0) := by
  unfold decodeD at h
  split at h
  · simp at h
  · rename_i h0
    have h0' : (getI s).2.2 = 0 := by
      rcases Classical.em ((getI s).2.2 = 0) with e | e
      · exact e
      · exact absurd e h0
    have e : getI s = ((getI s).1, (getI s).2.1, 0) := by rw [← h0']
    obtain ⟨g1, g2, g3⟩ := getI_dec e
    cases hd : decA s (getI s).1 (getI s).2.1 [] with
    | none => rw [hd] at h; simp [decEnd] at h
    | some r =>
      obtain ⟨m, q⟩ := r
      rw [hd] at h
      have h' : (if q = s.length ∧ checkD m 65536 = 0 then (m, (0 : Int)) else ([], 13)) = (l, 0) := h
      split at h'
      · rename_i hc
        injection h' with h1 _
        subst h1
        obtain ⟨l', k1, k2, k3, k4, k5⟩ := decA_dec _ _ _ _ _ hd
        rw [List.nil_append] at k1
        subst k1
        rw [hc.1, List.drop_length, List.append_nil] at k5
        unfold encodeD
        rw [if_pos hc.2, putI_of (by omega) (by omega), Int.toNat_natCast, k2, ← k5, ← g3]
      · simp at h'
theorem decodeD_err (s : List UInt8) : (decodeD s).2 = 0 ∨ decodeD s = ([], 13) := by
  unfold decodeD
  split
  · exact .inr rfl
  · cases decA s (getI s).1 (getI s).2.1 [] with
    | none => exact .inr rfl
    | some r =>
      unfold decEnd
      simp only
      split
      · exact .inl rfl
      · exact .inr rfl

/-- The reference's loop. -/
def rdecA (z : Nat) : Nat → Nat → List UInt8 → List DOp → List DOp × Bool
  | 0, _, _, out => (out, true)
  | n + 1, i, rest, out => if i ≤ z then (if (decX rest).2.2 then rdecA z n (i + 1) (rest.drop (decX rest).2.1) (out ++ [(decX rest).1]) else (out ++ [(decX rest).1], false)) else (out, true)
def rdecB (s : List UInt8) : List DOp × Bool := if (getI s).2.2 ≠ 0 then ([], false) else rdecA s.length (getI s).1 0 (s.drop (getI s).2.1) []
theorem rdecA_enc (z : Nat) : ∀ (l out : List DOp) (i : Nat) (t : List UInt8), (∀ x ∈ l, Can x) → i + l.length ≤ z + 1 → rdecA z l.length i (l.flatMap encX ++ t) out = (out ++ l, true)
  | [], out, i, t, _, _ => by simp [rdecA]
  | x :: l, out, i, t, hc, hz => by
    rw [List.flatMap_cons, List.append_assoc]
    have e := decX_enc (l.flatMap encX ++ t) (hc x (by simp))
    rw [List.length_cons] at hz
    show (if i ≤ z then (if (decX (encX x ++ (l.flatMap encX ++ t))).2.2 then rdecA z l.length (i + 1) ((encX x ++ (l.flatMap encX ++ t)).drop (decX (encX x ++ (l.flatMap encX ++ t))).2.1) (out ++ [(decX (encX x ++ (l.flatMap encX ++ t))).1]) else _) else _) = _
    rw [e, if_pos (by omega)]
    simp only [if_true, List.drop_left]
    rw [rdecA_enc z l (out ++ [x]) (i + 1) t (fun y hy => hc y (by simp [hy])) (by omega)]
    simp
theorem encs_count : ∀ (l : List DOp), (∀ x ∈ l, Can x) → 2 * l.length ≤ (l.flatMap encX).length
  | [], _ => by simp
  | x :: l, h => by
    have h1 := encX_pos x (h x (by simp))
    have h2 := encs_count l fun y hy => h y (by simp [hy])
    rw [List.flatMap_cons, List.length_append, List.length_cons]
    omega
theorem rdecB_enc {l : List DOp} {s : List UInt8} (h : encodeD l = (s, 0)) : rdecB s = (l, true) := by
  obtain ⟨h1, h2⟩ := encodeD_form h
  have hl := check_len h1
  have e1 : getI s = (l.length, (digL l.length).length, 0) := by rw [h2]; exact getI_enc _ (by omega)
  unfold rdecB
  rw [e1]
  simp only [ne_eq, not_true_eq_false, if_false]
  have hs : s.drop (digL l.length).length = l.flatMap encX ++ [] := by rw [h2, List.drop_left, List.append_nil]
  have hn := encs_count l (check_can h1)
  have hsl : s.length = (digL l.length).length + (l.flatMap encX).length := by rw [h2, List.length_append]
  rw [hs, rdecA_enc s.length l [] 0 [] (check_can h1) (by omega)]
  rfl
/-- What the reference answers is what the code answers. -/
theorem rdec_same (s : List UInt8) : (if (rdecB s).2 = true ∧ encodeD (rdecB s).1 = (s, 0) then ((rdecB s).1, (0 : Int)) else ([], 13)) = decodeD s := by
  split
  · rename_i h
    exact (decodeD_enc h.2).symm
  · rename_i h
    rcases decodeD_err s with e | e
    · have e' : decodeD s = ((decodeD s).1, 0) := by rw [← e]
      have h1 := decodeD_dec e'
      have h2 := rdecB_enc h1
      rw [h2] at h
      exact absurd ⟨rfl, h1⟩ h
    · exact e.symm
theorem rdecA_sml (z : Nat) : ∀ (n i : Nat) (rest : List UInt8) (out : List DOp), (∀ x ∈ out, Sml x) → (∀ x ∈ (rdecA z n i rest out).1, Sml x) ∧ (rdecA z n i rest out).1.length ≤ out.length + (z + 1 - i)
  | 0, i, rest, out, h => ⟨h, by simp [rdecA]⟩
  | n + 1, i, rest, out, h => by
    have ho : ∀ x ∈ out ++ [(decX rest).1], Sml x := fun x hx => by
      rcases List.mem_append.1 hx with hx | hx
      · exact h x hx
      · obtain rfl : x = (decX rest).1 := by simpa using hx
        exact (decX_sml rest).1
    unfold rdecA
    split
    · split
      · obtain ⟨h1, h2⟩ := rdecA_sml z n (i + 1) (rest.drop (decX rest).2.1) _ ho
        refine ⟨h1, ?_⟩
        rw [List.length_append, List.length_singleton] at h2
        omega
      · refine ⟨ho, ?_⟩
        simp only [List.length_append, List.length_singleton]
        omega
    · exact ⟨h, by simp⟩
end Go.Proofs.Ytiioebpmfjipeaa
