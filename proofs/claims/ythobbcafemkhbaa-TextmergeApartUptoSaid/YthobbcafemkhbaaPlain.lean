/- Plain laws on differences of lists: no program in sight. -/
namespace Go.Proofs.Ythobbcafemkhbaa

section
variable {α : Type} [DecidableEq α]

/-- How many elements two lists have in common at their beginning. -/
def cpre : List α → List α → Nat
  | a :: p, b :: q => if a = b then cpre p q + 1 else 0
  | _, _ => 0

theorem cpre_of : ∀ (a b : List α) (k : Nat), k ≤ a.length → k ≤ b.length → a.take k = b.take k → (∀ (h1 : k < a.length) (h2 : k < b.length), ¬ a[k] = b[k]) → cpre a b = k
  | [], b, k, h1, _, _, _ => by simp at h1; subst h1; rfl
  | a :: p, [], k, _, h2, _, _ => by simp at h2; subst h2; rfl
  | a :: p, b :: q, 0, _, _, _, hn => by
    have := hn (by simp) (by simp)
    simp at this
    simp [cpre, this]
  | a :: p, b :: q, k + 1, h1, h2, e, hn => by
    simp only [List.take_succ_cons, List.cons.injEq] at e
    obtain ⟨e1, e2⟩ := e
    simp only [List.length_cons] at h1 h2
    rw [cpre, if_pos e1, cpre_of p q k (by omega) (by omega) e2 (fun g1 g2 => by
      have := hn (by simp; omega) (by simp; omega)
      simpa using this)]

theorem cpre_le : ∀ (a b : List α), cpre a b ≤ a.length ∧ cpre a b ≤ b.length ∧ a.take (cpre a b) = b.take (cpre a b)
  | [], b => by simp [cpre]
  | a :: p, [] => by simp [cpre]
  | a :: p, b :: q => by
    unfold cpre
    have ih := cpre_le p q
    split
    · rename_i h
      subst h
      simp only [List.length_cons, List.take_succ_cons, List.cons.injEq, true_and]
      exact ⟨by omega, by omega, ih.2.2⟩
    · simp

/-- The common end of what is left behind the common beginning. -/
def csuf (a b : List α) : Nat := cpre (a.drop (cpre a b)).reverse (b.drop (cpre a b)).reverse

theorem csuf_of {a b : List α} {s : Nat} (hs : cpre a b = s) (k : Nat) (h1 : s + k ≤ a.length) (h2 : s + k ≤ b.length)
    (he : ∀ i, i < k → a[a.length - 1 - i]? = b[b.length - 1 - i]?) (hn : ∀ (_ : s + k < a.length) (_ : s + k < b.length), ¬ a[a.length - 1 - k]? = b[b.length - 1 - k]?) : csuf a b = k := by
  have rev : ∀ (l : List α) (i : Nat), s + i < l.length → (l.drop s).reverse[i]? = l[l.length - 1 - i]? := by
    intro l i hi
    rw [List.getElem?_reverse (by simp; omega), List.getElem?_drop]
    congr 1
    simp; omega
  unfold csuf
  rw [hs]
  refine cpre_of _ _ k (by simp; omega) (by simp; omega) ?_ ?_
  · apply List.ext_getElem?
    intro i
    rw [List.getElem?_take, List.getElem?_take]
    split
    · rw [rev a i (by omega), rev b i (by omega)]
      exact he i (by assumption)
    · rfl
  · intro g1 g2 e
    simp at g1 g2
    refine hn (by omega) (by omega) ?_
    rw [← rev a k (by omega), ← rev b k (by omega), List.getElem?_eq_getElem (by simp; omega), List.getElem?_eq_getElem (by simp; omega), e]

theorem csuf_le (a b : List α) : cpre a b + csuf a b ≤ a.length ∧ cpre a b + csuf a b ≤ b.length := by
  have h := cpre_le (a.drop (cpre a b)).reverse (b.drop (cpre a b)).reverse
  have h0 := cpre_le a b
  simp only [List.length_reverse, List.length_drop] at h
  unfold csuf
  omega

/-- The middle parts. -/
def midL (a b : List α) : List α := (a.drop (cpre a b)).take (a.length - csuf a b - cpre a b)
def midR (a b : List α) : List α := (b.drop (cpre a b)).take (b.length - csuf a b - cpre a b)

/-! ### the least size of a difference -/

def distGo (a : α) (n : Nat) (f : List α → Nat) : List α → Nat
  | [] => n + 1
  | b :: q => if a = b then f q else 1 + min (f (b :: q)) (distGo a n f q)
def dist : List α → List α → Nat
  | [] => List.length
  | a :: p => distGo a p.length (dist p)

theorem dist_nil (q : List α) : dist [] q = q.length := rfl
theorem dist_cons_nil (a : α) (p : List α) : dist (a :: p) [] = p.length + 1 := rfl
theorem dist_cons (a b : α) (p q : List α) : dist (a :: p) (b :: q) = if a = b then dist p q else 1 + min (dist p (b :: q)) (dist (a :: p) q) := rfl

theorem dist_le : ∀ (p q : List α), dist p q ≤ p.length + q.length
  | [], q => by simp [dist_nil]
  | a :: p, [] => by simp [dist_cons_nil]
  | a :: p, b :: q => by
    rw [dist_cons]
    have h1 := dist_le p q
    have h2 := dist_le (a :: p) q
    simp only [List.length_cons] at *
    split <;> omega

theorem dist_end_l (p q : List α) (k : Nat) : dist (p.drop p.length) (q.drop k) = q.length - k := by rw [List.drop_length, dist_nil, List.length_drop]
theorem dist_end_r (p q : List α) (i : Nat) : dist (p.drop i) (q.drop q.length) = p.length - i := by
  rw [List.drop_length]
  generalize h : p.drop i = r
  have : r.length = p.length - i := by rw [← h, List.length_drop]
  cases r with
  | nil => rw [dist_nil, ← this]
  | cons a r => rw [dist_cons_nil, ← this]; rfl
theorem dist_eq {p q : List α} {i k : Nat} (hi : i < p.length) (hk : k < q.length) (h : p[i] = q[k]) : dist (p.drop i) (q.drop k) = dist (p.drop (i + 1)) (q.drop (k + 1)) := by
  rw [List.drop_eq_getElem_cons hi, List.drop_eq_getElem_cons hk, dist_cons, if_pos h]
theorem dist_ne {p q : List α} {i k : Nat} (hi : i < p.length) (hk : k < q.length) (h : ¬ p[i] = q[k]) : dist (p.drop i) (q.drop k) = 1 + min (dist (p.drop (i + 1)) (q.drop k)) (dist (p.drop i) (q.drop (k + 1))) := by
  rw [List.drop_eq_getElem_cons hi, List.drop_eq_getElem_cons hk, dist_cons, if_neg h]
theorem dist_drop_le (p q : List α) (i k : Nat) : dist (p.drop i) (q.drop k) ≤ p.length + q.length := by
  have := dist_le (p.drop i) (q.drop k)
  simp only [List.length_drop] at this
  omega

theorem idx_inj {r i k i' k' : Nat} (hk : k < r) (hk' : k' < r) (h : i * r + k = i' * r + k') : i = i' ∧ k = k' := by
  have h1 : (i * r + k) / r = i := by rw [Nat.add_comm, Nat.add_mul_div_right _ _ (by omega), Nat.div_eq_of_lt hk, Nat.zero_add]
  have h2 : (i' * r + k') / r = i' := by rw [Nat.add_comm, Nat.add_mul_div_right _ _ (by omega), Nat.div_eq_of_lt hk', Nat.zero_add]
  have h3 : (i * r + k) % r = k := by rw [Nat.add_comm, Nat.add_mul_mod_self_right, Nat.mod_eq_of_lt hk]
  have h4 : (i' * r + k') % r = k' := by rw [Nat.add_comm, Nat.add_mul_mod_self_right, Nat.mod_eq_of_lt hk']
  exact ⟨by rw [← h1, h, h2], by rw [← h3, h, h4]⟩
theorem idx_lt {r i k n : Nat} (hk : k < r) (hi : i ≤ n) : i * r + k < (n + 1) * r := by
  have : i * r ≤ n * r := Nat.mul_le_mul_right _ hi
  rw [Nat.add_mul, Nat.one_mul]; omega

/-- The steps: 0 an element is kept, 1 one is removed, 2 one is added. -/
def scrGo (a : α) (p : List α) (f : List α → List (Nat × α)) : List α → List (Nat × α)
  | [] => (a :: p).map (1, ·)
  | b :: q => if a = b then (0, a) :: f q else if dist p (b :: q) ≤ dist (a :: p) q then (1, a) :: f (b :: q) else (2, b) :: scrGo a p f q
def script : List α → List α → List (Nat × α)
  | [] => fun q => q.map (2, ·)
  | a :: p => scrGo a p (script p)

theorem script_nil (q : List α) : script [] q = q.map (2, ·) := rfl
theorem script_cons_nil (a : α) (p : List α) : script (a :: p) [] = (1, a) :: p.map (1, ·) := rfl
theorem script_cons (a b : α) (p q : List α) : script (a :: p) (b :: q) = if a = b then (0, a) :: script p q else if dist p (b :: q) ≤ dist (a :: p) q then (1, a) :: script p (b :: q) else (2, b) :: script (a :: p) q := rfl
theorem script_nil_r (p : List α) : script p [] = p.map (1, ·) := by cases p <;> rfl

/-- The hunks of a list of steps, from place n on; 'cur' is the hunk that is open. -/
def hkF (n : Nat) (cur : Option (Int × List α × List α)) : List (Nat × α) → List (Int × List α × List α)
  | [] => cur.toList
  | (0, _) :: s => cur.toList ++ hkF (n + 1) none s
  | (1, x) :: s => hkF (n + 1) (match cur with | none => some ((n : Int), [x], []) | some (c, o, e) => some (c, o ++ [x], e)) s
  | (_, x) :: s => hkF n (match cur with | none => some ((n : Int), [], [x]) | some (c, o, e) => some (c, o, e ++ [x])) s

theorem script_keep {p q : List α} {i k : Nat} (hi : i < p.length) (hk : k < q.length) (h : p[i] = q[k]) : script (p.drop i) (q.drop k) = (0, p[i]) :: script (p.drop (i + 1)) (q.drop (k + 1)) := by
  rw [List.drop_eq_getElem_cons hi, List.drop_eq_getElem_cons hk, script_cons, if_pos h]
theorem script_rem {p q : List α} {i k : Nat} (hi : i < p.length) (hk : k < q.length) (h : ¬ p[i] = q[k]) (hd : dist (p.drop (i + 1)) (q.drop k) ≤ dist (p.drop i) (q.drop (k + 1))) :
    script (p.drop i) (q.drop k) = (1, p[i]) :: script (p.drop (i + 1)) (q.drop k) := by
  rw [List.drop_eq_getElem_cons hi, List.drop_eq_getElem_cons hk] at *
  rw [script_cons, if_neg h, if_pos hd]
theorem script_add {p q : List α} {i k : Nat} (hi : i < p.length) (hk : k < q.length) (h : ¬ p[i] = q[k]) (hd : ¬ dist (p.drop (i + 1)) (q.drop k) ≤ dist (p.drop i) (q.drop (k + 1))) :
    script (p.drop i) (q.drop k) = (2, q[k]) :: script (p.drop i) (q.drop (k + 1)) := by
  rw [List.drop_eq_getElem_cons hi, List.drop_eq_getElem_cons hk] at *
  rw [script_cons, if_neg h, if_neg hd]
theorem script_rem_end {p q : List α} {i k : Nat} (hi : i < p.length) (hk : q.length ≤ k) : script (p.drop i) (q.drop k) = (1, p[i]) :: script (p.drop (i + 1)) (q.drop k) := by
  rw [List.drop_eq_nil_of_le hk, script_nil_r, script_nil_r, List.drop_eq_getElem_cons hi, List.map_cons]
theorem script_add_end {p q : List α} {i k : Nat} (hi : p.length ≤ i) (hk : k < q.length) : script (p.drop i) (q.drop k) = (2, q[k]) :: script (p.drop i) (q.drop (k + 1)) := by
  rw [List.drop_eq_nil_of_le hi, script_nil, script_nil, List.drop_eq_getElem_cons hk, List.map_cons]
theorem script_end {p q : List α} {i k : Nat} (hi : p.length ≤ i) (hk : q.length ≤ k) : script (p.drop i) (q.drop k) = [] := by
  rw [List.drop_eq_nil_of_le hi, List.drop_eq_nil_of_le hk]; rfl

/-- The open hunk, if it holds anything. -/
def curOf (n : Int) (o e : List α) : Option (Int × List α × List α) := if o = [] ∧ e = [] then none else some (n, o, e)
omit [DecidableEq α] in
theorem curOf_none (n : Int) : curOf n ([] : List α) [] = none := if_pos ⟨rfl, rfl⟩
omit [DecidableEq α] in
theorem curOf_some {n : Int} {o e : List α} (h : 0 < o.length + e.length) : curOf n o e = some (n, o, e) := if_neg (by rintro ⟨rfl, rfl⟩; simp at h)
omit [DecidableEq α] in
theorem hkF_keep {m : Nat} {cur : Option (Int × List α × List α)} {x : α} {s : List (Nat × α)} : hkF m cur ((0, x) :: s) = cur.toList ++ hkF (m + 1) none s := rfl
omit [DecidableEq α] in
theorem hkF_rem {m : Nat} {n : Int} {o e : List α} {x : α} {s : List (Nat × α)} (h : o = [] → e = [] → n = m) : hkF m (curOf n o e) ((1, x) :: s) = hkF (m + 1) (curOf n (o ++ [x]) e) s := by
  rw [curOf_some (n := n) (o := o ++ [x]) (by simp; omega)]
  by_cases h0 : o = [] ∧ e = []
  · obtain ⟨rfl, rfl⟩ := h0
    rw [curOf_none, h rfl rfl]; rfl
  · rw [curOf, if_neg h0]; rfl
omit [DecidableEq α] in
theorem hkF_add {m : Nat} {n : Int} {o e : List α} {x : α} {s : List (Nat × α)} (h : o = [] → e = [] → n = m) : hkF m (curOf n o e) ((2, x) :: s) = hkF m (curOf n o (e ++ [x])) s := by
  rw [curOf_some (n := n) (o := o) (e := e ++ [x]) (by simp; omega)]
  by_cases h0 : o = [] ∧ e = []
  · obtain ⟨rfl, rfl⟩ := h0
    rw [curOf_none, h rfl rfl]; rfl
  · rw [curOf, if_neg h0]; rfl

section
omit [DecidableEq α]
variable {full done : List (Int × List α × List α)} {m : Nat} {n : Int} {o e : List α} {x : α} {S s : List (Nat × α)}
theorem hk_keep (h : full = done ++ hkF m (curOf n o e) S) (hs : S = (0, x) :: s) (hz : 0 < o.length + e.length) (n' : Int) : full = (done ++ [(n, o, e)]) ++ hkF (m + 1) (curOf n' [] []) s := by
  rw [h, hs, hkF_keep, curOf_some hz, curOf_none, List.append_assoc]; rfl
theorem hk_keep0 (h : full = done ++ hkF m (curOf n o e) S) (hs : S = (0, x) :: s) (hz : ¬ 0 < o.length + e.length) (n' : Int) : full = done ++ hkF (m + 1) (curOf n' [] []) s := by
  have h1 : o = [] := List.eq_nil_of_length_eq_zero (by omega)
  have h2 : e = [] := List.eq_nil_of_length_eq_zero (by omega)
  subst h1 h2
  rw [h, hs, hkF_keep, curOf_none, curOf_none]; rfl
theorem hk_rem (h : full = done ++ hkF m (curOf n o e) S) (hs : S = (1, x) :: s) (h0 : o = [] → e = [] → n = m) : full = done ++ hkF (m + 1) (curOf n (o ++ [x]) e) s := by
  rw [h, hs, hkF_rem h0]
theorem hk_add (h : full = done ++ hkF m (curOf n o e) S) (hs : S = (2, x) :: s) (h0 : o = [] → e = [] → n = m) : full = done ++ hkF m (curOf n o (e ++ [x])) s := by
  rw [h, hs, hkF_add h0]
theorem hk_end (h : full = done ++ hkF m (curOf n o e) S) (hs : S = []) (hz : 0 < o.length + e.length) : full = done ++ [(n, o, e)] := by
  rw [h, hs, curOf_some hz]; rfl
theorem hk_end0 (h : full = done ++ hkF m (curOf n o e) S) (hs : S = []) (hz : ¬ 0 < o.length + e.length) : full = done := by
  have h1 : o = [] := List.eq_nil_of_length_eq_zero (by omega)
  have h2 : e = [] := List.eq_nil_of_length_eq_zero (by omega)
  subst h1 h2
  rw [h, hs, curOf_none]
  exact List.append_nil _
end

def diffL (a b : List α) : List (Int × List α × List α) := hkF (cpre a b) none (script (midL a b) (midR a b))

/-! ### sizes -/
section
omit [DecidableEq α]
/-- The number of lines of hunks. -/
def sizeH (hs : List (Int × List α × List α)) : Nat := (hs.map fun h => h.2.1.length + h.2.2.length).sum
theorem sizeH_cons (h : Int × List α × List α) (hs : List (Int × List α × List α)) : sizeH (h :: hs) = h.2.1.length + h.2.2.length + sizeH hs := by simp [sizeH]
theorem sizeH_append (a b : List (Int × List α × List α)) : sizeH (a ++ b) = sizeH a + sizeH b := by simp [sizeH]
theorem sizeH_mem {h : Int × List α × List α} : ∀ {hs : List (Int × List α × List α)}, h ∈ hs → h.2.1.length + h.2.2.length ≤ sizeH hs
  | g :: hs, hm => by
    rw [sizeH_cons]
    rcases List.mem_cons.1 hm with rfl | hm
    · omega
    · have := sizeH_mem hm; omega
/-- The number of steps that change something. -/
def cost : List (Nat × α) → Nat
  | [] => 0
  | (0, _) :: s => cost s
  | (_ + 1, _) :: s => cost s + 1
theorem sizeH_hkF : ∀ (s : List (Nat × α)) (m : Nat) (cur : Option (Int × List α × List α)), sizeH (hkF m cur s) = sizeH cur.toList + cost s
  | [], m, cur => by simp [hkF, cost]
  | (0, x) :: s, m, cur => by
    rw [show hkF m cur ((0, x) :: s) = cur.toList ++ hkF (m + 1) none s from rfl, sizeH_append, sizeH_hkF s]
    simp [cost, sizeH]
  | (1, x) :: s, m, none => by
    rw [show hkF m none ((1, x) :: s) = hkF (m + 1) (some ((m : Int), [x], [])) s from rfl, sizeH_hkF s]
    simp [cost, sizeH]; omega
  | (1, x) :: s, m, some (c, o, e) => by
    rw [show hkF m (some (c, o, e)) ((1, x) :: s) = hkF (m + 1) (some (c, o ++ [x], e)) s from rfl, sizeH_hkF s]
    simp [cost, sizeH]; omega
  | (k + 2, x) :: s, m, none => by
    rw [show hkF m none ((k + 2, x) :: s) = hkF m (some ((m : Int), [], [x])) s from rfl, sizeH_hkF s]
    simp [cost, sizeH]; omega
  | (k + 2, x) :: s, m, some (c, o, e) => by
    rw [show hkF m (some (c, o, e)) ((k + 2, x) :: s) = hkF m (some (c, o, e ++ [x])) s from rfl, sizeH_hkF s]
    simp [cost, sizeH]; omega
theorem length_hkF : ∀ (s : List (Nat × α)) (m : Nat) (cur : Option (Int × List α × List α)), (hkF m cur s).length ≤ cur.toList.length + s.length
  | [], m, cur => by simp [hkF]
  | (0, x) :: s, m, cur => by
    rw [show hkF m cur ((0, x) :: s) = cur.toList ++ hkF (m + 1) none s from rfl, List.length_append]
    have := length_hkF s (m + 1) none
    simp at this ⊢; omega
  | (1, x) :: s, m, none => by
    have := length_hkF s (m + 1) (some ((m : Int), [x], []))
    rw [show hkF m none ((1, x) :: s) = hkF (m + 1) (some ((m : Int), [x], [])) s from rfl]
    simp at this ⊢; omega
  | (1, x) :: s, m, some (c, o, e) => by
    have := length_hkF s (m + 1) (some (c, o ++ [x], e))
    rw [show hkF m (some (c, o, e)) ((1, x) :: s) = hkF (m + 1) (some (c, o ++ [x], e)) s from rfl]
    simp at this ⊢; omega
  | (k + 2, x) :: s, m, none => by
    have := length_hkF s m (some ((m : Int), [], [x]))
    rw [show hkF m none ((k + 2, x) :: s) = hkF m (some ((m : Int), [], [x])) s from rfl]
    simp at this ⊢; omega
  | (k + 2, x) :: s, m, some (c, o, e) => by
    have := length_hkF s m (some (c, o, e ++ [x]))
    rw [show hkF m (some (c, o, e)) ((k + 2, x) :: s) = hkF m (some (c, o, e ++ [x])) s from rfl]
    simp at this ⊢; omega
theorem cost_map (k : Nat) : ∀ l : List α, cost (l.map ((k + 1, ·))) = l.length
  | [] => rfl
  | x :: l => by simp [cost, cost_map k l]
end
theorem cost_script : ∀ (p q : List α), cost (script p q) = dist p q
  | [], q => by rw [script_nil, dist_nil]; exact cost_map 1 q
  | a :: p, [] => by
    rw [script_cons_nil, dist_cons_nil]
    show cost (p.map ((1, ·))) + 1 = _
    rw [show cost (p.map ((1, ·))) = p.length from cost_map 0 p]
  | a :: p, b :: q => by
    rw [script_cons, dist_cons]
    split
    · exact cost_script p q
    · split
      · show cost (script p (b :: q)) + 1 = _
        rw [cost_script p (b :: q)]; omega
      · show cost (script (a :: p) q) + 1 = _
        rw [cost_script (a :: p) q]; omega
theorem length_script : ∀ (p q : List α), (script p q).length ≤ p.length + q.length
  | [], q => by simp [script_nil]
  | a :: p, [] => by simp [script_cons_nil]
  | a :: p, b :: q => by
    rw [script_cons]
    have h1 := length_script p q
    have h2 := length_script p (b :: q)
    have h3 := length_script (a :: p) q
    simp only [List.length_cons] at *
    split
    · simp; omega
    · split <;> simp <;> omega
theorem size_diffL (a b : List α) : sizeH (diffL a b) = dist (midL a b) (midR a b) := by
  unfold diffL
  rw [sizeH_hkF, cost_script]
  simp [sizeH]
theorem midL_len (a b : List α) : (midL a b).length ≤ a.length := by unfold midL; simp; omega
theorem midR_len (a b : List α) : (midR a b).length ≤ b.length := by unfold midR; simp; omega
theorem size_diffL_le (a b : List α) : sizeH (diffL a b) ≤ a.length + b.length := by
  rw [size_diffL]
  have := dist_le (midL a b) (midR a b)
  have := midL_len a b
  have := midR_len a b
  omega
theorem length_diffL (a b : List α) : (diffL a b).length ≤ a.length + b.length := by
  unfold diffL
  have := length_hkF (script (midL a b) (midR a b)) (cpre a b) none
  have := length_script (midL a b) (midR a b)
  have := midL_len a b
  have := midR_len a b
  simp at *; omega

end
end Go.Proofs.Ythobbcafemkhbaa
