/- Plain laws of merging: sides exchanged, one side changed, separate changes. -/
import Derived.Test.YthobbcafemkhbaaTmMerge
namespace Go.Proofs.Ythobbcafemkhbaa

section
variable {α : Type} [DecidableEq α]

omit [DecidableEq α] in
theorem addL_nil (L : List (RgA α)) : addL L [] = L := if_pos rfl
omit [DecidableEq α] in
theorem addL_empty {ls : List α} (h : ls ≠ []) : addL ([] : List (RgA α)) ls = [(false, [], ls, [])] := by unfold addL; rw [if_neg h]; rfl
omit [DecidableEq α] in
theorem addL_plain (L : List (RgA α)) (b l r : List α) {ls : List α} (h : ls ≠ []) : addL (L ++ [(false, b, l, r)]) ls = L ++ [(false, [], l ++ ls, [])] := by
  unfold addL; rw [if_neg h, List.getLast?_concat, List.dropLast_concat]
omit [DecidableEq α] in
theorem addL_conf (L : List (RgA α)) (b l r : List α) {ls : List α} (h : ls ≠ []) : addL (L ++ [(true, b, l, r)]) ls = L ++ [(true, b, l, r)] ++ [(false, [], ls, [])] := by
  unfold addL; rw [if_neg h, List.getLast?_concat]
omit [DecidableEq α] in
theorem rg_cases (L : List (RgA α)) : L = [] ∨ (∃ L' b l r, L = L' ++ [(false, b, l, r)]) ∨ ∃ L' b l r, L = L' ++ [(true, b, l, r)] := by
  rcases List.eq_nil_or_concat L with h | ⟨L', ⟨k, b, l, r⟩, h⟩
  · exact .inl h
  · rw [List.concat_eq_append] at h
    cases k
    · exact .inr (.inl ⟨L', b, l, r, h⟩)
    · exact .inr (.inr ⟨L', b, l, r, h⟩)
omit [DecidableEq α] in
theorem addL_addL (L : List (RgA α)) (x y : List α) : addL (addL L x) y = addL L (x ++ y) := by
  by_cases hx : x = []
  · subst hx; rw [addL_nil]; rfl
  by_cases hy : y = []
  · subst hy; rw [addL_nil, List.append_nil]
  have hxy : x ++ y ≠ [] := fun h => hx (List.append_eq_nil_iff.1 h).1
  rcases rg_cases L with h | ⟨L', b, l, r, h⟩ | ⟨L', b, l, r, h⟩
  · subst h
    rw [addL_empty hx, addL_empty hxy]
    exact addL_plain [] [] x [] hy
  · subst h
    rw [addL_plain _ _ _ _ hx, addL_plain _ _ _ _ hxy, addL_plain _ _ _ _ hy, List.append_assoc]
  · subst h
    rw [addL_conf _ _ _ _ hx, addL_conf _ _ _ _ hxy, addL_plain _ _ _ _ hy]
theorem addG_same (L : List (RgA α)) (b l : List α) : addG L b l l = addL L l := if_pos rfl
theorem addG_left (L : List (RgA α)) (b r : List α) : addG L b b r = addL L r := by
  unfold addG
  by_cases h : b = r
  · rw [if_pos h, h]
  · rw [if_neg h, if_pos rfl]
theorem addG_right (L : List (RgA α)) (b l : List α) : addG L b l b = addL L l := by
  unfold addG
  by_cases h : l = b
  · rw [if_pos h]
  · rw [if_neg h, if_neg (fun e => h e.symm), if_pos rfl]

/-! ### exchanged sides -/
section
omit [DecidableEq α]
def swapR (x : RgA α) : RgA α := if x.1 = true then (true, x.2.1, x.2.2.2, x.2.2.1) else x
end
omit [DecidableEq α] in
theorem addL_swap (L : List (RgA α)) (ls : List α) : (addL L ls).map swapR = addL (L.map swapR) ls := by
  by_cases h0 : ls = []
  · subst h0; rw [addL_nil, addL_nil]
  rcases rg_cases L with h | ⟨L', b, l, r, h⟩ | ⟨L', b, l, r, h⟩
  · subst h; rw [addL_empty h0]; exact (addL_empty h0).symm
  · subst h
    rw [addL_plain _ _ _ _ h0, List.map_append, List.map_append]
    exact (addL_plain (L'.map swapR) b l r h0).symm
  · subst h
    rw [addL_conf _ _ _ _ h0, List.map_append, List.map_append]
    exact (addL_conf (L'.map swapR) b r l h0).symm
theorem addG_swap (L : List (RgA α)) (b l r : List α) : (addG L b l r).map swapR = addG (L.map swapR) b r l := by
  by_cases h1 : l = r
  · subst h1; rw [addG_same, addG_same, addL_swap]
  by_cases h2 : b = l
  · subst h2; rw [addG_left, addG_right, addL_swap]
  by_cases h3 : b = r
  · subst h3; rw [addG_right, addG_left, addL_swap]
  unfold addG
  rw [if_neg h1, if_neg h2, if_neg h3, if_neg (fun e => h1 e.symm), if_neg h3, if_neg h2, List.map_append]
  rfl
theorem mgA_swap : ∀ (s t : List (List α × Bool × α)) (gb gl gr tl tr : List α) (L : List (RgA α)), srcG s = srcG t →
    (mgA gb gl gr s t tl tr L).map swapR = mgA gb gr gl t s tr tl (L.map swapR)
  | [], [], gb, gl, gr, tl, tr, L, _ => addG_swap _ _ _ _
  | [], y :: t, _, _, _, _, _, _, h => by cases h
  | x :: s, [], _, _, _, _, _, _, h => by cases h
  | (p, true, x) :: s, (q, true, y) :: t, gb, gl, gr, tl, tr, L, h => by
    obtain ⟨h1, h2⟩ := List.cons.inj (show x :: srcG s = y :: srcG t from h)
    subst h1
    show (mgA [] [] [] s t tl tr (addL (addG L gb (gl ++ p) (gr ++ q)) [x])).map swapR = mgA [] [] [] t s tr tl (addL (addG (L.map swapR) gb (gr ++ q) (gl ++ p)) [x])
    rw [mgA_swap s t [] [] [] tl tr _ h2, addL_swap, addG_swap]
  | (p, false, x) :: s, (q, kq, y) :: t, gb, gl, gr, tl, tr, L, h => by
    obtain ⟨h1, h2⟩ := List.cons.inj (show x :: srcG s = y :: srcG t from h)
    subst h1
    cases kq
    · exact mgA_swap s t _ _ _ tl tr L h2
    · exact mgA_swap s t _ _ _ tl tr L h2
  | (p, true, x) :: s, (q, false, y) :: t, gb, gl, gr, tl, tr, L, h => by
    obtain ⟨h1, h2⟩ := List.cons.inj (show x :: srcG s = y :: srcG t from h)
    subst h1
    exact mgA_swap s t _ _ _ tl tr L h2
theorem merge_swap (a b c : List α) : (mergeL a b c).map swapR = mergeL a c b := by
  rw [merge_eq, merge_eq, mgA_swap _ _ _ _ _ _ _ _ (by rw [grpL_src, grpL_src])]
  rfl

/-! ### one side has not changed the text -/
section
omit [DecidableEq α]
def allK (a : List α) : List (List α × Bool × α) := a.map fun x => ([], true, x)
end
theorem mgA_left : ∀ (t : List (List α × Bool × α)) (gb gr tr : List α) (L : List (RgA α)), mgA gb gb gr (allK (srcG t)) t [] tr L = addL L (gr ++ dstG t tr)
  | [], gb, gr, tr, L => by
    show addG L gb (gb ++ []) (gr ++ tr) = _
    rw [List.append_nil, addG_left]; rfl
  | (q, true, y) :: t, gb, gr, tr, L => by
    show mgA [] [] [] (allK (srcG t)) t [] tr (addL (addG L gb (gb ++ []) (gr ++ q)) [y]) = _
    rw [mgA_left t [] [] tr _, List.append_nil, addG_left, addL_addL, addL_addL]
    congr 1
    simp [dstG]
  | (q, false, y) :: t, gb, gr, tr, L => by
    show mgA (gb ++ [y]) (gb ++ [] ++ [y]) (gr ++ q ++ []) (allK (srcG t)) t [] tr L = _
    rw [List.append_nil, List.append_nil, mgA_left t _ _ tr L]
    congr 1
    simp [dstG]
theorem mgA_both : ∀ (s : List (List α × Bool × α)) (gb g tl : List α) (L : List (RgA α)), mgA gb g g s s tl tl L = addL L (g ++ dstG s tl)
  | [], gb, g, tl, L => addG_same _ _ _
  | (q, true, y) :: t, gb, g, tl, L => by
    show mgA [] [] [] t t tl tl (addL (addG L gb (g ++ q) (g ++ q)) [y]) = _
    rw [mgA_both t [] [] tl _, addG_same, addL_addL, addL_addL]
    congr 1
    simp [dstG]
  | (q, false, y) :: t, gb, g, tl, L => by
    show mgA (gb ++ [y]) (g ++ q ++ []) (g ++ q ++ []) t t tl tl L = _
    rw [List.append_nil, mgA_both t _ _ tl L]
    congr 1
    simp [dstG]
theorem cpre_self : ∀ a : List α, cpre a a = a.length
  | [] => rfl
  | x :: a => by rw [cpre, if_pos rfl, cpre_self a]; rfl
theorem scrA_self (a : List α) : scrA a a = a.map ((0, ·)) := by
  unfold scrA midL midR
  rw [cpre_self, List.drop_length, List.take_length]
  simp [script]
omit [DecidableEq α] in
theorem grp_all : ∀ a : List α, grp [] (a.map ((0, ·))) = (allK a, [])
  | [] => rfl
  | x :: a => by
    show (([], true, x) :: (grp [] (a.map ((0, ·)))).1, (grp [] (a.map ((0, ·)))).2) = _
    rw [grp_all a]; rfl
theorem merge_left (a c : List α) : mergeL a a c = addL [] c := by
  have e1 : grpL a a = allK (srcG (grpL a c)) := by rw [grpL_src]; unfold grpL; rw [scrA_self, grp_all]
  have e2 : grpT a a = [] := by unfold grpT; rw [scrA_self, grp_all]
  rw [merge_eq, e1, e2, mgA_left, grpL_dst]; rfl
theorem merge_right (a b : List α) : mergeL a b a = addL [] b := by
  rw [← merge_swap, merge_left, addL_swap]; rfl
theorem merge_both (a b : List α) : mergeL a b b = addL [] b := by
  rw [merge_eq, mgA_both, grpL_dst]; rfl

/-! ### separate changes -/
/-- The right side has not changed what lies before a kept line, the left side nothing behind it. -/
theorem mgA_head : ∀ (s : List (List α × Bool × α)) (m : α) (p : List α) (s2 t2 : List (List α × Bool × α)) (gb gl tl tr : List α) (L : List (RgA α)),
    mgA gb gl gb (s ++ (p, true, m) :: s2) (allK (srcG s) ++ ([], true, m) :: t2) tl tr L = mgA [] [] [] s2 t2 tl tr (addL L (gl ++ dstG s (p ++ [m])))
  | [], m, p, s2, t2, gb, gl, tl, tr, L => by
    show mgA [] [] [] s2 t2 tl tr (addL (addG L gb (gl ++ p) (gb ++ [])) [m]) = _
    rw [List.append_nil, addG_right, addL_addL, List.append_assoc]; rfl
  | (q, true, y) :: s, m, p, s2, t2, gb, gl, tl, tr, L => by
    show mgA [] [] [] (s ++ (p, true, m) :: s2) (allK (srcG s) ++ ([], true, m) :: t2) tl tr (addL (addG L gb (gl ++ q) (gb ++ [])) [y]) = _
    rw [mgA_head s m p s2 t2 [] [] tl tr _, List.append_nil, addG_right, addL_addL, addL_addL]
    congr 2
    simp [dstG]
  | (q, false, y) :: s, m, p, s2, t2, gb, gl, tl, tr, L => by
    show mgA (gb ++ [y]) (gl ++ q ++ []) (gb ++ [] ++ [y]) (s ++ (p, true, m) :: s2) (allK (srcG s) ++ ([], true, m) :: t2) tl tr L = _
    rw [List.append_nil, List.append_nil, mgA_head s m p s2 t2 _ _ tl tr _]
    congr 2
    simp [dstG]
end
end Go.Proofs.Ythobbcafemkhbaa
