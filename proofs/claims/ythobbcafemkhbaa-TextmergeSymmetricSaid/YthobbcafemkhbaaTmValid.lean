/- Plain: merged regions and settled regions are valid. -/
import Derived.Test.YthobbcafemkhbaaTmSettle
namespace Go.Proofs.Ythobbcafemkhbaa

section
variable {α : Type}

/-! ### lines: single ones (S), whole ones (W) -/
def strL (S W : α → Prop) (l : List α) : Prop := ∀ x ∈ l, S x ∧ W x
def prpL (S W : α → Prop) (l : List α) : Prop := (∀ x ∈ l, S x) ∧ ∀ x ∈ l.dropLast, W x
variable {S W : α → Prop}
theorem strL_nil : strL S W ([] : List α) := fun _ h => by cases h
theorem strL_app {l m : List α} (h : strL S W l) (k : strL S W m) : strL S W (l ++ m) := fun x hx => (List.mem_append.1 hx).elim (h x) (k x)
theorem strL.prp {l : List α} (h : strL S W l) : prpL S W l := ⟨fun x hx => (h x hx).1, fun x hx => (h x (List.dropLast_subset _ hx)).2⟩
theorem prpL_app {l m : List α} (h : strL S W l) (k : prpL S W m) : prpL S W (l ++ m) := by
  by_cases hm : m = []
  · subst hm; rw [List.append_nil]; exact h.prp
  · refine ⟨fun x hx => (List.mem_append.1 hx).elim (fun e => (h x e).1) (k.1 x), fun x hx => ?_⟩
    rw [List.dropLast_append_of_ne_nil hm] at hx
    exact (List.mem_append.1 hx).elim (fun e => (h x e).2) (k.2 x)
theorem prpL.left {l m : List α} (h : prpL S W (l ++ m)) (hm : m ≠ []) : strL S W l := fun x hx => by
  refine ⟨h.1 x (List.mem_append_left _ hx), h.2 x ?_⟩
  rw [List.dropLast_append_of_ne_nil hm]
  exact List.mem_append_left _ hx
theorem prpL.right {l m : List α} (h : prpL S W (l ++ m)) : prpL S W m := by
  by_cases hm : m = []
  · subst hm; exact strL_nil.prp
  · refine ⟨fun x hx => h.1 x (List.mem_append_right _ hx), fun x hx => h.2 x ?_⟩
    rw [List.dropLast_append_of_ne_nil hm]
    exact List.mem_append_right _ hx

/-! ### regions: all lines whole; all but the last line of the last region -/
def rStr (S W : α → Prop) (x : RgA α) : Prop := strL S W x.2.1 ∧ strL S W x.2.2.1 ∧ strL S W x.2.2.2
def rPrp (S W : α → Prop) (x : RgA α) : Prop := prpL S W x.2.1 ∧ prpL S W x.2.2.1 ∧ prpL S W x.2.2.2
def StrR (S W : α → Prop) (L : List (RgA α)) : Prop := ∀ x ∈ L, rStr S W x
def QR (S W : α → Prop) (L : List (RgA α)) : Prop := L = [] ∨ ∃ L' x, L = L' ++ [x] ∧ StrR S W L' ∧ rPrp S W x
theorem rStr.prp {x : RgA α} (h : rStr S W x) : rPrp S W x := ⟨h.1.prp, h.2.1.prp, h.2.2.prp⟩
theorem StrR_snoc {L : List (RgA α)} {x : RgA α} : StrR S W (L ++ [x]) ↔ StrR S W L ∧ rStr S W x := by
  constructor
  · exact fun h => ⟨fun y hy => h y (List.mem_append_left _ hy), h x (List.mem_append_right _ (List.mem_singleton.2 rfl))⟩
  · rintro ⟨h1, h2⟩ y hy
    rcases List.mem_append.1 hy with h | h
    · exact h1 y h
    · rw [List.mem_singleton.1 h]; exact h2
theorem StrR.q {L : List (RgA α)} (h : StrR S W L) : QR S W L := by
  rcases List.eq_nil_or_concat L with e | ⟨L', x, e⟩
  · exact .inl e
  · rw [List.concat_eq_append] at e
    subst e
    obtain ⟨h1, h2⟩ := StrR_snoc.1 h
    exact .inr ⟨L', x, rfl, h1, h2.prp⟩
theorem QR_snoc {L : List (RgA α)} {x : RgA α} (h : StrR S W L) (k : rPrp S W x) : QR S W (L ++ [x]) := .inr ⟨L, x, rfl, h, k⟩
theorem QR_cons {L : List (RgA α)} {x : RgA α} (h : QR S W (x :: L)) : (L = [] ∧ rPrp S W x) ∨ (L ≠ [] ∧ rStr S W x ∧ QR S W L) := by
  rcases h with h | ⟨L', y, e, h1, h2⟩
  · cases h
  · cases L' with
    | nil =>
      simp only [List.nil_append, List.cons.injEq] at e
      obtain ⟨rfl, rfl⟩ := e
      exact .inl ⟨rfl, h2⟩
    | cons z L' =>
      simp only [List.cons_append, List.cons.injEq] at e
      obtain ⟨rfl, rfl⟩ := e
      exact .inr ⟨by simp, h1 _ List.mem_cons_self, .inr ⟨L', y, rfl, fun u hu => h1 u (List.mem_cons_of_mem _ hu), h2⟩⟩

/-! ### what regions look like -/
def okR (pp : Bool) (x : RgA α) : Prop := if x.1 = true then x.2.1 ≠ x.2.2.1 ∧ x.2.1 ≠ x.2.2.2 ∧ x.2.2.1 ≠ x.2.2.2 else pp = false ∧ x.2.2.1 ≠ [] ∧ x.2.1 = [] ∧ x.2.2.2 = []
def svF : Bool → List (RgA α) → Prop
  | _, [] => True
  | pp, x :: t => okR pp x ∧ svF (!x.1) t
def lastP : Bool → List (RgA α) → Bool
  | pp, [] => pp
  | _, x :: t => lastP (!x.1) t
theorem svF_snoc {x : RgA α} : ∀ {L : List (RgA α)} {pp : Bool}, svF pp (L ++ [x]) ↔ svF pp L ∧ okR (lastP pp L) x
  | [], pp => ⟨fun h => ⟨trivial, h.1⟩, fun h => ⟨h.2, trivial⟩⟩
  | y :: L, pp => by
    show (okR pp y ∧ svF (!y.1) (L ++ [x])) ↔ (okR pp y ∧ svF (!y.1) L) ∧ okR (lastP (!y.1) L) x
    rw [svF_snoc (L := L)]
    exact ⟨fun ⟨a, b, c⟩ => ⟨⟨a, b⟩, c⟩, fun ⟨⟨a, b⟩, c⟩ => ⟨a, b, c⟩⟩
theorem lastP_snoc {x : RgA α} : ∀ {L : List (RgA α)} {pp : Bool}, lastP pp (L ++ [x]) = !x.1
  | [], _ => rfl
  | y :: L, pp => lastP_snoc (L := L) (pp := !y.1)
theorem okR_conf {pp : Bool} {b l r : List α} : okR pp (true, b, l, r) ↔ b ≠ l ∧ b ≠ r ∧ l ≠ r := by unfold okR; rw [if_pos rfl]
theorem okR_plain {pp : Bool} {b l r : List α} : okR pp (false, b, l, r) ↔ pp = false ∧ l ≠ [] ∧ b = [] ∧ r = [] := by unfold okR; rw [if_neg (by simp)]

theorem sv_addL {L : List (RgA α)} (h : svF false L) (ls : List α) : svF false (addL L ls) := by
  by_cases h0 : ls = []
  · subst h0; rw [addL_nil]; exact h
  rcases rg_cases L with e | ⟨L', b, l, r, e⟩ | ⟨L', b, l, r, e⟩
  · subst e; rw [addL_empty h0]; exact ⟨okR_plain.2 ⟨rfl, h0, rfl, rfl⟩, trivial⟩
  · subst e
    rw [addL_plain _ _ _ _ h0]
    obtain ⟨h1, h2⟩ := svF_snoc.1 h
    exact svF_snoc.2 ⟨h1, okR_plain.2 ⟨(okR_plain.1 h2).1, fun e => h0 (List.append_eq_nil_iff.1 e).2, rfl, rfl⟩⟩
  · subst e
    rw [addL_conf _ _ _ _ h0]
    exact svF_snoc.2 ⟨h, okR_plain.2 ⟨lastP_snoc, h0, rfl, rfl⟩⟩
theorem str_addL {L : List (RgA α)} (h : StrR S W L) {ls : List α} (k : strL S W ls) : StrR S W (addL L ls) := by
  by_cases h0 : ls = []
  · subst h0; rw [addL_nil]; exact h
  rcases rg_cases L with e | ⟨L', b, l, r, e⟩ | ⟨L', b, l, r, e⟩
  · subst e; rw [addL_empty h0]
    exact fun x hx => by rw [List.mem_singleton.1 hx]; exact ⟨strL_nil, k, strL_nil⟩
  · subst e
    rw [addL_plain _ _ _ _ h0]
    obtain ⟨h1, h2⟩ := StrR_snoc.1 h
    exact StrR_snoc.2 ⟨h1, strL_nil, strL_app h2.2.1 k, strL_nil⟩
  · subst e
    rw [addL_conf _ _ _ _ h0]
    exact StrR_snoc.2 ⟨h, strL_nil, k, strL_nil⟩
theorem q_addL {L : List (RgA α)} (h : StrR S W L) {ls : List α} (k : prpL S W ls) : QR S W (addL L ls) := by
  by_cases h0 : ls = []
  · subst h0; rw [addL_nil]; exact h.q
  rcases rg_cases L with e | ⟨L', b, l, r, e⟩ | ⟨L', b, l, r, e⟩
  · subst e; rw [addL_empty h0]
    exact .inr ⟨[], _, rfl, (fun _ h => by cases h), strL_nil.prp, k, strL_nil.prp⟩
  · subst e
    rw [addL_plain _ _ _ _ h0]
    obtain ⟨h1, h2⟩ := StrR_snoc.1 h
    exact QR_snoc h1 ⟨strL_nil.prp, prpL_app h2.2.1 k, strL_nil.prp⟩
  · subst e
    rw [addL_conf _ _ _ _ h0]
    exact QR_snoc h ⟨strL_nil.prp, k, strL_nil.prp⟩

variable [DecidableEq α]
theorem addG_cases (L : List (RgA α)) (b l r : List α) : (addG L b l r = addL L l ∧ (l = r ∨ b = r)) ∨ (addG L b l r = addL L r ∧ b = l) ∨ (addG L b l r = L ++ [(true, b, l, r)] ∧ b ≠ l ∧ b ≠ r ∧ l ≠ r) := by
  unfold addG
  by_cases h1 : l = r
  · rw [if_pos h1]; exact .inl ⟨rfl, .inl h1⟩
  by_cases h2 : b = l
  · rw [if_neg h1, if_pos h2]; exact .inr (.inl ⟨rfl, h2⟩)
  by_cases h3 : b = r
  · rw [if_neg h1, if_neg h2, if_pos h3]; exact .inl ⟨rfl, .inr h3⟩
  · rw [if_neg h1, if_neg h2, if_neg h3]; exact .inr (.inr ⟨rfl, h2, h3, h1⟩)
theorem sv_addG {L : List (RgA α)} (h : svF false L) (b l r : List α) : svF false (addG L b l r) := by
  rcases addG_cases L b l r with ⟨e, _⟩ | ⟨e, _⟩ | ⟨e, k⟩ <;> rw [e]
  · exact sv_addL h _
  · exact sv_addL h _
  · exact svF_snoc.2 ⟨h, okR_conf.2 k⟩
theorem str_addG {L : List (RgA α)} (h : StrR S W L) {b l r : List α} (hb : strL S W b) (hl : strL S W l) (hr : strL S W r) : StrR S W (addG L b l r) := by
  rcases addG_cases L b l r with ⟨e, _⟩ | ⟨e, _⟩ | ⟨e, k⟩ <;> rw [e]
  · exact str_addL h hl
  · exact str_addL h hr
  · exact StrR_snoc.2 ⟨h, hb, hl, hr⟩
theorem q_addG {L : List (RgA α)} (h : StrR S W L) {b l r : List α} (hb : prpL S W b) (hl : prpL S W l) (hr : prpL S W r) : QR S W (addG L b l r) := by
  rcases addG_cases L b l r with ⟨e, _⟩ | ⟨e, _⟩ | ⟨e, k⟩ <;> rw [e]
  · exact q_addL h hl
  · exact q_addL h hr
  · exact QR_snoc h ⟨hb, hl, hr⟩

/-- Merging along two scripts: valid regions. -/
theorem mgA_valid : ∀ (s t : List (List α × Bool × α)) (gb gl gr tl tr : List α) (L : List (RgA α)), srcG s = srcG t → svF false L → StrR S W L →
    prpL S W (gb ++ srcG s) → prpL S W (gl ++ dstG s tl) → prpL S W (gr ++ dstG t tr) → QR S W (mgA gb gl gr s t tl tr L) ∧ svF false (mgA gb gl gr s t tl tr L)
  | [], [], gb, gl, gr, tl, tr, L, _, hv, hs, hb, hl, hr => by
    have hb' : prpL S W gb := by rw [← List.append_nil gb]; exact hb
    exact ⟨q_addG hs hb' hl hr, sv_addG hv _ _ _⟩
  | [], y :: t, _, _, _, _, _, _, h, _, _, _, _, _ => by cases h
  | x :: s, [], _, _, _, _, _, _, h, _, _, _, _, _ => by cases h
  | (p, true, x) :: s, (q, true, y) :: t, gb, gl, gr, tl, tr, L, h, hv, hs, hb, hl, hr => by
    obtain ⟨h1, h2⟩ := List.cons.inj (show x :: srcG s = y :: srcG t from h)
    subst h1
    have hb : prpL S W (gb ++ x :: srcG s) := hb
    have hl : prpL S W ((gl ++ p) ++ x :: dstG s tl) := by rw [List.append_assoc]; exact hl
    have hr : prpL S W ((gr ++ q) ++ x :: dstG t tr) := by rw [List.append_assoc]; exact hr
    have hs1 : StrR S W (addG L gb (gl ++ p) (gr ++ q)) := str_addG hs (hb.left (by simp)) (hl.left (by simp)) (hr.left (by simp))
    have hv1 := sv_addL (sv_addG hv gb (gl ++ p) (gr ++ q)) [x]
    have hS : S x := hb.right.1 x List.mem_cons_self
    show QR S W (mgA [] [] [] s t tl tr (addL (addG L gb (gl ++ p) (gr ++ q)) [x])) ∧ svF false (mgA [] [] [] s t tl tr (addL (addG L gb (gl ++ p) (gr ++ q)) [x]))
    by_cases hw : W x
    · have hs2 := str_addL hs1 (ls := [x]) (fun z hz => by rw [List.mem_singleton.1 hz]; exact ⟨hS, hw⟩)
      exact mgA_valid s t [] [] [] tl tr _ h2 hv1 hs2 (prpL.right (l := [x]) hb.right) (prpL.right (l := [x]) hl.right) (prpL.right (l := [x]) hr.right)
    · have key : ∀ {l : List α}, prpL S W (x :: l) → l = [] := fun {l} hp => by
        refine Classical.byContradiction fun hne => hw (hp.2 x ?_)
        rw [List.dropLast_cons_of_ne_nil hne]
        exact List.mem_cons_self
      have e1 := key hb.right
      have e2 := key hl.right
      have e3 := key hr.right
      have es : s = [] := by
        cases s with
        | nil => rfl
        | cons z s => cases e1
      subst es
      have et : t = [] := by
        cases t with
        | nil => rfl
        | cons z t => cases h2
      subst et
      have e2 : tl = [] := e2
      have e3 : tr = [] := e3
      subst e2 e3
      have e4 : mgA ([] : List α) [] [] [] [] [] [] (addL (addG L gb (gl ++ p) (gr ++ q)) [x]) = addL (addG L gb (gl ++ p) (gr ++ q)) [x] := by
        show addG _ [] [] [] = _
        rw [addG_same, addL_nil]
      rw [e4]
      exact ⟨q_addL hs1 ⟨fun z hz => by rw [List.mem_singleton.1 hz]; exact hS, fun z hz => by cases hz⟩, hv1⟩
  | (p, false, x) :: s, (q, kq, y) :: t, gb, gl, gr, tl, tr, L, h, hv, hs, hb, hl, hr => by
    obtain ⟨h1, h2⟩ := List.cons.inj (show x :: srcG s = y :: srcG t from h)
    subst h1
    cases kq
    · refine mgA_valid s t (gb ++ [x]) (gl ++ p ++ []) (gr ++ q ++ []) tl tr L h2 hv hs ?_ ?_ ?_
      · rw [List.append_assoc]; exact hb
      · rw [List.append_nil, List.append_assoc]; exact hl
      · rw [List.append_nil, List.append_assoc]; exact hr
    · refine mgA_valid s t (gb ++ [x]) (gl ++ p ++ []) (gr ++ q ++ [x]) tl tr L h2 hv hs ?_ ?_ ?_
      · rw [List.append_assoc]; exact hb
      · rw [List.append_nil, List.append_assoc]; exact hl
      · rw [List.append_assoc, List.append_assoc]; exact hr
  | (p, true, x) :: s, (q, false, y) :: t, gb, gl, gr, tl, tr, L, h, hv, hs, hb, hl, hr => by
    obtain ⟨h1, h2⟩ := List.cons.inj (show x :: srcG s = y :: srcG t from h)
    subst h1
    refine mgA_valid s t (gb ++ [x]) (gl ++ p ++ [x]) (gr ++ q ++ []) tl tr L h2 hv hs ?_ ?_ ?_
    · rw [List.append_assoc]; exact hb
    · rw [List.append_assoc, List.append_assoc]; exact hl
    · rw [List.append_nil, List.append_assoc]; exact hr
theorem merge_valid (a b c : List α) (ha : prpL S W a) (hb : prpL S W b) (hc : prpL S W c) : QR S W (mergeL a b c) ∧ svF false (mergeL a b c) := by
  rw [merge_eq]
  refine mgA_valid _ _ [] [] [] _ _ [] (by rw [grpL_src, grpL_src]) trivial (fun _ h => by cases h) ?_ ?_ ?_
  · rw [grpL_src]; exact ha
  · rw [grpL_dst]; exact hb
  · rw [grpL_dst]; exact hc

omit [DecidableEq α] in
theorem side_str {c : List α × List α × List α} {s : Nat} (h : rStr S W (true, c)) : strL S W (side3 s c) := by
  unfold side3
  split
  · exact h.2.1
  · split
    · exact h.1
    · exact h.2.2
omit [DecidableEq α] in
theorem side_prp {c : List α × List α × List α} {s : Nat} (h : rPrp S W (true, c)) : prpL S W (side3 s c) := by
  unfold side3
  split
  · exact h.2.1
  · split
    · exact h.1
    · exact h.2.2
omit [DecidableEq α] in
/-- Settling: valid regions. -/
theorem stl_valid (i s : Nat) : ∀ (L : List (RgA α)) (n : Nat) (pp : Bool) (out : List (RgA α)), QR S W L → svF pp L → StrR S W out → svF false out → QR S W (stlF i s n L out) ∧ svF false (stlF i s n L out)
  | [], _, _, out, _, _, h, k => ⟨h.q, k⟩
  | (false, b, l, r) :: L, n, pp, out, hq, hv, h, k => by
    show QR S W (stlF i s n L (addL out l)) ∧ svF false (stlF i s n L (addL out l))
    rcases QR_cons hq with ⟨rfl, h1⟩ | ⟨_, h1, h2⟩
    · exact ⟨q_addL h h1.2.1, sv_addL k _⟩
    · exact stl_valid i s L n _ _ h2 hv.2 (str_addL h h1.2.1) (sv_addL k _)
  | (true, c) :: L, n, pp, out, hq, hv, h, k => by
    have hv1 : okR pp (true, c) := hv.1
    have hv2 : ∀ pp, okR pp (true, c) := fun pp => by obtain ⟨b, l, r⟩ := c; exact okR_conf.2 (okR_conf.1 hv1)
    show QR S W (stlF i s (n + 1) L (if n = i then addL out (side3 s c) else out ++ [(true, c)])) ∧ svF false (stlF i s (n + 1) L (if n = i then addL out (side3 s c) else out ++ [(true, c)]))
    by_cases hn : n = i
    · rw [if_pos hn]
      rcases QR_cons hq with ⟨rfl, h1⟩ | ⟨_, h1, h2⟩
      · exact ⟨q_addL h (side_prp h1), sv_addL k _⟩
      · exact stl_valid i s L (n + 1) _ _ h2 hv.2 (str_addL h (side_str h1)) (sv_addL k _)
    · rw [if_neg hn]
      rcases QR_cons hq with ⟨rfl, h1⟩ | ⟨_, h1, h2⟩
      · exact ⟨QR_snoc h h1, svF_snoc.2 ⟨k, hv2 _⟩⟩
      · exact stl_valid i s L (n + 1) _ _ h2 hv.2 (StrR_snoc.2 ⟨h, h1⟩) (svF_snoc.2 ⟨k, hv2 _⟩)

/-! ### the number of conflicts -/
section
omit [DecidableEq α]
theorem sg_count : ∀ (L : List (RgA α)) (acc : List α), (sgF acc L).1.length = L.countP (·.1)
  | [], _ => rfl
  | (false, _, l, _) :: rs, acc => by
    show (sgF (acc ++ l) rs).1.length = _
    rw [sg_count rs, List.countP_cons_of_neg (by simp)]
  | (true, c) :: rs, acc => by
    show (sgF [] rs).1.length + 1 = _
    rw [sg_count rs, List.countP_cons_of_pos (by simp)]
theorem repl_count (s : Nat) : ∀ (i : Nat) (xs : List (List α × List α × List α × List α)) (tl : List α), i < xs.length → (replS s i xs tl).1.length + 1 = xs.length
  | _, [], _, h => by cases h
  | 0, (p, c) :: xs, tl, _ => by
    show (prepS (p ++ side3 s c) (xs, tl)).1.length + 1 = xs.length + 1
    cases xs <;> rfl
  | i + 1, (p, c) :: xs, tl, h => by
    have := repl_count s i xs tl (by simpa using h)
    show (replS s i xs tl).1.length + 1 + 1 = xs.length + 1
    omega
theorem emit_count (xs : List (List α × List α × List α × List α)) (tl : List α) : (emitF xs tl).countP (·.1) = xs.length := by
  rw [← sg_count _ [], sg_emit]
theorem stl_count (i s : Nat) (L : List (RgA α)) (h : i < L.countP (·.1)) : (stlF i s 0 L []).countP (·.1) + 1 = L.countP (·.1) := by
  rw [stl_eq, emit_count, repl_count s i _ _ (by rw [sg_count]; exact h), sg_count]
theorem stl_comm' (s t a b : Nat) (L : List (RgA α)) (h : a < b) (hb : b < L.countP (·.1)) : stlF (b - 1) t 0 (stlF a s 0 L []) [] = stlF a s 0 (stlF b t 0 L []) [] :=
  stl_comm s t a b L h (by rw [sg_count]; exact hb)
end

/-! ### a merge without conflict -/
section
omit [DecidableEq α]
/-- The lines of regions without conflict. -/
def txtR (L : List (RgA α)) : List α := (L.map fun x => x.2.2.1).flatten
theorem txt_snoc (L : List (RgA α)) (x : RgA α) : txtR (L ++ [x]) = txtR L ++ x.2.2.1 := by simp [txtR]
theorem txt_addL (L : List (RgA α)) (ls : List α) : txtR (addL L ls) = txtR L ++ ls := by
  by_cases h0 : ls = []
  · subst h0; rw [addL_nil, List.append_nil]
  rcases rg_cases L with e | ⟨L', b, l, r, e⟩ | ⟨L', b, l, r, e⟩
  · subst e; rw [addL_empty h0]; simp [txtR]
  · subst e; rw [addL_plain _ _ _ _ h0, txt_snoc, txt_snoc, List.append_assoc]
  · subst e; rw [addL_conf _ _ _ _ h0, txt_snoc]
def clnR (L : List (RgA α)) : Prop := L.countP (·.1) = 0
theorem cln_snoc {L : List (RgA α)} {x : RgA α} : clnR (L ++ [x]) ↔ clnR L ∧ x.1 = false := by
  unfold clnR
  rw [List.countP_append, List.countP_singleton]
  cases x.1 <;> simp
theorem cln_addL {L : List (RgA α)} {ls : List α} (h : clnR (addL L ls)) : clnR L := by
  by_cases h0 : ls = []
  · subst h0; rw [addL_nil] at h; exact h
  rcases rg_cases L with e | ⟨L', b, l, r, e⟩ | ⟨L', b, l, r, e⟩
  · subst e; rfl
  · subst e; rw [addL_plain _ _ _ _ h0] at h; exact cln_snoc.2 ⟨(cln_snoc.1 h).1, rfl⟩
  · subst e; rw [addL_conf _ _ _ _ h0] at h; exact (cln_snoc.1 h).1
theorem cln_one {L : List (RgA α)} (h : clnR L) (k : svF false L) : L = addL [] (txtR L) := by
  cases L with
  | nil => exact (addL_nil _).symm
  | cons x L =>
    obtain ⟨c, b, l, r⟩ := x
    cases c with
    | true => unfold clnR at h; rw [List.countP_cons_of_pos (by simp)] at h; omega
    | false =>
      obtain ⟨h1, h2⟩ := k
      obtain ⟨_, k1, rfl, rfl⟩ := okR_plain.1 h1
      cases L with
      | nil =>
        show _ = addL [] ([l].flatten)
        simp only [List.flatten_cons, List.flatten_nil, List.append_nil]
        exact (addL_empty k1).symm
      | cons y L =>
        obtain ⟨c, b, l', r⟩ := y
        cases c with
        | true => unfold clnR at h; rw [List.countP_cons_of_neg (by simp), List.countP_cons_of_pos (by simp)] at h; omega
        | false => exact absurd (okR_plain.1 h2.1).1 (by simp)
end
theorem cln_addG {L : List (RgA α)} {b l r : List α} (h : clnR (addG L b l r)) : clnR L ∧ ((l = r ∧ txtR (addG L b l r) = txtR L ++ l) ∨ (b = r ∧ txtR (addG L b l r) = txtR L ++ l) ∨ (b = l ∧ txtR (addG L b l r) = txtR L ++ r)) := by
  rcases addG_cases L b l r with ⟨e, e1⟩ | ⟨e, e1⟩ | ⟨e, _⟩ <;> rw [e] at h ⊢
  · refine ⟨cln_addL h, ?_⟩
    rcases e1 with e1 | e1
    · exact .inl ⟨e1, txt_addL _ _⟩
    · exact .inr (.inl ⟨e1, txt_addL _ _⟩)
  · exact ⟨cln_addL h, .inr (.inr ⟨e1, txt_addL _ _⟩)⟩
  · exact absurd (cln_snoc.1 h).2 (by simp)

/-- What a merge without conflict has of three counts, in each gap and so in all. -/
theorem mgA_clean (f : List α → Nat) (hf0 : f [] = 0) (hf : ∀ x y, f (x ++ y) = f x + f y) :
    ∀ (s t : List (List α × Bool × α)) (gb gl gr tl tr : List α) (L : List (RgA α)), srcG s = srcG t → f (gb ++ srcG s) = 0 → clnR (mgA gb gl gr s t tl tr L) → clnR L ∧ ∃ m, txtR (mgA gb gl gr s t tl tr L) = txtR L ++ m ∧
      f (gl ++ dstG s tl) ≤ f m ∧ f (gr ++ dstG t tr) ≤ f m ∧ f m ≤ f (gl ++ dstG s tl) + f (gr ++ dstG t tr)
  | [], [], gb, gl, gr, tl, tr, L, _, h0, hc => by
    have hb : f gb = 0 := by rw [← List.append_nil gb]; exact h0
    have hc : clnR (addG L gb (gl ++ tl) (gr ++ tr)) := hc
    show clnR L ∧ ∃ m, txtR (addG L gb (gl ++ tl) (gr ++ tr)) = txtR L ++ m ∧ f (gl ++ tl) ≤ f m ∧ f (gr ++ tr) ≤ f m ∧ f m ≤ f (gl ++ tl) + f (gr ++ tr)
    obtain ⟨h1, ⟨h2, h3⟩ | ⟨h2, h3⟩ | ⟨h2, h3⟩⟩ := cln_addG hc
    · exact ⟨h1, _, h3, by omega, by rw [← h2]; omega, by omega⟩
    · exact ⟨h1, _, h3, by omega, by rw [← h2]; omega, by omega⟩
    · exact ⟨h1, _, h3, by rw [← h2]; omega, by omega, by omega⟩
  | [], y :: t, _, _, _, _, _, _, h, _, _ => by cases h
  | x :: s, [], _, _, _, _, _, _, h, _, _ => by cases h
  | (p, true, x) :: s, (q, true, y) :: t, gb, gl, gr, tl, tr, L, h, h0, hc => by
    obtain ⟨h1, h2⟩ := List.cons.inj (show x :: srcG s = y :: srcG t from h)
    subst h1
    have h0 : f (gb ++ ([x] ++ srcG s)) = 0 := h0
    rw [hf, hf] at h0
    obtain ⟨c1, m, e1, b1, b2, b3⟩ := mgA_clean f hf0 hf s t [] [] [] tl tr _ h2 (by show f (srcG s) = 0; omega) hc
    obtain ⟨c2, k⟩ := cln_addG (cln_addL c1)
    have b1 : f (dstG s tl) ≤ f m := b1
    have b2 : f (dstG t tr) ≤ f m := b2
    have b3 : f m ≤ f (dstG s tl) + f (dstG t tr) := b3
    have hg : ∃ g, txtR (addG L gb (gl ++ p) (gr ++ q)) = txtR L ++ g ∧ f (gl ++ p) ≤ f g ∧ f (gr ++ q) ≤ f g ∧ f g ≤ f (gl ++ p) + f (gr ++ q) := by
      rcases k with ⟨k1, k2⟩ | ⟨k1, k2⟩ | ⟨k1, k2⟩
      · exact ⟨_, k2, by omega, by rw [← k1]; omega, by omega⟩
      · exact ⟨_, k2, by omega, by rw [← k1]; omega, by omega⟩
      · exact ⟨_, k2, by rw [← k1]; omega, by omega, by omega⟩
    obtain ⟨g, g1, g2, g3, g4⟩ := hg
    refine ⟨c2, g ++ ([x] ++ m), ?_, ?_, ?_, ?_⟩
    · show txtR (mgA [] [] [] s t tl tr _) = _
      rw [e1, txt_addL, g1]; simp
    all_goals
      show _
      have d1 : dstG ((p, true, x) :: s) tl = p ++ ([x] ++ dstG s tl) := rfl
      have d2 : dstG ((q, true, x) :: t) tr = q ++ ([x] ++ dstG t tr) := rfl
      rw [hf] at g2 g3 g4
      rw [hf] at g4
      simp only [d1, d2, hf]
      omega
  | (p, false, x) :: s, (q, kq, y) :: t, gb, gl, gr, tl, tr, L, h, h0, hc => by
    obtain ⟨h1, h2⟩ := List.cons.inj (show x :: srcG s = y :: srcG t from h)
    subst h1
    have e0 : gb ++ srcG ((p, false, x) :: s) = gb ++ [x] ++ srcG s := by rw [List.append_assoc]; rfl
    rw [e0] at h0
    cases kq
    · have e1 : gl ++ dstG ((p, false, x) :: s) tl = gl ++ p ++ [] ++ dstG s tl := by rw [List.append_nil, List.append_assoc]; rfl
      have e2 : gr ++ dstG ((q, false, x) :: t) tr = gr ++ q ++ [] ++ dstG t tr := by rw [List.append_nil, List.append_assoc]; rfl
      rw [e1, e2]
      exact mgA_clean f hf0 hf s t (gb ++ [x]) (gl ++ p ++ []) (gr ++ q ++ []) tl tr L h2 h0 hc
    · have e1 : gl ++ dstG ((p, false, x) :: s) tl = gl ++ p ++ [] ++ dstG s tl := by rw [List.append_nil, List.append_assoc]; rfl
      have e2 : gr ++ dstG ((q, true, x) :: t) tr = gr ++ q ++ [x] ++ dstG t tr := by rw [List.append_assoc, List.append_assoc]; rfl
      rw [e1, e2]
      exact mgA_clean f hf0 hf s t (gb ++ [x]) (gl ++ p ++ []) (gr ++ q ++ [x]) tl tr L h2 h0 hc
  | (p, true, x) :: s, (q, false, y) :: t, gb, gl, gr, tl, tr, L, h, h0, hc => by
    obtain ⟨h1, h2⟩ := List.cons.inj (show x :: srcG s = y :: srcG t from h)
    subst h1
    have e0 : gb ++ srcG ((p, true, x) :: s) = gb ++ [x] ++ srcG s := by rw [List.append_assoc]; rfl
    rw [e0] at h0
    have e1 : gl ++ dstG ((p, true, x) :: s) tl = gl ++ p ++ [x] ++ dstG s tl := by rw [List.append_assoc, List.append_assoc]; rfl
    have e2 : gr ++ dstG ((q, false, x) :: t) tr = gr ++ q ++ [] ++ dstG t tr := by rw [List.append_nil, List.append_assoc]; rfl
    rw [e1, e2]
    exact mgA_clean f hf0 hf s t (gb ++ [x]) (gl ++ p ++ [x]) (gr ++ q ++ []) tl tr L h2 h0 hc
/-- A line that the base does not have. -/
theorem merge_counts (a b c : List α) (x : α) (h : a.count x = 0) (hc : clnR (mergeL a b c)) : b.count x ≤ (txtR (mergeL a b c)).count x ∧ c.count x ≤ (txtR (mergeL a b c)).count x ∧ (txtR (mergeL a b c)).count x ≤ b.count x + c.count x := by
  rw [merge_eq] at hc ⊢
  obtain ⟨_, m, e, h1, h2, h3⟩ := mgA_clean (fun l => l.count x) rfl (fun _ _ => List.count_append) _ _ [] [] [] _ _ [] (by rw [grpL_src, grpL_src]) (by rw [grpL_src]; exact h) hc
  simp only [List.nil_append, grpL_dst] at h1 h2 h3
  rw [e]
  exact ⟨h1, h2, h3⟩

/-- The lines that only one side has, in order. -/
theorem mgA_only (p : α → Bool) : ∀ (s t : List (List α × Bool × α)) (gb gl gr tl tr : List α) (L : List (RgA α)), srcG s = srcG t → (∀ x ∈ gb ++ srcG s, p x = false) → (∀ x ∈ gr ++ dstG t tr, p x = false) → clnR (mgA gb gl gr s t tl tr L) →
    clnR L ∧ ∃ m, txtR (mgA gb gl gr s t tl tr L) = txtR L ++ m ∧ m.filter p = (gl ++ dstG s tl).filter p := by
  have none : ∀ {l : List α}, (∀ x ∈ l, p x = false) → l.filter p = [] := fun {l} h => List.filter_eq_nil_iff.2 fun x hx => by rw [h x hx]; simp
  have gap : ∀ (L : List (RgA α)) (b l r : List α), (∀ x ∈ b, p x = false) → (∀ x ∈ r, p x = false) → clnR (addG L b l r) → clnR L ∧ ∃ m, txtR (addG L b l r) = txtR L ++ m ∧ m.filter p = l.filter p := by
    intro L b l r hb hr hc
    obtain ⟨h1, ⟨h2, h3⟩ | ⟨h2, h3⟩ | ⟨h2, h3⟩⟩ := cln_addG hc
    · exact ⟨h1, _, h3, rfl⟩
    · exact ⟨h1, _, h3, rfl⟩
    · exact ⟨h1, _, h3, by rw [← h2, none hb, none hr]⟩
  intro s
  induction s with
  | nil =>
    intro t gb gl gr tl tr L h hb hr hc
    cases t with
    | cons y t => cases h
    | nil => exact gap L gb (gl ++ tl) (gr ++ tr) (fun x hx => hb x (List.mem_append_left _ hx)) hr hc
  | cons z s ih =>
    intro t gb gl gr tl tr L h hb hr hc
    obtain ⟨u, k, x⟩ := z
    cases t with
    | nil => cases h
    | cons y t =>
      obtain ⟨q, kq, y⟩ := y
      obtain ⟨h1, h2⟩ := List.cons.inj (show x :: srcG s = y :: srcG t from h)
      subst h1
      have hx : p x = false := hb x (List.mem_append_right _ List.mem_cons_self)
      cases k
      · have e1 : gl ++ dstG ((u, false, x) :: s) tl = gl ++ u ++ [] ++ dstG s tl := by rw [List.append_nil, List.append_assoc]; rfl
        have e0 : gb ++ srcG ((u, false, x) :: s) = gb ++ [x] ++ srcG s := by rw [List.append_assoc]; rfl
        rw [e1]; rw [e0] at hb
        cases kq
        · have e2 : gr ++ dstG ((q, false, x) :: t) tr = gr ++ q ++ [] ++ dstG t tr := by rw [List.append_nil, List.append_assoc]; rfl
          rw [e2] at hr
          exact ih t (gb ++ [x]) (gl ++ u ++ []) (gr ++ q ++ []) tl tr L h2 hb hr hc
        · have e2 : gr ++ dstG ((q, true, x) :: t) tr = gr ++ q ++ [x] ++ dstG t tr := by rw [List.append_assoc, List.append_assoc]; rfl
          rw [e2] at hr
          exact ih t (gb ++ [x]) (gl ++ u ++ []) (gr ++ q ++ [x]) tl tr L h2 hb hr hc
      · cases kq
        · have e1 : gl ++ dstG ((u, true, x) :: s) tl = gl ++ u ++ [x] ++ dstG s tl := by rw [List.append_assoc, List.append_assoc]; rfl
          have e0 : gb ++ srcG ((u, true, x) :: s) = gb ++ [x] ++ srcG s := by rw [List.append_assoc]; rfl
          have e2 : gr ++ dstG ((q, false, x) :: t) tr = gr ++ q ++ [] ++ dstG t tr := by rw [List.append_nil, List.append_assoc]; rfl
          rw [e1]; rw [e0] at hb; rw [e2] at hr
          exact ih t (gb ++ [x]) (gl ++ u ++ [x]) (gr ++ q ++ []) tl tr L h2 hb hr hc
        · have hr' : ∀ z ∈ gr ++ (q ++ ([x] ++ dstG t tr)), p z = false := hr
          obtain ⟨c1, m, e1, b1⟩ := ih t [] [] [] tl tr (addL (addG L gb (gl ++ u) (gr ++ q)) [x]) h2 (fun z hz => hb z (List.mem_append_right _ (List.mem_cons_of_mem _ hz))) (fun z hz => hr' z (by simp only [List.mem_append, List.nil_append] at hz ⊢; exact .inr (.inr (.inr hz)))) hc
          obtain ⟨c2, g, g1, g2⟩ := gap L gb (gl ++ u) (gr ++ q) (fun z hz => hb z (List.mem_append_left _ hz)) (fun z hz => hr' z (by simp only [List.mem_append] at hz ⊢; exact hz.elim .inl fun e => .inr (.inl e))) (cln_addL c1)
          refine ⟨c2, g ++ ([x] ++ m), ?_, ?_⟩
          · show txtR (mgA [] [] [] s t tl tr _) = _
            rw [e1, txt_addL, g1]; simp
          · have d1 : gl ++ dstG ((u, true, x) :: s) tl = (gl ++ u) ++ ([x] ++ dstG s tl) := by rw [List.append_assoc]; rfl
            have b1 : m.filter p = (dstG s tl).filter p := b1
            rw [d1, List.filter_append, List.filter_append, List.filter_append (p := p) (gl ++ u), List.filter_append (p := p) [x], g2, b1]
theorem merge_only (a b c : List α) (p : α → Bool) (ha : ∀ x ∈ a, p x = false) (hr : ∀ x ∈ c, p x = false) (hc : clnR (mergeL a b c)) : (txtR (mergeL a b c)).filter p = b.filter p := by
  rw [merge_eq] at hc ⊢
  obtain ⟨_, m, e, h1⟩ := mgA_only p _ _ [] [] [] _ _ [] (by rw [grpL_src, grpL_src]) (by rw [grpL_src]; exact ha) (by rw [grpL_dst]; exact hr) hc
  rw [grpL_dst] at h1
  rw [e]
  exact h1
end
end Go.Proofs.Ythobbcafemkhbaa
