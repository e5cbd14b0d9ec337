/- How great merged and settled regions are. -/
import Derived.Test.YthobbcafemkhbaaTmLaw2
import Derived.Test.YthobbcafemkhbaaTmStl
namespace Go.Proofs.Ythobbcafemkhbaa
open Go.RowKit
set_option linter.unusedVariables false

/-- All lines of all lists. -/
def totR (L : List Rg) : Nat := (L.map fun x => x.2.1.length + x.2.2.1.length + x.2.2.2.length).sum
theorem totR_append (a b : List Rg) : totR (a ++ b) = totR a + totR b := by unfold totR; rw [List.map_append, List.sum_append]
theorem totR_one (x : Rg) : totR [x] = x.2.1.length + x.2.2.1.length + x.2.2.2.length := by simp [totR]
theorem totR_cons (x : Rg) (L : List Rg) : totR (x :: L) = x.2.1.length + x.2.2.1.length + x.2.2.2.length + totR L := by simp [totR]
theorem totR_mem {L : List Rg} {x : Rg} (h : x ∈ L) : x.2.1.length + x.2.2.1.length + x.2.2.2.length ≤ totR L := by
  obtain ⟨a, b, rfl⟩ := List.append_of_mem h
  rw [totR_append, totR_cons]; omega
theorem totR_addL (L : List Rg) (ls : List ByteArray) : totR (addL L ls) ≤ totR L + ls.length := by
  by_cases h0 : ls = []
  · subst h0; rw [addL_nil]; simp
  rcases rg_cases L with e | ⟨L', b, l, r, e⟩ | ⟨L', b, l, r, e⟩
  · subst e; rw [addL_empty h0, totR_one]; simp
  · subst e; rw [addL_plain _ _ _ _ h0]; simp only [totR_append, totR_one, List.length_append, List.length_nil]; omega
  · subst e; rw [addL_conf _ _ _ _ h0]; simp only [totR_append, totR_one, List.length_nil]; omega
theorem totR_addG (L : List Rg) (b l r : List ByteArray) : totR (addG L b l r) ≤ totR L + b.length + l.length + r.length := by
  rcases addG_cases L b l r with ⟨e, _⟩ | ⟨e, _⟩ | ⟨e, _⟩ <;> rw [e]
  · have := totR_addL L l; omega
  · have := totR_addL L r; omega
  · rw [totR_append, totR_one]; simp only; omega
theorem mgA_tot : ∀ (s t : List (List ByteArray × Bool × ByteArray)) (gb gl gr tl tr : List ByteArray) (L : List Rg), totR (mgA gb gl gr s t tl tr L) ≤ totR L + gb.length + gl.length + gr.length + s.length + (dstG s tl).length + (dstG t tr).length := by
  have hd : ∀ (s : List (List ByteArray × Bool × ByteArray)) (tl : List ByteArray), tl.length ≤ (dstG s tl).length := by
    intro s tl
    induction s with
    | nil => exact Nat.le_refl _
    | cons x s ih =>
      obtain ⟨p, k, x⟩ := x
      cases k
      · show _ ≤ (p ++ dstG s tl).length
        rw [List.length_append]; omega
      · show _ ≤ (p ++ x :: dstG s tl).length
        rw [List.length_append, List.length_cons]; omega
  intro s
  induction s with
  | nil =>
    intro t gb gl gr tl tr L
    have : mgA gb gl gr [] t tl tr L = addG L gb (gl ++ tl) (gr ++ tr) := by cases t <;> rfl
    rw [this]
    have h1 := totR_addG L gb (gl ++ tl) (gr ++ tr)
    have h2 := hd t tr
    show _ ≤ _ + tl.length + _
    simp only [List.length_append, List.length_nil] at h1 ⊢; omega
  | cons x s ih =>
    intro t gb gl gr tl tr L
    have hx := hd (x :: s) tl
    obtain ⟨p, k, x⟩ := x
    cases t with
    | nil =>
      have : mgA gb gl gr ((p, k, x) :: s) [] tl tr L = addG L gb (gl ++ tl) (gr ++ tr) := by cases k <;> rfl
      rw [this]
      have h1 := totR_addG L gb (gl ++ tl) (gr ++ tr)
      show _ ≤ _ + tr.length
      simp only [List.length_append, List.length_cons] at h1 ⊢; omega
    | cons y t =>
      clear hx
      obtain ⟨q, kq, y⟩ := y
      cases k <;> cases kq
      · have h1 := ih t (gb ++ [x]) (gl ++ p ++ []) (gr ++ q ++ []) tl tr L
        refine Nat.le_trans h1 ?_
        show _ ≤ _ + (p ++ dstG s tl).length + (q ++ dstG t tr).length
        simp only [List.length_append, List.length_cons, List.length_nil]; omega
      · have h1 := ih t (gb ++ [x]) (gl ++ p ++ []) (gr ++ q ++ [y]) tl tr L
        refine Nat.le_trans h1 ?_
        show _ ≤ _ + (p ++ dstG s tl).length + (q ++ y :: dstG t tr).length
        simp only [List.length_append, List.length_cons, List.length_nil]; omega
      · have h1 := ih t (gb ++ [x]) (gl ++ p ++ [x]) (gr ++ q ++ []) tl tr L
        refine Nat.le_trans h1 ?_
        show _ ≤ _ + (p ++ x :: dstG s tl).length + (q ++ dstG t tr).length
        simp only [List.length_append, List.length_cons, List.length_nil]; omega
      · have h1 := ih t [] [] [] tl tr (addL (addG L gb (gl ++ p) (gr ++ q)) [x])
        have h2 := totR_addL (addG L gb (gl ++ p) (gr ++ q)) [x]
        have h3 := totR_addG L gb (gl ++ p) (gr ++ q)
        refine Nat.le_trans h1 ?_
        show _ ≤ _ + (p ++ x :: dstG s tl).length + (q ++ y :: dstG t tr).length
        simp only [List.length_append, List.length_cons, List.length_nil] at h2 h3 ⊢; omega
theorem merge_tot (a b c : List ByteArray) : totR (mergeL a b c) ≤ a.length + b.length + c.length := by
  rw [merge_eq]
  have := mgA_tot (grpL a b) (grpL a c) [] [] [] (grpT a b) (grpT a c) []
  have h : (grpL a b).length = a.length := by
    have := congrArg List.length (grpL_src a b)
    unfold srcG at this
    rwa [List.length_map] at this
  rw [h, grpL_dst, grpL_dst] at this
  simpa [totR] using this
theorem stl_tot (i s : Nat) : ∀ (L : List Rg) (n : Nat) (out : List Rg), totR (stlF i s n L out) ≤ totR out + totR L ∧ (stlF i s n L out).length ≤ out.length + L.length
  | [], n, out => by exact ⟨by show totR out ≤ _; omega, by show out.length ≤ _; omega⟩
  | (false, b, l, r) :: L, n, out => by
    obtain ⟨h1, h2⟩ := stl_tot i s L n (addL out l)
    have h3 := totR_addL out l
    have h4 := addL_length out l
    rw [totR_cons, List.length_cons]
    exact ⟨Nat.le_trans h1 (by simp only; omega), Nat.le_trans h2 (by omega)⟩
  | (true, b, l, r) :: L, n, out => by
    obtain ⟨h1, h2⟩ := stl_tot i s L (n + 1) (if n = i then addL out (side3 s (b, l, r)) else out ++ [(true, b, l, r)])
    have h3 := totR_addL out (side3 s (b, l, r))
    have h4 := addL_length out (side3 s (b, l, r))
    have h5 : (side3 s (b, l, r)).length ≤ b.length + l.length + r.length := by
      unfold side3
      split
      · simp only; omega
      · split
        · simp only; omega
        · simp only; omega
    rw [totR_cons, List.length_cons]
    by_cases hn : n = i
    · rw [if_pos hn] at h1 h2
      have e : stlF i s n ((true, b, l, r) :: L) out = stlF i s (n + 1) L (addL out (side3 s (b, l, r))) := by show stlF i s (n + 1) L (if n = i then _ else _) = _; rw [if_pos hn]
      rw [e]
      exact ⟨Nat.le_trans h1 (by simp only; omega), Nat.le_trans h2 (by omega)⟩
    · rw [if_neg hn] at h1 h2
      have e : stlF i s n ((true, b, l, r) :: L) out = stlF i s (n + 1) L (out ++ [(true, b, l, r)]) := by show stlF i s (n + 1) L (if n = i then _ else _) = _; rw [if_neg hn]
      rw [e]
      rw [totR_append, totR_one] at h1
      rw [List.length_append] at h2
      exact ⟨Nat.le_trans h1 (by simp only; omega), Nat.le_trans h2 (by simp only [List.length_cons, List.length_nil]; omega)⟩
where
  addL_length (L : List Rg) (ls : List ByteArray) : (addL L ls).length ≤ L.length + 1 := by
    by_cases h0 : ls = []
    · subst h0; rw [addL_nil]; omega
    rcases rg_cases L with e | ⟨L', b, l, r, e⟩ | ⟨L', b, l, r, e⟩
    · subst e; rw [addL_empty h0]; simp
    · subst e; rw [addL_plain _ _ _ _ h0]; simp
    · subst e; rw [addL_conf _ _ _ _ h0]; simp

/-- Regions that a merge of three little texts leaves, and what settling makes of them. -/
structure Good (L : List Rg) : Prop where
  v : vldF false L = true
  z : QR (fun s : ByteArray => s.size ≤ 200) (fun _ => True) L
  n : L.length ≤ 41
  t : totR L ≤ 60
theorem Good.sz {L : List Rg} (h : Good L) : SzR L := fun x hx => by
  obtain ⟨h1, h2, h3⟩ := all_str.1 h.z x hx
  exact ⟨fun s hs => by have := h1 s hs; omega, fun s hs => by have := h2 s hs; omega, fun s hs => by have := h3 s hs; omega⟩
theorem Good.ln {L : List Rg} (h : Good L) : LnR 1000 L := fun x hx => by
  have h1 := totR_mem hx
  have h2 := h.t
  omega
theorem Good.merge {a b c : ByteArray} (ha : few1 a = true) (hb : few1 b = true) (hc : few1 c = true) : Good (mergeL (lns a) (lns b) (lns c)) := by
  have key : ∀ {s : ByteArray}, few1 s = true → ∀ x ∈ lns s, x.size ≤ 200 := fun h => lns_sz (few_ok h).1
  have h1 := (few_ok ha).2
  have h2 := (few_ok hb).2
  have h3 := (few_ok hc).2
  have h4 := merge_length (lns a) (lns b) (lns c)
  have h5 := merge_tot (lns a) (lns b) (lns c)
  exact ⟨vld_merge a b c, all_str.2 (merge_all (key ha) (key hb) (key hc)), by omega, by omega⟩
theorem Good.stl {L : List Rg} (h : Good L) (i s : Nat) : Good (stlF i s 0 L []) := by
  obtain ⟨h1, h2⟩ := stl_tot i s L 0 []
  have h3 := h.n
  have h4 := h.t
  refine ⟨vld_stl h.v i s, ?_, Nat.le_trans h2 (by simpa using h3), Nat.le_trans h1 (by simpa [totR] using h4)⟩
  obtain ⟨q1, q2⟩ := (vldF_iff _ _).1 h.v
  exact (stl_valid (S := fun s : ByteArray => s.size ≤ 200) (W := fun _ => True) i s L 0 false [] h.z q2 (fun _ h => by cases h) trivial).1
theorem sum_le2 {l : List Nat} {m : Nat} (h : ∀ x ∈ l, x ≤ m) : l.sum ≤ l.length * m := by
  induction l with
  | nil => simp
  | cons x l ih =>
    have h1 := ih fun y hy => h y (List.mem_cons_of_mem _ hy)
    have h2 := h x List.mem_cons_self
    rw [List.sum_cons, List.length_cons, Nat.add_mul]; omega
/-- Clean, of good regions. -/
theorem good_clean {L : List Rg} (g : Good L) (w : World) (v : Value) (h : Rgs w v L) : Calls Try.prog 18 #[v] w fun e w' => (∃ s, e = .returned (.tuple #[.string s, .bool (decide (cntL L = 0))])) ∧ Below w.heap.size w w' := by
  have := clean_any w v L h g.sz fun x hx => by
    have h1 := totR_mem hx
    have h2 := g.t
    have h3 := (all_str.1 g.z x hx).2.1
    have h4 : (textB x.2.2.1).size ≤ x.2.2.1.length * 200 := by
      rw [textB_size]
      refine Nat.le_trans (sum_le2 (m := 200) fun y hy => ?_) (by rw [List.length_map]; exact Nat.le_refl _)
      · obtain ⟨s, hs, rfl⟩ := List.mem_map.1 hy
        exact h3 s hs
    omega
  rw [clnS_valid g.v] at this
  refine this.mono fun e w' ⟨h1, h2⟩ => ⟨?_, h2⟩
  by_cases hc : L.countP (·.1) = 0
  · rw [if_pos hc] at h1
    exact ⟨_, h1.trans (by rw [decide_eq_true (show cntL L = 0 from hc)])⟩
  · rw [if_neg hc] at h1
    exact ⟨_, h1.trans (by rw [decide_eq_false (show ¬ cntL L = 0 from hc)])⟩
/-- Settle, of good regions. -/
theorem good_settle {L : List Rg} (g : Good L) {i s : Nat} (hi : i < cntL L) (hs : s ≤ 2) (w : World) (v : Value) (h : Rgs w v L) : Calls Try.prog 23 #[v, .int .i64 i, .int .i64 s] w fun e w' => ∃ v', e = .returned (.tuple #[v', .int .i64 0]) ∧ Rgs w' v' (stlF i s 0 L []) ∧ Below w.heap.size w w' := by
  have h1 := cntL_le L
  have h2 := g.n
  have := settle_any w v L i s h g.sz (by omega) g.ln (by omega) (by omega) (by omega) (by omega)
  have e : settleS L i s = (stlF i s 0 L [], 0) := by
    unfold settleS
    rw [if_neg (by rw [g.v]; simp), if_neg (by omega)]
    simp
  rw [e] at this
  exact this
theorem good_count {L : List Rg} {i s : Nat} (h : i < cntL L) : cntL (stlF i s 0 L []) + 1 = cntL L := stl_count i s L h
end Go.Proofs.Ythobbcafemkhbaa
