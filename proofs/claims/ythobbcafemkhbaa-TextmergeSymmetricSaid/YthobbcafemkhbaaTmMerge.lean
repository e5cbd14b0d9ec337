/- Plain merging: gaps and regions; the merge by places is the merge along two scripts. -/
import Derived.Test.YthobbcafemkhbaaTmPlain
namespace Go.Proofs.Ythobbcafemkhbaa

section
variable {α : Type} [DecidableEq α]

/-- A region: conflict, base, left, right. -/
abbrev RgA (α : Type) := Bool × List α × List α × List α
def addL (L : List (RgA α)) (ls : List α) : List (RgA α) :=
  if ls = [] then L else match L.getLast? with
    | some (false, _, l, _) => L.dropLast ++ [(false, [], l ++ ls, [])]
    | _ => L ++ [(false, [], ls, [])]
def addG (L : List (RgA α)) (b l r : List α) : List (RgA α) :=
  if l = r then addL L l else if b = l then addL L r else if b = r then addL L l else L ++ [(true, b, l, r)]

/-- The merge by places: what is left of the pairs of places from line n on; the gap begins at i, j, k. -/
def mgI (a b c : List α) : List (Int × Int) → Nat → Nat → Nat → Nat → List (RgA α) → List (RgA α)
  | [], _, i, j, k, L => addG L (a.drop i) (b.drop j) (c.drop k)
  | (x, y) :: ps, n, i, j, k, L =>
    if x < 0 ∨ y < 0 then mgI a b c ps (n + 1) i j k L
    else mgI a b c ps (n + 1) (n + 1) (x.toNat + 1) (y.toNat + 1) (addL (addG L ((a.drop i).take (n - i)) ((b.drop j).take (x.toNat - j)) ((c.drop k).take (y.toNat - k))) ((a.drop n).take 1))
def mergeL (a b c : List α) : List (RgA α) := mgI a b c ((plcL a b).zip (plcL a c)) 0 0 0 0 []

/-! ### a script by the lines of its source -/
section
omit [DecidableEq α]
/-- For each line of the source: what is added before it, and is it kept? And what is added behind the last one. -/
def grp : List α → List (Nat × α) → List (List α × Bool × α) × List α
  | ins, [] => ([], ins)
  | ins, (0, x) :: s => ((ins, true, x) :: (grp [] s).1, (grp [] s).2)
  | ins, (1, x) :: s => ((ins, false, x) :: (grp [] s).1, (grp [] s).2)
  | ins, (_, x) :: s => grp (ins ++ [x]) s
def plcG : Nat → List (List α × Bool × α) → List Int
  | _, [] => []
  | k, (p, true, _) :: s => ((k + p.length : Nat) : Int) :: plcG (k + p.length + 1) s
  | k, (p, false, _) :: s => -1 :: plcG (k + p.length) s
def srcG (s : List (List α × Bool × α)) : List α := s.map (·.2.2)
def dstG : List (List α × Bool × α) → List α → List α
  | [], tl => tl
  | (p, true, x) :: s, tl => p ++ x :: dstG s tl
  | (p, false, _) :: s, tl => p ++ dstG s tl
theorem plcG_grp : ∀ (s : List (Nat × α)) (ins : List α) (k : Nat), plcG k (grp ins s).1 = plcS (k + ins.length) s
  | [], _, _ => rfl
  | (0, x) :: s, ins, k => by
    show ((k + ins.length : Nat) : Int) :: plcG (k + ins.length + 1) (grp [] s).1 = _
    rw [plcG_grp s [] _]; rfl
  | (1, x) :: s, ins, k => by
    show -1 :: plcG (k + ins.length) (grp [] s).1 = _
    rw [plcG_grp s [] _]; rfl
  | (j + 2, x) :: s, ins, k => by
    show plcG k (grp (ins ++ [x]) s).1 = _
    rw [plcG_grp s _ _, List.length_append]; rfl
theorem srcG_grp : ∀ (s : List (Nat × α)) (ins : List α), srcG (grp ins s).1 = src s
  | [], _ => rfl
  | (0, x) :: s, _ => congrArg (x :: ·) (srcG_grp s [])
  | (1, x) :: s, _ => congrArg (x :: ·) (srcG_grp s [])
  | (_ + 2, _) :: s, _ => srcG_grp s _
theorem dstG_grp : ∀ (s : List (Nat × α)) (ins : List α), dstG (grp ins s).1 (grp ins s).2 = ins ++ dst s
  | [], ins => (List.append_nil ins).symm
  | (0, x) :: s, ins => by
    show ins ++ x :: dstG (grp [] s).1 (grp [] s).2 = _
    rw [dstG_grp s []]; rfl
  | (1, x) :: s, ins => by
    show ins ++ dstG (grp [] s).1 (grp [] s).2 = _
    rw [dstG_grp s []]; rfl
  | (j + 2, x) :: s, ins => by
    show dstG (grp (ins ++ [x]) s).1 (grp (ins ++ [x]) s).2 = _
    rw [dstG_grp s _, List.append_assoc]; rfl
end

/-- The merge along two scripts; gb, gl, gr: what the gap has so far. -/
def mgA : List α → List α → List α → List (List α × Bool × α) → List (List α × Bool × α) → List α → List α → List (RgA α) → List (RgA α)
  | gb, gl, gr, (p, true, x) :: s, (q, true, _) :: t, tl, tr, L => mgA [] [] [] s t tl tr (addL (addG L gb (gl ++ p) (gr ++ q)) [x])
  | gb, gl, gr, (p, kp, x) :: s, (q, kq, y) :: t, tl, tr, L => mgA (gb ++ [x]) (gl ++ p ++ if kp = true then [x] else []) (gr ++ q ++ if kq = true then [y] else []) s t tl tr L
  | gb, gl, gr, _, _, tl, tr, L => addG L gb (gl ++ tl) (gr ++ tr)

theorem mgI_mgA (a b c : List α) : ∀ (s t : List (List α × Bool × α)) (n i j k cj ck : Nat) (tl tr : List α) (L : List (RgA α)), srcG s = a.drop n → srcG t = a.drop n → i ≤ n → j ≤ cj → k ≤ ck → cj ≤ b.length → ck ≤ c.length → n ≤ a.length →
    dstG s tl = b.drop cj → dstG t tr = c.drop ck →
    mgI a b c ((plcG cj s).zip (plcG ck t)) n i j k L = mgA ((a.drop i).take (n - i)) ((b.drop j).take (cj - j)) ((c.drop k).take (ck - k)) s t tl tr L := by
  intro s
  induction s with
  | nil =>
    intro t n i j k cj ck tl tr L h1 h2 hi hj hk hb hc hn hd he
    have hnn : a.drop n = [] := h1.symm
    have hn2 : a.length ≤ n := by simpa using hnn
    cases t with
    | cons y t => rw [hnn] at h2; cases h2
    | nil =>
      show addG L (a.drop i) (b.drop j) (c.drop k) = addG L _ _ _
      have e1 : (a.drop i).take (n - i) = a.drop i := List.take_of_length_le (by rw [List.length_drop]; omega)
      have key : ∀ (l : List α) (j cj : Nat) (tl : List α), j ≤ cj → tl = l.drop cj → (l.drop j).take (cj - j) ++ tl = l.drop j := by
        intro l j cj tl h e
        rw [e, show l.drop cj = (l.drop j).drop (cj - j) by rw [List.drop_drop]; congr 1; omega, List.take_append_drop]
      rw [e1, key b j cj tl hj hd, key c k ck tr hk he]
  | cons x s ih =>
    intro t n i j k cj ck tl tr L h1 h2 hi hj hk hb hc hn hd he
    obtain ⟨p, kp, x⟩ := x
    cases t with
    | nil =>
      have hnn : a.drop n = [] := h2.symm
      rw [hnn] at h1; cases h1
    | cons y t =>
      obtain ⟨q, kq, y⟩ := y
      have h1' : x :: srcG s = a.drop n := h1
      have h2' : y :: srcG t = a.drop n := h2
      have hlt : n < a.length := by
        have := congrArg List.length h1'
        simp only [List.length_cons, List.length_drop] at this
        omega
      have ht1 : srcG s = a.drop (n + 1) := by rw [← List.drop_drop, ← h1']; rfl
      have ht2 : srcG t = a.drop (n + 1) := by rw [← List.drop_drop, ← h2']; rfl
      have hxy : y = x := by rw [← h1'] at h2'; exact (List.cons.inj h2').1
      subst hxy
      have hx1 : (a.drop n).take 1 = [y] := by rw [← h1']; rfl
      have hax : (a.drop i).take (n + 1 - i) = (a.drop i).take (n - i) ++ [y] := by
        rw [show n + 1 - i = (n - i) + 1 by omega, List.take_add_one, List.getElem?_drop, show i + (n - i) = n by omega]
        have : a[n]? = some y := by
          have := congrArg (·[0]?) h1'
          simpa [List.getElem?_drop] using this.symm
        rw [this]; rfl
      -- what one side has read
      have key : ∀ (l : List α) (j cj : Nat) (p r : List α), j ≤ cj → cj ≤ l.length → p ++ r = l.drop cj → (l.drop j).take (cj + p.length - j) = (l.drop j).take (cj - j) ++ p ∧ l.drop (cj + p.length) = r ∧ cj + p.length ≤ l.length := by
        intro l j cj p r h hc e
        have e2 : (l.drop j).drop (cj - j) = p ++ r := by rw [List.drop_drop, show j + (cj - j) = cj by omega, e]
        refine ⟨?_, by rw [← List.drop_drop, ← e, List.drop_left], ?_⟩
        · rw [show cj + p.length - j = (cj - j) + p.length by omega, List.take_add, e2, List.take_left]
        · have := congrArg List.length e
          simp only [List.length_append, List.length_drop] at this
          omega
      cases kp <;> cases kq
      · obtain ⟨a1, a2, a3⟩ := key b j cj p (dstG s tl) hj hb hd
        obtain ⟨b1, b2, b3⟩ := key c k ck q (dstG t tr) hk hc he
        show mgI a b c ((plcG (cj + p.length) s).zip (plcG (ck + q.length) t)) (n + 1) i j k L = mgA (_ ++ [y]) (_ ++ p ++ []) (_ ++ q ++ []) s t tl tr L
        rw [ih t (n + 1) i j k _ _ tl tr L ht1 ht2 (by omega) (by omega) (by omega) a3 b3 (by omega) a2.symm b2.symm, hax, a1, b1, List.append_nil, List.append_nil]
      · obtain ⟨a1, a2, a3⟩ := key b j cj p (dstG s tl) hj hb hd
        obtain ⟨b1, b2, b3⟩ := key c k ck (q ++ [y]) (dstG t tr) hk hc (by rw [List.append_assoc]; exact he)
        rw [List.length_append, List.length_singleton, ← Nat.add_assoc] at b1 b2 b3
        show mgI a b c ((plcG (cj + p.length) s).zip (plcG (ck + q.length + 1) t)) (n + 1) i j k L = mgA (_ ++ [y]) (_ ++ p ++ []) (_ ++ q ++ [y]) s t tl tr L
        rw [ih t (n + 1) i j k _ _ tl tr L ht1 ht2 (by omega) (by omega) (by omega) a3 b3 (by omega) a2.symm b2.symm, hax, a1, b1, List.append_nil, List.append_assoc _ q]
      · obtain ⟨a1, a2, a3⟩ := key b j cj (p ++ [y]) (dstG s tl) hj hb (by rw [List.append_assoc]; exact hd)
        obtain ⟨b1, b2, b3⟩ := key c k ck q (dstG t tr) hk hc he
        rw [List.length_append, List.length_singleton, ← Nat.add_assoc] at a1 a2 a3
        show (if ((cj + p.length : Nat) : Int) < 0 ∨ (-1 : Int) < 0 then mgI a b c ((plcG (cj + p.length + 1) s).zip (plcG (ck + q.length) t)) (n + 1) i j k L else _) = mgA (_ ++ [y]) (_ ++ p ++ [y]) (_ ++ q ++ []) s t tl tr L
        rw [if_pos (by omega), ih t (n + 1) i j k _ _ tl tr L ht1 ht2 (by omega) (by omega) (by omega) a3 b3 (by omega) a2.symm b2.symm, hax, a1, b1, List.append_nil, List.append_assoc _ p]
      · obtain ⟨a1, a2, a3⟩ := key b j cj p (y :: dstG s tl) hj hb hd
        obtain ⟨b1, b2, b3⟩ := key c k ck q (y :: dstG t tr) hk hc he
        have a4 : b.drop (cj + p.length + 1) = dstG s tl := by rw [← List.drop_drop, a2]; rfl
        have b4 : c.drop (ck + q.length + 1) = dstG t tr := by rw [← List.drop_drop, b2]; rfl
        have a5 : cj + p.length + 1 ≤ b.length := by have := congrArg List.length a2; simp only [List.length_cons, List.length_drop] at this; omega
        have b5 : ck + q.length + 1 ≤ c.length := by have := congrArg List.length b2; simp only [List.length_cons, List.length_drop] at this; omega
        show (if ((cj + p.length : Nat) : Int) < 0 ∨ ((ck + q.length : Nat) : Int) < 0 then _ else mgI a b c ((plcG (cj + p.length + 1) s).zip (plcG (ck + q.length + 1) t)) (n + 1) (n + 1) (((cj + p.length : Nat) : Int).toNat + 1) (((ck + q.length : Nat) : Int).toNat + 1)
          (addL (addG L ((a.drop i).take (n - i)) ((b.drop j).take (((cj + p.length : Nat) : Int).toNat - j)) ((c.drop k).take (((ck + q.length : Nat) : Int).toNat - k))) ((a.drop n).take 1))) = mgA [] [] [] s t tl tr (addL (addG L _ (_ ++ p) (_ ++ q)) [y])
        rw [if_neg (by omega), Int.toNat_natCast, Int.toNat_natCast, a1, b1, hx1, ih t (n + 1) (n + 1) (cj + p.length + 1) (ck + q.length + 1) (cj + p.length + 1) (ck + q.length + 1) tl tr _ ht1 ht2 (by omega) (by omega) (by omega) a5 b5 (by omega) a4.symm b4.symm]
        simp only [Nat.sub_self, List.take_zero]

/-- The two grouped scripts of a merge. -/
def grpL (a b : List α) : List (List α × Bool × α) := (grp [] (scrA a b)).1
def grpT (a b : List α) : List α := (grp [] (scrA a b)).2
theorem grpL_src (a b : List α) : srcG (grpL a b) = a := by unfold grpL; rw [srcG_grp, scrA_src]
theorem grpL_dst (a b : List α) : dstG (grpL a b) (grpT a b) = b := by unfold grpL grpT; rw [dstG_grp, scrA_dst]; rfl
theorem merge_eq (a b c : List α) : mergeL a b c = mgA [] [] [] (grpL a b) (grpL a c) (grpT a b) (grpT a c) [] := by
  unfold mergeL
  have e : ∀ b : List α, plcL a b = plcG 0 (grpL a b) := fun b => by rw [plcL_eq]; unfold grpL; rw [plcG_grp]; rfl
  rw [e b, e c]
  exact mgI_mgA a b c (grpL a b) (grpL a c) 0 0 0 0 0 0 (grpT a b) (grpT a c) [] (grpL_src a b) (grpL_src a c) (Nat.le_refl _) (Nat.le_refl _) (Nat.le_refl _) (Nat.zero_le _) (Nat.zero_le _) (Nat.zero_le _) (grpL_dst a b) (grpL_dst a c)
end
end Go.Proofs.Ythobbcafemkhbaa
