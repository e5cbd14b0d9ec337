/- Plain merging: the places of kept lines, gaps, regions. Places out of hunks, step by step (for the walks of places). Plain merging: gaps and regions; the merge by places is the merge along two scripts. Plain laws of merging: sides exchanged, one side changed, separate changes. Plain law of merging: separate changes. Plain settling of conflicts. Plain: merged regions and settled regions are valid. Plain: the places of kept lines go up; the merge round by round. -/
import Derived.Test.YthobbcafemkhbaaMetricP
namespace Go.Proofs.Ythobbcafemkhbaa

section
variable {α : Type} [DecidableEq α]

/-! ### places -/
section
omit [DecidableEq α]
/-- The places of the lines from line i on, out of hunks; k is the next place. -/
def plcF (n : Nat) : Nat → Nat → List (Int × List α × List α) → List Int
  | i, k, [] => (List.range (n - i)).map fun j => ((k + j : Nat) : Int)
  | i, k, (z, o, e) :: hs => (List.range (z.toNat - i)).map (fun j => ((k + j : Nat) : Int)) ++ (List.replicate o.length (-1) ++ plcF n (z.toNat + o.length) (k + (z.toNat - i) + e.length) hs)
/-- The same out of a script. -/
def plcS : Nat → List (Nat × α) → List Int
  | _, [] => []
  | k, (0, _) :: s => (k : Int) :: plcS (k + 1) s
  | k, (1, _) :: s => -1 :: plcS k s
  | k, (_, _) :: s => plcS (k + 1) s
theorem range_succ_map (k m : Nat) : (List.range (m + 1)).map (fun j => ((k + j : Nat) : Int)) = (List.range m).map (fun j => ((k + j : Nat) : Int)) ++ [((k + m : Nat) : Int)] := by
  rw [List.range_succ, List.map_append]; rfl
theorem range_cons_map (k m : Nat) : (List.range (m + 1)).map (fun j => ((k + j : Nat) : Int)) = (k : Int) :: (List.range m).map (fun j => ((k + 1 + j : Nat) : Int)) := by
  rw [List.range_succ_eq_map, List.map_cons, List.map_map]
  congr 1
  apply List.map_congr_left
  intro j _
  simp only [Function.comp_def, Nat.succ_eq_add_one]
  omega
theorem plcS_keep : ∀ (t : List α) (k : Nat), plcS k (t.map ((0, ·))) = (List.range t.length).map fun j => ((k + j : Nat) : Int)
  | [], _ => rfl
  | x :: t, k => by
    show (k : Int) :: plcS (k + 1) (t.map ((0, ·))) = _
    rw [plcS_keep t (k + 1), List.length_cons, range_cons_map]
theorem plc_hkF (n : Nat) (t : List α) : ∀ (s : List (Nat × α)) (m i k : Nat) (cur : Option (Int × List α × List α)), n = m + (src s).length + t.length →
    (match cur with
      | none => i ≤ m → plcF n i k (hkF m none s) = (List.range (m - i)).map (fun j => ((k + j : Nat) : Int)) ++ plcS (k + (m - i)) (s ++ t.map ((0, ·)))
      | some (c, o, e) => ∀ z : Nat, c = (z : Int) → i ≤ z → m = z + o.length → plcF n i k (hkF m (some (c, o, e)) s) = (List.range (z - i)).map (fun j => ((k + j : Nat) : Int)) ++ (List.replicate o.length (-1) ++ plcS (k + (z - i) + e.length) (s ++ t.map ((0, ·)))))
  | [], m, i, k, none, hn => fun hi => by
    simp only [src, List.length_nil] at hn
    show (List.range (n - i)).map _ = _
    rw [List.nil_append, plcS_keep]
    have e : n - i = (m - i) + t.length := by omega
    rw [e, List.range_add, List.map_append, List.map_map]
    congr 1
    apply List.map_congr_left
    intro j _
    simp only [Function.comp_def]
    omega
  | [], m, i, k, some (c, o, e), hn => fun z hc hi hm => by
    simp only [src, List.length_nil] at hn
    subst hc
    show (List.range (((z : Int)).toNat - i)).map _ ++ (List.replicate o.length (-1) ++ (List.range (n - (((z : Int)).toNat + o.length))).map _) = _
    rw [Int.toNat_natCast, List.nil_append, plcS_keep, show n - (z + o.length) = t.length by omega]
  | (0, x) :: s, m, i, k, none, hn => fun hi => by
    have hn' : n = m + 1 + (src s).length + t.length := by simp only [src, List.length_cons] at hn; omega
    show plcF n i k (hkF (m + 1) none s) = _
    rw [plc_hkF n t s (m + 1) i k none hn' (by omega), show m + 1 - i = (m - i) + 1 by omega, range_succ_map, List.append_assoc]
    rfl
  | (0, x) :: s, m, i, k, some (c, o, e), hn => fun z hc hi hm => by
    have hn' : n = m + 1 + (src s).length + t.length := by simp only [src, List.length_cons] at hn; omega
    subst hc
    show (List.range (((z : Int)).toNat - i)).map _ ++ (List.replicate o.length (-1) ++ plcF n (((z : Int)).toNat + o.length) (k + (((z : Int)).toNat - i) + e.length) (hkF (m + 1) none s)) = _
    rw [Int.toNat_natCast, plc_hkF n t s (m + 1) (z + o.length) _ none hn' (by omega), show m + 1 - (z + o.length) = 0 + 1 by omega, range_succ_map]
    rfl
  | (1, x) :: s, m, i, k, none, hn => fun hi => by
    have hn' : n = m + 1 + (src s).length + t.length := by simp only [src, List.length_cons] at hn; omega
    show plcF n i k (hkF (m + 1) (some ((m : Int), [x], [])) s) = _
    rw [plc_hkF n t s (m + 1) i k (some ((m : Int), [x], [])) hn' m rfl hi rfl]
    rfl
  | (1, x) :: s, m, i, k, some (c, o, e), hn => fun z hc hi hm => by
    have hn' : n = m + 1 + (src s).length + t.length := by simp only [src, List.length_cons] at hn; omega
    show plcF n i k (hkF (m + 1) (some (c, o ++ [x], e)) s) = _
    rw [plc_hkF n t s (m + 1) i k (some (c, o ++ [x], e)) hn' z hc hi (by rw [List.length_append]; simp; omega), List.length_append, List.length_singleton, List.replicate_succ', List.append_assoc]
    rfl
  | (j + 2, x) :: s, m, i, k, none, hn => fun hi => by
    have hn' : n = m + (src s).length + t.length := hn
    show plcF n i k (hkF m (some ((m : Int), [], [x])) s) = _
    rw [plc_hkF n t s m i k (some ((m : Int), [], [x])) hn' m rfl hi rfl]
    rfl
  | (j + 2, x) :: s, m, i, k, some (c, o, e), hn => fun z hc hi hm => by
    have hn' : n = m + (src s).length + t.length := hn
    show plcF n i k (hkF m (some (c, o, e ++ [x])) s) = _
    rw [plc_hkF n t s m i k (some (c, o, e ++ [x])) hn' z hc hi hm, List.length_append, List.length_singleton]
    rfl
end
def plcL (a b : List α) : List Int := plcF a.length 0 0 (diffL a b)
/-- The whole script from a to b. -/
def scrA (a b : List α) : List (Nat × α) := (a.take (cpre a b)).map ((0, ·)) ++ (script (midL a b) (midR a b) ++ ((a.drop (cpre a b)).drop (midL a b).length).map ((0, ·)))
section
omit [DecidableEq α]
theorem src_app : ∀ s t : List (Nat × α), src (s ++ t) = src s ++ src t
  | [], _ => rfl
  | (0, x) :: s, t => congrArg (x :: ·) (src_app s t)
  | (1, x) :: s, t => congrArg (x :: ·) (src_app s t)
  | (_ + 2, _) :: s, t => src_app s t
theorem dst_app : ∀ s t : List (Nat × α), dst (s ++ t) = dst s ++ dst t
  | [], _ => rfl
  | (0, x) :: s, t => congrArg (x :: ·) (dst_app s t)
  | (1, _) :: s, t => dst_app s t
  | (_ + 2, x) :: s, t => congrArg (x :: ·) (dst_app s t)
theorem src_map0 : ∀ l : List α, src (l.map ((0, ·))) = l
  | [] => rfl
  | x :: l => congrArg (x :: ·) (src_map0 l)
theorem dst_map0 : ∀ l : List α, dst (l.map ((0, ·))) = l
  | [] => rfl
  | x :: l => congrArg (x :: ·) (dst_map0 l)
theorem plcS_app0 : ∀ (l : List α) (s : List (Nat × α)) (k : Nat), plcS k (l.map ((0, ·)) ++ s) = (List.range l.length).map (fun j => ((k + j : Nat) : Int)) ++ plcS (k + l.length) s
  | [], _, _ => rfl
  | x :: l, s, k => by
    show (k : Int) :: plcS (k + 1) (l.map ((0, ·)) ++ s) = _
    rw [plcS_app0 l s (k + 1), List.length_cons, range_cons_map, show k + 1 + l.length = k + (l.length + 1) by omega]
    rfl
end
omit [DecidableEq α] in
theorem app_parts {a s p t : List α} {n : Nat} (h : a = s ++ p ++ t) (hn : s.length = n) : a.take n = s ∧ a.drop n = p ++ t ∧ a.length = n + p.length + t.length := by
  subst h hn
  rw [List.append_assoc]
  exact ⟨List.take_left, List.drop_left, by simp only [List.length_append]; omega⟩
theorem scrA_src (a b : List α) : src (scrA a b) = a := by
  obtain ⟨s, t, h1, h2, h3⟩ := mid_eq a b
  obtain ⟨e1, e2, e3⟩ := app_parts h1 h3
  unfold scrA
  rw [src_app, src_app, src_map0, src_map0, src_script, e2, List.drop_left, ← e2, List.take_append_drop]
theorem scrA_dst (a b : List α) : dst (scrA a b) = b := by
  obtain ⟨s, t, h1, h2, h3⟩ := mid_eq a b
  obtain ⟨e1, e2, e3⟩ := app_parts h1 h3
  unfold scrA
  rw [dst_app, dst_app, dst_map0, dst_map0, dst_script, e2, List.drop_left, e1, ← List.append_assoc]
  exact h2.symm
theorem plcL_eq (a b : List α) : plcL a b = plcS 0 (scrA a b) := by
  obtain ⟨s, t, h1, h2, h3⟩ := mid_eq a b
  obtain ⟨e1, e2, e3⟩ := app_parts h1 h3
  unfold plcL diffL scrA
  rw [e2, List.drop_left, plcS_app0, plc_hkF a.length t (script (midL a b) (midR a b)) (cpre a b) 0 0 none (by rw [src_script]; exact e3) (Nat.zero_le _), List.length_take, show min (cpre a b) a.length = cpre a b by omega]
  rfl
end
end Go.Proofs.Ythobbcafemkhbaa

namespace Go.Proofs.Ythobbcafemkhbaa

section
variable {α : Type} {n i k : Nat} {z : Int} {o e : List α} {hs : List (Int × List α × List α)} {full out : List Int}
theorem sepB_mono {z z' : Int} : ∀ {l : List (Int × List α × List α)}, sepB n z l → z' ≤ z → sepB n z' l
  | [], _, _ => trivial
  | (c, o, e) :: l, ⟨⟨h1, h2, h3, h4⟩, h5⟩, h => ⟨⟨h1, by omega, h3, h4⟩, h5⟩
theorem plc_end (h : full = out ++ plcF n i k ([] : List (Int × List α × List α))) (hi : i < n) : full = (out ++ [(k : Int)]) ++ plcF n (i + 1) (k + 1) ([] : List (Int × List α × List α)) := by
  rw [h, List.append_assoc]
  congr 1
  show (List.range (n - i)).map _ = (k : Int) :: (List.range (n - (i + 1))).map _
  rw [show n - i = (n - (i + 1)) + 1 by omega, range_cons_map]
theorem plc_fin (h : full = out ++ plcF n i k ([] : List (Int × List α × List α))) (hi : n ≤ i) : full = out := by
  rw [h]
  show out ++ (List.range (n - i)).map _ = out
  rw [show n - i = 0 by omega]
  exact List.append_nil _
theorem plc_go (h : full = out ++ plcF n i k ((z, o, e) :: hs)) (hs' : sepB n ((i : Int) - 1) ((z, o, e) :: hs)) (hz : ¬ z = (i : Int)) :
    full = (out ++ [(k : Int)]) ++ plcF n (i + 1) (k + 1) ((z, o, e) :: hs) ∧ sepB n (((i + 1 : Nat) : Int) - 1) ((z, o, e) :: hs) ∧ i < n := by
  obtain ⟨⟨h1, h2, h3, h4⟩, h5⟩ := hs'
  refine ⟨?_, ⟨⟨h1, by omega, h3, h4⟩, h5⟩, by omega⟩
  rw [h, List.append_assoc]
  congr 1
  show (List.range (z.toNat - i)).map _ ++ _ = (k : Int) :: ((List.range (z.toNat - (i + 1))).map _ ++ (List.replicate o.length (-1) ++ plcF n (z.toNat + o.length) (k + 1 + (z.toNat - (i + 1)) + e.length) hs))
  rw [show z.toNat - i = (z.toNat - (i + 1)) + 1 by omega, range_cons_map, show k + (z.toNat - (i + 1) + 1) + e.length = k + 1 + (z.toNat - (i + 1)) + e.length by omega]
  rfl
theorem plc_hunk (h : full = out ++ plcF n i k ((z, o, e) :: hs)) (hs' : sepB n ((i : Int) - 1) ((z, o, e) :: hs)) (hz : z = (i : Int)) :
    full = (out ++ List.replicate o.length (-1)) ++ plcF n (i + o.length) (k + e.length) hs ∧ sepB n (((i + o.length : Nat) : Int) - 1) hs ∧ i + o.length ≤ n := by
  obtain ⟨⟨h1, h2, h3, h4⟩, h5⟩ := hs'
  subst hz
  refine ⟨?_, sepB_mono h5 (by omega), by omega⟩
  rw [h, List.append_assoc]
  congr 1
  show (List.range (((i : Nat) : Int).toNat - i)).map _ ++ (List.replicate o.length (-1) ++ plcF n (((i : Nat) : Int).toNat + o.length) (k + (((i : Nat) : Int).toNat - i) + e.length) hs) = _
  rw [Int.toNat_natCast, Nat.sub_self]
  rfl
theorem plcF_start {α : Type} [DecidableEq α] (a b : List α) : plcL a b = [] ++ plcF a.length 0 0 (diffL a b) ∧ sepB a.length (((0 : Nat) : Int) - 1) (diffL a b) := ⟨rfl, sep_diffL a b⟩
end
end Go.Proofs.Ythobbcafemkhbaa

namespace Go.Proofs.Ythobbcafemkhbaa

section
variable {α : Type} [DecidableEq α]

/-- A region: conflict, base, left, right. -/
abbrev RgA (α : Type) := Bool × List α × List α × List α
def addL (L : List (RgA α)) (ls : List α) : List (RgA α) :=
  if ls = [] then L else match L.getLast? with
    | some (false, _, l, _) => L.dropLast ++ [(false, [], l ++ ls, [])]
    | _ => L ++ [(false, [], ls, [])]
def addG (L : List (RgA α)) (b l r : List α) : List (RgA α) :=
  if l = r then addL L l else if b = l then addL L r else if b = r then addL L l else L ++ [(true, b, l, r)]

/-- The merge by places: what is left of the pairs of places from line n on; the gap begins at i, j, k. -/
def mgI (a b c : List α) : List (Int × Int) → Nat → Nat → Nat → Nat → List (RgA α) → List (RgA α)
  | [], _, i, j, k, L => addG L (a.drop i) (b.drop j) (c.drop k)
  | (x, y) :: ps, n, i, j, k, L =>
    if x < 0 ∨ y < 0 then mgI a b c ps (n + 1) i j k L
    else mgI a b c ps (n + 1) (n + 1) (x.toNat + 1) (y.toNat + 1) (addL (addG L ((a.drop i).take (n - i)) ((b.drop j).take (x.toNat - j)) ((c.drop k).take (y.toNat - k))) ((a.drop n).take 1))
def mergeL (a b c : List α) : List (RgA α) := mgI a b c ((plcL a b).zip (plcL a c)) 0 0 0 0 []

/-! ### a script by the lines of its source -/
section
omit [DecidableEq α]
/-- For each line of the source: what is added before it, and is it kept? And what is added behind the last one. -/
def grp : List α → List (Nat × α) → List (List α × Bool × α) × List α
  | ins, [] => ([], ins)
  | ins, (0, x) :: s => ((ins, true, x) :: (grp [] s).1, (grp [] s).2)
  | ins, (1, x) :: s => ((ins, false, x) :: (grp [] s).1, (grp [] s).2)
  | ins, (_, x) :: s => grp (ins ++ [x]) s
def plcG : Nat → List (List α × Bool × α) → List Int
  | _, [] => []
  | k, (p, true, _) :: s => ((k + p.length : Nat) : Int) :: plcG (k + p.length + 1) s
  | k, (p, false, _) :: s => -1 :: plcG (k + p.length) s
def srcG (s : List (List α × Bool × α)) : List α := s.map (·.2.2)
def dstG : List (List α × Bool × α) → List α → List α
  | [], tl => tl
  | (p, true, x) :: s, tl => p ++ x :: dstG s tl
  | (p, false, _) :: s, tl => p ++ dstG s tl
theorem plcG_grp : ∀ (s : List (Nat × α)) (ins : List α) (k : Nat), plcG k (grp ins s).1 = plcS (k + ins.length) s
  | [], _, _ => rfl
  | (0, x) :: s, ins, k => by
    show ((k + ins.length : Nat) : Int) :: plcG (k + ins.length + 1) (grp [] s).1 = _
    rw [plcG_grp s [] _]; rfl
  | (1, x) :: s, ins, k => by
    show -1 :: plcG (k + ins.length) (grp [] s).1 = _
    rw [plcG_grp s [] _]; rfl
  | (j + 2, x) :: s, ins, k => by
    show plcG k (grp (ins ++ [x]) s).1 = _
    rw [plcG_grp s _ _, List.length_append]; rfl
theorem srcG_grp : ∀ (s : List (Nat × α)) (ins : List α), srcG (grp ins s).1 = src s
  | [], _ => rfl
  | (0, x) :: s, _ => congrArg (x :: ·) (srcG_grp s [])
  | (1, x) :: s, _ => congrArg (x :: ·) (srcG_grp s [])
  | (_ + 2, _) :: s, _ => srcG_grp s _
theorem dstG_grp : ∀ (s : List (Nat × α)) (ins : List α), dstG (grp ins s).1 (grp ins s).2 = ins ++ dst s
  | [], ins => (List.append_nil ins).symm
  | (0, x) :: s, ins => by
    show ins ++ x :: dstG (grp [] s).1 (grp [] s).2 = _
    rw [dstG_grp s []]; rfl
  | (1, x) :: s, ins => by
    show ins ++ dstG (grp [] s).1 (grp [] s).2 = _
    rw [dstG_grp s []]; rfl
  | (j + 2, x) :: s, ins => by
    show dstG (grp (ins ++ [x]) s).1 (grp (ins ++ [x]) s).2 = _
    rw [dstG_grp s _, List.append_assoc]; rfl
end

/-- The merge along two scripts; gb, gl, gr: what the gap has so far. -/
def mgA : List α → List α → List α → List (List α × Bool × α) → List (List α × Bool × α) → List α → List α → List (RgA α) → List (RgA α)
  | gb, gl, gr, (p, true, x) :: s, (q, true, _) :: t, tl, tr, L => mgA [] [] [] s t tl tr (addL (addG L gb (gl ++ p) (gr ++ q)) [x])
  | gb, gl, gr, (p, kp, x) :: s, (q, kq, y) :: t, tl, tr, L => mgA (gb ++ [x]) (gl ++ p ++ if kp = true then [x] else []) (gr ++ q ++ if kq = true then [y] else []) s t tl tr L
  | gb, gl, gr, _, _, tl, tr, L => addG L gb (gl ++ tl) (gr ++ tr)

theorem mgI_mgA (a b c : List α) : ∀ (s t : List (List α × Bool × α)) (n i j k cj ck : Nat) (tl tr : List α) (L : List (RgA α)), srcG s = a.drop n → srcG t = a.drop n → i ≤ n → j ≤ cj → k ≤ ck → cj ≤ b.length → ck ≤ c.length → n ≤ a.length →
    dstG s tl = b.drop cj → dstG t tr = c.drop ck →
    mgI a b c ((plcG cj s).zip (plcG ck t)) n i j k L = mgA ((a.drop i).take (n - i)) ((b.drop j).take (cj - j)) ((c.drop k).take (ck - k)) s t tl tr L := by
  intro s
  induction s with
  | nil =>
    intro t n i j k cj ck tl tr L h1 h2 hi hj hk hb hc hn hd he
    have hnn : a.drop n = [] := h1.symm
    have hn2 : a.length ≤ n := by simpa using hnn
    cases t with
    | cons y t => rw [hnn] at h2; cases h2
    | nil =>
      show addG L (a.drop i) (b.drop j) (c.drop k) = addG L _ _ _
      have e1 : (a.drop i).take (n - i) = a.drop i := List.take_of_length_le (by rw [List.length_drop]; omega)
      have key : ∀ (l : List α) (j cj : Nat) (tl : List α), j ≤ cj → tl = l.drop cj → (l.drop j).take (cj - j) ++ tl = l.drop j := by
        intro l j cj tl h e
        rw [e, show l.drop cj = (l.drop j).drop (cj - j) by rw [List.drop_drop]; congr 1; omega, List.take_append_drop]
      rw [e1, key b j cj tl hj hd, key c k ck tr hk he]
  | cons x s ih =>
    intro t n i j k cj ck tl tr L h1 h2 hi hj hk hb hc hn hd he
    obtain ⟨p, kp, x⟩ := x
    cases t with
    | nil =>
      have hnn : a.drop n = [] := h2.symm
      rw [hnn] at h1; cases h1
    | cons y t =>
      obtain ⟨q, kq, y⟩ := y
      have h1' : x :: srcG s = a.drop n := h1
      have h2' : y :: srcG t = a.drop n := h2
      have hlt : n < a.length := by
        have := congrArg List.length h1'
        simp only [List.length_cons, List.length_drop] at this
        omega
      have ht1 : srcG s = a.drop (n + 1) := by rw [← List.drop_drop, ← h1']; rfl
      have ht2 : srcG t = a.drop (n + 1) := by rw [← List.drop_drop, ← h2']; rfl
      have hxy : y = x := by rw [← h1'] at h2'; exact (List.cons.inj h2').1
      subst hxy
      have hx1 : (a.drop n).take 1 = [y] := by rw [← h1']; rfl
      have hax : (a.drop i).take (n + 1 - i) = (a.drop i).take (n - i) ++ [y] := by
        rw [show n + 1 - i = (n - i) + 1 by omega, List.take_add_one, List.getElem?_drop, show i + (n - i) = n by omega]
        have : a[n]? = some y := by
          have := congrArg (·[0]?) h1'
          simpa [List.getElem?_drop] using this.symm
        rw [this]; rfl
      -- what one side has read
      have key : ∀ (l : List α) (j cj : Nat) (p r : List α), j ≤ cj → cj ≤ l.length → p ++ r = l.drop cj → (l.drop j).take (cj + p.length - j) = (l.drop j).take (cj - j) ++ p ∧ l.drop (cj + p.length) = r ∧ cj + p.length ≤ l.length := by
        intro l j cj p r h hc e
        have e2 : (l.drop j).drop (cj - j) = p ++ r := by rw [List.drop_drop, show j + (cj - j) = cj by omega, e]
        refine ⟨?_, by rw [← List.drop_drop, ← e, List.drop_left], ?_⟩
        · rw [show cj + p.length - j = (cj - j) + p.length by omega, List.take_add, e2, List.take_left]
        · have := congrArg List.length e
          simp only [List.length_append, List.length_drop] at this
          omega
      cases kp <;> cases kq
      · obtain ⟨a1, a2, a3⟩ := key b j cj p (dstG s tl) hj hb hd
        obtain ⟨b1, b2, b3⟩ := key c k ck q (dstG t tr) hk hc he
        show mgI a b c ((plcG (cj + p.length) s).zip (plcG (ck + q.length) t)) (n + 1) i j k L = mgA (_ ++ [y]) (_ ++ p ++ []) (_ ++ q ++ []) s t tl tr L
        rw [ih t (n + 1) i j k _ _ tl tr L ht1 ht2 (by omega) (by omega) (by omega) a3 b3 (by omega) a2.symm b2.symm, hax, a1, b1, List.append_nil, List.append_nil]
      · obtain ⟨a1, a2, a3⟩ := key b j cj p (dstG s tl) hj hb hd
        obtain ⟨b1, b2, b3⟩ := key c k ck (q ++ [y]) (dstG t tr) hk hc (by rw [List.append_assoc]; exact he)
        rw [List.length_append, List.length_singleton, ← Nat.add_assoc] at b1 b2 b3
        show mgI a b c ((plcG (cj + p.length) s).zip (plcG (ck + q.length + 1) t)) (n + 1) i j k L = mgA (_ ++ [y]) (_ ++ p ++ []) (_ ++ q ++ [y]) s t tl tr L
        rw [ih t (n + 1) i j k _ _ tl tr L ht1 ht2 (by omega) (by omega) (by omega) a3 b3 (by omega) a2.symm b2.symm, hax, a1, b1, List.append_nil, List.append_assoc _ q]
      · obtain ⟨a1, a2, a3⟩ := key b j cj (p ++ [y]) (dstG s tl) hj hb (by rw [List.append_assoc]; exact hd)
        obtain ⟨b1, b2, b3⟩ := key c k ck q (dstG t tr) hk hc he
        rw [List.length_append, List.length_singleton, ← Nat.add_assoc] at a1 a2 a3
        show (if ((cj + p.length : Nat) : Int) < 0 ∨ (-1 : Int) < 0 then mgI a b c ((plcG (cj + p.length + 1) s).zip (plcG (ck + q.length) t)) (n + 1) i j k L else _) = mgA (_ ++ [y]) (_ ++ p ++ [y]) (_ ++ q ++ []) s t tl tr L
        rw [if_pos (by omega), ih t (n + 1) i j k _ _ tl tr L ht1 ht2 (by omega) (by omega) (by omega) a3 b3 (by omega) a2.symm b2.symm, hax, a1, b1, List.append_nil, List.append_assoc _ p]
      · obtain ⟨a1, a2, a3⟩ := key b j cj p (y :: dstG s tl) hj hb hd
        obtain ⟨b1, b2, b3⟩ := key c k ck q (y :: dstG t tr) hk hc he
        have a4 : b.drop (cj + p.length + 1) = dstG s tl := by rw [← List.drop_drop, a2]; rfl
        have b4 : c.drop (ck + q.length + 1) = dstG t tr := by rw [← List.drop_drop, b2]; rfl
        have a5 : cj + p.length + 1 ≤ b.length := by have := congrArg List.length a2; simp only [List.length_cons, List.length_drop] at this; omega
        have b5 : ck + q.length + 1 ≤ c.length := by have := congrArg List.length b2; simp only [List.length_cons, List.length_drop] at this; omega
        show (if ((cj + p.length : Nat) : Int) < 0 ∨ ((ck + q.length : Nat) : Int) < 0 then _ else mgI a b c ((plcG (cj + p.length + 1) s).zip (plcG (ck + q.length + 1) t)) (n + 1) (n + 1) (((cj + p.length : Nat) : Int).toNat + 1) (((ck + q.length : Nat) : Int).toNat + 1)
          (addL (addG L ((a.drop i).take (n - i)) ((b.drop j).take (((cj + p.length : Nat) : Int).toNat - j)) ((c.drop k).take (((ck + q.length : Nat) : Int).toNat - k))) ((a.drop n).take 1))) = mgA [] [] [] s t tl tr (addL (addG L _ (_ ++ p) (_ ++ q)) [y])
        rw [if_neg (by omega), Int.toNat_natCast, Int.toNat_natCast, a1, b1, hx1, ih t (n + 1) (n + 1) (cj + p.length + 1) (ck + q.length + 1) (cj + p.length + 1) (ck + q.length + 1) tl tr _ ht1 ht2 (by omega) (by omega) (by omega) a5 b5 (by omega) a4.symm b4.symm]
        simp only [Nat.sub_self, List.take_zero]

/-- The two grouped scripts of a merge. -/
def grpL (a b : List α) : List (List α × Bool × α) := (grp [] (scrA a b)).1
def grpT (a b : List α) : List α := (grp [] (scrA a b)).2
theorem grpL_src (a b : List α) : srcG (grpL a b) = a := by unfold grpL; rw [srcG_grp, scrA_src]
theorem grpL_dst (a b : List α) : dstG (grpL a b) (grpT a b) = b := by unfold grpL grpT; rw [dstG_grp, scrA_dst]; rfl
theorem merge_eq (a b c : List α) : mergeL a b c = mgA [] [] [] (grpL a b) (grpL a c) (grpT a b) (grpT a c) [] := by
  unfold mergeL
  have e : ∀ b : List α, plcL a b = plcG 0 (grpL a b) := fun b => by rw [plcL_eq]; unfold grpL; rw [plcG_grp]; rfl
  rw [e b, e c]
  exact mgI_mgA a b c (grpL a b) (grpL a c) 0 0 0 0 0 0 (grpT a b) (grpT a c) [] (grpL_src a b) (grpL_src a c) (Nat.le_refl _) (Nat.le_refl _) (Nat.le_refl _) (Nat.zero_le _) (Nat.zero_le _) (Nat.zero_le _) (grpL_dst a b) (grpL_dst a c)
end
end Go.Proofs.Ythobbcafemkhbaa

namespace Go.Proofs.Ythobbcafemkhbaa

section
variable {α : Type} [DecidableEq α]

omit [DecidableEq α] in
theorem addL_nil (L : List (RgA α)) : addL L [] = L := if_pos rfl
omit [DecidableEq α] in
theorem addL_empty {ls : List α} (h : ls ≠ []) : addL ([] : List (RgA α)) ls = [(false, [], ls, [])] := by unfold addL; rw [if_neg h]; rfl
omit [DecidableEq α] in
theorem addL_plain (L : List (RgA α)) (b l r : List α) {ls : List α} (h : ls ≠ []) : addL (L ++ [(false, b, l, r)]) ls = L ++ [(false, [], l ++ ls, [])] := by
  unfold addL; rw [if_neg h, List.getLast?_concat, List.dropLast_concat]
omit [DecidableEq α] in
theorem addL_conf (L : List (RgA α)) (b l r : List α) {ls : List α} (h : ls ≠ []) : addL (L ++ [(true, b, l, r)]) ls = L ++ [(true, b, l, r)] ++ [(false, [], ls, [])] := by
  unfold addL; rw [if_neg h, List.getLast?_concat]
omit [DecidableEq α] in
theorem rg_cases (L : List (RgA α)) : L = [] ∨ (∃ L' b l r, L = L' ++ [(false, b, l, r)]) ∨ ∃ L' b l r, L = L' ++ [(true, b, l, r)] := by
  rcases List.eq_nil_or_concat L with h | ⟨L', ⟨k, b, l, r⟩, h⟩
  · exact .inl h
  · rw [List.concat_eq_append] at h
    cases k
    · exact .inr (.inl ⟨L', b, l, r, h⟩)
    · exact .inr (.inr ⟨L', b, l, r, h⟩)
omit [DecidableEq α] in
theorem addL_addL (L : List (RgA α)) (x y : List α) : addL (addL L x) y = addL L (x ++ y) := by
  by_cases hx : x = []
  · subst hx; rw [addL_nil]; rfl
  by_cases hy : y = []
  · subst hy; rw [addL_nil, List.append_nil]
  have hxy : x ++ y ≠ [] := fun h => hx (List.append_eq_nil_iff.1 h).1
  rcases rg_cases L with h | ⟨L', b, l, r, h⟩ | ⟨L', b, l, r, h⟩
  · subst h
    rw [addL_empty hx, addL_empty hxy]
    exact addL_plain [] [] x [] hy
  · subst h
    rw [addL_plain _ _ _ _ hx, addL_plain _ _ _ _ hxy, addL_plain _ _ _ _ hy, List.append_assoc]
  · subst h
    rw [addL_conf _ _ _ _ hx, addL_conf _ _ _ _ hxy, addL_plain _ _ _ _ hy]
theorem addG_same (L : List (RgA α)) (b l : List α) : addG L b l l = addL L l := if_pos rfl
theorem addG_left (L : List (RgA α)) (b r : List α) : addG L b b r = addL L r := by
  unfold addG
  by_cases h : b = r
  · rw [if_pos h, h]
  · rw [if_neg h, if_pos rfl]
theorem addG_right (L : List (RgA α)) (b l : List α) : addG L b l b = addL L l := by
  unfold addG
  by_cases h : l = b
  · rw [if_pos h]
  · rw [if_neg h, if_neg (fun e => h e.symm), if_pos rfl]

/-! ### exchanged sides -/
section
omit [DecidableEq α]
def swapR (x : RgA α) : RgA α := if x.1 = true then (true, x.2.1, x.2.2.2, x.2.2.1) else x
end
omit [DecidableEq α] in
theorem addL_swap (L : List (RgA α)) (ls : List α) : (addL L ls).map swapR = addL (L.map swapR) ls := by
  by_cases h0 : ls = []
  · subst h0; rw [addL_nil, addL_nil]
  rcases rg_cases L with h | ⟨L', b, l, r, h⟩ | ⟨L', b, l, r, h⟩
  · subst h; rw [addL_empty h0]; exact (addL_empty h0).symm
  · subst h
    rw [addL_plain _ _ _ _ h0, List.map_append, List.map_append]
    exact (addL_plain (L'.map swapR) b l r h0).symm
  · subst h
    rw [addL_conf _ _ _ _ h0, List.map_append, List.map_append]
    exact (addL_conf (L'.map swapR) b r l h0).symm
theorem addG_swap (L : List (RgA α)) (b l r : List α) : (addG L b l r).map swapR = addG (L.map swapR) b r l := by
  by_cases h1 : l = r
  · subst h1; rw [addG_same, addG_same, addL_swap]
  by_cases h2 : b = l
  · subst h2; rw [addG_left, addG_right, addL_swap]
  by_cases h3 : b = r
  · subst h3; rw [addG_right, addG_left, addL_swap]
  unfold addG
  rw [if_neg h1, if_neg h2, if_neg h3, if_neg (fun e => h1 e.symm), if_neg h3, if_neg h2, List.map_append]
  rfl
theorem mgA_swap : ∀ (s t : List (List α × Bool × α)) (gb gl gr tl tr : List α) (L : List (RgA α)), srcG s = srcG t →
    (mgA gb gl gr s t tl tr L).map swapR = mgA gb gr gl t s tr tl (L.map swapR)
  | [], [], gb, gl, gr, tl, tr, L, _ => addG_swap _ _ _ _
  | [], y :: t, _, _, _, _, _, _, h => by cases h
  | x :: s, [], _, _, _, _, _, _, h => by cases h
  | (p, true, x) :: s, (q, true, y) :: t, gb, gl, gr, tl, tr, L, h => by
    obtain ⟨h1, h2⟩ := List.cons.inj (show x :: srcG s = y :: srcG t from h)
    subst h1
    show (mgA [] [] [] s t tl tr (addL (addG L gb (gl ++ p) (gr ++ q)) [x])).map swapR = mgA [] [] [] t s tr tl (addL (addG (L.map swapR) gb (gr ++ q) (gl ++ p)) [x])
    rw [mgA_swap s t [] [] [] tl tr _ h2, addL_swap, addG_swap]
  | (p, false, x) :: s, (q, kq, y) :: t, gb, gl, gr, tl, tr, L, h => by
    obtain ⟨h1, h2⟩ := List.cons.inj (show x :: srcG s = y :: srcG t from h)
    subst h1
    cases kq
    · exact mgA_swap s t _ _ _ tl tr L h2
    · exact mgA_swap s t _ _ _ tl tr L h2
  | (p, true, x) :: s, (q, false, y) :: t, gb, gl, gr, tl, tr, L, h => by
    obtain ⟨h1, h2⟩ := List.cons.inj (show x :: srcG s = y :: srcG t from h)
    subst h1
    exact mgA_swap s t _ _ _ tl tr L h2
theorem merge_swap (a b c : List α) : (mergeL a b c).map swapR = mergeL a c b := by
  rw [merge_eq, merge_eq, mgA_swap _ _ _ _ _ _ _ _ (by rw [grpL_src, grpL_src])]
  rfl

/-! ### one side has not changed the text -/
section
omit [DecidableEq α]
def allK (a : List α) : List (List α × Bool × α) := a.map fun x => ([], true, x)
end
theorem mgA_left : ∀ (t : List (List α × Bool × α)) (gb gr tr : List α) (L : List (RgA α)), mgA gb gb gr (allK (srcG t)) t [] tr L = addL L (gr ++ dstG t tr)
  | [], gb, gr, tr, L => by
    show addG L gb (gb ++ []) (gr ++ tr) = _
    rw [List.append_nil, addG_left]; rfl
  | (q, true, y) :: t, gb, gr, tr, L => by
    show mgA [] [] [] (allK (srcG t)) t [] tr (addL (addG L gb (gb ++ []) (gr ++ q)) [y]) = _
    rw [mgA_left t [] [] tr _, List.append_nil, addG_left, addL_addL, addL_addL]
    congr 1
    simp [dstG]
  | (q, false, y) :: t, gb, gr, tr, L => by
    show mgA (gb ++ [y]) (gb ++ [] ++ [y]) (gr ++ q ++ []) (allK (srcG t)) t [] tr L = _
    rw [List.append_nil, List.append_nil, mgA_left t _ _ tr L]
    congr 1
    simp [dstG]
theorem mgA_both : ∀ (s : List (List α × Bool × α)) (gb g tl : List α) (L : List (RgA α)), mgA gb g g s s tl tl L = addL L (g ++ dstG s tl)
  | [], gb, g, tl, L => addG_same _ _ _
  | (q, true, y) :: t, gb, g, tl, L => by
    show mgA [] [] [] t t tl tl (addL (addG L gb (g ++ q) (g ++ q)) [y]) = _
    rw [mgA_both t [] [] tl _, addG_same, addL_addL, addL_addL]
    congr 1
    simp [dstG]
  | (q, false, y) :: t, gb, g, tl, L => by
    show mgA (gb ++ [y]) (g ++ q ++ []) (g ++ q ++ []) t t tl tl L = _
    rw [List.append_nil, mgA_both t _ _ tl L]
    congr 1
    simp [dstG]
theorem cpre_self : ∀ a : List α, cpre a a = a.length
  | [] => rfl
  | x :: a => by rw [cpre, if_pos rfl, cpre_self a]; rfl
theorem scrA_self (a : List α) : scrA a a = a.map ((0, ·)) := by
  unfold scrA midL midR
  rw [cpre_self, List.drop_length, List.take_length]
  simp [script]
omit [DecidableEq α] in
theorem grp_all : ∀ a : List α, grp [] (a.map ((0, ·))) = (allK a, [])
  | [] => rfl
  | x :: a => by
    show (([], true, x) :: (grp [] (a.map ((0, ·)))).1, (grp [] (a.map ((0, ·)))).2) = _
    rw [grp_all a]; rfl
theorem merge_left (a c : List α) : mergeL a a c = addL [] c := by
  have e1 : grpL a a = allK (srcG (grpL a c)) := by rw [grpL_src]; unfold grpL; rw [scrA_self, grp_all]
  have e2 : grpT a a = [] := by unfold grpT; rw [scrA_self, grp_all]
  rw [merge_eq, e1, e2, mgA_left, grpL_dst]; rfl
theorem merge_right (a b : List α) : mergeL a b a = addL [] b := by
  rw [← merge_swap, merge_left, addL_swap]; rfl
theorem merge_both (a b : List α) : mergeL a b b = addL [] b := by
  rw [merge_eq, mgA_both, grpL_dst]; rfl

/-! ### separate changes -/
/-- The right side has not changed what lies before a kept line, the left side nothing behind it. -/
theorem mgA_head : ∀ (s : List (List α × Bool × α)) (m : α) (p : List α) (s2 t2 : List (List α × Bool × α)) (gb gl tl tr : List α) (L : List (RgA α)),
    mgA gb gl gb (s ++ (p, true, m) :: s2) (allK (srcG s) ++ ([], true, m) :: t2) tl tr L = mgA [] [] [] s2 t2 tl tr (addL L (gl ++ dstG s (p ++ [m])))
  | [], m, p, s2, t2, gb, gl, tl, tr, L => by
    show mgA [] [] [] s2 t2 tl tr (addL (addG L gb (gl ++ p) (gb ++ [])) [m]) = _
    rw [List.append_nil, addG_right, addL_addL, List.append_assoc]; rfl
  | (q, true, y) :: s, m, p, s2, t2, gb, gl, tl, tr, L => by
    show mgA [] [] [] (s ++ (p, true, m) :: s2) (allK (srcG s) ++ ([], true, m) :: t2) tl tr (addL (addG L gb (gl ++ q) (gb ++ [])) [y]) = _
    rw [mgA_head s m p s2 t2 [] [] tl tr _, List.append_nil, addG_right, addL_addL, addL_addL]
    congr 2
    simp [dstG]
  | (q, false, y) :: s, m, p, s2, t2, gb, gl, tl, tr, L => by
    show mgA (gb ++ [y]) (gl ++ q ++ []) (gb ++ [] ++ [y]) (s ++ (p, true, m) :: s2) (allK (srcG s) ++ ([], true, m) :: t2) tl tr L = _
    rw [List.append_nil, List.append_nil, mgA_head s m p s2 t2 _ _ tl tr _]
    congr 2
    simp [dstG]
end
end Go.Proofs.Ythobbcafemkhbaa

namespace Go.Proofs.Ythobbcafemkhbaa

section
variable {α : Type} [DecidableEq α]

theorem cpre_app : ∀ (s x y : List α), cpre (s ++ x) (s ++ y) = s.length + cpre x y
  | [], x, y => (Nat.zero_add _).symm
  | a :: s, x, y => by
    show cpre (a :: (s ++ x)) (a :: (s ++ y)) = _
    rw [cpre, if_pos rfl, cpre_app s x y, List.length_cons]; omega
omit [DecidableEq α] in
theorem grp_app : ∀ (S : List (Nat × α)) (ins : List α) (m : α) (T : List (Nat × α)), grp ins (S ++ (0, m) :: T) = ((grp ins S).1 ++ ((grp ins S).2, true, m) :: (grp [] T).1, (grp [] T).2)
  | [], _, _, _ => rfl
  | (0, x) :: S, ins, m, T => by
    show ((ins, true, x) :: (grp [] (S ++ (0, m) :: T)).1, (grp [] (S ++ (0, m) :: T)).2) = _
    rw [grp_app S [] m T]; rfl
  | (1, x) :: S, ins, m, T => by
    show ((ins, false, x) :: (grp [] (S ++ (0, m) :: T)).1, (grp [] (S ++ (0, m) :: T)).2) = _
    rw [grp_app S [] m T]; rfl
  | (_ + 2, x) :: S, ins, m, T => grp_app S (ins ++ [x]) m T

/-- Texts with a common beginning. -/
theorem scr_head (f x y : List α) : ∃ S, scrA (f ++ x) (f ++ y) = f.map ((0, ·)) ++ S ∧ src S = x ∧ dst S = y := by
  have hc := cpre_app f x y
  have e : (f ++ x).take (cpre (f ++ x) (f ++ y)) = f ++ x.take (cpre x y) := by
    rw [hc, List.take_append, List.take_of_length_le (by omega), show f.length + cpre x y - f.length = cpre x y by omega]
  have h1 := scrA_src (f ++ x) (f ++ y)
  have h2 := scrA_dst (f ++ x) (f ++ y)
  unfold scrA at h1 h2 ⊢
  rw [e, List.map_append, List.append_assoc] at h1 h2 ⊢
  refine ⟨_, rfl, ?_, ?_⟩
  · rw [src_app, src_map0] at h1
    exact List.append_cancel_left h1
  · rw [dst_app, dst_map0] at h2
    exact List.append_cancel_left h2
/-- Texts with a common end that begins with a line that is nowhere before. -/
theorem scr_tail (f g x : List α) (m : α) (hf : m ∉ f) (hg : m ∉ g) : ∃ S, scrA (f ++ m :: x) (g ++ m :: x) = S ++ (0, m) :: x.map ((0, ·)) ∧ src S = f ∧ dst S = g := by
  by_cases hfg : f = g
  · subst hfg
    exact ⟨f.map ((0, ·)), by rw [scrA_self, List.map_append]; rfl, src_map0 f, dst_map0 f⟩
  have hcp : cpre (f ++ m :: x) (g ++ m :: x) ≤ f.length ∧ cpre (f ++ m :: x) (g ++ m :: x) ≤ g.length := by
    obtain ⟨c1, c2, c3⟩ := cpre_le (f ++ m :: x) (g ++ m :: x)
    generalize cpre (f ++ m :: x) (g ++ m :: x) = k at *
    have hget : ∀ i, i < k → (f ++ m :: x)[i]? = (g ++ m :: x)[i]? := fun i hi => by
      have := congrArg (·[i]?) c3
      simpa [List.getElem?_take, hi] using this
    have key : ∀ (f g : List α), m ∉ g → (f ++ m :: x)[f.length]? = (g ++ m :: x)[f.length]? → g.length ≤ f.length := by
      intro f g hg h
      rw [List.getElem?_append_right (Nat.le_refl _), Nat.sub_self, List.getElem?_cons_zero] at h
      refine Nat.le_of_not_lt fun hlt => hg ?_
      rw [List.getElem?_append_left hlt] at h
      exact List.mem_of_getElem? h.symm
    have hne : f.length < k → f.length = g.length → False := fun h e => hfg (by
      have := congrArg (List.take f.length) c3
      rw [List.take_take, List.take_take, Nat.min_eq_left (by omega), List.take_left, e, List.take_left] at this
      exact this)
    constructor
    · refine Nat.le_of_not_lt fun h => ?_
      have h1 := key f g hg (hget _ h)
      have h2 := key g f hf (hget _ (by omega)).symm
      exact hne h (by omega)
    · refine Nat.le_of_not_lt fun h => ?_
      have h2 := key g f hf (hget _ h).symm
      have h1 := key f g hg (hget _ (by omega))
      exact hne (by omega) (by omega)
  obtain ⟨p1, p2⟩ := hcp
  have hd : ∀ l : List α, cpre (f ++ m :: x) (g ++ m :: x) ≤ l.length → (l ++ m :: x).drop (cpre (f ++ m :: x) (g ++ m :: x)) = l.drop (cpre (f ++ m :: x) (g ++ m :: x)) ++ m :: x := fun l h => List.drop_append_of_le_length h
  have hs : (m :: x).length ≤ csuf (f ++ m :: x) (g ++ m :: x) := by
    unfold csuf
    rw [hd f p1, hd g p2, List.reverse_append, List.reverse_append, cpre_app, List.length_reverse]
    omega
  obtain ⟨q1, q2⟩ := csuf_le (f ++ m :: x) (g ++ m :: x)
  have hmid : (midL (f ++ m :: x) (g ++ m :: x)).length = (f ++ m :: x).length - csuf (f ++ m :: x) (g ++ m :: x) - cpre (f ++ m :: x) (g ++ m :: x) := by
    unfold midL
    rw [List.length_take, List.length_drop]
    omega
  have ht : ∃ t, ((f ++ m :: x).drop (cpre (f ++ m :: x) (g ++ m :: x))).drop (midL (f ++ m :: x) (g ++ m :: x)).length = t ++ m :: x := by
    refine ⟨f.drop (cpre (f ++ m :: x) (g ++ m :: x) + (midL (f ++ m :: x) (g ++ m :: x)).length), ?_⟩
    rw [List.drop_drop]
    refine List.drop_append_of_le_length ?_
    rw [hmid]
    simp only [List.length_append] at *
    omega
  obtain ⟨t, ht⟩ := ht
  have h1 := scrA_src (f ++ m :: x) (g ++ m :: x)
  have h2 := scrA_dst (f ++ m :: x) (g ++ m :: x)
  have e : scrA (f ++ m :: x) (g ++ m :: x) = ((f ++ m :: x).take (cpre (f ++ m :: x) (g ++ m :: x))).map ((0, ·)) ++ (script (midL (f ++ m :: x) (g ++ m :: x)) (midR (f ++ m :: x) (g ++ m :: x)) ++ t.map ((0, ·))) ++ (0, m) :: x.map ((0, ·)) := by
    unfold scrA
    rw [ht, List.map_append, List.append_assoc, List.append_assoc]
    rfl
  generalize ((f ++ m :: x).take (cpre (f ++ m :: x) (g ++ m :: x))).map ((0, ·)) ++ (script (midL (f ++ m :: x) (g ++ m :: x)) (midR (f ++ m :: x) (g ++ m :: x)) ++ t.map ((0, ·))) = S at e
  refine ⟨S, e, ?_, ?_⟩
  · rw [e, src_app] at h1
    have : src S ++ (m :: src (x.map ((0, ·)))) = f ++ m :: x := h1
    rw [src_map0] at this
    exact List.append_cancel_right this
  · rw [e, dst_app] at h2
    have : dst S ++ (m :: dst (x.map ((0, ·)))) = g ++ m :: x := h2
    rw [dst_map0] at this
    exact List.append_cancel_right this

/-- Separate changes: a line m that is nowhere else between them. -/
theorem merge_apart (f nf l nl : List α) (m : α) (hf : m ∉ f) (hnf : m ∉ nf) : mergeL (f ++ m :: l) (nf ++ m :: l) (f ++ m :: nl) = addL [] (nf ++ m :: nl) := by
  obtain ⟨S, e1, s1, d1⟩ := scr_tail f nf l m hf hnf
  obtain ⟨T, e2, s2, d2⟩ := scr_head (f ++ [m]) l nl
  have e3 : scrA (f ++ m :: l) (f ++ m :: nl) = f.map ((0, ·)) ++ (0, m) :: T := by
    rw [List.append_assoc, List.append_assoc, List.map_append, List.append_assoc] at e2
    exact e2
  rw [merge_eq]
  unfold grpL grpT
  rw [e1, e3, grp_app, grp_app, grp_all, grp_all]
  have hs : allK f = allK (srcG (grp [] S).1) := by rw [srcG_grp, s1]
  have ht : allK l = allK (srcG (grp [] T).1) := by rw [srcG_grp, s2]
  simp only
  rw [hs, mgA_head, ht, mgA_left, dstG_grp, d2]
  have hd : ∀ (s : List (List α × Bool × α)) (tl : List α), dstG s (tl ++ [m]) = dstG s tl ++ [m] := by
    intro s
    induction s with
    | nil => intro tl; rfl
    | cons x s ih =>
      intro tl
      obtain ⟨p, k, y⟩ := x
      cases k
      · show p ++ dstG s (tl ++ [m]) = p ++ dstG s tl ++ [m]
        rw [ih, List.append_assoc]
      · show p ++ y :: dstG s (tl ++ [m]) = p ++ y :: dstG s tl ++ [m]
        rw [ih, List.append_assoc]; rfl
  rw [hd, dstG_grp, d1, addL_addL]
  congr 1
  simp
end
end Go.Proofs.Ythobbcafemkhbaa

namespace Go.Proofs.Ythobbcafemkhbaa

section
variable {α : Type}

/-- The lines of a conflict by a side: 0 left, 1 base, else right. -/
def side3 (s : Nat) (c : List α × List α × List α) : List α := if s = 0 then c.2.1 else if s = 1 then c.1 else c.2.2
/-- Settling, as both programs do it: n conflicts have been met. -/
def stlF (i s : Nat) : Nat → List (RgA α) → List (RgA α) → List (RgA α)
  | _, [], out => out
  | n, (false, _, l, _) :: rs, out => stlF i s n rs (addL out l)
  | n, (true, c) :: rs, out => stlF i s (n + 1) rs (if n = i then addL out (side3 s c) else out ++ [(true, c)])
/-- Regions as what lies before each conflict, and behind the last one. -/
def sgF : List α → List (RgA α) → List (List α × List α × List α × List α) × List α
  | acc, [] => ([], acc)
  | acc, (false, _, l, _) :: rs => sgF (acc ++ l) rs
  | acc, (true, c) :: rs => ((acc, c) :: (sgF [] rs).1, (sgF [] rs).2)
def plR (p : List α) : List (RgA α) := if p = [] then [] else [(false, [], p, [])]
def emitF : List (List α × List α × List α × List α) → List α → List (RgA α)
  | [], tl => plR tl
  | (p, c) :: xs, tl => plR p ++ (true, c) :: emitF xs tl
def prepS (q : List α) : List (List α × List α × List α × List α) × List α → List (List α × List α × List α × List α) × List α
  | ([], tl) => ([], q ++ tl)
  | ((p, c) :: xs, tl) => ((q ++ p, c) :: xs, tl)
def replS (s : Nat) : Nat → List (List α × List α × List α × List α) → List α → List (List α × List α × List α × List α) × List α
  | _, [], tl => ([], tl)
  | 0, (p, c) :: xs, tl => prepS (p ++ side3 s c) (xs, tl)
  | i + 1, (p, c) :: xs, tl => ((p, c) :: (replS s i xs tl).1, (replS s i xs tl).2)

theorem plR_nil : plR ([] : List α) = [] := if_pos rfl
theorem addL_plR (X : List (RgA α)) (hX : X = [] ∨ ∃ Y c, X = Y ++ [(true, c)]) (p l : List α) : addL (X ++ plR p) l = X ++ plR (p ++ l) := by
  by_cases hl : l = []
  · subst hl; rw [addL_nil, List.append_nil]
  by_cases hp : p = []
  · subst hp
    rw [plR_nil, List.append_nil, List.nil_append]
    have hpl : plR l = [(false, [], l, [])] := if_neg hl
    rw [hpl]
    rcases hX with rfl | ⟨Y, ⟨b, l', r⟩, rfl⟩
    · exact addL_empty hl
    · exact addL_conf Y b l' r hl
  · have h1 : plR p = [(false, [], p, [])] := if_neg hp
    have h2 : plR (p ++ l) = [(false, [], p ++ l, [])] := if_neg (fun e => hp (List.append_eq_nil_iff.1 e).1)
    rw [h1, h2]
    exact addL_plain X [] p [] hl
theorem sgF_prep : ∀ (L : List (RgA α)) (q acc : List α), sgF (q ++ acc) L = prepS q (sgF acc L)
  | [], q, acc => rfl
  | (false, _, l, _) :: rs, q, acc => by
    show sgF (q ++ acc ++ l) rs = prepS q (sgF (acc ++ l) rs)
    rw [List.append_assoc]; exact sgF_prep rs q (acc ++ l)
  | (true, c) :: rs, q, acc => rfl
/-- Settling from n on, where the i-th is still to come or has been settled. -/
theorem stl_emit (i s : Nat) : ∀ (L : List (RgA α)) (n : Nat) (X : List (RgA α)) (acc : List α), (X = [] ∨ ∃ Y c, X = Y ++ [(true, c)]) →
    stlF i s n L (X ++ plR acc) = X ++ (if n ≤ i then emitF (replS s (i - n) (sgF acc L).1 (sgF acc L).2).1 (replS s (i - n) (sgF acc L).1 (sgF acc L).2).2 else emitF (sgF acc L).1 (sgF acc L).2)
  | [], n, X, acc, _ => by
    show X ++ plR acc = _
    congr 1
    split
    · cases i - n <;> rfl
    · rfl
  | (false, b, l, r) :: rs, n, X, acc, hX => by
    show stlF i s n rs (addL (X ++ plR acc) l) = _
    rw [addL_plR X hX, stl_emit i s rs n X (acc ++ l) hX]
    rfl
  | (true, c) :: rs, n, X, acc, hX => by
    show stlF i s (n + 1) rs (if n = i then addL (X ++ plR acc) (side3 s c) else X ++ plR acc ++ [(true, c)]) = _
    by_cases hn : n = i
    · subst hn
      rw [if_pos rfl, addL_plR X hX, stl_emit n s rs (n + 1) X _ hX, if_neg (by omega), if_pos (Nat.le_refl _), Nat.sub_self]
      congr 1
      have e : sgF (acc ++ side3 s c) rs = prepS (acc ++ side3 s c) (sgF [] rs) := by
        have := sgF_prep rs (acc ++ side3 s c) []
        rwa [List.append_nil] at this
      rw [e]
      rfl
    · have h0 := stl_emit i s rs (n + 1) (X ++ plR acc ++ [(true, c)]) [] (.inr ⟨_, c, rfl⟩)
      rw [plR_nil, List.append_nil] at h0
      rw [if_neg hn, h0]
      by_cases hle : n ≤ i
      · rw [if_pos (by omega), if_pos hle, show i - n = (i - (n + 1)) + 1 by omega, List.append_assoc, List.append_assoc]
        rfl
      · rw [if_neg (by omega), if_neg hle, List.append_assoc, List.append_assoc]
        rfl
theorem stl_eq (i s : Nat) (L : List (RgA α)) : stlF i s 0 L [] = emitF (replS s i (sgF [] L).1 (sgF [] L).2).1 (replS s i (sgF [] L).1 (sgF [] L).2).2 := by
  have := stl_emit i s L 0 [] [] (.inl rfl)
  rw [plR_nil, List.append_nil, if_pos (Nat.zero_le _), Nat.sub_zero, List.nil_append] at this
  exact this
theorem sgF_plR (p acc : List α) (L : List (RgA α)) : sgF acc (plR p ++ L) = sgF (acc ++ p) L := by
  by_cases h : p = []
  · subst h; rw [plR_nil, List.append_nil]; rfl
  · rw [show plR p = [(false, [], p, [])] from if_neg h]; rfl
theorem sg_emit : ∀ (xs : List (List α × List α × List α × List α)) (tl : List α), sgF [] (emitF xs tl) = (xs, tl)
  | [], tl => by
    have := sgF_plR tl [] ([] : List (RgA α))
    rw [List.append_nil] at this
    exact this
  | (p, c) :: xs, tl => by
    show sgF [] (plR p ++ (true, c) :: emitF xs tl) = _
    rw [sgF_plR]
    show (([] ++ p, c) :: (sgF [] (emitF xs tl)).1, (sgF [] (emitF xs tl)).2) = _
    rw [sg_emit xs tl]; rfl
theorem prepS_prep (q p : List α) (X : List (List α × List α × List α × List α) × List α) : prepS q (prepS p X) = prepS (q ++ p) X := by
  obtain ⟨xs, tl⟩ := X
  cases xs with
  | nil => show ([], q ++ (p ++ tl)) = ([], q ++ p ++ tl); rw [List.append_assoc]
  | cons x xs => obtain ⟨a, c⟩ := x; show ((q ++ (p ++ a), c) :: xs, tl) = ((q ++ p ++ a, c) :: xs, tl); rw [List.append_assoc]
theorem replS_prep (t b : Nat) (q : List α) (xs : List (List α × List α × List α × List α)) (tl : List α) (h : b < xs.length) : replS t b (prepS q (xs, tl)).1 (prepS q (xs, tl)).2 = prepS q (replS t b xs tl) := by
  cases xs with
  | nil => cases h
  | cons x xs =>
    obtain ⟨p, c⟩ := x
    cases b with
    | zero =>
      show prepS (q ++ p ++ side3 t c) (xs, tl) = prepS q (prepS (p ++ side3 t c) (xs, tl))
      rw [prepS_prep, List.append_assoc]
    | succ b => rfl
theorem replS_comm (s t : Nat) : ∀ (a b : Nat) (xs : List (List α × List α × List α × List α)) (tl : List α), a < b → b < xs.length →
    replS t (b - 1) (replS s a xs tl).1 (replS s a xs tl).2 = replS s a (replS t b xs tl).1 (replS t b xs tl).2
  | _, _, [], _, _, h => by cases h
  | 0, 0, _, _, h, _ => by cases h
  | 0, b + 1, (p, c) :: xs, tl, _, h => by
    have hb : b < xs.length := by simpa using h
    show replS t b (prepS (p ++ side3 s c) (xs, tl)).1 (prepS (p ++ side3 s c) (xs, tl)).2 = prepS (p ++ side3 s c) (replS t b xs tl)
    exact replS_prep t b _ xs tl hb
  | a + 1, 0, _, _, h, _ => by cases h
  | a + 1, 1, _, _, h, _ => by omega
  | a + 1, b + 2, (p, c) :: xs, tl, h, hb => by
    have ih := replS_comm s t a (b + 1) xs tl (by omega) (by rw [List.length_cons] at hb; omega)
    have ih' : replS t b (replS s a xs tl).1 (replS s a xs tl).2 = replS s a (replS t (b + 1) xs tl).1 (replS t (b + 1) xs tl).2 := ih
    show ((p, c) :: (replS t b (replS s a xs tl).1 (replS s a xs tl).2).1, (replS t b (replS s a xs tl).1 (replS s a xs tl).2).2) = ((p, c) :: (replS s a (replS t (b + 1) xs tl).1 (replS t (b + 1) xs tl).2).1, (replS s a (replS t (b + 1) xs tl).1 (replS t (b + 1) xs tl).2).2)
    rw [ih']
/-- Two conflicts are settled in either order. -/
theorem stl_comm (s t a b : Nat) (L : List (RgA α)) (h : a < b) (hb : b < (sgF [] L).1.length) : stlF (b - 1) t 0 (stlF a s 0 L []) [] = stlF a s 0 (stlF b t 0 L []) [] := by
  rw [stl_eq a s L, stl_eq b t L, stl_eq, stl_eq, sg_emit, sg_emit]
  show emitF (replS t (b - 1) (replS s a _ _).1 (replS s a _ _).2).1 _ = _
  rw [replS_comm s t a b _ _ h hb]
end
end Go.Proofs.Ythobbcafemkhbaa

namespace Go.Proofs.Ythobbcafemkhbaa

section
variable {α : Type}

/-! ### lines: single ones (S), whole ones (W) -/
def strL (S W : α → Prop) (l : List α) : Prop := ∀ x ∈ l, S x ∧ W x
def prpL (S W : α → Prop) (l : List α) : Prop := (∀ x ∈ l, S x) ∧ ∀ x ∈ l.dropLast, W x
variable {S W : α → Prop}
theorem strL_nil : strL S W ([] : List α) := fun _ h => by cases h
theorem strL_app {l m : List α} (h : strL S W l) (k : strL S W m) : strL S W (l ++ m) := fun x hx => (List.mem_append.1 hx).elim (h x) (k x)
theorem strL.prp {l : List α} (h : strL S W l) : prpL S W l := ⟨fun x hx => (h x hx).1, fun x hx => (h x (List.dropLast_subset _ hx)).2⟩
theorem prpL_app {l m : List α} (h : strL S W l) (k : prpL S W m) : prpL S W (l ++ m) := by
  by_cases hm : m = []
  · subst hm; rw [List.append_nil]; exact h.prp
  · refine ⟨fun x hx => (List.mem_append.1 hx).elim (fun e => (h x e).1) (k.1 x), fun x hx => ?_⟩
    rw [List.dropLast_append_of_ne_nil hm] at hx
    exact (List.mem_append.1 hx).elim (fun e => (h x e).2) (k.2 x)
theorem prpL.left {l m : List α} (h : prpL S W (l ++ m)) (hm : m ≠ []) : strL S W l := fun x hx => by
  refine ⟨h.1 x (List.mem_append_left _ hx), h.2 x ?_⟩
  rw [List.dropLast_append_of_ne_nil hm]
  exact List.mem_append_left _ hx
theorem prpL.right {l m : List α} (h : prpL S W (l ++ m)) : prpL S W m := by
  by_cases hm : m = []
  · subst hm; exact strL_nil.prp
  · refine ⟨fun x hx => h.1 x (List.mem_append_right _ hx), fun x hx => h.2 x ?_⟩
    rw [List.dropLast_append_of_ne_nil hm]
    exact List.mem_append_right _ hx

/-! ### regions: all lines whole; all but the last line of the last region -/
def rStr (S W : α → Prop) (x : RgA α) : Prop := strL S W x.2.1 ∧ strL S W x.2.2.1 ∧ strL S W x.2.2.2
def rPrp (S W : α → Prop) (x : RgA α) : Prop := prpL S W x.2.1 ∧ prpL S W x.2.2.1 ∧ prpL S W x.2.2.2
def StrR (S W : α → Prop) (L : List (RgA α)) : Prop := ∀ x ∈ L, rStr S W x
def QR (S W : α → Prop) (L : List (RgA α)) : Prop := L = [] ∨ ∃ L' x, L = L' ++ [x] ∧ StrR S W L' ∧ rPrp S W x
theorem rStr.prp {x : RgA α} (h : rStr S W x) : rPrp S W x := ⟨h.1.prp, h.2.1.prp, h.2.2.prp⟩
theorem StrR_snoc {L : List (RgA α)} {x : RgA α} : StrR S W (L ++ [x]) ↔ StrR S W L ∧ rStr S W x := by
  constructor
  · exact fun h => ⟨fun y hy => h y (List.mem_append_left _ hy), h x (List.mem_append_right _ (List.mem_singleton.2 rfl))⟩
  · rintro ⟨h1, h2⟩ y hy
    rcases List.mem_append.1 hy with h | h
    · exact h1 y h
    · rw [List.mem_singleton.1 h]; exact h2
theorem StrR.q {L : List (RgA α)} (h : StrR S W L) : QR S W L := by
  rcases List.eq_nil_or_concat L with e | ⟨L', x, e⟩
  · exact .inl e
  · rw [List.concat_eq_append] at e
    subst e
    obtain ⟨h1, h2⟩ := StrR_snoc.1 h
    exact .inr ⟨L', x, rfl, h1, h2.prp⟩
theorem QR_snoc {L : List (RgA α)} {x : RgA α} (h : StrR S W L) (k : rPrp S W x) : QR S W (L ++ [x]) := .inr ⟨L, x, rfl, h, k⟩
theorem QR_cons {L : List (RgA α)} {x : RgA α} (h : QR S W (x :: L)) : (L = [] ∧ rPrp S W x) ∨ (L ≠ [] ∧ rStr S W x ∧ QR S W L) := by
  rcases h with h | ⟨L', y, e, h1, h2⟩
  · cases h
  · cases L' with
    | nil =>
      simp only [List.nil_append, List.cons.injEq] at e
      obtain ⟨rfl, rfl⟩ := e
      exact .inl ⟨rfl, h2⟩
    | cons z L' =>
      simp only [List.cons_append, List.cons.injEq] at e
      obtain ⟨rfl, rfl⟩ := e
      exact .inr ⟨by simp, h1 _ List.mem_cons_self, .inr ⟨L', y, rfl, fun u hu => h1 u (List.mem_cons_of_mem _ hu), h2⟩⟩

/-! ### what regions look like -/
def okR (pp : Bool) (x : RgA α) : Prop := if x.1 = true then x.2.1 ≠ x.2.2.1 ∧ x.2.1 ≠ x.2.2.2 ∧ x.2.2.1 ≠ x.2.2.2 else pp = false ∧ x.2.2.1 ≠ [] ∧ x.2.1 = [] ∧ x.2.2.2 = []
def svF : Bool → List (RgA α) → Prop
  | _, [] => True
  | pp, x :: t => okR pp x ∧ svF (!x.1) t
def lastP : Bool → List (RgA α) → Bool
  | pp, [] => pp
  | _, x :: t => lastP (!x.1) t
theorem svF_snoc {x : RgA α} : ∀ {L : List (RgA α)} {pp : Bool}, svF pp (L ++ [x]) ↔ svF pp L ∧ okR (lastP pp L) x
  | [], pp => ⟨fun h => ⟨trivial, h.1⟩, fun h => ⟨h.2, trivial⟩⟩
  | y :: L, pp => by
    show (okR pp y ∧ svF (!y.1) (L ++ [x])) ↔ (okR pp y ∧ svF (!y.1) L) ∧ okR (lastP (!y.1) L) x
    rw [svF_snoc (L := L)]
    exact ⟨fun ⟨a, b, c⟩ => ⟨⟨a, b⟩, c⟩, fun ⟨⟨a, b⟩, c⟩ => ⟨a, b, c⟩⟩
theorem lastP_snoc {x : RgA α} : ∀ {L : List (RgA α)} {pp : Bool}, lastP pp (L ++ [x]) = !x.1
  | [], _ => rfl
  | y :: L, _ => lastP_snoc (L := L) (pp := !y.1)
theorem okR_conf {pp : Bool} {b l r : List α} : okR pp (true, b, l, r) ↔ b ≠ l ∧ b ≠ r ∧ l ≠ r := by unfold okR; rw [if_pos rfl]
theorem okR_plain {pp : Bool} {b l r : List α} : okR pp (false, b, l, r) ↔ pp = false ∧ l ≠ [] ∧ b = [] ∧ r = [] := by unfold okR; rw [if_neg (by simp)]

theorem sv_addL {L : List (RgA α)} (h : svF false L) (ls : List α) : svF false (addL L ls) := by
  by_cases h0 : ls = []
  · subst h0; rw [addL_nil]; exact h
  rcases rg_cases L with e | ⟨L', b, l, r, e⟩ | ⟨L', b, l, r, e⟩
  · subst e; rw [addL_empty h0]; exact ⟨okR_plain.2 ⟨rfl, h0, rfl, rfl⟩, trivial⟩
  · subst e
    rw [addL_plain _ _ _ _ h0]
    obtain ⟨h1, h2⟩ := svF_snoc.1 h
    exact svF_snoc.2 ⟨h1, okR_plain.2 ⟨(okR_plain.1 h2).1, fun e => h0 (List.append_eq_nil_iff.1 e).2, rfl, rfl⟩⟩
  · subst e
    rw [addL_conf _ _ _ _ h0]
    exact svF_snoc.2 ⟨h, okR_plain.2 ⟨lastP_snoc, h0, rfl, rfl⟩⟩
theorem str_addL {L : List (RgA α)} (h : StrR S W L) {ls : List α} (k : strL S W ls) : StrR S W (addL L ls) := by
  by_cases h0 : ls = []
  · subst h0; rw [addL_nil]; exact h
  rcases rg_cases L with e | ⟨L', b, l, r, e⟩ | ⟨L', b, l, r, e⟩
  · subst e; rw [addL_empty h0]
    exact fun x hx => by rw [List.mem_singleton.1 hx]; exact ⟨strL_nil, k, strL_nil⟩
  · subst e
    rw [addL_plain _ _ _ _ h0]
    obtain ⟨h1, h2⟩ := StrR_snoc.1 h
    exact StrR_snoc.2 ⟨h1, strL_nil, strL_app h2.2.1 k, strL_nil⟩
  · subst e
    rw [addL_conf _ _ _ _ h0]
    exact StrR_snoc.2 ⟨h, strL_nil, k, strL_nil⟩
theorem q_addL {L : List (RgA α)} (h : StrR S W L) {ls : List α} (k : prpL S W ls) : QR S W (addL L ls) := by
  by_cases h0 : ls = []
  · subst h0; rw [addL_nil]; exact h.q
  rcases rg_cases L with e | ⟨L', b, l, r, e⟩ | ⟨L', b, l, r, e⟩
  · subst e; rw [addL_empty h0]
    exact .inr ⟨[], _, rfl, (fun _ h => by cases h), strL_nil.prp, k, strL_nil.prp⟩
  · subst e
    rw [addL_plain _ _ _ _ h0]
    obtain ⟨h1, h2⟩ := StrR_snoc.1 h
    exact QR_snoc h1 ⟨strL_nil.prp, prpL_app h2.2.1 k, strL_nil.prp⟩
  · subst e
    rw [addL_conf _ _ _ _ h0]
    exact QR_snoc h ⟨strL_nil.prp, k, strL_nil.prp⟩

variable [DecidableEq α]
theorem addG_cases (L : List (RgA α)) (b l r : List α) : (addG L b l r = addL L l ∧ (l = r ∨ b = r)) ∨ (addG L b l r = addL L r ∧ b = l) ∨ (addG L b l r = L ++ [(true, b, l, r)] ∧ b ≠ l ∧ b ≠ r ∧ l ≠ r) := by
  unfold addG
  by_cases h1 : l = r
  · rw [if_pos h1]; exact .inl ⟨rfl, .inl h1⟩
  by_cases h2 : b = l
  · rw [if_neg h1, if_pos h2]; exact .inr (.inl ⟨rfl, h2⟩)
  by_cases h3 : b = r
  · rw [if_neg h1, if_neg h2, if_pos h3]; exact .inl ⟨rfl, .inr h3⟩
  · rw [if_neg h1, if_neg h2, if_neg h3]; exact .inr (.inr ⟨rfl, h2, h3, h1⟩)
theorem sv_addG {L : List (RgA α)} (h : svF false L) (b l r : List α) : svF false (addG L b l r) := by
  rcases addG_cases L b l r with ⟨e, _⟩ | ⟨e, _⟩ | ⟨e, k⟩ <;> rw [e]
  · exact sv_addL h _
  · exact sv_addL h _
  · exact svF_snoc.2 ⟨h, okR_conf.2 k⟩
theorem str_addG {L : List (RgA α)} (h : StrR S W L) {b l r : List α} (hb : strL S W b) (hl : strL S W l) (hr : strL S W r) : StrR S W (addG L b l r) := by
  rcases addG_cases L b l r with ⟨e, _⟩ | ⟨e, _⟩ | ⟨e, k⟩ <;> rw [e]
  · exact str_addL h hl
  · exact str_addL h hr
  · exact StrR_snoc.2 ⟨h, hb, hl, hr⟩
theorem q_addG {L : List (RgA α)} (h : StrR S W L) {b l r : List α} (hb : prpL S W b) (hl : prpL S W l) (hr : prpL S W r) : QR S W (addG L b l r) := by
  rcases addG_cases L b l r with ⟨e, _⟩ | ⟨e, _⟩ | ⟨e, k⟩ <;> rw [e]
  · exact q_addL h hl
  · exact q_addL h hr
  · exact QR_snoc h ⟨hb, hl, hr⟩

/-- Merging along two scripts: valid regions. -/
theorem mgA_valid : ∀ (s t : List (List α × Bool × α)) (gb gl gr tl tr : List α) (L : List (RgA α)), srcG s = srcG t → svF false L → StrR S W L →
    prpL S W (gb ++ srcG s) → prpL S W (gl ++ dstG s tl) → prpL S W (gr ++ dstG t tr) → QR S W (mgA gb gl gr s t tl tr L) ∧ svF false (mgA gb gl gr s t tl tr L)
  | [], [], gb, gl, gr, tl, tr, L, _, hv, hs, hb, hl, hr => by
    have hb' : prpL S W gb := by rw [← List.append_nil gb]; exact hb
    exact ⟨q_addG hs hb' hl hr, sv_addG hv _ _ _⟩
  | [], y :: t, _, _, _, _, _, _, h, _, _, _, _, _ => by cases h
  | x :: s, [], _, _, _, _, _, _, h, _, _, _, _, _ => by cases h
  | (p, true, x) :: s, (q, true, y) :: t, gb, gl, gr, tl, tr, L, h, hv, hs, hb, hl, hr => by
    obtain ⟨h1, h2⟩ := List.cons.inj (show x :: srcG s = y :: srcG t from h)
    subst h1
    have hb : prpL S W (gb ++ x :: srcG s) := hb
    have hl : prpL S W ((gl ++ p) ++ x :: dstG s tl) := by rw [List.append_assoc]; exact hl
    have hr : prpL S W ((gr ++ q) ++ x :: dstG t tr) := by rw [List.append_assoc]; exact hr
    have hs1 : StrR S W (addG L gb (gl ++ p) (gr ++ q)) := str_addG hs (hb.left (by simp)) (hl.left (by simp)) (hr.left (by simp))
    have hv1 := sv_addL (sv_addG hv gb (gl ++ p) (gr ++ q)) [x]
    have hS : S x := hb.right.1 x List.mem_cons_self
    show QR S W (mgA [] [] [] s t tl tr (addL (addG L gb (gl ++ p) (gr ++ q)) [x])) ∧ svF false (mgA [] [] [] s t tl tr (addL (addG L gb (gl ++ p) (gr ++ q)) [x]))
    by_cases hw : W x
    · have hs2 := str_addL hs1 (ls := [x]) (fun z hz => by rw [List.mem_singleton.1 hz]; exact ⟨hS, hw⟩)
      exact mgA_valid s t [] [] [] tl tr _ h2 hv1 hs2 (prpL.right (l := [x]) hb.right) (prpL.right (l := [x]) hl.right) (prpL.right (l := [x]) hr.right)
    · have key : ∀ {l : List α}, prpL S W (x :: l) → l = [] := fun {l} hp => by
        refine Classical.byContradiction fun hne => hw (hp.2 x ?_)
        rw [List.dropLast_cons_of_ne_nil hne]
        exact List.mem_cons_self
      have e1 := key hb.right
      have e2 := key hl.right
      have e3 := key hr.right
      have es : s = [] := by
        cases s with
        | nil => rfl
        | cons z s => cases e1
      subst es
      have et : t = [] := by
        cases t with
        | nil => rfl
        | cons z t => cases h2
      subst et
      have e2 : tl = [] := e2
      have e3 : tr = [] := e3
      subst e2 e3
      have e4 : mgA ([] : List α) [] [] [] [] [] [] (addL (addG L gb (gl ++ p) (gr ++ q)) [x]) = addL (addG L gb (gl ++ p) (gr ++ q)) [x] := by
        show addG _ [] [] [] = _
        rw [addG_same, addL_nil]
      rw [e4]
      exact ⟨q_addL hs1 ⟨fun z hz => by rw [List.mem_singleton.1 hz]; exact hS, fun z hz => by cases hz⟩, hv1⟩
  | (p, false, x) :: s, (q, kq, y) :: t, gb, gl, gr, tl, tr, L, h, hv, hs, hb, hl, hr => by
    obtain ⟨h1, h2⟩ := List.cons.inj (show x :: srcG s = y :: srcG t from h)
    subst h1
    cases kq
    · refine mgA_valid s t (gb ++ [x]) (gl ++ p ++ []) (gr ++ q ++ []) tl tr L h2 hv hs ?_ ?_ ?_
      · rw [List.append_assoc]; exact hb
      · rw [List.append_nil, List.append_assoc]; exact hl
      · rw [List.append_nil, List.append_assoc]; exact hr
    · refine mgA_valid s t (gb ++ [x]) (gl ++ p ++ []) (gr ++ q ++ [x]) tl tr L h2 hv hs ?_ ?_ ?_
      · rw [List.append_assoc]; exact hb
      · rw [List.append_nil, List.append_assoc]; exact hl
      · rw [List.append_assoc, List.append_assoc]; exact hr
  | (p, true, x) :: s, (q, false, y) :: t, gb, gl, gr, tl, tr, L, h, hv, hs, hb, hl, hr => by
    obtain ⟨h1, h2⟩ := List.cons.inj (show x :: srcG s = y :: srcG t from h)
    subst h1
    refine mgA_valid s t (gb ++ [x]) (gl ++ p ++ [x]) (gr ++ q ++ []) tl tr L h2 hv hs ?_ ?_ ?_
    · rw [List.append_assoc]; exact hb
    · rw [List.append_assoc, List.append_assoc]; exact hl
    · rw [List.append_nil, List.append_assoc]; exact hr
theorem merge_valid (a b c : List α) (ha : prpL S W a) (hb : prpL S W b) (hc : prpL S W c) : QR S W (mergeL a b c) ∧ svF false (mergeL a b c) := by
  rw [merge_eq]
  refine mgA_valid _ _ [] [] [] _ _ [] (by rw [grpL_src, grpL_src]) trivial (fun _ h => by cases h) ?_ ?_ ?_
  · rw [grpL_src]; exact ha
  · rw [grpL_dst]; exact hb
  · rw [grpL_dst]; exact hc

omit [DecidableEq α] in
theorem side_str {c : List α × List α × List α} {s : Nat} (h : rStr S W (true, c)) : strL S W (side3 s c) := by
  unfold side3
  split
  · exact h.2.1
  · split
    · exact h.1
    · exact h.2.2
omit [DecidableEq α] in
theorem side_prp {c : List α × List α × List α} {s : Nat} (h : rPrp S W (true, c)) : prpL S W (side3 s c) := by
  unfold side3
  split
  · exact h.2.1
  · split
    · exact h.1
    · exact h.2.2
omit [DecidableEq α] in
/-- Settling: valid regions. -/
theorem stl_valid (i s : Nat) : ∀ (L : List (RgA α)) (n : Nat) (pp : Bool) (out : List (RgA α)), QR S W L → svF pp L → StrR S W out → svF false out → QR S W (stlF i s n L out) ∧ svF false (stlF i s n L out)
  | [], _, _, out, _, _, h, k => ⟨h.q, k⟩
  | (false, b, l, r) :: L, n, pp, out, hq, hv, h, k => by
    show QR S W (stlF i s n L (addL out l)) ∧ svF false (stlF i s n L (addL out l))
    rcases QR_cons hq with ⟨rfl, h1⟩ | ⟨_, h1, h2⟩
    · exact ⟨q_addL h h1.2.1, sv_addL k _⟩
    · exact stl_valid i s L n _ _ h2 hv.2 (str_addL h h1.2.1) (sv_addL k _)
  | (true, c) :: L, n, pp, out, hq, hv, h, k => by
    have hv1 : okR pp (true, c) := hv.1
    have hv2 : ∀ pp, okR pp (true, c) := fun pp => by obtain ⟨b, l, r⟩ := c; exact okR_conf.2 (okR_conf.1 hv1)
    show QR S W (stlF i s (n + 1) L (if n = i then addL out (side3 s c) else out ++ [(true, c)])) ∧ svF false (stlF i s (n + 1) L (if n = i then addL out (side3 s c) else out ++ [(true, c)]))
    by_cases hn : n = i
    · rw [if_pos hn]
      rcases QR_cons hq with ⟨rfl, h1⟩ | ⟨_, h1, h2⟩
      · exact ⟨q_addL h (side_prp h1), sv_addL k _⟩
      · exact stl_valid i s L (n + 1) _ _ h2 hv.2 (str_addL h (side_str h1)) (sv_addL k _)
    · rw [if_neg hn]
      rcases QR_cons hq with ⟨rfl, h1⟩ | ⟨_, h1, h2⟩
      · exact ⟨QR_snoc h h1, svF_snoc.2 ⟨k, hv2 _⟩⟩
      · exact stl_valid i s L (n + 1) _ _ h2 hv.2 (StrR_snoc.2 ⟨h, h1⟩) (svF_snoc.2 ⟨k, hv2 _⟩)

/-! ### the number of conflicts -/
section
omit [DecidableEq α]
theorem sg_count : ∀ (L : List (RgA α)) (acc : List α), (sgF acc L).1.length = L.countP (·.1)
  | [], _ => rfl
  | (false, _, l, _) :: rs, acc => by
    show (sgF (acc ++ l) rs).1.length = _
    rw [sg_count rs, List.countP_cons_of_neg (by simp)]
  | (true, c) :: rs, acc => by
    show (sgF [] rs).1.length + 1 = _
    rw [sg_count rs, List.countP_cons_of_pos (by simp)]
theorem repl_count (s : Nat) : ∀ (i : Nat) (xs : List (List α × List α × List α × List α)) (tl : List α), i < xs.length → (replS s i xs tl).1.length + 1 = xs.length
  | _, [], _, h => by cases h
  | 0, (p, c) :: xs, tl, _ => by
    show (prepS (p ++ side3 s c) (xs, tl)).1.length + 1 = xs.length + 1
    cases xs <;> rfl
  | i + 1, (p, c) :: xs, tl, h => by
    have := repl_count s i xs tl (by simpa using h)
    show (replS s i xs tl).1.length + 1 + 1 = xs.length + 1
    omega
theorem emit_count (xs : List (List α × List α × List α × List α)) (tl : List α) : (emitF xs tl).countP (·.1) = xs.length := by
  rw [← sg_count _ [], sg_emit]
theorem stl_count (i s : Nat) (L : List (RgA α)) (h : i < L.countP (·.1)) : (stlF i s 0 L []).countP (·.1) + 1 = L.countP (·.1) := by
  rw [stl_eq, emit_count, repl_count s i _ _ (by rw [sg_count]; exact h), sg_count]
theorem stl_comm' (s t a b : Nat) (L : List (RgA α)) (h : a < b) (hb : b < L.countP (·.1)) : stlF (b - 1) t 0 (stlF a s 0 L []) [] = stlF a s 0 (stlF b t 0 L []) [] :=
  stl_comm s t a b L h (by rw [sg_count]; exact hb)
end

/-! ### a merge without conflict -/
section
omit [DecidableEq α]
/-- The lines of regions without conflict. -/
def txtR (L : List (RgA α)) : List α := (L.map fun x => x.2.2.1).flatten
theorem txt_snoc (L : List (RgA α)) (x : RgA α) : txtR (L ++ [x]) = txtR L ++ x.2.2.1 := by simp [txtR]
theorem txt_addL (L : List (RgA α)) (ls : List α) : txtR (addL L ls) = txtR L ++ ls := by
  by_cases h0 : ls = []
  · subst h0; rw [addL_nil, List.append_nil]
  rcases rg_cases L with e | ⟨L', b, l, r, e⟩ | ⟨L', b, l, r, e⟩
  · subst e; rw [addL_empty h0]; simp [txtR]
  · subst e; rw [addL_plain _ _ _ _ h0, txt_snoc, txt_snoc, List.append_assoc]
  · subst e; rw [addL_conf _ _ _ _ h0, txt_snoc]
def clnR (L : List (RgA α)) : Prop := L.countP (·.1) = 0
theorem cln_snoc {L : List (RgA α)} {x : RgA α} : clnR (L ++ [x]) ↔ clnR L ∧ x.1 = false := by
  unfold clnR
  rw [List.countP_append, List.countP_singleton]
  cases x.1 <;> simp
theorem cln_addL {L : List (RgA α)} {ls : List α} (h : clnR (addL L ls)) : clnR L := by
  by_cases h0 : ls = []
  · subst h0; rw [addL_nil] at h; exact h
  rcases rg_cases L with e | ⟨L', b, l, r, e⟩ | ⟨L', b, l, r, e⟩
  · subst e; rfl
  · subst e; rw [addL_plain _ _ _ _ h0] at h; exact cln_snoc.2 ⟨(cln_snoc.1 h).1, rfl⟩
  · subst e; rw [addL_conf _ _ _ _ h0] at h; exact (cln_snoc.1 h).1
theorem cln_one {L : List (RgA α)} (h : clnR L) (k : svF false L) : L = addL [] (txtR L) := by
  cases L with
  | nil => exact (addL_nil _).symm
  | cons x L =>
    obtain ⟨c, b, l, r⟩ := x
    cases c with
    | true => unfold clnR at h; rw [List.countP_cons_of_pos (by simp)] at h; omega
    | false =>
      obtain ⟨h1, h2⟩ := k
      obtain ⟨_, k1, rfl, rfl⟩ := okR_plain.1 h1
      cases L with
      | nil =>
        show _ = addL [] ([l].flatten)
        simp only [List.flatten_cons, List.flatten_nil, List.append_nil]
        exact (addL_empty k1).symm
      | cons y L =>
        obtain ⟨c, b, l', r⟩ := y
        cases c with
        | true => unfold clnR at h; rw [List.countP_cons_of_neg (by simp), List.countP_cons_of_pos (by simp)] at h; omega
        | false => exact absurd (okR_plain.1 h2.1).1 (by simp)
end
theorem cln_addG {L : List (RgA α)} {b l r : List α} (h : clnR (addG L b l r)) : clnR L ∧ ((l = r ∧ txtR (addG L b l r) = txtR L ++ l) ∨ (b = r ∧ txtR (addG L b l r) = txtR L ++ l) ∨ (b = l ∧ txtR (addG L b l r) = txtR L ++ r)) := by
  rcases addG_cases L b l r with ⟨e, e1⟩ | ⟨e, e1⟩ | ⟨e, _⟩ <;> rw [e] at h ⊢
  · refine ⟨cln_addL h, ?_⟩
    rcases e1 with e1 | e1
    · exact .inl ⟨e1, txt_addL _ _⟩
    · exact .inr (.inl ⟨e1, txt_addL _ _⟩)
  · exact ⟨cln_addL h, .inr (.inr ⟨e1, txt_addL _ _⟩)⟩
  · exact absurd (cln_snoc.1 h).2 (by simp)

/-- What a merge without conflict has of three counts, in each gap and so in all. -/
theorem mgA_clean (f : List α → Nat) (hf0 : f [] = 0) (hf : ∀ x y, f (x ++ y) = f x + f y) :
    ∀ (s t : List (List α × Bool × α)) (gb gl gr tl tr : List α) (L : List (RgA α)), srcG s = srcG t → f (gb ++ srcG s) = 0 → clnR (mgA gb gl gr s t tl tr L) → clnR L ∧ ∃ m, txtR (mgA gb gl gr s t tl tr L) = txtR L ++ m ∧
      f (gl ++ dstG s tl) ≤ f m ∧ f (gr ++ dstG t tr) ≤ f m ∧ f m ≤ f (gl ++ dstG s tl) + f (gr ++ dstG t tr)
  | [], [], gb, gl, gr, tl, tr, L, _, h0, hc => by
    have hb : f gb = 0 := by rw [← List.append_nil gb]; exact h0
    have hc : clnR (addG L gb (gl ++ tl) (gr ++ tr)) := hc
    show clnR L ∧ ∃ m, txtR (addG L gb (gl ++ tl) (gr ++ tr)) = txtR L ++ m ∧ f (gl ++ tl) ≤ f m ∧ f (gr ++ tr) ≤ f m ∧ f m ≤ f (gl ++ tl) + f (gr ++ tr)
    obtain ⟨h1, ⟨h2, h3⟩ | ⟨h2, h3⟩ | ⟨h2, h3⟩⟩ := cln_addG hc
    · exact ⟨h1, _, h3, by omega, by rw [← h2]; omega, by omega⟩
    · exact ⟨h1, _, h3, by omega, by rw [← h2]; omega, by omega⟩
    · exact ⟨h1, _, h3, by rw [← h2]; omega, by omega, by omega⟩
  | [], y :: t, _, _, _, _, _, _, h, _, _ => by cases h
  | x :: s, [], _, _, _, _, _, _, h, _, _ => by cases h
  | (p, true, x) :: s, (q, true, y) :: t, gb, gl, gr, tl, tr, L, h, h0, hc => by
    obtain ⟨h1, h2⟩ := List.cons.inj (show x :: srcG s = y :: srcG t from h)
    subst h1
    have h0 : f (gb ++ ([x] ++ srcG s)) = 0 := h0
    rw [hf, hf] at h0
    obtain ⟨c1, m, e1, b1, b2, b3⟩ := mgA_clean f hf0 hf s t [] [] [] tl tr _ h2 (by show f (srcG s) = 0; omega) hc
    obtain ⟨c2, k⟩ := cln_addG (cln_addL c1)
    have b1 : f (dstG s tl) ≤ f m := b1
    have b2 : f (dstG t tr) ≤ f m := b2
    have b3 : f m ≤ f (dstG s tl) + f (dstG t tr) := b3
    have hg : ∃ g, txtR (addG L gb (gl ++ p) (gr ++ q)) = txtR L ++ g ∧ f (gl ++ p) ≤ f g ∧ f (gr ++ q) ≤ f g ∧ f g ≤ f (gl ++ p) + f (gr ++ q) := by
      rcases k with ⟨k1, k2⟩ | ⟨k1, k2⟩ | ⟨k1, k2⟩
      · exact ⟨_, k2, by omega, by rw [← k1]; omega, by omega⟩
      · exact ⟨_, k2, by omega, by rw [← k1]; omega, by omega⟩
      · exact ⟨_, k2, by rw [← k1]; omega, by omega, by omega⟩
    obtain ⟨g, g1, g2, g3, g4⟩ := hg
    refine ⟨c2, g ++ ([x] ++ m), ?_, ?_, ?_, ?_⟩
    · show txtR (mgA [] [] [] s t tl tr _) = _
      rw [e1, txt_addL, g1]; simp
    all_goals
      show _
      have d1 : dstG ((p, true, x) :: s) tl = p ++ ([x] ++ dstG s tl) := rfl
      have d2 : dstG ((q, true, x) :: t) tr = q ++ ([x] ++ dstG t tr) := rfl
      rw [hf] at g2 g3 g4
      rw [hf] at g4
      simp only [d1, d2, hf]
      omega
  | (p, false, x) :: s, (q, kq, y) :: t, gb, gl, gr, tl, tr, L, h, h0, hc => by
    obtain ⟨h1, h2⟩ := List.cons.inj (show x :: srcG s = y :: srcG t from h)
    subst h1
    have e0 : gb ++ srcG ((p, false, x) :: s) = gb ++ [x] ++ srcG s := by rw [List.append_assoc]; rfl
    rw [e0] at h0
    cases kq
    · have e1 : gl ++ dstG ((p, false, x) :: s) tl = gl ++ p ++ [] ++ dstG s tl := by rw [List.append_nil, List.append_assoc]; rfl
      have e2 : gr ++ dstG ((q, false, x) :: t) tr = gr ++ q ++ [] ++ dstG t tr := by rw [List.append_nil, List.append_assoc]; rfl
      rw [e1, e2]
      exact mgA_clean f hf0 hf s t (gb ++ [x]) (gl ++ p ++ []) (gr ++ q ++ []) tl tr L h2 h0 hc
    · have e1 : gl ++ dstG ((p, false, x) :: s) tl = gl ++ p ++ [] ++ dstG s tl := by rw [List.append_nil, List.append_assoc]; rfl
      have e2 : gr ++ dstG ((q, true, x) :: t) tr = gr ++ q ++ [x] ++ dstG t tr := by rw [List.append_assoc, List.append_assoc]; rfl
      rw [e1, e2]
      exact mgA_clean f hf0 hf s t (gb ++ [x]) (gl ++ p ++ []) (gr ++ q ++ [x]) tl tr L h2 h0 hc
  | (p, true, x) :: s, (q, false, y) :: t, gb, gl, gr, tl, tr, L, h, h0, hc => by
    obtain ⟨h1, h2⟩ := List.cons.inj (show x :: srcG s = y :: srcG t from h)
    subst h1
    have e0 : gb ++ srcG ((p, true, x) :: s) = gb ++ [x] ++ srcG s := by rw [List.append_assoc]; rfl
    rw [e0] at h0
    have e1 : gl ++ dstG ((p, true, x) :: s) tl = gl ++ p ++ [x] ++ dstG s tl := by rw [List.append_assoc, List.append_assoc]; rfl
    have e2 : gr ++ dstG ((q, false, x) :: t) tr = gr ++ q ++ [] ++ dstG t tr := by rw [List.append_nil, List.append_assoc]; rfl
    rw [e1, e2]
    exact mgA_clean f hf0 hf s t (gb ++ [x]) (gl ++ p ++ [x]) (gr ++ q ++ []) tl tr L h2 h0 hc
/-- A line that the base does not have. -/
theorem merge_counts (a b c : List α) (x : α) (h : a.count x = 0) (hc : clnR (mergeL a b c)) : b.count x ≤ (txtR (mergeL a b c)).count x ∧ c.count x ≤ (txtR (mergeL a b c)).count x ∧ (txtR (mergeL a b c)).count x ≤ b.count x + c.count x := by
  rw [merge_eq] at hc ⊢
  obtain ⟨_, m, e, h1, h2, h3⟩ := mgA_clean (fun l => l.count x) rfl (fun _ _ => List.count_append) _ _ [] [] [] _ _ [] (by rw [grpL_src, grpL_src]) (by rw [grpL_src]; exact h) hc
  simp only [List.nil_append, grpL_dst] at h1 h2 h3
  rw [e]
  exact ⟨h1, h2, h3⟩

/-- The lines that only one side has, in order. -/
theorem mgA_only (p : α → Bool) : ∀ (s t : List (List α × Bool × α)) (gb gl gr tl tr : List α) (L : List (RgA α)), srcG s = srcG t → (∀ x ∈ gb ++ srcG s, p x = false) → (∀ x ∈ gr ++ dstG t tr, p x = false) → clnR (mgA gb gl gr s t tl tr L) →
    clnR L ∧ ∃ m, txtR (mgA gb gl gr s t tl tr L) = txtR L ++ m ∧ m.filter p = (gl ++ dstG s tl).filter p := by
  have none : ∀ {l : List α}, (∀ x ∈ l, p x = false) → l.filter p = [] := fun {l} h => List.filter_eq_nil_iff.2 fun x hx => by rw [h x hx]; simp
  have gap : ∀ (L : List (RgA α)) (b l r : List α), (∀ x ∈ b, p x = false) → (∀ x ∈ r, p x = false) → clnR (addG L b l r) → clnR L ∧ ∃ m, txtR (addG L b l r) = txtR L ++ m ∧ m.filter p = l.filter p := by
    intro L b l r hb hr hc
    obtain ⟨h1, ⟨h2, h3⟩ | ⟨h2, h3⟩ | ⟨h2, h3⟩⟩ := cln_addG hc
    · exact ⟨h1, _, h3, rfl⟩
    · exact ⟨h1, _, h3, rfl⟩
    · exact ⟨h1, _, h3, by rw [← h2, none hb, none hr]⟩
  intro s
  induction s with
  | nil =>
    intro t gb gl gr tl tr L h hb hr hc
    cases t with
    | cons y t => cases h
    | nil => exact gap L gb (gl ++ tl) (gr ++ tr) (fun x hx => hb x (List.mem_append_left _ hx)) hr hc
  | cons z s ih =>
    intro t gb gl gr tl tr L h hb hr hc
    obtain ⟨u, k, x⟩ := z
    cases t with
    | nil => cases h
    | cons y t =>
      obtain ⟨q, kq, y⟩ := y
      obtain ⟨h1, h2⟩ := List.cons.inj (show x :: srcG s = y :: srcG t from h)
      subst h1
      have hx : p x = false := hb x (List.mem_append_right _ List.mem_cons_self)
      cases k
      · have e1 : gl ++ dstG ((u, false, x) :: s) tl = gl ++ u ++ [] ++ dstG s tl := by rw [List.append_nil, List.append_assoc]; rfl
        have e0 : gb ++ srcG ((u, false, x) :: s) = gb ++ [x] ++ srcG s := by rw [List.append_assoc]; rfl
        rw [e1]; rw [e0] at hb
        cases kq
        · have e2 : gr ++ dstG ((q, false, x) :: t) tr = gr ++ q ++ [] ++ dstG t tr := by rw [List.append_nil, List.append_assoc]; rfl
          rw [e2] at hr
          exact ih t (gb ++ [x]) (gl ++ u ++ []) (gr ++ q ++ []) tl tr L h2 hb hr hc
        · have e2 : gr ++ dstG ((q, true, x) :: t) tr = gr ++ q ++ [x] ++ dstG t tr := by rw [List.append_assoc, List.append_assoc]; rfl
          rw [e2] at hr
          exact ih t (gb ++ [x]) (gl ++ u ++ []) (gr ++ q ++ [x]) tl tr L h2 hb hr hc
      · cases kq
        · have e1 : gl ++ dstG ((u, true, x) :: s) tl = gl ++ u ++ [x] ++ dstG s tl := by rw [List.append_assoc, List.append_assoc]; rfl
          have e0 : gb ++ srcG ((u, true, x) :: s) = gb ++ [x] ++ srcG s := by rw [List.append_assoc]; rfl
          have e2 : gr ++ dstG ((q, false, x) :: t) tr = gr ++ q ++ [] ++ dstG t tr := by rw [List.append_nil, List.append_assoc]; rfl
          rw [e1]; rw [e0] at hb; rw [e2] at hr
          exact ih t (gb ++ [x]) (gl ++ u ++ [x]) (gr ++ q ++ []) tl tr L h2 hb hr hc
        · have hr' : ∀ z ∈ gr ++ (q ++ ([x] ++ dstG t tr)), p z = false := hr
          obtain ⟨c1, m, e1, b1⟩ := ih t [] [] [] tl tr (addL (addG L gb (gl ++ u) (gr ++ q)) [x]) h2 (fun z hz => hb z (List.mem_append_right _ (List.mem_cons_of_mem _ hz))) (fun z hz => hr' z (by simp only [List.mem_append, List.nil_append] at hz ⊢; exact .inr (.inr (.inr hz)))) hc
          obtain ⟨c2, g, g1, g2⟩ := gap L gb (gl ++ u) (gr ++ q) (fun z hz => hb z (List.mem_append_left _ hz)) (fun z hz => hr' z (by simp only [List.mem_append] at hz ⊢; exact hz.elim .inl fun e => .inr (.inl e))) (cln_addL c1)
          refine ⟨c2, g ++ ([x] ++ m), ?_, ?_⟩
          · show txtR (mgA [] [] [] s t tl tr _) = _
            rw [e1, txt_addL, g1]; simp
          · have d1 : gl ++ dstG ((u, true, x) :: s) tl = (gl ++ u) ++ ([x] ++ dstG s tl) := by rw [List.append_assoc]; rfl
            have b1 : m.filter p = (dstG s tl).filter p := b1
            rw [d1, List.filter_append, List.filter_append, List.filter_append (p := p) (gl ++ u), List.filter_append (p := p) [x], g2, b1]
theorem merge_only (a b c : List α) (p : α → Bool) (ha : ∀ x ∈ a, p x = false) (hr : ∀ x ∈ c, p x = false) (hc : clnR (mergeL a b c)) : (txtR (mergeL a b c)).filter p = b.filter p := by
  rw [merge_eq] at hc ⊢
  obtain ⟨_, m, e, h1⟩ := mgA_only p _ _ [] [] [] _ _ [] (by rw [grpL_src, grpL_src]) (by rw [grpL_src]; exact ha) (by rw [grpL_dst]; exact hr) hc
  rw [grpL_dst] at h1
  rw [e]
  exact h1
end
end Go.Proofs.Ythobbcafemkhbaa

namespace Go.Proofs.Ythobbcafemkhbaa

/-- Places that go up from lo to below hi; -1 stands for none. -/
def incP : Nat → Nat → List Int → Prop
  | lo, hi, [] => lo ≤ hi
  | lo, hi, z :: l => (z < 0 ∧ incP lo hi l) ∨ ∃ p : Nat, z = (p : Int) ∧ lo ≤ p ∧ p < hi ∧ incP (p + 1) hi l
theorem incP_le {hi : Nat} : ∀ {l : List Int} {lo : Nat}, incP lo hi l → lo ≤ hi
  | [], _, h => h
  | _ :: _, _, .inl h => incP_le h.2
  | _ :: _, _, .inr ⟨_, _, h1, h2, _⟩ => by omega
theorem incP_mono {hi : Nat} : ∀ {l : List Int} {lo lo' : Nat}, incP lo hi l → lo' ≤ lo → incP lo' hi l
  | [], _, _, h, k => Nat.le_trans k h
  | _ :: _, _, _, .inl h, k => .inl ⟨h.1, incP_mono h.2 k⟩
  | _ :: _, _, _, .inr ⟨p, h0, h1, h2, h3⟩, k => .inr ⟨p, h0, by omega, h2, h3⟩
section
variable {α : Type}
theorem incP_plcS : ∀ (s : List (Nat × α)) (k : Nat), incP k (k + (dst s).length) (plcS k s)
  | [], k => Nat.le_refl _
  | (0, x) :: s, k => .inr ⟨k, rfl, Nat.le_refl _, by simp only [dst, List.length_cons]; omega, by
      have := incP_plcS s (k + 1)
      simp only [dst, List.length_cons]
      rwa [show k + ((dst s).length + 1) = k + 1 + (dst s).length by omega]⟩
  | (1, x) :: s, k => .inl ⟨by decide, incP_plcS s k⟩
  | (_ + 2, x) :: s, k => by
    have := incP_plcS s (k + 1)
    show incP k (k + ((dst s).length + 1)) (plcS (k + 1) s)
    rw [show k + ((dst s).length + 1) = k + 1 + (dst s).length by omega]
    exact incP_mono this (by omega)
theorem plcS_len : ∀ (s : List (Nat × α)) (k : Nat), (plcS k s).length = (src s).length
  | [], _ => rfl
  | (0, _) :: s, k => congrArg (· + 1) (plcS_len s (k + 1))
  | (1, _) :: s, k => congrArg (· + 1) (plcS_len s k)
  | (_ + 2, _) :: s, k => plcS_len s (k + 1)
variable [DecidableEq α]
theorem plcL_inc (a b : List α) : incP 0 b.length (plcL a b) := by
  rw [plcL_eq]
  have := incP_plcS (scrA a b) 0
  rwa [scrA_dst, Nat.zero_add] at this
theorem plcL_len (a b : List α) : (plcL a b).length = a.length := by
  rw [plcL_eq, plcS_len, scrA_src]

/-! ### one round of the merge -/
variable {a b c : List α} {n i j k : Nat} {X Y : List Int} {L full : List (RgA α)} {x y : Int}
theorem inc_skip {lo hi : Nat} {z : Int} {l : List Int} (h : incP lo hi (z :: l)) : incP lo hi l := by
  rcases h with h | ⟨p, h0, h1, h2, h3⟩
  · exact h.2
  · exact incP_mono h3 (by omega)
theorem inc_take {lo hi : Nat} {z : Int} {l : List Int} (h : incP lo hi (z :: l)) (hz : ¬ z < 0) : ∃ p : Nat, z = (p : Int) ∧ lo ≤ p ∧ p < hi ∧ incP (p + 1) hi l := by
  rcases h with h | h
  · exact absurd h.1 hz
  · exact h
theorem zip_drop : ∀ (X Y : List Int) (n : Nat), (X.zip Y).drop n = (X.drop n).zip (Y.drop n)
  | [], Y, n => by simp
  | X, [], n => by simp
  | x :: X, y :: Y, 0 => rfl
  | x :: X, y :: Y, n + 1 => zip_drop X Y n
theorem mg_skip (h : full = mgI a b c (((x :: X).zip (y :: Y))) n i j k L) (hx : x < 0 ∨ y < 0) : full = mgI a b c (X.zip Y) (n + 1) i j k L := by
  rw [h]
  show (if x < 0 ∨ y < 0 then _ else _) = _
  rw [if_pos hx]
  rfl
theorem mg_take {p q : Nat} (h : full = mgI a b c (((p : Int) :: X).zip ((q : Int) :: Y)) n i j k L) :
    full = mgI a b c (X.zip Y) (n + 1) (n + 1) (p + 1) (q + 1) (addL (addG L ((a.drop i).take (n - i)) ((b.drop j).take (p - j)) ((c.drop k).take (q - k))) ((a.drop n).take 1)) := by
  rw [h]
  show (if (p : Int) < 0 ∨ (q : Int) < 0 then _ else _) = _
  rw [if_neg (by omega)]
  rfl
theorem mg_end (h : full = mgI a b c (([] : List Int).zip Y) n i j k L) : full = addG L (a.drop i) (b.drop j) (c.drop k) := h
end
end Go.Proofs.Ythobbcafemkhbaa
