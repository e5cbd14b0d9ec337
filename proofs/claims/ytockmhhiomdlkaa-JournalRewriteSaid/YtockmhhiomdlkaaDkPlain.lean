/- Plain laws on disks: what the functions of the chapter compute. No program in sight. -/
import Derived.Test.YtockmhhiomdlkaaBase
namespace Go.Proofs.Ytockmhhiomdlkaa
set_option linter.unusedSimpArgs false
set_option linter.unusedVariables false

structure Dk where
  size : Int
  secs : List ByteArray
  pend : List (Int × ByteArray)
  left : Int

def noDisk : Dk := ⟨0, [], [], 0⟩

def badW (n : Nat) (w : Int × ByteArray) : Bool := decide (w.1 < 0 ∨ (n : Int) ≤ w.1)
def chkW (n : Nat) (size rest : Int) : List (Int × ByteArray) → Int
  | [] => rest
  | w :: l => if w.1 < 0 ∨ (n : Int) ≤ w.1 then 2 else if (w.2.size : Int) ≠ size then 11 else chkW n size rest l
def chkS (size rest : Int) : List ByteArray → Int
  | [] => rest
  | s :: l => if (s.size : Int) ≠ size then 11 else chkS size rest l
def chkL (left : Int) : Int := if left < -1 then 2 else 0
def chk (d : Dk) : Int :=
  if d.size < 1 ∨ 512 < d.size ∨ d.secs.length < 1 ∨ 1000 < d.secs.length then 2
  else chkS d.size (chkW d.secs.length d.size (chkL d.left) d.pend) d.secs

structure Valid (d : Dk) : Prop where
  s1 : 1 ≤ d.size
  s2 : d.size ≤ 512
  n1 : 1 ≤ d.secs.length
  n2 : d.secs.length ≤ 1000
  ss : ∀ s ∈ d.secs, (s.size : Int) = d.size
  ws : ∀ w ∈ d.pend, 0 ≤ w.1 ∧ w.1 < d.secs.length ∧ (w.2.size : Int) = d.size
  lf : -1 ≤ d.left

theorem chkW_zero {n : Nat} {size rest : Int} : ∀ {l : List (Int × ByteArray)}, chkW n size rest l = 0 ↔ (∀ w ∈ l, 0 ≤ w.1 ∧ w.1 < n ∧ (w.2.size : Int) = size) ∧ rest = 0
  | [] => by simp [chkW]
  | w :: l => by
    rw [chkW]
    by_cases h : w.1 < 0 ∨ (n : Int) ≤ w.1
    · rw [if_pos h]
      constructor
      · intro h'; omega
      · rintro ⟨h', _⟩; have := h' w List.mem_cons_self; omega
    · rw [if_neg h]
      by_cases h2 : (w.2.size : Int) = size
      · rw [if_neg (by simpa using h2), chkW_zero (l := l)]
        simp only [List.mem_cons, forall_eq_or_imp]
        constructor
        · rintro ⟨a, b⟩; exact ⟨⟨⟨by omega, by omega, h2⟩, a⟩, b⟩
        · rintro ⟨⟨_, a⟩, b⟩; exact ⟨a, b⟩
      · rw [if_pos h2]
        constructor
        · intro h'; omega
        · rintro ⟨h', _⟩; exact absurd (h' w List.mem_cons_self).2.2 h2
theorem chkS_zero {size rest : Int} : ∀ {l : List ByteArray}, chkS size rest l = 0 ↔ (∀ s ∈ l, (s.size : Int) = size) ∧ rest = 0
  | [] => by simp [chkS]
  | s :: l => by
    rw [chkS]
    by_cases h2 : (s.size : Int) = size
    · rw [if_neg (by simpa using h2), chkS_zero (l := l)]
      simp only [List.mem_cons, forall_eq_or_imp]
      constructor
      · rintro ⟨a, b⟩; exact ⟨⟨h2, a⟩, b⟩
      · rintro ⟨⟨_, a⟩, b⟩; exact ⟨a, b⟩
    · rw [if_pos h2]
      constructor
      · intro h'; omega
      · rintro ⟨h', _⟩; exact absurd (h' s List.mem_cons_self) h2
theorem chk_zero {d : Dk} : chk d = 0 ↔ Valid d := by
  unfold chk
  by_cases h : d.size < 1 ∨ 512 < d.size ∨ d.secs.length < 1 ∨ 1000 < d.secs.length
  · rw [if_pos h]
    constructor
    · intro h'; omega
    · intro v; have := v.s1; have := v.s2; have := v.n1; have := v.n2; omega
  · rw [if_neg h, chkS_zero, chkW_zero]
    constructor
    · rintro ⟨a, b, c⟩
      refine ⟨by omega, by omega, by omega, by omega, a, b, ?_⟩
      unfold chkL at c; split at c <;> omega
    · intro v
      refine ⟨v.ss, v.ws, ?_⟩
      unfold chkL; rw [if_neg (by have := v.lf; omega)]

/-! the steps of the loops -/
section
variable {n : Nat} {size rest : Int} {l : List ByteArray} {p : List (Int × ByteArray)} {k : Nat}
theorem chkS_bad (h : k < l.length) (hb : ¬ (l[k].size : Int) = size) : chkS size rest (l.drop k) = 11 := by
  rw [List.drop_eq_getElem_cons h, chkS, if_pos hb]
theorem chkS_ok (h : k < l.length) (hb : (l[k].size : Int) = size) : chkS size rest (l.drop k) = chkS size rest (l.drop (k + 1)) := by
  rw [List.drop_eq_getElem_cons h, chkS, if_neg (by simpa using hb)]
theorem chkS_end (h : ¬ k < l.length) : chkS size rest (l.drop k) = rest := by
  rw [List.drop_of_length_le (by omega)]; rfl
theorem chkW_range (h : k < p.length) (hb : p[k].1 < 0 ∨ (n : Int) ≤ p[k].1) : chkW n size rest (p.drop k) = 2 := by
  rw [List.drop_eq_getElem_cons h, chkW, if_pos hb]
theorem chkW_bad (h : k < p.length) (h0 : ¬ (p[k].1 < 0 ∨ (n : Int) ≤ p[k].1)) (hb : ¬ (p[k].2.size : Int) = size) : chkW n size rest (p.drop k) = 11 := by
  rw [List.drop_eq_getElem_cons h, chkW, if_neg h0, if_pos hb]
theorem chkW_ok (h : k < p.length) (h0 : ¬ (p[k].1 < 0 ∨ (n : Int) ≤ p[k].1)) (hb : (p[k].2.size : Int) = size) : chkW n size rest (p.drop k) = chkW n size rest (p.drop (k + 1)) := by
  rw [List.drop_eq_getElem_cons h, chkW, if_neg h0, if_neg (by simpa using hb)]
theorem chkW_end (h : ¬ k < p.length) : chkW n size rest (p.drop k) = rest := by
  rw [List.drop_of_length_le (by omega)]; rfl
end

def putW (l : List ByteArray) (w : Int × ByteArray) : List ByteArray := l.set w.1.toNat w.2
def cur (d : Dk) : List ByteArray := d.pend.foldl putW d.secs
def lessZ (n : Int) : Int := if 0 < n then n - 1 else n

theorem putW_length (l : List ByteArray) (w : Int × ByteArray) : (putW l w).length = l.length := by simp [putW]
theorem foldl_putW_length : ∀ (p : List (Int × ByteArray)) (l : List ByteArray), (p.foldl putW l).length = l.length
  | [], _ => rfl
  | w :: p, l => by rw [List.foldl_cons, foldl_putW_length p, putW_length]
theorem cur_length (d : Dk) : (cur d).length = d.secs.length := foldl_putW_length _ _
theorem foldl_take_succ {α β : Type} (f : α → β → α) (a : α) (p : List β) {k : Nat} (h : k < p.length) : (p.take (k + 1)).foldl f a = f ((p.take k).foldl f a) p[k] := by
  rw [List.take_succ_eq_append_getElem h, List.foldl_append]; rfl

/-- The last write to a sector: read backward. -/
theorem back_hit {p : List (Int × ByteArray)} {l : List ByteArray} {i k : Nat} (hk : k < p.length) (hi : i < l.length) (h : p[k].1 = (i : Int)) (hn : ∀ j, k < j → (hj : j < p.length) → p[j].1 ≠ (i : Int)) (hp : ∀ w ∈ p, 0 ≤ w.1) :
    (p.foldl putW l)[i]'(by rw [foldl_putW_length]; exact hi) = p[k].2 := by
  have key : ∀ (m : Nat) (hm : k + 1 + m ≤ p.length), ((p.take (k + 1 + m)).foldl putW l)[i]? = some p[k].2 := by
    intro m
    induction m with
    | zero =>
      intro hm
      rw [Nat.add_zero, foldl_take_succ _ _ _ hk]
      unfold putW
      rw [h, Int.toNat_natCast, List.getElem?_set_self]
      have := foldl_putW_length (p.take k) l
      unfold putW at this
      omega
    | succ m ih =>
      intro hm
      have hj : k + 1 + m < p.length := by omega
      rw [← Nat.add_assoc, foldl_take_succ _ _ _ hj]
      have h1 := hn (k + 1 + m) (by omega) hj
      have h2 := hp _ (List.getElem_mem hj)
      unfold putW
      rw [List.getElem?_set_ne (by omega)]
      exact ih (by omega)
  have := key (p.length - (k + 1)) (by omega)
  rw [show k + 1 + (p.length - (k + 1)) = p.length by omega, List.take_length] at this
  rw [List.getElem?_eq_getElem (by rw [foldl_putW_length]; exact hi)] at this
  exact Option.some.inj this
theorem back_none {p : List (Int × ByteArray)} {l : List ByteArray} {i : Nat} (hi : i < l.length) (hn : ∀ w ∈ p, w.1 ≠ (i : Int)) (hp : ∀ w ∈ p, 0 ≤ w.1) :
    (p.foldl putW l)[i]'(by rw [foldl_putW_length]; exact hi) = l[i] := by
  induction p generalizing l with
  | nil => rfl
  | cons w p ih =>
    have h1 := hn w List.mem_cons_self
    have h2 := hp w List.mem_cons_self
    have := ih (l := putW l w) (by rw [putW_length]; exact hi) (fun w hw => hn w (List.mem_cons_of_mem _ hw)) (fun w hw => hp w (List.mem_cons_of_mem _ hw))
    rw [show ((w :: p).foldl putW l)[i]'(by rw [foldl_putW_length]; exact hi) = ((p.foldl putW (putW l w)))[i]'(by rw [foldl_putW_length, putW_length]; exact hi) from rfl, this]
    unfold putW
    rw [List.getElem_set_ne (by omega)]

/-! results -/
def rdE (d : Dk) (i : Int) : Int := if chk d ≠ 0 then 1 else if i < 0 ∨ (d.secs.length : Int) ≤ i then 2 else 0
def rdB (d : Dk) (i : Int) : ByteArray := if rdE d i = 0 then (cur d).getD i.toNat ⟨#[]⟩ else ⟨#[]⟩
def wrE (d : Dk) (i : Int) (s : ByteArray) : Int :=
  if chk d ≠ 0 then 1 else if i < 0 ∨ (d.secs.length : Int) ≤ i then 2 else if (s.size : Int) ≠ d.size then 11 else if d.left = 0 then 20 else 0
def wrD (d : Dk) (i : Int) (s : ByteArray) : Dk :=
  if wrE d i s = 0 then { d with pend := d.pend ++ [(i, s)], left := lessZ d.left } else if wrE d i s = 20 then d else noDisk
def syE (d : Dk) : Int := if chk d ≠ 0 then 1 else if d.left = 0 then 20 else 0
def syD (d : Dk) : Dk := if syE d = 0 then ⟨d.size, cur d, [], lessZ d.left⟩ else if syE d = 20 then d else noDisk

/-! a loss of power -/
def pick (n size : Int) : Nat := (n.tmod (size + 1)).natAbs
def torn (k : Nat) (data old : ByteArray) : ByteArray := data.extract 0 k ++ old.extract k old.size
def cutW (size : Int) : List ByteArray → List (Int × ByteArray) → List Int → List ByteArray
  | l, [], _ => l
  | l, w :: ws, ps => cutW size (l.set w.1.toNat (torn (pick (ps.headD 0) size) w.2 (l.getD w.1.toNat ⟨#[]⟩))) ws ps.tail
def cutD (d : Dk) (ps : List Int) : Dk := if chk d ≠ 0 then noDisk else ⟨d.size, cutW d.size d.secs d.pend ps, [], -1⟩

theorem pick_le (n size : Int) (h : 1 ≤ size) : (pick n size : Int) ≤ size := by
  unfold pick
  have h1 := Int.tmod_lt_of_pos n (show 0 < size + 1 by omega)
  have h2 : -(size + 1) < n.tmod (size + 1) := by
    have := Int.tmod_lt_of_pos (-n) (show 0 < size + 1 by omega)
    rw [Int.neg_tmod] at this
    omega
  omega
theorem torn_size {k : Nat} {data old : ByteArray} (h1 : data.size = old.size) (h2 : k ≤ old.size) : (torn k data old).size = old.size := by
  simp [torn, ByteArray.size_append, ByteArray.size_extract]; omega
end Go.Proofs.Ytockmhhiomdlkaa
