/- Plain: what deltas produce; joined ones produce the same. -/
import Derived.Test.YtiioebpmfjipeaaDeSize
import Derived.Test.YtiioebpmfjipeaaDeRDiff
namespace Go.Proofs.Ytiioebpmfjipeaa
set_option linter.unusedVariables false
set_option linter.unusedSimpArgs false

/-- What an element produces of a. -/
def appX (a : List UInt8) (x : DOp) : List UInt8 := if 0 < x.len then (a.drop x.off.toNat).take x.len.toNat else x.data
def appL (a : List UInt8) (xs : List DOp) : List UInt8 := xs.flatMap (appX a)
def applyD (a : List UInt8) (xs : List DOp) : List UInt8 × Int := if checkD xs a.length = 0 then (appL a xs, 0) else ([], checkD xs a.length)
/-- An element that fits a source of n bytes. -/
def Val (n : Int) (x : DOp) : Prop := (x.cp ∨ x.ins) ∧ (x.cp → 0 ≤ x.off ∧ x.off + x.len ≤ n)
def ValL (n : Int) (xs : List DOp) : Prop := ∀ x ∈ xs, Val n x
theorem ValL.nil (n : Int) : ValL n [] := fun x hx => by simp at hx
theorem ValL.cons {n : Int} {x : DOp} {xs : List DOp} (h : Val n x) (k : ValL n xs) : ValL n (x :: xs) := fun y hy => by
  rcases List.mem_cons.1 hy with rfl | hy
  · exact h
  · exact k y hy
theorem ValL.append {n : Int} {xs ys : List DOp} (h : ValL n xs) (k : ValL n ys) : ValL n (xs ++ ys) := fun y hy => by
  rcases List.mem_append.1 hy with hy | hy
  · exact h y hy
  · exact k y hy
theorem Val.len0 {n : Int} {x : DOp} (h : Val n x) : 0 ≤ x.len := by
  rcases h.1 with h | h
  · have := h.1; omega
  · rw [h.1]; exact Int.le_refl _
theorem appL_append (a : List UInt8) (xs ys : List DOp) : appL a (xs ++ ys) = appL a xs ++ appL a ys := List.flatMap_append
theorem appL_one (a : List UInt8) (x : DOp) : appL a [x] = appX a x := by simp [appL]
theorem appL_cons (a : List UInt8) (x : DOp) (xs : List DOp) : appL a (x :: xs) = appX a x ++ appL a xs := List.flatMap_cons
theorem appX_len (a : List UInt8) (x : DOp) (h : Val a.length x) : ((appX a x).length : Int) = szD x := by
  unfold appX szD
  split
  · rename_i hl
    have hc : x.cp := h.1.resolve_right fun hi => by have := hi.1; omega
    have := h.2 hc
    rw [List.length_take, List.length_drop]
    omega
  · rfl
theorem appL_len (a : List UInt8) : ∀ (xs : List DOp), ValL a.length xs → ((appL a xs).length : Int) = sumD xs
  | [], _ => rfl
  | x :: xs, h => by
    rw [appL_cons, List.length_append, Int.natCast_add, appX_len a x (h x (by simp)), appL_len a xs fun y hy => h y (by simp [hy])]
    rfl
theorem take_succ_app {a : List UInt8} {xs : List DOp} {k : Nat} {x : DOp} (hx : xs[k]? = some x) : appL a (xs.take (k + 1)) = appL a (xs.take k) ++ appX a x := by
  obtain ⟨h, rfl⟩ := List.getElem?_eq_some_iff.1 hx
  rw [List.take_succ_eq_append_getElem h, appL_append, appL_one]
theorem extract_app (a : ByteArray) {o l : Nat} (h : o + l ≤ a.size) : a.extract o (o + l) = strB ((a.data.toList.drop o).take l) := by
  apply ByteArray.ext
  rw [ByteArray.data_extract]
  apply Array.toList_inj.1
  simp [strB, Array.toList_extract, List.extract_eq_take_drop]
/-- A copy's bytes. -/
theorem appX_copy (a : List UInt8) {x : DOp} (h : 0 < x.len) : appX a x = (a.drop x.off.toNat).take x.len.toNat := if_pos h
theorem appX_text (a : List UInt8) {x : DOp} (h : ¬ 0 < x.len) : appX a x = x.data := if_neg h
theorem copy_two (a : List UInt8) {o l m : Int} (ho : 0 ≤ o) (hl : 0 ≤ l) (hm : 0 ≤ m) : (a.drop o.toNat).take l.toNat ++ (a.drop (o + l).toNat).take m.toNat = (a.drop o.toNat).take (l + m).toNat := by
  have e1 : (o + l).toNat = o.toNat + l.toNat := by omega
  have e2 : (l + m).toNat = l.toNat + m.toNat := by omega
  rw [e1, e2, ← List.drop_drop, List.take_add]

/-- One more element of a joined delta. -/
theorem addD_val {n : Int} (l : List DOp) (x : DOp) (hl : ValL n l) (hx : Val n x) : ValL n (addD l x) ∧ sumD (addD l x) = sumD l + szD x ∧ ∀ a : List UInt8, (a.length : Int) = n → appL a (addD l x) = appL a l ++ appX a x := by
  have one : sumD [x] = szD x := by simp [sumD]
  rcases List.eq_nil_or_concat l with rfl | ⟨ys, y, rfl⟩
  · have e : addD [] x = [x] := rfl
    rw [e]
    exact ⟨ValL.cons hx (ValL.nil n), by rw [one]; simp [sumD], fun a _ => by rw [appL_one]; rfl⟩
  · rw [List.concat_eq_append] at *
    have hy : Val n y := hl y (by simp)
    have hys : ValL n ys := fun z hz => hl z (by simp [hz])
    have e1 : sumD (ys ++ [y]) = sumD ys + szD y := by rw [sumD_append]; simp [sumD]
    rw [addD_last]
    split
    · rename_i h0
      have iy : y.ins := hy.1.resolve_left fun h => by have := h.1; omega
      have ix : x.ins := hx.1.resolve_left fun h => by have := h.1; omega
      have hz : Val n ⟨0, 0, y.data ++ x.data⟩ := ⟨.inr ⟨rfl, rfl, fun e => iy.2.2 (List.append_eq_nil_iff.1 e).1⟩, fun h => by have := h.1; simp at this⟩
      refine ⟨hys.append (ValL.cons hz (ValL.nil n)), ?_, fun a _ => ?_⟩
      · rw [sumD_append, e1]
        have s1 : szD x = x.data.length := if_neg (by omega)
        have s2 : szD y = y.data.length := if_neg (by omega)
        have s3 : szD ⟨0, 0, y.data ++ x.data⟩ = ((y.data ++ x.data).length : Int) := if_neg (by simp)
        rw [s1, s2]
        show sumD ys + (szD ⟨0, 0, y.data ++ x.data⟩ + 0) = _
        rw [s3, List.length_append]
        omega
      · rw [appL_append, appL_append, appL_one, appL_one, appX_text a (x := x) (by omega), appX_text a (x := y) (by omega), List.append_assoc]
        congr 1
    · rename_i n0
      split
      · rename_i hc
        obtain ⟨c1, c2, c3⟩ := hc
        have cy : y.cp := hy.1.resolve_right fun h => by have := h.1; omega
        have cx : x.cp := hx.1.resolve_right fun h => by have := h.1; omega
        have vy := hy.2 cy
        have vx := hx.2 cx
        have hz : Val n ⟨y.off, y.len + x.len, []⟩ := ⟨.inl ⟨by show 0 < y.len + x.len; omega, rfl⟩, fun _ => by simp only; omega⟩
        refine ⟨hys.append (ValL.cons hz (ValL.nil n)), ?_, fun a ha => ?_⟩
        · rw [sumD_append, e1]
          have s1 : szD x = x.len := if_pos c1
          have s2 : szD y = y.len := if_pos c2
          have s3 : szD ⟨y.off, y.len + x.len, []⟩ = y.len + x.len := if_pos (by simp only; omega)
          rw [s1, s2]
          show sumD ys + (szD ⟨y.off, y.len + x.len, []⟩ + 0) = _
          rw [s3]
          omega
        · rw [appL_append, appL_append, appL_one, appL_one, appX_copy a c1, appX_copy a c2, appX_copy a (x := ⟨y.off, y.len + x.len, []⟩) (by simp only; omega), ← c3, List.append_assoc, copy_two a vy.1 (by omega) (by omega)]
      · refine ⟨hl.append (ValL.cons hx (ValL.nil n)), by rw [sumD_append, one], fun a _ => by rw [appL_append, appL_one]⟩
theorem fold_val {n : Int} : ∀ (xs l : List DOp), ValL n l → ValL n xs → ValL n (xs.foldl addD l) ∧ sumD (xs.foldl addD l) = sumD l + sumD xs ∧ ∀ a : List UInt8, (a.length : Int) = n → appL a (xs.foldl addD l) = appL a l ++ appL a xs
  | [], l, hl, _ => ⟨hl, by simp [sumD], fun a _ => by simp [appL]⟩
  | x :: xs, l, hl, hx => by
    obtain ⟨h1, h2, h3⟩ := addD_val l x hl (hx x (by simp))
    obtain ⟨k1, k2, k3⟩ := fold_val xs (addD l x) h1 fun y hy => hx y (by simp [hy])
    refine ⟨k1, ?_, fun a ha => ?_⟩
    · rw [List.foldl_cons, k2, h2]
      show sumD l + szD x + sumD xs = sumD l + (szD x + sumD xs)
      omega
    · rw [List.foldl_cons, k3 a ha, h3 a ha, appL_cons, List.append_assoc]
theorem join_val {n : Int} {xs : List DOp} (hx : ValL n xs) : ValL n (joinD xs) ∧ sumD (joinD xs) = sumD xs ∧ ∀ a : List UInt8, (a.length : Int) = n → appL a (joinD xs) = appL a xs := by
  rw [joinD_eq fun x h => (hx x h).1]
  obtain ⟨h1, h2, h3⟩ := fold_val xs [] (ValL.nil n) hx
  exact ⟨h1, by rw [h2]; simp [sumD], fun a ha => by rw [h3 a ha]; rfl⟩

/-! ### Check answers OK exactly for these -/
theorem checkF_of {n : Int} : ∀ (xs : List DOp) (p : Int), 0 ≤ p → ValL n xs → p + sumD xs ≤ 65536 → checkF n p xs = 0
  | [], _, _, _, _ => rfl
  | x :: xs, p, hp, h, hs => by
    have hv := h x (by simp)
    have hs' : p + (szD x + sumD xs) ≤ 65536 := hs
    have h0 := szD_pos x
    have h1 := sumD_pos xs
    show (if ¬ x.cp ∧ ¬ x.ins then (1 : Int) else if x.cp ∧ (x.off < 0 ∨ n < x.len ∨ n - x.len < x.off) then 2 else if 65536 - p < szD x then 4 else checkF n (p + szD x) xs) = 0
    rw [if_neg fun e => hv.1.elim e.1 e.2, if_neg fun e => by have := hv.2 e.1; omega, if_neg (by omega)]
    exact checkF_of xs _ (by omega) (fun y hy => h y (by simp [hy])) (by omega)
theorem checkD_of {n : Int} {xs : List DOp} (h0 : 0 ≤ n) (h1 : n ≤ 65536) (h : ValL n xs) (hs : sumD xs ≤ 65536) : checkD xs n = 0 := by
  unfold checkD
  rw [if_neg (by omega)]
  exact checkF_of xs 0 (by omega) h (by omega)
theorem checkD_iff {n : Int} {xs : List DOp} : checkD xs n = 0 ↔ (0 ≤ n ∧ n ≤ 65536) ∧ ValL n xs ∧ sumD xs ≤ 65536 :=
  ⟨checkD_ok, fun ⟨⟨h0, h1⟩, h2, h3⟩ => checkD_of h0 h1 h2 h3⟩

/-! ### the way there and back -/
theorem pick_copy (a s : List UInt8) (h : 0 < (pick a s).2) : (pick a s).1 + (pick a s).2 ≤ a.length ∧ (a.drop (pick a s).1).take (pick a s).2 = s.take (pick a s).2 := by
  obtain ⟨_, _, h3⟩ := bestF_spec a s a.length
  obtain ⟨k1, k2, _⟩ := h3 h
  have k2' : (pick a s).2 = cpl (a.drop (pick a s).1) s := k2.symm
  obtain ⟨q1, q2, q3⟩ := (cpl_take (a.drop (pick a s).1) s (pick a s).2).1 (Nat.le_of_eq k2')
  rw [List.length_drop] at q1
  have : (pick a s).1 < a.length := k1
  exact ⟨by omega, q3⟩
theorem diffF_val (a b : List UInt8) : ∀ f k, ValL a.length (diffF a b f k)
  | 0, k => fun x hx => by simp [diffF] at hx
  | f + 1, k => by
    by_cases hk : k < b.length
    · by_cases h4 : 4 ≤ (pick a (b.drop k)).2
      · rw [diffF_copy hk h4]
        obtain ⟨h1, _⟩ := pick_copy a (b.drop k) (by omega)
        exact ValL.cons ⟨.inl ⟨by simp only; omega, rfl⟩, fun _ => by simp only; omega⟩ (diffF_val a b f _)
      · rw [diffF_ins hk h4]
        refine ValL.cons ⟨.inr ⟨rfl, rfl, fun e => ?_⟩, fun h => by have := h.1; simp at this⟩ (diffF_val a b f _)
        have := congrArg List.length e
        simp at this
        omega
    · rw [diffF_end hk]; exact ValL.nil _
theorem diffF_app (a b : List UInt8) : ∀ f k, b.length - k < f → appL a (diffF a b f k) = b.drop k
  | 0, k, h => by omega
  | f + 1, k, h => by
    by_cases hk : k < b.length
    · by_cases h4 : 4 ≤ (pick a (b.drop k)).2
      · rw [diffF_copy hk h4, appL_cons, diffF_app a b f _ (by omega), appX_copy a (by simp only; omega)]
        obtain ⟨_, h2⟩ := pick_copy a (b.drop k) (by omega)
        simp only [Int.toNat_natCast]
        rw [h2, ← List.drop_drop, List.take_append_drop]
      · rw [diffF_ins hk h4, appL_cons, diffF_app a b f _ (by omega), appX_text a (by simp)]
        simp only
        rw [← List.drop_drop, List.take_append_drop]
    · rw [diffF_end hk, List.drop_eq_nil_of_le (by omega)]; rfl
theorem diffD_trip (a b : List UInt8) (ha : a.length ≤ 65536) (hb : b.length ≤ 65536) : checkD (diffD a b) a.length = 0 ∧ checkD (diffD a b) 65536 = 0 ∧ sumD (diffD a b) = b.length ∧ applyD a (diffD a b) = (b, 0) := by
  have hv := diffF_val a b (b.length + 1) 0
  have ha' := diffF_app a b (b.length + 1) 0 (by omega)
  obtain ⟨h1, h2, h3⟩ := join_val hv
  have h4 := h3 a rfl
  rw [ha', List.drop_zero] at h4
  have h4' : appL a (diffD a b) = b := h4
  have h1' : ValL a.length (diffD a b) := h1
  have hs : sumD (diffD a b) = b.length := by rw [← appL_len a _ h1', h4']
  have hc : checkD (diffD a b) a.length = 0 := checkD_of (by omega) (by omega) h1' (by omega)
  refine ⟨hc, checkD_of (by omega) (by omega) (fun x hx => ⟨(h1' x hx).1, fun h => by have := (h1' x hx).2 h; omega⟩) (by omega), hs, ?_⟩
  unfold applyD
  rw [if_pos hc, h4']
end Go.Proofs.Ytiioebpmfjipeaa
