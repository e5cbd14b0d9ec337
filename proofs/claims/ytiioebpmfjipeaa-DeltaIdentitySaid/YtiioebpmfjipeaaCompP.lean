/- Plain: two deltas one after the other; joined deltas. -/
import Derived.Test.YtiioebpmfjipeaaCodP
namespace Go.Proofs.Ytiioebpmfjipeaa
set_option linter.unusedVariables false
set_option linter.unusedSimpArgs false

/-- The part of what an element produces. -/
def cutX (x : DOp) (lo hi : Int) : DOp := if 0 < x.len then ⟨x.off + lo, hi - lo, []⟩ else ⟨0, 0, (x.data.drop lo.toNat).take (hi - lo).toNat⟩
def partL : Int → List DOp → Int → Int → List DOp
  | _, [], _, _ => []
  | at_, x :: l, lo, hi => if max lo at_ < min hi (at_ + szD x) then cutX x (max lo at_ - at_) (min hi (at_ + szD x) - at_) :: partL (at_ + szD x) l lo hi else partL (at_ + szD x) l lo hi
def compX (first : List DOp) (x : DOp) : List DOp := if 0 < x.len then partL 0 first x.off (x.off + x.len) else [x]
def compRaw (first second : List DOp) : List DOp := second.flatMap (compX first)
/-- What Compose answers. -/
def composeD (n : Int) (first second : List DOp) : List DOp × Int :=
  if checkD first n ≠ 0 then ([], checkD first n) else if checkD second (sumD first) ≠ 0 then ([], checkD second (sumD first)) else (joinD (compRaw first second), 0)

theorem partL_end : ∀ (l : List DOp) (at_ lo hi : Int), hi ≤ lo ∨ hi ≤ at_ → partL at_ l lo hi = []
  | [], _, _, _, _ => rfl
  | x :: l, at_, lo, hi, h => by
    have h0 := szD_pos x
    unfold partL
    rw [if_neg (by omega), partL_end l _ _ _ (by omega)]
theorem partL_lo : ∀ (l : List DOp) (at_ lo lo' hi : Int), lo ≤ at_ → lo' ≤ at_ → partL at_ l lo hi = partL at_ l lo' hi
  | [], _, _, _, _, _, _ => rfl
  | x :: l, at_, lo, lo', hi, h, h' => by
    have h0 := szD_pos x
    unfold partL
    rw [show max lo at_ = at_ by omega, show max lo' at_ = at_ by omega, partL_lo l (at_ + szD x) lo lo' hi (by omega) (by omega)]
theorem partL_skip {x : DOp} {l : List DOp} {at_ lo hi : Int} (h : at_ + szD x ≤ lo) : partL at_ (x :: l) lo hi = partL (at_ + szD x) l lo hi := by
  have h0 := szD_pos x
  show (if max lo at_ < min hi (at_ + szD x) then _ else _) = _
  rw [if_neg (by omega)]
theorem partL_take {x : DOp} {l : List DOp} {at_ lo hi : Int} (h0 : at_ ≤ lo) (h1 : lo < at_ + szD x) (h2 : lo < hi) :
    partL at_ (x :: l) lo hi = cutX x (lo - at_) (min hi (at_ + szD x) - at_) :: partL (at_ + szD x) l (min hi (at_ + szD x)) hi := by
  show (if max lo at_ < min hi (at_ + szD x) then cutX x (max lo at_ - at_) (min hi (at_ + szD x) - at_) :: partL (at_ + szD x) l lo hi else _) = _
  rw [if_pos (by omega), show max lo at_ = lo by omega, partL_lo l (at_ + szD x) lo (min hi (at_ + szD x)) hi (by omega) (by omega)]
/-- Elements that end at or ahead of lo are passed over. -/
theorem partL_from : ∀ (i : Nat) (l : List DOp) (at_ lo hi : Int), (∀ j, j ≤ i → j ≤ l.length → at_ + sumD (l.take j) ≤ lo) → i ≤ l.length → partL at_ l lo hi = partL (at_ + sumD (l.take i)) (l.drop i) lo hi
  | 0, l, at_, lo, hi, h, _ => by simp [sumD]
  | i + 1, [], at_, lo, hi, h, hi' => by simp at hi'
  | i + 1, x :: l, at_, lo, hi, h, hi' => by
    have h1 := h 1 (by omega) (by simp)
    have e1 : sumD ((x :: l).take 1) = szD x := by simp [sumD]
    rw [e1] at h1
    rw [partL_skip h1, partL_from i l (at_ + szD x) lo hi (fun j hj hl => by
      have := h (j + 1) (by omega) (by simp; omega)
      rw [List.take_succ_cons] at this
      have e : sumD (x :: l.take j) = szD x + sumD (l.take j) := rfl
      omega) (by simpa using hi')]
    rw [List.take_succ_cons, List.drop_succ_cons]
    have e : sumD (x :: l.take i) = szD x + sumD (l.take i) := rfl
    rw [e, Int.add_assoc]

/-! ### what is produced -/
theorem cut_val {n : Int} {x : DOp} {lo hi : Int} (h : Val n x) (h0 : 0 ≤ lo) (h1 : lo < hi) (h2 : hi ≤ szD x) : Val n (cutX x lo hi) ∧ szD (cutX x lo hi) = hi - lo := by
  unfold cutX
  by_cases hl : 0 < x.len
  · rw [if_pos hl]
    have hc : x.cp := h.1.resolve_right fun hi => by have := hi.1; omega
    have hv := h.2 hc
    have hz : szD x = x.len := if_pos hl
    refine ⟨⟨.inl ⟨by simp only; omega, rfl⟩, fun _ => by simp only; omega⟩, ?_⟩
    exact if_pos (by simp only; omega)
  · rw [if_neg hl]
    have hz : szD x = x.data.length := if_neg hl
    have hlen : ((x.data.drop lo.toNat).take (hi - lo).toNat).length = (hi - lo).toNat := by rw [List.length_take, List.length_drop]; omega
    refine ⟨⟨.inr ⟨rfl, rfl, fun e => ?_⟩, fun h => by have := h.1; simp at this⟩, ?_⟩
    · simp only at e
      rw [e] at hlen
      simp at hlen
      omega
    · have : szD ⟨0, 0, (x.data.drop lo.toNat).take (hi - lo).toNat⟩ = (((x.data.drop lo.toNat).take (hi - lo).toNat).length : Int) := if_neg (by simp)
      rw [this, hlen]
      omega
def sl (B : List UInt8) (p q : Nat) : List UInt8 := (B.take q).drop p
theorem sl_append (X Y : List UInt8) (p q : Nat) : sl (X ++ Y) p q = sl X p q ++ sl Y (p - X.length) (q - X.length) := by
  unfold sl
  rw [List.take_append, List.drop_append]
  congr 1
  rw [List.length_take]
  by_cases h : q ≤ X.length
  · rw [show q - X.length = 0 by omega]; simp
  · rw [Nat.min_eq_right (by omega)]
theorem sl_none {X : List UInt8} {p q : Nat} (h : q ≤ p ∨ X.length ≤ p) : sl X p q = [] := by
  unfold sl
  apply List.drop_eq_nil_of_le
  rw [List.length_take]; omega
theorem cut_app (a : List UInt8) {x : DOp} {lo hi : Int} (h : Val a.length x) (h0 : 0 ≤ lo) (h1 : lo < hi) (h2 : hi ≤ szD x) : appX a (cutX x lo hi) = sl (appX a x) lo.toNat hi.toNat := by
  unfold cutX sl
  have e : hi.toNat - lo.toNat = (hi - lo).toNat := by omega
  by_cases hl : 0 < x.len
  · have hc : x.cp := h.1.resolve_right fun hi => by have := hi.1; omega
    have hv := h.2 hc
    have hz : szD x = x.len := if_pos hl
    rw [if_pos hl, appX_copy a (x := ⟨x.off + lo, hi - lo, []⟩) (by simp only; omega), appX_copy a hl]
    simp only
    rw [List.take_take, Nat.min_eq_left (by omega), List.drop_take, e, List.drop_drop, show (x.off + lo).toNat = x.off.toNat + lo.toNat by omega]
  · rw [if_neg hl, appX_text a (x := ⟨0, 0, _⟩) (by simp), appX_text a hl]
    simp only
    rw [List.drop_take, e]
theorem sl_full {X : List UInt8} {p q p' q' : Nat} (hp : p = p') (hq : min q X.length = min q' X.length) : sl X p q = sl X p' q' := by
  unfold sl
  subst hp
  rw [List.take_eq_take_iff.2 hq]
theorem part_all {n : Int} : ∀ (l : List DOp) (at_ lo hi : Int), ValL n l → ValL n (partL at_ l lo hi) ∧ (at_ ≤ lo → lo ≤ hi → hi ≤ at_ + sumD l → sumD (partL at_ l lo hi) = hi - lo) ∧
    ∀ a : List UInt8, (a.length : Int) = n → appL a (partL at_ l lo hi) = sl (appL a l) (lo - at_).toNat (hi - at_).toNat
  | [], at_, lo, hi, _ => ⟨ValL.nil n, fun h1 h2 h3 => by
      have : sumD [] = 0 := rfl
      rw [this] at h3
      show (0 : Int) = hi - lo
      omega, fun a _ => by simp [partL, appL, sl]⟩
  | x :: l, at_, lo, hi, h => by
    have h0 := szD_pos x
    have hx := h x (by simp)
    have es : sumD (x :: l) = szD x + sumD l := rfl
    obtain ⟨i1, i2, i3⟩ := part_all l (at_ + szD x) lo hi fun y hy => h y (by simp [hy])
    have hlx : ∀ a : List UInt8, (a.length : Int) = n → ((appX a x).length : Int) = szD x := fun a ha => appX_len a x (by rw [ha]; exact hx)
    by_cases hc : max lo at_ < min hi (at_ + szD x)
    · have e : partL at_ (x :: l) lo hi = cutX x (max lo at_ - at_) (min hi (at_ + szD x) - at_) :: partL (at_ + szD x) l lo hi := if_pos hc
      rw [e]
      obtain ⟨c1, c2⟩ := cut_val (lo := max lo at_ - at_) (hi := min hi (at_ + szD x) - at_) hx (by omega) (by omega) (by omega)
      refine ⟨ValL.cons c1 i1, fun g1 g2 g3 => ?_, fun a ha => ?_⟩
      · show szD (cutX x _ _) + sumD (partL _ l lo hi) = _
        rw [c2]
        by_cases hh : hi ≤ at_ + szD x
        · rw [partL_end l _ _ _ (.inr hh)]
          show _ + (0 : Int) = _
          omega
        · rw [partL_lo l (at_ + szD x) lo (at_ + szD x) hi (by omega) (by omega)]
          obtain ⟨_, j2, _⟩ := part_all l (at_ + szD x) (at_ + szD x) hi fun y hy => h y (by simp [hy])
          rw [j2 (by omega) (by omega) (by omega)]
          omega
      · rw [appL_cons, appL_cons, sl_append, i3 a ha, cut_app a (by rw [ha]; exact hx) (by omega) (by omega) (by omega)]
        have hL := hlx a ha
        congr 1
        · refine sl_full (by omega) ?_
          omega
        · rw [show (lo - at_).toNat - (appX a x).length = (lo - (at_ + szD x)).toNat by omega, show (hi - at_).toNat - (appX a x).length = (hi - (at_ + szD x)).toNat by omega]
    · have e : partL at_ (x :: l) lo hi = partL (at_ + szD x) l lo hi := if_neg hc
      rw [e]
      refine ⟨i1, fun g1 g2 g3 => ?_, fun a ha => ?_⟩
      · by_cases hh : at_ + szD x ≤ lo
        · exact i2 hh g2 (by omega)
        · rw [partL_end l _ _ _ (by omega)]
          show (0 : Int) = _
          omega
      · rw [appL_cons, sl_append, i3 a ha]
        have hL := hlx a ha
        rw [sl_none (X := appX a x) (by omega), List.nil_append]
        rw [show (lo - at_).toNat - (appX a x).length = (lo - (at_ + szD x)).toNat by omega, show (hi - at_).toNat - (appX a x).length = (hi - (at_ + szD x)).toNat by omega]
theorem comp_all {n : Int} {first : List DOp} (hf : ValL n first) : ∀ (second : List DOp), ValL (sumD first) second → ValL n (compRaw first second) ∧ sumD (compRaw first second) = sumD second ∧
    ∀ a : List UInt8, (a.length : Int) = n → appL a (compRaw first second) = appL (appL a first) second
  | [], _ => ⟨ValL.nil n, rfl, fun a _ => rfl⟩
  | x :: l, h => by
    obtain ⟨i1, i2, i3⟩ := comp_all hf l fun y hy => h y (by simp [hy])
    have hx := h x (by simp)
    have e : compRaw first (x :: l) = compX first x ++ compRaw first l := List.flatMap_cons
    have es : sumD (x :: l) = szD x + sumD l := rfl
    rw [e]
    by_cases hl : 0 < x.len
    · have hc : x.cp := hx.1.resolve_right fun hi => by have := hi.1; omega
      have hv := hx.2 hc
      have hz : szD x = x.len := if_pos hl
      have ex : compX first x = partL 0 first x.off (x.off + x.len) := if_pos hl
      obtain ⟨p1, p2, p3⟩ := part_all first 0 x.off (x.off + x.len) hf
      rw [ex]
      refine ⟨p1.append i1, by rw [sumD_append, p2 (by omega) (by omega) (by omega), i2, es]; omega, fun a ha => ?_⟩
      rw [appL_append, p3 a ha, i3 a ha, appL_cons, appX_copy _ hl]
      congr 1
      unfold sl
      rw [List.drop_take]
      congr 1
      · omega
      · congr 1; omega
    · have hi : x.ins := hx.1.resolve_left fun hc => hl hc.1
      have ex : compX first x = [x] := if_neg hl
      rw [ex]
      have hxn : Val n x := ⟨.inr hi, fun hc => absurd hc.1 hl⟩
      refine ⟨(ValL.cons hxn (ValL.nil n)).append i1, by rw [sumD_append, i2, es]; simp [sumD], fun a ha => ?_⟩
      rw [appL_append, appL_one, i3 a ha, appL_cons, appX_text a hl, appX_text _ hl]

/-! ### joined deltas -/
/-- Two neighbours that cannot be joined. -/
def OkP (x y : DOp) : Prop := ¬ (x.len = 0 ∧ y.len = 0) ∧ ¬ (0 < x.len ∧ 0 < y.len ∧ x.off + x.len = y.off)
def Jnd (l : List DOp) : Prop := ∀ (i : Nat) (x y : DOp), l[i]? = some x → l[i + 1]? = some y → OkP x y
theorem Jnd.nil : Jnd [] := fun i x y h => by simp at h
theorem Jnd.one (z : DOp) : Jnd [z] := fun i x y h h' => by simp at h'
theorem jnd_snoc {ys : List DOp} {y x : DOp} : Jnd (ys ++ [y] ++ [x]) ↔ Jnd (ys ++ [y]) ∧ OkP y x := by
  constructor
  · intro h
    refine ⟨fun i u v hu hv => h i u v ?_ ?_, h ys.length y x (by simp) (by simp)⟩
    · rw [List.getElem?_append_left (List.getElem?_eq_some_iff.1 hu).1]; exact hu
    · rw [List.getElem?_append_left (List.getElem?_eq_some_iff.1 hv).1]; exact hv
  · rintro ⟨h, h'⟩ i u v hu hv
    have hl : (ys ++ [y]).length = ys.length + 1 := by simp
    by_cases hi : i + 1 < ys.length + 1
    · rw [List.getElem?_append_left (by omega)] at hu hv
      exact h i u v hu hv
    · have hb := (List.getElem?_eq_some_iff.1 hv).1
      have hie : i = ys.length := by
        rw [List.length_append, hl, List.length_singleton] at hb
        omega
      subst hie
      have eu : u = y := by simpa using hu.symm
      have ev : v = x := by simpa using hv.symm
      rw [eu, ev]; exact h'
theorem jnd_last {ys : List DOp} {y y' : DOp} (h : Jnd (ys ++ [y])) (e : ∀ z, OkP z y → OkP z y') : Jnd (ys ++ [y']) := by
  rcases List.eq_nil_or_concat ys with rfl | ⟨zs, z, rfl⟩
  · exact Jnd.one _
  · rw [List.concat_eq_append] at *
    obtain ⟨h1, h2⟩ := jnd_snoc.1 h
    exact jnd_snoc.2 ⟨h1, e z h2⟩
theorem addD_jnd {n : Int} {l : List DOp} {x : DOp} (h : Jnd l) (hl : ValL n l) (hx : Val n x) : Jnd (addD l x) := by
  rcases List.eq_nil_or_concat l with rfl | ⟨ys, y, rfl⟩
  · exact Jnd.one x
  · rw [List.concat_eq_append] at *
    have hy := (hl y (by simp)).len0
    have hx0 := hx.len0
    rw [addD_last]
    split
    · rename_i hc
      refine jnd_last h fun z hz => ?_
      unfold OkP at hz ⊢
      simp only
      have := hc.2
      omega
    · rename_i n0
      split
      · rename_i hc
        refine jnd_last h fun z hz => ?_
        unfold OkP at hz ⊢
        simp only
        omega
      · rename_i n1
        exact jnd_snoc.2 ⟨h, fun e => n0 ⟨e.2, e.1⟩, fun e => n1 ⟨e.2.1, e.1, e.2.2⟩⟩
theorem fold_jnd {n : Int} : ∀ (xs l : List DOp), Jnd l → ValL n l → ValL n xs → Jnd (xs.foldl addD l)
  | [], l, h, _, _ => h
  | x :: xs, l, h, hl, hx => fold_jnd xs (addD l x) (addD_jnd h hl (hx x (by simp))) (addD_val l x hl (hx x (by simp))).1 fun y hy => hx y (by simp [hy])
theorem join_jnd {n : Int} {xs : List DOp} (h : ValL n xs) : Jnd (joinD xs) := by
  rw [joinD_eq fun x hx => (h x hx).1]
  exact fold_jnd xs [] Jnd.nil (ValL.nil n) h
theorem fold_same : ∀ (xs l : List DOp), Jnd (l ++ xs) → xs.foldl addD l = l ++ xs
  | [], l, _ => by simp
  | x :: xs, l, h => by
    have e : addD l x = l ++ [x] := by
      rcases List.eq_nil_or_concat l with rfl | ⟨ys, y, rfl⟩
      · rfl
      · rw [List.concat_eq_append] at *
        have ok := h ys.length y x (by simp) (by simp)
        rw [addD_last, if_neg (fun e => ok.1 ⟨e.2, e.1⟩), if_neg (fun e => ok.2 ⟨e.2.1, e.1, e.2.2⟩)]
    rw [List.foldl_cons, e, fold_same xs (l ++ [x]) (by rw [List.append_assoc]; exact h), List.append_assoc]
    rfl
theorem join_same {n : Int} {xs : List DOp} (h : ValL n xs) (hj : Jnd xs) : joinD xs = xs := by
  rw [joinD_eq fun x hx => (h x hx).1, fold_same xs [] hj]
  rfl

/-! ### Identity -/
theorem cut_whole {n : Int} {x : DOp} (h : Val n x) : cutX x 0 (szD x) = x := by
  unfold cutX
  rcases h.1 with hc | hi
  · have hz : szD x = x.len := if_pos hc.1
    rw [if_pos hc.1, hz]
    obtain ⟨o, l, d⟩ := x
    have := hc.2
    simp only at this
    subst this
    simp
  · have hl : ¬ 0 < x.len := by have := hi.1; omega
    have hz : szD x = x.data.length := if_neg hl
    rw [if_neg hl, hz]
    obtain ⟨o, l, d⟩ := x
    have h1 := hi.1
    have h2 := hi.2.1
    simp only at h1 h2
    subst h1
    subst h2
    simp
theorem part_id {n : Int} : ∀ (l : List DOp) (at_ lo hi : Int), ValL n l → lo ≤ at_ → at_ + sumD l ≤ hi → partL at_ l lo hi = l
  | [], _, _, _, _, _, _ => rfl
  | x :: l, at_, lo, hi, h, h1, h2 => by
    have hx := h x (by simp)
    have hz := szD_pos1 hx.1
    have hs := sumD_pos l
    have es : sumD (x :: l) = szD x + sumD l := rfl
    rw [es] at h2
    show (if max lo at_ < min hi (at_ + szD x) then cutX x (max lo at_ - at_) (min hi (at_ + szD x) - at_) :: partL (at_ + szD x) l lo hi else _) = _
    rw [if_pos (by omega), part_id l (at_ + szD x) lo hi (fun y hy => h y (by simp [hy])) (by omega) (by omega), show max lo at_ - at_ = 0 by omega, show min hi (at_ + szD x) - at_ = szD x by omega, cut_whole hx]
theorem comp_before {k : Int} : ∀ (l : List DOp), ValL k l → compRaw [⟨0, k, []⟩] l = l
  | [], _ => rfl
  | x :: l, h => by
    have e : compRaw [⟨0, k, []⟩] (x :: l) = compX [⟨0, k, []⟩] x ++ compRaw [⟨0, k, []⟩] l := List.flatMap_cons
    rw [e, comp_before l fun y hy => h y (by simp [hy])]
    have hx := h x (by simp)
    by_cases hl : 0 < x.len
    · have hc : x.cp := hx.1.resolve_right fun hi => by have := hi.1; omega
      have hv := hx.2 hc
      have ex : compX [⟨0, k, []⟩] x = partL 0 [⟨0, k, []⟩] x.off (x.off + x.len) := if_pos hl
      have hz : szD ⟨0, k, []⟩ = k := if_pos (by simp only; omega)
      rw [ex, partL_take hv.1 (by rw [hz]; omega) (by omega), hz]
      have e2 : cutX ⟨0, k, []⟩ (x.off - 0) (min (x.off + x.len) (0 + k) - 0) = x := by
        unfold cutX
        rw [if_pos (by simp only; omega)]
        obtain ⟨o, m, d⟩ := x
        have := hc.2
        simp only at this hv ⊢
        subst this
        simp only [DOp.mk.injEq, and_true]
        omega
      rw [e2]
      rfl
    · have ex : compX [⟨0, k, []⟩] x = [x] := if_neg hl
      rw [ex]
      rfl
theorem comp_after {n : Int} {l : List DOp} (h : ValL n l) (hs : 0 < sumD l) : compRaw l [⟨0, sumD l, []⟩] = l := by
  have e : compRaw l [⟨0, sumD l, []⟩] = compX l ⟨0, sumD l, []⟩ := by simp [compRaw]
  have ex : compX l ⟨0, sumD l, []⟩ = partL 0 l 0 (0 + sumD l) := if_pos hs
  rw [e, ex]
  exact part_id l 0 0 _ h (by omega) (by omega)
end Go.Proofs.Ytiioebpmfjipeaa
