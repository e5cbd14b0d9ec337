/- The reference's frames are the sectors of the code: plain laws. -/
import Derived.Test.YtockmhhiomdlkaaRfK
namespace Go.Proofs.Ytockmhhiomdlkaa
set_option linter.unusedVariables false
set_option linter.unusedSimpArgs false
open Go.RowKit

theorem pad_need {n sz : Nat} (hs : 1 ≤ sz) : padN n sz = need n sz * sz - n := by
  unfold padN need
  have hd := Nat.div_add_mod n sz
  have hr := Nat.mod_lt n (show 0 < sz by omega)
  obtain ⟨q, hq⟩ : ∃ q, q = n / sz := ⟨_, rfl⟩
  obtain ⟨r, hrr⟩ : ∃ r, r = n % sz := ⟨_, rfl⟩
  rw [← hrr] at hd hr ⊢
  rw [← hq] at hd
  have hn : n = q * sz + r := by rw [← hd, Nat.mul_comm]
  by_cases h0 : r = 0
  · rw [h0, Nat.sub_zero, Nat.mod_self]
    have : (n + sz - 1) / sz = q := by
      rw [hn, h0, Nat.add_zero, show q * sz + sz - 1 = (sz - 1) + q * sz by omega, Nat.add_mul_div_right _ _ (by omega), Nat.div_eq_of_lt (by omega), Nat.zero_add]
    rw [this, hn, h0]; omega
  · have : (n + sz - 1) / sz = q + 1 := by
      rw [hn, show q * sz + r + sz - 1 = (r - 1) + (q + 1) * sz by rw [Nat.add_mul]; omega, Nat.add_mul_div_right _ _ (by omega), Nat.div_eq_of_lt (by omega), Nat.zero_add]
    rw [this, hn, Nat.mod_eq_of_lt (by omega), Nat.add_mul]; omega
/-- The sectors with another first byte. -/
def flX (x : UInt8) (S : List ByteArray) : List ByteArray := strB (x :: (bts (hd0 S)).drop 1) :: S.drop 1
theorem flX_zero (S : List ByteArray) : flX 0 S = unflag (hd0 S) :: S.drop 1 := rfl
theorem flX_flat {x : UInt8} {S : List ByteArray} {sz : Nat} (hs : 1 ≤ sz) (hz : Siz sz S) (hne : S ≠ []) : (flX x S).flatMap bts = x :: (S.flatMap bts).drop 1 := by
  cases S with
  | nil => exact absurd rfl hne
  | cons s t =>
    unfold flX
    have hl : 1 ≤ (bts s).length := by rw [bts_len, hz s (by simp)]; exact hs
    show bts (strB (x :: (bts s).drop 1)) ++ t.flatMap bts = x :: ((bts s) ++ t.flatMap bts).drop 1
    rw [bts_strB, List.drop_append_of_le_length hl]
    rfl
theorem flX_siz {x : UInt8} {S : List ByteArray} {sz : Nat} (hs : 1 ≤ sz) (hz : Siz sz S) (hne : S ≠ []) : Siz sz (flX x S) := by
  cases S with
  | nil => exact absurd rfl hne
  | cons s t =>
    intro y hy
    rcases List.mem_cons.1 hy with rfl | h
    · have : s.size = sz := hz s (by simp)
      rw [strB_size]
      show (((bts s).drop 1).length + 1) = sz
      rw [List.length_drop, bts_len, this]; omega
    · exact hz y (by simp [show y ∈ t from h])
theorem flX_len {x : UInt8} {S : List ByteArray} (hne : S ≠ []) : (flX x S).length = S.length := by
  cases S with
  | nil => exact absurd rfl hne
  | cons s t => rfl
theorem frS_ne {l : List Txt} (h : l ≠ []) {sz : Nat} (hs : 1 ≤ sz) : frS l sz ≠ [] := fun e => by
  have := frS_pos h hs
  rw [e] at this; simp at this
theorem flX_one {l : List Txt} (h : l ≠ []) {sz : Nat} (hs : 1 ≤ sz) : flX 1 (frS l sz) = frS l sz := by
  have e := frS_head h hs
  have hf := frS_flat h hs
  have hsz := frS_hd_size h hs
  have hb : bts (hd0 (frS l sz)) = 1 :: (bts (hd0 (frS l sz))).drop 1 := by
    have hl : 1 ≤ (bts (hd0 (frS l sz))).length := by rw [bts_len, hsz]; exact hs
    cases hx : bts (hd0 (frS l sz)) with
    | nil => rw [hx] at hl; simp at hl
    | cons a t =>
      have e2 : (frS l sz).flatMap bts = bts (hd0 (frS l sz)) ++ ((frS l sz).drop 1).flatMap bts := by
        conv => lhs; rw [e]
        rfl
      rw [e2, hx] at hf
      have : a = 1 := (List.cons.inj hf).1
      rw [this]; rfl
  unfold flX
  rw [← hb, strB_bts]
  exact e.symm
theorem frZ_eq {l : List Txt} (h : l ≠ []) {sz : Nat} (hs : 1 ≤ sz) (x : UInt8) : frZ (strB [x]) l sz = strB ((flX x (frS l sz)).flatMap bts) := by
  rw [flX_flat hs (frS_siz l) (frS_ne h hs), frS_flat h hs]
  unfold frZ
  rw [pad_need hs]
  unfold zeroS
  rw [strB_append, strB_append, strB_append]
  have e : (frB l).length = 1 + (digL (putTsB l).length).length + (putTsB l).length := by unfold frB; simp only [List.length_cons, List.length_append]; omega
  rw [← e]
  congr 1
theorem chkB_flat {sz : Nat} {L : List ByteArray} (h : Siz sz L) : chkB (strB (L.flatMap bts)) sz L.length = L := by
  apply List.ext_getElem
  · rw [chkB_len]
  · intro i h1 h2
    have : (chkB (strB (L.flatMap bts)) sz L.length)[i] = (strB (L.flatMap bts)).extract (i * sz) ((i + 1) * sz) := by simp [chkB]
    rw [this]
    apply bts_inj
    rw [bts_extract, bts_strB, fb_drop i h, show (i + 1) * sz - i * sz = 1 * sz by rw [Nat.add_mul]; omega, fb_take 1 (h.drop i), List.drop_eq_getElem_cons h2]
    exact List.append_nil _
theorem flat_size {sz : Nat} {L : List ByteArray} (h : Siz sz L) : (strB (L.flatMap bts)).size = L.length * sz := by rw [strB_size, fb_len h]
/-- The last sectors. -/
def fillR (L : List ByteArray) (sz : Nat) (room : Nat) : List ByteArray := L ++ if L.length < room then [zeroS sz] else []
theorem fillR_siz {L : List ByteArray} {sz room : Nat} (h : Siz sz L) : Siz sz (fillR L sz room) := fun s hs => by
  unfold fillR at hs
  rcases List.mem_append.1 hs with h1 | h1
  · exact h s h1
  · split at h1
    · rw [List.mem_singleton.1 h1]; exact zeroS_size sz
    · simp at h1
theorem fillR_len {L : List ByteArray} {sz room : Nat} (h : L.length ≤ room) : (fillR L sz room).length ≤ room := by
  unfold fillR
  split <;> simp <;> omega
theorem end_fill {L : List ByteArray} {sz room : Nat} (hs : 1 ≤ sz) (h : Siz sz L) :
    (if (((strB (L.flatMap bts)).size / sz : Nat) : Int) < (room : Int) then strB (L.flatMap bts) ++ zeroS sz else strB (L.flatMap bts)) = strB ((fillR L sz room).flatMap bts) := by
  rw [flat_size h, Nat.mul_div_cancel _ (by omega)]
  unfold fillR
  by_cases hl : L.length < room
  · rw [if_pos (by omega), if_pos hl, List.flatMap_append]
    unfold zeroS
    rw [strB_append]
    simp [bts_strB]
  · rw [if_neg (by omega), if_neg hl, List.append_nil]
theorem fillO_fillR {a r sz e : Nat} {L : List ByteArray} (he : e = a + r) : fillO a L e sz = wrO a (fillR L sz r) := by
  subst he
  unfold fillO fillR
  by_cases h : L.length < r
  · rw [if_pos (by omega), if_pos h, wrO_append]
  · rw [if_neg (by omega), if_neg h, List.append_nil, List.append_nil]
/-- The first sector with its flag. -/
theorem flag_on {l : List Txt} (h : l ≠ []) {sz : Nat} (hs : 1 ≤ sz) : strB [1] ++ (strB ((flX 0 (frS l sz)).flatMap bts)).extract 1 sz = hd0 (frS l sz) := by
  have hX := flX_siz (x := 0) hs (frS_siz l) (frS_ne h hs)
  have hl := flX_len (x := 0) (frS_ne h hs)
  have hp := frS_pos h hs
  have h1 := flX_one h hs
  apply bts_inj
  rw [show bts (strB [1] ++ (strB ((flX 0 (frS l sz)).flatMap bts)).extract 1 sz) = 1 :: bts ((strB ((flX 0 (frS l sz)).flatMap bts)).extract 1 sz) by
    simp [bts, strB], bts_extract, bts_strB, flX_flat hs (frS_siz l) (frS_ne h hs)]
  have e : (frS l sz).flatMap bts = bts (hd0 (frS l sz)) ++ ((frS l sz).drop 1).flatMap bts := by
    conv => lhs; rw [frS_head h hs]
    rfl
  have hb : bts (hd0 (frS l sz)) = 1 :: (bts (hd0 (frS l sz))).drop 1 := by
    have : hd0 (flX 1 (frS l sz)) = hd0 (frS l sz) := by rw [h1]
    have e2 : hd0 (flX 1 (frS l sz)) = strB (1 :: (bts (hd0 (frS l sz))).drop 1) := rfl
    rw [e2] at this
    conv => lhs; rw [← this, bts_strB]
  have hlen : (bts (hd0 (frS l sz))).length = sz := by rw [bts_len]; exact frS_hd_size h hs
  rw [e, List.drop_append_of_le_length (by omega)]
  show 1 :: (((bts (hd0 (frS l sz))).drop 1 ++ _).take (sz - 1)) = _
  rw [List.take_append_of_le_length (by rw [List.length_drop]; omega), List.take_of_length_le (by rw [List.length_drop]; omega)]
  exact hb.symm
end Go.Proofs.Ytockmhhiomdlkaa
