/- cordwoodref19.lines: are strings lines? -/
import Derived.Test.YthobbcafemkhbaaTmWhole
namespace Go.Proofs.Ythobbcafemkhbaa
open Go.RowKit

def lineOk (last : Bool) (n i : Nat) (s : ByteArray) : Bool := wholeB s || (last && decide (¬ i + 1 < n) && decide ((lines s.data.toList).length = 1))
def linF (last : Bool) (n : Nat) : Nat → List ByteArray → Bool
  | _, [] => true
  | k, s :: r => lineOk last n k s && linF last n (k + 1) r
def linesB (last : Bool) (l : List ByteArray) : Bool := linF last l.length 0 l
theorem linF_at {last : Bool} {l : List ByteArray} {k : Nat} (h : k < l.length) : linF last l.length k (l.drop k) = (lineOk last l.length k l[k] && linF last l.length (k + 1) (l.drop (k + 1))) := by
  rw [List.drop_eq_getElem_cons h]; rfl

set_option maxRecDepth 100000 in
set_option maxHeartbeats 2000000 in
theorem lines19_any (w : World) (v : Value) (l : List ByteArray) (last : Bool) (h : Strs w v l) (hsz : ∀ s ∈ l, s.size ≤ 1000000000) :
    Calls Try.prog 65 #[v, .bool last] w fun e w' => e = .returned (.bool (linesB last l)) ∧ Below w.heap.size w w' := by
  obtain ⟨A, c, rfl, hc, hm⟩ := h.form
  have HSZ := Lib.hid hsz
  clear hsz
  go_enter Try.func65, Try.ntmps65
  go_wp2
  go_loopw [5] (fun i wr => ∃ k : Nat, k ≤ l.length ∧ i = .int .i64 k ∧ Hid (linesB last l = linF last l.length k (l.drop k)) ∧ Below w.heap.size w wr) (fun i _ => l.length - (intOf i).toNat)
  case atStart => exact ⟨0, by omega, rfl, rfl, Below.refl _ _⟩
  case round =>
    obtain ⟨k, hk, rfl, HK, hb⟩ := hrel
    by_cases hlt : k < l.length
    · obtain ⟨b, off, rfl, a1⟩ := (h.keep (Keeps.of_below hb)).get hlt
      have hs := HSZ.out l[k] (List.getElem_mem hlt)
      have HS := Lib.hid (linF_at (last := last) hlt)
      have h1 := h.keep (Keeps.of_below hb)
      generalize hx : l[k] = s at *
      have cw := whole_any wr s hs
      go_wp2_with fail
      refine cw.mono ?_
      clear cw
      rintro e w1 ⟨rfl, hb1⟩
      have a2 : w1.cell? ⟨b, off + k, none⟩ = some (.string s) := cell_later hb1 a1
      have hb2 := hb.trans (hb1.mono hb.size)
      clear a1 h1 hb hb1
      cases hw : wholeB s
      · cases last
        · have HE : Hid (linesB false l = false) := by show _ = _; rw [HK.out, HS.out]; simp [lineOk, hw]
          clear HS HK
          go_wp2
          go_ret
          exact ⟨ret_bool HE.out.symm, hb2⟩
        · by_cases hkn : k + 1 < l.length
          · have HE : Hid (linesB true l = false) := by show _ = _; rw [HK.out, HS.out]; simp [lineOk, hw, hkn]
            have hki : (k : Int) < (l.length : Int) - 1 := by omega
            clear HS HK
            go_wp2
            go_ret
            exact ⟨ret_bool HE.out.symm, hb2⟩
          · have hki : ¬ (k : Int) < (l.length : Int) - 1 := by omega
            have cl := rlines_any s hs w1
            have HLO : Hid (lineOk true l.length k s = decide ((lines s.data.toList).length = 1)) := by show _ = _; unfold lineOk; rw [hw, decide_eq_true hkn]; rfl
            generalize lines s.data.toList = L at *
            by_cases h2 : L.length = 1
            · have hn : ((L.length : Int) != 1) = false := by simp [h2]
              have HE : Hid (linesB true l = linF true l.length (k + 1) (l.drop (k + 1))) := by show _ = _; rw [HK.out, HS.out, HLO.out, decide_eq_true h2, Bool.true_and]
              clear HS HK HLO h2
              go_wp2_with fail
              refine cl.mono ?_
              clear cl
              rintro e w2 ⟨v2, rfl, ho, hb3⟩
              obtain ⟨A2, c2, rfl⟩ := own_form ho
              have hb4 := hb2.trans (hb3.mono hb2.size)
              clear ho hb2 hb3 a2
              go_wp2
              go_roundw
              case rel => exact ⟨k + 1, by omega, by go_num, HE, hb4⟩
              case measure => simp [intOf]; omega
            · have hn : ((L.length : Int) != 1) = true := by rw [bne_iff_ne]; omega
              have HE : Hid (linesB true l = false) := by show _ = _; rw [HK.out, HS.out, HLO.out, decide_eq_false h2, Bool.false_and]
              clear HS HK HLO h2
              go_wp2_with fail
              refine cl.mono ?_
              clear cl
              rintro e w2 ⟨v2, rfl, ho, hb3⟩
              obtain ⟨A2, c2, rfl⟩ := own_form ho
              have hb4 := hb2.trans (hb3.mono hb2.size)
              clear ho hb2 hb3 a2
              go_wp2
              go_ret
              exact ⟨ret_bool HE.out.symm, hb4⟩
      · have HE : Hid (linesB last l = linF last l.length (k + 1) (l.drop (k + 1))) := by show _ = _; rw [HK.out, HS.out]; simp [lineOk, hw]
        clear HS HK
        go_wp2
        go_roundw
        case rel => exact ⟨k + 1, by omega, by go_num, HE, hb2⟩
        case measure => simp [intOf]; omega
    · have HE : Hid (linesB last l = true) := by show _ = _; rw [HK.out, List.drop_of_length_le (by omega)]; rfl
      go_wp2
      go_ret
      exact ⟨ret_bool HE.out.symm, hb⟩
end Go.Proofs.Ythobbcafemkhbaa
