/- The markers: cordwoodref19.markers. textmerge.marker. cordwoodref19.whole: is a string a line with its line feed? cordwoodref19.lines: are strings lines? cordwoodref19.unfit. textmerge.validLines: as cordwoodref19.lines. -/
import Derived.Test.YthobbcafemkhbaaTmMem
import Derived.Test.YthobbcafemkhbaaAwake
import Derived.Test.YthobbcafemkhbaaShelf
import Derived.Test.YthobbcafemkhbaaRlines
import Derived.Test.YthobbcafemkhbaaIdx
namespace Go.Proofs.Ythobbcafemkhbaa
open Go.RowKit

def mk0 : ByteArray := ⟨#[60, 60, 60, 60, 60, 60, 60, 10]⟩
def mk1 : ByteArray := ⟨#[124, 124, 124, 124, 124, 124, 124, 10]⟩
def mk2 : ByteArray := ⟨#[61, 61, 61, 61, 61, 61, 61, 10]⟩
def mk3 : ByteArray := ⟨#[62, 62, 62, 62, 62, 62, 62, 10]⟩
def mks : List ByteArray := [mk0, mk1, mk2, mk3]

set_option maxHeartbeats 1000000 in
theorem markers_any (w : World) : Calls Try.prog 54 #[] w fun e w' => ∃ v, e = .returned v ∧ Strs w' v mks ∧ Below w.heap.size w w' := by
  have h := strs_lit w mks (by decide)
  have hb := (Below.refl w.heap.size w).alloc (Nat.le_refl _) (.cells (mks.map Value.string).toArray 9)
  go_enter Try.func54, Try.ntmps54
  go_wp2
  go_ret
  exact ⟨_, rfl, h, hb⟩

/-- The number of the marker that a line is, from marker k on. -/
def mkF (s : ByteArray) : Nat → List ByteArray → Int
  | _, [] => -1
  | k, m :: l => if s = m ∨ s = m.extract 0 7 then (k : Int) else mkF s (k + 1) l
def mkN (s : ByteArray) : Int := mkF s 0 mks
theorem mk_yes {s : ByteArray} {k : Nat} (hk : k < mks.length) (h : s = mks[k] ∨ s = mks[k].extract 0 7) : mkF s k (mks.drop k) = (k : Int) := by
  rw [List.drop_eq_getElem_cons hk, mkF, if_pos h]
theorem mk_no {s : ByteArray} {k : Nat} (hk : k < mks.length) (h : ¬ (s = mks[k] ∨ s = mks[k].extract 0 7)) : mkF s k (mks.drop k) = mkF s (k + 1) (mks.drop (k + 1)) := by
  rw [List.drop_eq_getElem_cons hk, mkF, if_neg h]
theorem mks_size : ∀ m ∈ mks, m.size = 8 := by decide

set_option maxRecDepth 100000 in
set_option maxHeartbeats 1000000 in
theorem rmarker_any (w : World) (s : ByteArray) : Calls Try.prog 47 #[.string s] w fun e w' => e = .returned (.int .i64 (mkN s)) ∧ Below w.heap.size w w' := by
  have cm := markers_any w
  go_enter Try.func47, Try.ntmps47
  go_wp2_with fail
  refine cm.mono ?_
  clear cm
  rintro e w1 ⟨v, rfl, hm, hb⟩
  obtain ⟨A, c, rfl, _, _⟩ := hm.form
  have hlen : mks.length = 4 := rfl
  have H0 : Hid (mkN s = mkF s 0 (mks.drop 0)) := rfl
  have HSZ := Lib.hid mks_size
  have HY : Hid (∀ k (hk : k < mks.length), (s = mks[k] ∨ s = mks[k].extract 0 7) → mkF s k (mks.drop k) = (k : Int)) := fun k hk h => mk_yes hk h
  have HN : Hid (∀ k (hk : k < mks.length), ¬ (s = mks[k] ∨ s = mks[k].extract 0 7) → mkF s k (mks.drop k) = mkF s (k + 1) (mks.drop (k + 1))) := fun k hk h => mk_no hk h
  have hb0 := hb
  clear hb
  generalize mks = ms at *
  go_wp2
  go_loopw [4] (fun i wr => ∃ k : Nat, k ≤ 4 ∧ i = .int .i64 k ∧ Hid (mkN s = mkF s k (ms.drop k)) ∧ wr = w1) (fun i _ => 4 - (intOf i).toNat)
  case atStart => exact ⟨0, by omega, rfl, H0, rfl⟩
  case round =>
    clear H0
    obtain ⟨k, hk, rfl, HK, rfl⟩ := hrel
    by_cases hlt : k < 4
    · have hk' : k < ms.length := by omega
      obtain ⟨b, off, rfl, a1⟩ := hm.get hk'
      have hz7 : 7 ≤ ms[k].size := by have := HSZ.out ms[k] (List.getElem_mem hk'); omega
      have HYk := Lib.hid (HY.out k hk')
      have HNk := Lib.hid (HN.out k hk')
      clear HY HN
      generalize ms[k] = x at *
      by_cases h1 : s = x
      · have HE := Lib.hid (HK.out.trans (HYk.out (.inl h1)))
        have e1 := str_eq h1
        clear h1
        go_wp2
        go_ret
        exact ⟨by rw [HE.out]; rfl, hb0⟩
      · have e1 := str_ne h1
        by_cases h2 : s = x.extract 0 7
        · have HE := Lib.hid (HK.out.trans (HYk.out (.inr h2)))
          have e2 := str_eq h2
          clear h1 h2
          go_wp2
          go_ret
          exact ⟨by rw [HE.out]; rfl, hb0⟩
        · have HE := Lib.hid (HK.out.trans (HNk.out (fun h => h.elim h1 h2)))
          have e2 := str_ne h2
          clear h1 h2
          go_wp2
          go_roundw
          case rel => exact ⟨k + 1, by omega, by go_num, HE, by trivial⟩
          case measure => simp [intOf]; omega
    · have HE : Hid (mkN s = -1) := by show _ = _; rw [HK.out, List.drop_of_length_le (by omega)]; rfl
      go_wp2
      go_ret
      exact ⟨by rw [HE.out]; rfl, hb0⟩
end Go.Proofs.Ythobbcafemkhbaa

namespace Go.Proofs.Ythobbcafemkhbaa
open Go.RowKit

def trm (s : ByteArray) : ByteArray := ⟨(Lib.trimSuffix s.data.toList [10]).toArray⟩
def mc0 : ByteArray := ⟨#[60, 60, 60, 60, 60, 60, 60]⟩
def mc1 : ByteArray := ⟨#[124, 124, 124, 124, 124, 124, 124]⟩
def mc2 : ByteArray := ⟨#[61, 61, 61, 61, 61, 61, 61]⟩
def mc3 : ByteArray := ⟨#[62, 62, 62, 62, 62, 62, 62]⟩
theorem mcl0 : mc0.toList = [60, 60, 60, 60, 60, 60, 60] := by decide +kernel
theorem mcl1 : mc1.toList = [124, 124, 124, 124, 124, 124, 124] := by decide +kernel
theorem mcl2 : mc2.toList = [61, 61, 61, 61, 61, 61, 61] := by decide +kernel
theorem mcl3 : mc3.toList = [62, 62, 62, 62, 62, 62, 62] := by decide +kernel
/-- Is a line a marker, or one without its line feed? -/
def mkB (s : ByteArray) : Bool := decide (trm s = mc0 ∨ trm s = mc1 ∨ trm s = mc2 ∨ trm s = mc3)

set_option maxRecDepth 100000 in
set_option maxHeartbeats 1000000 in
theorem marker_any (w : World) (s : ByteArray) (hs : s.size ≤ 9223372036854775807) : Calls Try.prog 46 #[.string s] w fun e w' => e = .returned (.bool (mkB s)) ∧ w = w' := by
  have ct : Calls Try.prog 64 #[.string s, .string ⟨#[10]⟩] w fun e w' => e = .returned (.string (trm s)) ∧ w' = w := strings_TrimSuffix s ⟨#[10]⟩ w hs
  have HB : Hid (mkB s = decide (trm s = mc0 ∨ trm s = mc1 ∨ trm s = mc2 ∨ trm s = mc3)) := rfl
  generalize trm s = t at *
  by_cases h0 : t = mc0
  · have HE : Hid (mkB s = true) := by show _ = _; rw [HB.out]; exact decide_eq_true (.inl h0)
    have e0 := str_eq h0
    clear h0 HB
    rw [mcl0] at e0
    go_enter Try.func46, Try.ntmps46
    go_wp2_with fail
    refine ct.mono ?_
    clear ct
    rintro e w1 ⟨rfl, rfl⟩
    go_wp2
    go_ret
    exact ⟨ret_bool HE.out.symm, rfl⟩
  · have e0 := str_ne h0
    rw [mcl0] at e0
    by_cases h1 : t = mc1
    · have HE : Hid (mkB s = true) := by show _ = _; rw [HB.out]; exact decide_eq_true (.inr (.inl h1))
      have e1 := str_eq h1
      clear h0 h1 HB
      rw [mcl1] at e1
      go_enter Try.func46, Try.ntmps46
      go_wp2_with fail
      refine ct.mono ?_
      clear ct
      rintro e w1 ⟨rfl, rfl⟩
      go_wp2
      go_ret
      exact ⟨ret_bool HE.out.symm, rfl⟩
    · have e1 := str_ne h1
      rw [mcl1] at e1
      by_cases h2 : t = mc2
      · have HE : Hid (mkB s = true) := by show _ = _; rw [HB.out]; exact decide_eq_true (.inr (.inr (.inl h2)))
        have e2 := str_eq h2
        clear h0 h1 h2 HB
        rw [mcl2] at e2
        go_enter Try.func46, Try.ntmps46
        go_wp2_with fail
        refine ct.mono ?_
        clear ct
        rintro e w1 ⟨rfl, rfl⟩
        go_wp2
        go_ret
        exact ⟨ret_bool HE.out.symm, rfl⟩
      · have e2 := str_ne h2
        rw [mcl2] at e2
        by_cases h3 : t = mc3
        · have HE : Hid (mkB s = true) := by show _ = _; rw [HB.out]; exact decide_eq_true (.inr (.inr (.inr h3)))
          have e3 := str_eq h3
          clear h0 h1 h2 h3 HB
          rw [mcl3] at e3
          go_enter Try.func46, Try.ntmps46
          go_wp2_with fail
          refine ct.mono ?_
          clear ct
          rintro e w1 ⟨rfl, rfl⟩
          go_wp2
          go_ret
          exact ⟨ret_bool HE.out.symm, rfl⟩
        · have HE : Hid (mkB s = false) := by show _ = _; rw [HB.out]; exact decide_eq_false (fun h => h.elim h0 fun h => h.elim h1 fun h => h.elim h2 h3)
          have e3 := str_ne h3
          clear h0 h1 h2 h3 HB
          rw [mcl3] at e3
          go_enter Try.func46, Try.ntmps46
          go_wp2_with fail
          refine ct.mono ?_
          clear ct
          rintro e w1 ⟨rfl, rfl⟩
          go_wp2
          go_ret
          exact ⟨ret_bool HE.out.symm, rfl⟩

theorem ba_ext {s t : ByteArray} (h : s.data.toList = t.data.toList) : s = t := ByteArray.ext (Array.toList_inj.1 h)
theorem trm_iff {s c m : ByteArray} (hm : m.data.toList = c.data.toList ++ [10]) (hc : ¬ [(10 : UInt8)] <:+ c.data.toList) : trm s = c ↔ s = m ∨ s = c := by
  unfold trm Lib.trimSuffix Lib.hasSuffix
  by_cases h : [(10 : UInt8)] <:+ s.data.toList
  · rw [if_pos (List.isSuffixOf_iff_suffix.2 h)]
    obtain ⟨x, hx⟩ := h
    have e : s.data.toList.take (s.data.toList.length - [(10 : UInt8)].length) = x := by
      rw [← hx, List.length_append, Nat.add_sub_cancel, List.take_left]
    rw [e]
    constructor
    · intro h1
      left
      apply ba_ext
      rw [hm, ← hx, ← h1]
    · rintro (rfl | rfl)
      · apply ba_ext
        show x = _
        rw [hm] at hx
        exact List.append_cancel_right hx
      · exact absurd ⟨x, hx⟩ hc
  · rw [if_neg (fun e => h (List.isSuffixOf_iff_suffix.1 e))]
    constructor
    · intro h1
      right
      apply ba_ext
      rw [← h1]
    · rintro (rfl | rfl)
      · exact absurd ⟨_, hm.symm⟩ h
      · rfl
theorem mkB_eq (s : ByteArray) : mkB s = decide (0 ≤ mkN s) := by
  have e0 : mk0.extract 0 7 = mc0 := by decide +kernel
  have e1 : mk1.extract 0 7 = mc1 := by decide +kernel
  have e2 : mk2.extract 0 7 = mc2 := by decide +kernel
  have e3 : mk3.extract 0 7 = mc3 := by decide +kernel
  have t0 : trm s = mc0 ↔ s = mk0 ∨ s = mc0 := trm_iff (by decide) (by decide)
  have t1 : trm s = mc1 ↔ s = mk1 ∨ s = mc1 := trm_iff (by decide) (by decide)
  have t2 : trm s = mc2 ↔ s = mk2 ∨ s = mc2 := trm_iff (by decide) (by decide)
  have t3 : trm s = mc3 ↔ s = mk3 ∨ s = mc3 := trm_iff (by decide) (by decide)
  unfold mkB mkN mks
  rw [decide_eq_decide, t0, t1, t2, t3]
  simp only [mkF, e0, e1, e2, e3]
  by_cases h0 : s = mk0 ∨ s = mc0
  · simp [h0]
  by_cases h1 : s = mk1 ∨ s = mc1
  · simp [h0, h1]
  by_cases h2 : s = mk2 ∨ s = mc2
  · simp [h0, h1, h2]
  by_cases h3 : s = mk3 ∨ s = mc3
  · simp [h0, h1, h2, h3]
  · simp [h0, h1, h2, h3]
end Go.Proofs.Ythobbcafemkhbaa

namespace Go.Proofs.Ythobbcafemkhbaa
open Go.RowKit

theorem bget {s : ByteArray} {i : Nat} (h : i < s.size) : s.data.toList[i]? = some s[i] := by
  rw [Array.getElem?_toList]; exact Array.getElem?_eq_getElem h
theorem u8_ten (c : UInt8) : ((c.toNat : Int) == 10) = decide (c = 10) := by
  by_cases h : c = 10
  · subst h; rfl
  · rw [decide_eq_false h, beq_eq_false_iff_ne]
    intro e
    exact h (UInt8.toNat_inj.1 (show c.toNat = (10 : UInt8).toNat by have : (10 : UInt8).toNat = 10 := rfl; omega))
def wholeB (s : ByteArray) : Bool := decide (0 < s.size) && decide ((lines s.data.toList).length = 1) && decide (s.data.toList[s.size - 1]? = some 10)

set_option maxRecDepth 100000 in
set_option maxHeartbeats 1000000 in
theorem whole_any (w : World) (s : ByteArray) (hs : s.size ≤ 1000000000) : Calls Try.prog 68 #[.string s] w fun e w' => e = .returned (.bool (wholeB s)) ∧ Below w.heap.size w w' := by
  have cl := rlines_any s hs w
  by_cases h0 : 0 < s.size
  · have hge : s.size - 1 < s.size := by omega
    have hidx : ((s.size : Int) - 1).toNat = s.size - 1 := by omega
    have HB : Hid (wholeB s = (decide ((lines s.data.toList).length = 1) && decide (s[s.size - 1] = 10))) := by
      show _ = _
      unfold wholeB
      rw [decide_eq_true h0, Bool.true_and, bget hge]
      simp
    generalize lines s.data.toList = L at *
    by_cases h1 : L.length = 1
    · have hn : ((L.length : Int) == 1) = true := by simp [h1]
      have HB2 : Hid (wholeB s = decide (s[s.size - 1] = 10)) := by show _ = _; rw [HB.out, decide_eq_true h1, Bool.true_and]
      clear HB h1
      go_enter Try.func68, Try.ntmps68
      go_wp2_with fail
      refine cl.mono ?_
      clear cl
      rintro e w1 ⟨v, rfl, ho, hb⟩
      obtain ⟨A, c, rfl⟩ := own_form ho
      go_wp2
      go_ret
      exact ⟨ret_bool (by rw [HB2.out]; exact u8_ten _), hb⟩
    · have hn : ((L.length : Int) == 1) = false := by rw [beq_eq_false_iff_ne]; omega
      have HB2 : Hid (wholeB s = false) := by show _ = _; rw [HB.out, decide_eq_false h1, Bool.false_and]
      clear HB h1
      go_enter Try.func68, Try.ntmps68
      go_wp2_with fail
      refine cl.mono ?_
      clear cl
      rintro e w1 ⟨v, rfl, ho, hb⟩
      obtain ⟨A, c, rfl⟩ := own_form ho
      go_wp2
      go_ret
      exact ⟨ret_bool HB2.out.symm, hb⟩
  · have HE : Hid (wholeB s = false) := by show _ = _; unfold wholeB; rw [decide_eq_false h0]; rfl
    clear cl
    go_enter Try.func68, Try.ntmps68
    go_wp2
    go_ret
    exact ⟨ret_bool HE.out.symm, Below.refl _ _⟩
end Go.Proofs.Ythobbcafemkhbaa

namespace Go.Proofs.Ythobbcafemkhbaa
open Go.RowKit

def lineOk (last : Bool) (n i : Nat) (s : ByteArray) : Bool := wholeB s || (last && decide (¬ i + 1 < n) && decide ((lines s.data.toList).length = 1))
def linF (last : Bool) (n : Nat) : Nat → List ByteArray → Bool
  | _, [] => true
  | k, s :: r => lineOk last n k s && linF last n (k + 1) r
def linesB (last : Bool) (l : List ByteArray) : Bool := linF last l.length 0 l
theorem linF_at {last : Bool} {l : List ByteArray} {k : Nat} (h : k < l.length) : linF last l.length k (l.drop k) = (lineOk last l.length k l[k] && linF last l.length (k + 1) (l.drop (k + 1))) := by
  rw [List.drop_eq_getElem_cons h]; rfl

set_option maxRecDepth 100000 in
set_option maxHeartbeats 2000000 in
theorem lines19_any (w : World) (v : Value) (l : List ByteArray) (last : Bool) (h : Strs w v l) (hsz : ∀ s ∈ l, s.size ≤ 1000000000) :
    Calls Try.prog 65 #[v, .bool last] w fun e w' => e = .returned (.bool (linesB last l)) ∧ Below w.heap.size w w' := by
  obtain ⟨A, c, rfl, hc, hm⟩ := h.form
  have HSZ := Lib.hid hsz
  clear hsz
  go_enter Try.func65, Try.ntmps65
  go_wp2
  go_loopw [5] (fun i wr => ∃ k : Nat, k ≤ l.length ∧ i = .int .i64 k ∧ Hid (linesB last l = linF last l.length k (l.drop k)) ∧ Below w.heap.size w wr) (fun i _ => l.length - (intOf i).toNat)
  case atStart => exact ⟨0, by omega, rfl, rfl, Below.refl _ _⟩
  case round =>
    obtain ⟨k, hk, rfl, HK, hb⟩ := hrel
    by_cases hlt : k < l.length
    · obtain ⟨b, off, rfl, a1⟩ := (h.keep (Keeps.of_below hb)).get hlt
      have hs := HSZ.out l[k] (List.getElem_mem hlt)
      have HS := Lib.hid (linF_at (last := last) hlt)
      have h1 := h.keep (Keeps.of_below hb)
      generalize hx : l[k] = s at *
      have cw := whole_any wr s hs
      go_wp2_with fail
      refine cw.mono ?_
      clear cw
      rintro e w1 ⟨rfl, hb1⟩
      have a2 : w1.cell? ⟨b, off + k, none⟩ = some (.string s) := cell_later hb1 a1
      have hb2 := hb.trans (hb1.mono hb.size)
      clear a1 h1 hb hb1
      cases hw : wholeB s
      · cases last
        · have HE : Hid (linesB false l = false) := by show _ = _; rw [HK.out, HS.out]; simp [lineOk, hw]
          clear HS HK
          go_wp2
          go_ret
          exact ⟨ret_bool HE.out.symm, hb2⟩
        · by_cases hkn : k + 1 < l.length
          · have HE : Hid (linesB true l = false) := by show _ = _; rw [HK.out, HS.out]; simp [lineOk, hw, hkn]
            have hki : (k : Int) < (l.length : Int) - 1 := by omega
            clear HS HK
            go_wp2
            go_ret
            exact ⟨ret_bool HE.out.symm, hb2⟩
          · have hki : ¬ (k : Int) < (l.length : Int) - 1 := by omega
            have cl := rlines_any s hs w1
            have HLO : Hid (lineOk true l.length k s = decide ((lines s.data.toList).length = 1)) := by show _ = _; unfold lineOk; rw [hw, decide_eq_true hkn]; rfl
            generalize lines s.data.toList = L at *
            by_cases h2 : L.length = 1
            · have hn : ((L.length : Int) != 1) = false := by simp [h2]
              have HE : Hid (linesB true l = linF true l.length (k + 1) (l.drop (k + 1))) := by show _ = _; rw [HK.out, HS.out, HLO.out, decide_eq_true h2, Bool.true_and]
              clear HS HK HLO h2
              go_wp2_with fail
              refine cl.mono ?_
              clear cl
              rintro e w2 ⟨v2, rfl, ho, hb3⟩
              obtain ⟨A2, c2, rfl⟩ := own_form ho
              have hb4 := hb2.trans (hb3.mono hb2.size)
              clear ho hb2 hb3 a2
              go_wp2
              go_roundw
              case rel => exact ⟨k + 1, by omega, by go_num, HE, hb4⟩
              case measure => simp [intOf]; omega
            · have hn : ((L.length : Int) != 1) = true := by rw [bne_iff_ne]; omega
              have HE : Hid (linesB true l = false) := by show _ = _; rw [HK.out, HS.out, HLO.out, decide_eq_false h2, Bool.false_and]
              clear HS HK HLO h2
              go_wp2_with fail
              refine cl.mono ?_
              clear cl
              rintro e w2 ⟨v2, rfl, ho, hb3⟩
              obtain ⟨A2, c2, rfl⟩ := own_form ho
              have hb4 := hb2.trans (hb3.mono hb2.size)
              clear ho hb2 hb3 a2
              go_wp2
              go_ret
              exact ⟨ret_bool HE.out.symm, hb4⟩
      · have HE : Hid (linesB last l = linF last l.length (k + 1) (l.drop (k + 1))) := by show _ = _; rw [HK.out, HS.out]; simp [lineOk, hw]
        clear HS HK
        go_wp2
        go_roundw
        case rel => exact ⟨k + 1, by omega, by go_num, HE, hb2⟩
        case measure => simp [intOf]; omega
    · have HE : Hid (linesB last l = true) := by show _ = _; rw [HK.out, List.drop_of_length_le (by omega)]; rfl
      go_wp2
      go_ret
      exact ⟨ret_bool HE.out.symm, hb⟩
end Go.Proofs.Ythobbcafemkhbaa

namespace Go.Proofs.Ythobbcafemkhbaa
open Go.RowKit

def unf1 (conf : Bool) (s : ByteArray) : Bool := decide (0 ≤ mkN s) || (conf && !wholeB s)
def unfB (conf : Bool) (l : List ByteArray) : Bool := l.any (unf1 conf)
theorem unfB_at {conf : Bool} {l : List ByteArray} {k : Nat} (h : k < l.length) : unfB conf (l.drop k) = (unf1 conf l[k] || unfB conf (l.drop (k + 1))) := by
  rw [List.drop_eq_getElem_cons h]; rfl

set_option maxRecDepth 100000 in
set_option maxHeartbeats 2000000 in
theorem unfit_any (w : World) (v : Value) (l : List ByteArray) (conf : Bool) (h : Strs w v l) (hsz : ∀ s ∈ l, s.size ≤ 1000000000) :
    Calls Try.prog 55 #[v, .bool conf] w fun e w' => e = .returned (.bool (unfB conf l)) ∧ Below w.heap.size w w' := by
  obtain ⟨A, c, rfl, hc, hm⟩ := h.form
  have HSZ := Lib.hid hsz
  clear hsz
  go_enter Try.func55, Try.ntmps55
  go_wp2
  go_loopw [5] (fun i wr => ∃ k : Nat, k ≤ l.length ∧ i = .int .i64 k ∧ Hid (unfB conf l = unfB conf (l.drop k)) ∧ Below w.heap.size w wr) (fun i _ => l.length - (intOf i).toNat)
  case atStart => exact ⟨0, by omega, rfl, rfl, Below.refl _ _⟩
  case round =>
    obtain ⟨k, hk, rfl, HK, hb⟩ := hrel
    by_cases hlt : k < l.length
    · obtain ⟨b, off, rfl, a1⟩ := (h.keep (Keeps.of_below hb)).get hlt
      have hs := HSZ.out l[k] (List.getElem_mem hlt)
      have HS := Lib.hid (unfB_at (conf := conf) hlt)
      generalize hx : l[k] = s at *
      have cm := rmarker_any wr s
      go_wp2_with fail
      refine cm.mono ?_
      clear cm
      rintro e w1 ⟨rfl, hb1⟩
      have a2 : w1.cell? ⟨b, off + k, none⟩ = some (.string s) := cell_later hb1 a1
      have hb2 := hb.trans (hb1.mono hb.size)
      clear a1 hb hb1
      by_cases hmk : 0 ≤ mkN s
      · have HE : Hid (unfB conf l = true) := by show _ = _; rw [HK.out, HS.out]; simp [unf1, hmk]
        have hd : decide (0 ≤ mkN s) = true := by simp [hmk]
        clear HS HK
        generalize mkN s = z at *
        go_wp2
        go_ret
        exact ⟨ret_bool HE.out.symm, hb2⟩
      · have hd : decide (0 ≤ mkN s) = false := by simp; omega
        cases conf
        · have HE : Hid (unfB false l = unfB false (l.drop (k + 1))) := by show _ = _; rw [HK.out, HS.out]; simp [unf1, hmk]
          clear HS HK
          generalize mkN s = z at *
          go_wp2
          go_roundw
          case rel => exact ⟨k + 1, by omega, by go_num, HE, hb2⟩
          case measure => simp [intOf]; omega
        · have cw := whole_any w1 s hs
          have HU : Hid (unf1 true s = !wholeB s) := by show _ = _; unfold unf1; rw [hd]; rfl
          cases hw : wholeB s
          · have HE : Hid (unfB true l = true) := by show _ = _; rw [HK.out, HS.out, HU.out, hw]; rfl
            rw [hw] at cw
            clear HS HK HU hw
            generalize mkN s = z at *
            go_wp2_with fail
            refine cw.mono ?_
            clear cw
            rintro e w2 ⟨rfl, hb3⟩
            have hb4 := hb2.trans (hb3.mono hb2.size)
            clear hb2 hb3 a2
            go_wp2
            go_ret
            exact ⟨ret_bool HE.out.symm, hb4⟩
          · have HE : Hid (unfB true l = unfB true (l.drop (k + 1))) := by show _ = _; rw [HK.out, HS.out, HU.out, hw]; rfl
            rw [hw] at cw
            clear HS HK HU hw
            generalize mkN s = z at *
            go_wp2_with fail
            refine cw.mono ?_
            clear cw
            rintro e w2 ⟨rfl, hb3⟩
            have hb4 := hb2.trans (hb3.mono hb2.size)
            clear hb2 hb3 a2
            go_wp2
            go_roundw
            case rel => exact ⟨k + 1, by omega, by go_num, HE, hb4⟩
            case measure => simp [intOf]; omega
    · have HE : Hid (unfB conf l = false) := by show _ = _; rw [HK.out, List.drop_of_length_le (by omega)]; rfl
      go_wp2
      go_ret
      exact ⟨ret_bool HE.out.symm, hb⟩
end Go.Proofs.Ythobbcafemkhbaa

namespace Go.Proofs.Ythobbcafemkhbaa
open Go.RowKit

theorem lines_len_one {s : List UInt8} (hs : s ≠ []) : (lines s).length = 1 ↔ firstLen s = s.length := by
  rw [lines_step hs, List.length_cons]
  constructor
  · intro h
    have h0 : lines (s.drop (firstLen s)) = [] := List.eq_nil_of_length_eq_zero (by omega)
    have : s.drop (firstLen s) = [] := by
      refine Classical.byContradiction fun hne => ?_
      rw [lines_step hne] at h0
      cases h0
    have h2 := List.drop_eq_nil_iff.1 this
    have := firstLen_le s
    omega
  · intro h
    rw [h, List.drop_of_length_le (Nat.le_refl _)]
    rfl
theorem sz_list (s : ByteArray) : s.data.toList.length = s.size := rfl
/-- Is a line valid? By its first line feed. -/
theorem lineOk_empty {last : Bool} {n i : Nat} {s : ByteArray} (h : s.data.toList = []) : lineOk last n i s = false := by
  have hs : s.size = 0 := by rw [← sz_list, h]; rfl
  unfold lineOk wholeB
  rw [h, hs]
  simp [lines, linesF]
theorem lineOk_none {last : Bool} {n i : Nat} {s : ByteArray} (h0 : s.data.toList ≠ []) (h : Lib.indexByte s.data.toList 10 = -1) : lineOk last n i s = (last && decide (¬ i + 1 < n)) := by
  have h1 : (lines s.data.toList).length = 1 := (lines_len_one h0).2 (by unfold firstLen; rw [if_pos h])
  have h2 : wholeB s = false := by
    unfold wholeB
    have := Lib.indexByte_none h (s.size - 1)
    rw [decide_eq_false this, Bool.and_false]
  unfold lineOk
  rw [h1, h2]
  simp
theorem lineOk_some {last : Bool} {n i o : Nat} {s : ByteArray} (h : Lib.indexByte s.data.toList 10 = (o : Int)) : lineOk last n i s = decide (o + 1 = s.size) := by
  obtain ⟨h1, h2⟩ := Lib.indexByte_some h
  have hlt : o < s.size := by rw [← sz_list]; exact indexByte_lt h
  have h0 : s.data.toList ≠ [] := by intro e; rw [e] at h1; simp at h1
  have hf : firstLen s.data.toList = o + 1 := by unfold firstLen; rw [if_neg (by omega), h]; omega
  by_cases ho : o + 1 = s.size
  · have h3 : (lines s.data.toList).length = 1 := (lines_len_one h0).2 (by rw [hf, ho, sz_list])
    have h4 : wholeB s = true := by
      unfold wholeB
      rw [h3, show s.size - 1 = o by omega, h1]
      simp; omega
    unfold lineOk
    rw [h4, decide_eq_true ho]; rfl
  · have h3 : ¬ (lines s.data.toList).length = 1 := fun e => ho (by have := (lines_len_one h0).1 e; rw [hf, sz_list] at this; exact this)
    unfold lineOk wholeB
    rw [decide_eq_false h3, decide_eq_false ho]
    simp

set_option maxRecDepth 100000 in
set_option maxHeartbeats 1000000 in
theorem validLines_any (w : World) (v : Value) (l : List ByteArray) (last : Bool) (h : Strs w v l) (hsz : ∀ s ∈ l, s.size ≤ 1000000000) :
    Calls Try.prog 62 #[v, .bool last] w fun e w' => e = .returned (.bool (linesB last l)) ∧ w = w' := by
  obtain ⟨A, c, rfl, hc, hm⟩ := h.form
  have HSZ := Lib.hid hsz
  clear hsz
  go_enter Try.func62, Try.ntmps62
  go_wp2
  go_loop [10] (fun i => ∃ k : Nat, k ≤ l.length ∧ i = .int .i64 k ∧ Hid (linesB last l = linF last l.length k (l.drop k))) (fun i => l.length - (intOf i).toNat)
  case atStart => exact ⟨0, by omega, rfl, rfl⟩
  case round =>
    obtain ⟨k, hk, rfl, HK⟩ := hrel
    by_cases hlt : k < l.length
    · obtain ⟨b, off, rfl, a1⟩ := h.get hlt
      have hs := HSZ.out l[k] (List.getElem_mem hlt)
      have HS := Lib.hid (linF_at (last := last) hlt)
      generalize hx : l[k] = s at *
      by_cases he : s.data.toList = []
      · have hz : s.toList = [] := (ByteArray.toList_eq s).trans he
        have hz2 : s.toList.isEmpty = true := by rw [hz]; rfl
        have hz3 : (s.toList == ([] : List UInt8)) = true := by rw [hz]; rfl
        have HE : Hid (linesB last l = false) := by show _ = _; rw [HK.out, HS.out, lineOk_empty he]; rfl
        clear hz he HS HK hx
        go_wp2
        go_ret
        exact ⟨ret_bool HE.out.symm, rfl⟩
      · have hz : (s.toList == ([] : List UInt8)) = false := by
          have : ¬ s.toList = [] := fun h => he ((ByteArray.toList_eq s).symm.trans h)
          simpa using this
        have hz2 : s.toList.isEmpty = false := by
          have : ¬ s.toList = [] := fun h => he ((ByteArray.toList_eq s).symm.trans h)
          simpa using this
        have hpos : 0 < s.size := by rw [← sz_list]; exact List.length_pos_iff.2 he
        have ci := stIndexByte s 10 w
        rw [show (10 : Int).toNat.toUInt8 = 10 from rfl] at ci
        have HN : Hid (Lib.indexByte s.data.toList 10 = -1 → lineOk last l.length k s = (last && decide (¬ k + 1 < l.length))) := fun h => lineOk_none he h
        have HO : Hid (∀ o : Nat, Lib.indexByte s.data.toList 10 = o → lineOk last l.length k s = decide (o + 1 = s.size)) := fun o h => lineOk_some h
        clear he hx
        rcases index_cases s.data.toList with hi | ⟨o, hi, hlo⟩
        · rw [hi] at ci
          have HL := Lib.hid (HN.out hi)
          have hq : ((-1 : Int) == (s.size : Int) - 1) = false := by rw [beq_eq_false_iff_ne]; omega
          clear hi HN HO
          cases last
          · have HE : Hid (linesB false l = false) := by show _ = _; rw [HK.out, HS.out, HL.out]; rfl
            clear HS HK HL
            go_wp2_with fail
            refine ci.mono ?_
            clear ci
            rintro e w1 ⟨rfl, rfl⟩
            go_wp2
            go_ret
            exact ⟨ret_bool HE.out.symm, rfl⟩
          · by_cases hkl : k + 1 < l.length
            · have HE : Hid (linesB true l = false) := by show _ = _; rw [HK.out, HS.out, HL.out]; simp [hkl]
              have hki : ((k : Int) == (l.length : Int) - 1) = false := by rw [beq_eq_false_iff_ne]; omega
              clear HS HK HL
              go_wp2_with fail
              refine ci.mono ?_
              clear ci
              rintro e w1 ⟨rfl, rfl⟩
              go_wp2
              go_ret
              exact ⟨ret_bool HE.out.symm, rfl⟩
            · have HE : Hid (linesB true l = linF true l.length (k + 1) (l.drop (k + 1))) := by show _ = _; rw [HK.out, HS.out, HL.out]; simp [hkl]
              have hki : ((k : Int) == (l.length : Int) - 1) = true := by rw [beq_iff_eq]; omega
              clear HS HK HL
              go_wp2_with fail
              refine ci.mono ?_
              clear ci
              rintro e w1 ⟨rfl, rfl⟩
              go_wp2
              go_round
              case rel => exact ⟨k + 1, by omega, by go_num, HE⟩
              case measure => simp [intOf]; omega
        · rw [hi] at ci
          have HL := Lib.hid (HO.out o hi)
          have hon : ¬ (o : Int) < 0 := by omega
          clear hi HN HO
          by_cases hoe : o + 1 = s.size
          · have HE : Hid (linesB last l = linF last l.length (k + 1) (l.drop (k + 1))) := by show _ = _; rw [HK.out, HS.out, HL.out]; simp [hoe]
            have hq : ((o : Int) == (s.size : Int) - 1) = true := by rw [beq_iff_eq]; omega
            clear HS HK HL hoe
            go_wp2_with fail
            refine ci.mono ?_
            clear ci
            rintro e w1 ⟨rfl, rfl⟩
            go_wp2
            go_round
            case rel => exact ⟨k + 1, by omega, by go_num, HE⟩
            case measure => simp [intOf]; omega
          · have HE : Hid (linesB last l = false) := by show _ = _; rw [HK.out, HS.out, HL.out]; simp [hoe]
            have hq : ((o : Int) == (s.size : Int) - 1) = false := by rw [beq_eq_false_iff_ne]; omega
            clear HS HK HL hoe
            go_wp2_with fail
            refine ci.mono ?_
            clear ci
            rintro e w1 ⟨rfl, rfl⟩
            go_wp2
            go_ret
            exact ⟨ret_bool HE.out.symm, rfl⟩
    · have HE : Hid (linesB last l = true) := by show _ = _; rw [HK.out, List.drop_of_length_le (by omega)]; rfl
      go_wp2
      go_ret
      exact ⟨ret_bool HE.out.symm, rfl⟩
end Go.Proofs.Ythobbcafemkhbaa
