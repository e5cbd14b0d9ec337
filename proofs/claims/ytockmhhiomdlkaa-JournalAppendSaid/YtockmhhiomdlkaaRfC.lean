/- The reference's PutTexts and Frame. -/
import Derived.Test.YtockmhhiomdlkaaRfB
namespace Go.Proofs.Ytockmhhiomdlkaa
set_option linter.unusedVariables false
set_option linter.unusedSimpArgs false
open Go.RowKit

theorem putd_len' {l : List Txt} (hl : l.length ≤ 1000) {k : Nat} (h : ∀ x ∈ l.take k, x.length ≤ 65536) : (putd l k).length ≤ 100000000 := by
  have h1 := encs_len (l.take k) h
  have h2 := digL_len l.length 5 (by omega)
  have h3 : (l.take k).length ≤ 1000 := by rw [List.length_take]; omega
  unfold putd
  rw [List.length_append]
  have : (l.take k).length * 65542 ≤ 1000 * 65542 := Nat.mul_le_mul_right _ h3
  omega
set_option maxRecDepth 100000 in
set_option maxHeartbeats 2000000 in
theorem rputTexts_any (w : World) (A : Option Addr) (c : Nat) (l : List Txt) (h : Txs w (.slice A l.length c) l) (hbig : ∀ t ∈ l, t.length ≤ 1000000) :
    Calls Try.prog 70 #[.slice A l.length c] w fun e w' => e = .returned (.tuple #[.string (strB (putTs l).1), .int .i64 (putTs l).2]) ∧ Below w.heap.size w w' := by
  obtain ⟨A', c', e0, hc, hm⟩ := h.form
  cases e0
  by_cases h0 : 1000 < l.length
  · have hp : putTs l = ([], 4) := if_pos (.inl h0)
    rw [hp]
    have h1 : (1000 : Int) < (l.length : Int) := by omega
    clear hp
    go_enter Try.func70, Try.ntmps70
    go_wp2
    go_ret2
    exact ⟨rfl, Below.refl _ _⟩
  · have h1 : ¬ (1000 : Int) < (l.length : Int) := by omega
    have HP : Hid (putTs l = if 1000 < l.length ∨ ¬ ∀ t ∈ l, t.length ≤ 65536 then ([], 4) else (putTsB l, 0)) := rfl
    generalize putTs l = R at *
    have CP := Lib.hid (rput_any l.length w (by omega))
    have HP0 : Hid (strB (digL l.length) = strB (putd l 0)) := by show _ = _; unfold putd; simp
    go_enter Try.func70, Try.ntmps70
    go_wp2_with fail
    refine CP.out.mono ?_
    rintro e w1 ⟨rfl, hb1⟩
    rw [HP0.out]
    have K1 := Lib.hid hb1
    clear CP hb1 HP0
    go_wp2
    go_loopw [4, 5] (fun ov iv wr => ∃ k : Nat, k ≤ l.length ∧ iv = .int .i64 k ∧ ov = .string (strB (putd l k)) ∧ Hid (∀ x ∈ l.take k, x.length ≤ 65536) ∧ Hid (Below w.heap.size w wr)) (fun _ iv _ => l.length - (intOf iv).toNat)
    case atStart => exact ⟨0, by omega, rfl, rfl, fun x hx => by simp at hx, K1⟩
    case round =>
      clear K1
      obtain ⟨k, hk, rfl, rfl, HK, HB⟩ := hrel
      by_cases hlt : k < l.length
      · obtain ⟨b, off, rfl, a1⟩ := (h.keep (Keeps.of_below HB.out)).getL hlt
        have CT := Lib.hid (rputText_any l[k] wr (by have := hbig l[k] (List.getElem_mem hlt); omega))
        have hsz := strB_size (putd l k)
        have hpl := putd_len' (by omega) HK.out
        rw [← hsz] at hpl
        by_cases hb : l[k].length ≤ 65536
        · have HK2 : Hid (∀ x ∈ l.take (k + 1), x.length ≤ 65536) := by
            show ∀ x ∈ _, _
            rw [List.take_succ_eq_append_getElem hlt]
            intro x hx
            rcases List.mem_append.1 hx with hx | hx
            · exact HK.out x hx
            · rw [List.mem_singleton.1 hx]; exact hb
          have HS : Hid (strB (putd l k) ++ strB (putT l[k]).1 = strB (putd l (k + 1))) := by
            show _ = _
            rw [putd_snoc hlt, strB_append, show putT l[k] = (digL l[k].length ++ l[k], 0) from if_pos hb, List.append_assoc]
          have hpt : (putT l[k]).2 = 0 := by rw [show putT l[k] = (digL l[k].length ++ l[k], 0) from if_pos hb]
          have hsl : (strB (putT l[k]).1).size ≤ 100000 := by
            have hd := digL_len l[k].length 5 (by omega)
            rw [strB_size, show putT l[k] = (digL l[k].length ++ l[k], 0) from if_pos hb, List.length_append]
            omega
          rw [hpt] at CT
          clear hsz HK hpt hb
          generalize strB (putT l[k]).1 = y at *
          generalize strB l[k] = x at *
          generalize strB (putd l k) = z at *
          go_wp2_with fail
          refine CT.out.mono ?_
          rintro e w2 ⟨rfl, hb2⟩
          have HB2 := Lib.hid (HB.out.trans (hb2.mono HB.out.size))
          clear CT hb2 HB a1
          go_wp2
          go_roundw
          case rel => exact ⟨k + 1, by omega, by go_num, by rw [HS.out], HK2, HB2⟩
          case measure => simp [intOf]; omega
        · have HR : Hid (R = ([], 4)) := by
            show _ = _
            rw [HP.out, if_pos (.inr fun hh => hb (hh _ (List.getElem_mem hlt)))]
          have hpt : putT l[k] = ([], 4) := if_neg hb
          rw [hpt] at CT
          clear hsz HK hpt hb HP
          generalize strB l[k] = x at *
          generalize strB (putd l k) = z at *
          go_wp2_with fail
          refine CT.out.mono ?_
          rintro e w2 ⟨rfl, hb2⟩
          have HB2 := Lib.hid (HB.out.trans (hb2.mono HB.out.size))
          clear CT hb2 HB a1
          go_wp2
          go_ret2
          exact ⟨by rw [HR.out]; rfl, HB2.out⟩
      · obtain rfl : k = l.length := by omega
        have HR : Hid (R = (putTsB l, 0)) := by
          show _ = _
          have h9 := HK.out
          rw [List.take_length] at h9
          rw [HP.out, if_neg (by rintro (hh | hh); exact h0 hh; exact hh h9)]
        have HA : Hid (strB (putd l l.length) = strB (putTsB l)) := by show _ = _; rw [putd_all]
        clear HK HP
        generalize strB (putd l l.length) = z at *
        go_wp2
        go_ret2
        exact ⟨by rw [HR.out, HA.out]; rfl, HB.out⟩
/-- The bytes of a frame, padded. -/
def padN (n sz : Nat) : Nat := (sz - n % sz) % sz
def frZ (fl : ByteArray) (l : List Txt) (sz : Nat) : ByteArray := (fl ++ strB (digL (putTsB l).length) ++ strB (putTsB l)) ++ zeroS (padN (1 + (digL (putTsB l).length).length + (putTsB l).length) sz)
def frE (fl : ByteArray) (l : List Txt) (sz : Nat) : ByteArray × Int := if l = [] then (⟨#[]⟩, 0) else if ¬ OkL l then (⟨#[]⟩, 4) else (frZ fl l sz, 0)
set_option maxRecDepth 100000 in
set_option maxHeartbeats 2000000 in
theorem rFrame_any (w : World) (A : Option Addr) (c : Nat) (l : List Txt) (h : Txs w (.slice A l.length c) l) (hbig : ∀ t ∈ l, t.length ≤ 1000000) (fl : ByteArray) (hfl : fl.size = 1) (sz : Nat) (hs1 : 1 ≤ sz) (hs2 : sz ≤ 1000) :
    Calls Try.prog 42 #[.slice A l.length c, .string fl, .int .i64 sz] w fun e w' => e = .returned (.tuple #[.string (frE fl l sz).1, .int .i64 (frE fl l sz).2]) ∧ Below w.heap.size w w' := by
  by_cases hne : l = []
  · have HE : Hid (frE fl l sz = (⟨#[]⟩, 0)) := if_pos hne
    have hl0 : l.length = 0 := by rw [hne]; rfl
    rw [hl0]
    clear hne hl0
    go_enter Try.func42, Try.ntmps42
    go_wp2
    go_ret2
    exact ⟨by rw [HE.out]; rfl, Below.refl _ _⟩
  · have hl0 : ¬ ((l.length : Int) = 0) := by
      intro e
      exact hne (List.length_eq_zero_iff.1 (by omega))
    have CP := rputTexts_any w A c l h hbig
    by_cases hok : OkL l
    · have hp : putTs l = (putTsB l, 0) := if_neg (by rintro (hh | hh); have := hok.1; omega; exact hh hok.2)
      have HE : Hid (frE fl l sz = (frZ fl l sz, 0)) := (if_neg hne).trans (if_neg (fun e => e hok))
      rw [hp] at CP
      have hpb := putTsB_len l hok
      have HF : Hid (frZ fl l sz = (fl ++ strB (digL (putTsB l).length) ++ strB (putTsB l)) ++ zeroS (padN (1 + (digL (putTsB l).length).length + (putTsB l).length) sz)) := rfl
      have hps : (strB (putTsB l)).size = (putTsB l).length := strB_size _
      have hdl := digL_len (putTsB l).length 5 (by omega)
      have hds : (strB (digL (putTsB l).length)).size = (digL (putTsB l).length).length := strB_size _
      have CI := fun w => rputInt_any (strB (putTsB l)).size w
      have hpi : putI ((strB (putTsB l)).size : Int) = (digL (putTsB l).length, 0) := by
        rw [hps]
        unfold putI
        rw [if_pos ⟨by omega, by omega⟩, Int.toNat_natCast]
      rw [hpi] at CI
      simp only at CI CP
      have CI := Lib.hid CI
      have CP := Lib.hid CP
      rw [← hds] at hdl
      rw [← hds] at HF
      clear hpi hds
      generalize strB (digL (putTsB l).length) = dg at *
      rw [← hps] at hpb HF
      clear hne hok hp hps h
      generalize strB (putTsB l) = p at *
      obtain ⟨L, hL⟩ : ∃ L, L = 1 + dg.size + p.size := ⟨_, rfl⟩
      rw [← hL] at HF
      have HLs : Hid ((fl ++ dg ++ p).size = L) := by show _ = _; rw [hL, ByteArray.size_append, ByteArray.size_append, hfl]
      have hm := Nat.mod_lt L (show 0 < sz by omega)
      have hm2 := Nat.mod_lt (sz - L % sz) (show 0 < sz by omega)
      have HP : Hid (padN L sz = (sz - L % sz) % sz) := rfl
      have hpl : padN L sz ≤ 1000 := by rw [HP.out]; omega
      have i1 : (L : Int) % (sz : Int) = ((L % sz : Nat) : Int) := rfl
      have i2 : (sz : Int) - ((L % sz : Nat) : Int) = ((sz - L % sz : Nat) : Int) := by omega
      have i3 : ((sz - L % sz : Nat) : Int) % (sz : Int) = ((padN L sz : Nat) : Int) := rfl
      have HI := Lib.hid (show ((sz : Int) - (L : Int) % (sz : Int)) % (sz : Int) = ((padN L sz : Nat) : Int) by rw [i1, i2, i3])
      have CZ := Lib.hid (fun w => rzeros_any (padN L sz) (by omega) w)
      have hzz := zeroS_size (padN L sz)
      have hLb : L ≤ 200000000 := by omega
      have hsz0 : ¬ (sz : Int) = 0 := by omega
      have hms : (0 : Int) ≤ (L : Int) % (sz : Int) ∧ (L : Int) % (sz : Int) < (sz : Int) := by omega
      clear i1 i2 i3 hm hm2 HP hL
      generalize padN L sz = pn at *
      generalize zeroS pn = Z at *
      go_enter Try.func42, Try.ntmps42
      go_wp2_with fail
      refine CP.out.mono ?_
      rintro e w1 ⟨rfl, hb1⟩
      go_wp2_with fail
      refine (CI.out w1).mono ?_
      rintro e w2 ⟨rfl, hb2⟩
      have K2 := hb1.trans (hb2.mono hb1.size)
      clear CP CI hb1 hb2
      go_upto_region 8 with (fail)
      generalize fl ++ dg ++ p = out at *
      have hos := HLs.out
      have hzb : Z.size ≤ 1000 := by omega
      clear hzz
      have HI2 : Hid (-((L : Int) % (sz : Int)) % (sz : Int) = (pn : Int)) := by
        show _ = _
        rw [← HI.out]
        simp
      go_wp2_with fail
      rw [HI2.out]
      refine (CZ.out w2).mono ?_
      rintro e w3 ⟨rfl, hb3⟩
      have K3 := K2.trans (hb3.mono K2.size)
      clear CZ hb3 K2 HI HI2
      go_wp2
      go_ret2
      exact ⟨by rw [HE.out, HF.out]; rfl, K3⟩
    · have hp : putTs l = ([], 4) := by
        refine if_pos ?_
        rcases Nat.lt_or_ge 1000 l.length with h1 | h1
        · exact .inl h1
        · exact .inr fun h2 => hok ⟨h1, h2⟩
      have HE : Hid (frE fl l sz = (⟨#[]⟩, 4)) := (if_neg hne).trans (if_pos hok)
      rw [hp] at CP
      have CP := Lib.hid CP
      clear hne hok hp
      go_enter Try.func42, Try.ntmps42
      go_wp2_with fail
      refine CP.out.mono ?_
      rintro e w1 ⟨rfl, hb1⟩
      go_wp2
      go_ret2
      exact ⟨by rw [HE.out]; rfl, hb1⟩
end Go.Proofs.Ytockmhhiomdlkaa
