/- linediff.common: the lengths of the common beginning and end. -/
import Derived.Test.YthobbcafemkhbaaRead
import Derived.Test.YthobbcafemkhbaaPlain
import Derived.Deep.DeepCutAuto
import Derived.Deep.CutBlock
import Derived.Deep.LoopGhost
namespace Go.Proofs.Ythobbcafemkhbaa
open Go.RowKit

theorem ge_of_eq {a : List ByteArray} {k : Nat} {x : ByteArray} (h : a[k]? = some x) : k < a.length := (List.getElem?_eq_some_iff.1 h).1

set_option maxHeartbeats 1000000 in
theorem common_any (w : World) (va vb : Value) (xs ys : List ByteArray) (ha : Strs w va xs) (hb : Strs w vb ys) :
    Calls Try.prog 78 #[va, vb] w fun e w' => e = .returned (.tuple #[.int .i64 (cpre xs ys), .int .i64 (csuf xs ys)]) ∧ Drawn w w' := by
  obtain ⟨A, c, rfl, hc, hm⟩ := ha.form
  obtain ⟨B, d, rfl, hc', hm'⟩ := hb.form
  go_enter Try.func78, Try.ntmps78
  go_upto_block 0 with (fail)
  go_cut [6] (fun i wx => ∃ k : Nat, k ≤ xs.length ∧ k ≤ ys.length ∧ i = .int .i64 k ∧ Hid (cpre xs ys = k) ∧ Drawn w wx)
  case first =>
    go_wp2
    go_loopw [6] (fun i wr => ∃ k : Nat, k ≤ xs.length ∧ k ≤ ys.length ∧ i = .int .i64 k ∧ Hid (xs.take k = ys.take k) ∧ Drawn w wr) (fun i _ => xs.length - (intOf i).toNat)
    case atStart => exact ⟨0, by omega, by omega, rfl, rfl, Drawn.refl _⟩
    case round =>
      obtain ⟨k, hk, hk', rfl, HT, hd⟩ := hrel
      have ha := ha.keep hd.keeps
      have hb := hb.keep hd.keeps
      by_cases hlt : k < xs.length
      · by_cases hlt' : k < ys.length
        · obtain ⟨b, off, rfl, ha1⟩ := ha.get hlt
          obtain ⟨b', off', rfl, hb1⟩ := hb.get hlt'
          by_cases he : xs[k] = ys[k]
          · have hbe := str_eq he
            have HE := Lib.hid he
            clear he
            go_wp2
            go_quiet (fail)
            go_wp2
            go_roundw
            case rel => exact ⟨k + 1, by omega, by omega, by go_num, take_succ_eq hlt hlt' HT.out HE.out, hd.drewN _⟩
            case measure => simp [intOf]; omega
          · have hbe := str_ne he
            have HE : Hid (cpre xs ys = k) := cpre_of _ _ k hk hk' HT.out fun _ _ => he
            clear he
            go_wp2
            go_quiet (fail)
            go_wp2
            go_meet
            exact ⟨k, hk, hk', rfl, HE, hd.drewN _⟩
        · have HE : Hid (cpre xs ys = k) := cpre_of _ _ k hk hk' HT.out fun _ h => absurd h hlt'
          have h2 : decide (k < ys.length) = false := by simpa using hlt'
          go_wp2
          go_quiet (fail)
          go_wp2
          go_meet
          exact ⟨k, hk, hk', rfl, HE, hd.drewN _⟩
      · have HE : Hid (cpre xs ys = k) := cpre_of _ _ k hk hk' HT.out fun h _ => absurd h hlt
        have h2 : decide (k < xs.length) = false := by simpa using hlt
        go_wp2
        go_quiet (fail)
        go_wp2
        go_meet
        exact ⟨k, hk, hk', rfl, HE, hd.drewN _⟩
  case rest =>
    obtain ⟨s, h1, h2, rfl, HS, hd⟩ := hcut
    have ha := ha.keep hd.keeps
    have hb := hb.keep hd.keeps
    have HD := Lib.hid hd
    clear hd
    go_upto_block 2 with (fail)
    go_cut [7] (fun i wx => ∃ k : Nat, i = .int .i64 k ∧ Hid (csuf xs ys = k) ∧ Drawn wc wx)
    case first =>
      go_wp2
      go_loopw [7] (fun i wr => ∃ k : Nat, s + k ≤ xs.length ∧ s + k ≤ ys.length ∧ i = .int .i64 k ∧ Hid (∀ i, i < k → xs[xs.length - 1 - i]? = ys[ys.length - 1 - i]?) ∧ Drawn wc wr) (fun i _ => xs.length - (intOf i).toNat)
      case atStart => exact ⟨0, by omega, by omega, rfl, fun i hi => by omega, Drawn.refl _⟩
      case round =>
        obtain ⟨k, hk, hk', rfl, HT, hd⟩ := hrel
        have ha := ha.keep hd.keeps
        have hb := hb.keep hd.keeps
        have z1 : IntKind.i64.wrap ((s : Int) + k) = (s : Int) + k := i64w (by omega) (by omega)
        by_cases hlt : s + k < xs.length
        · by_cases hlt' : s + k < ys.length
          · have z2 : IntKind.i64.wrap ((xs.length : Int) - 1) = (xs.length : Int) - 1 := i64w (by omega) (by omega)
            have z3 : IntKind.i64.wrap ((xs.length : Int) - 1 - k) = (xs.length : Int) - 1 - k := i64w (by omega) (by omega)
            have z4 : IntKind.i64.wrap ((ys.length : Int) - 1) = (ys.length : Int) - 1 := i64w (by omega) (by omega)
            have z5 : IntKind.i64.wrap ((ys.length : Int) - 1 - k) = (ys.length : Int) - 1 - k := i64w (by omega) (by omega)
            have z6 : ((xs.length : Int) - 1 - k).toNat = xs.length - 1 - k := by omega
            have z7 : ((ys.length : Int) - 1 - k).toNat = ys.length - 1 - k := by omega
            have g1 : (s : Int) + k < xs.length := by omega
            have g2 : (s : Int) + k < ys.length := by omega
            have z8 : (0 : Int) ≤ (xs.length : Int) - 1 - k := by omega
            have z9 : (0 : Int) ≤ (ys.length : Int) - 1 - k := by omega
            obtain ⟨b, off, rfl, ha1⟩ := ha.get (i := xs.length - 1 - k) (by omega)
            obtain ⟨b', off', rfl, hb1⟩ := hb.get (i := ys.length - 1 - k) (by omega)
            by_cases he : xs[xs.length - 1 - k] = ys[ys.length - 1 - k]
            · have hbe := str_eq he
              have HE : Hid (xs[xs.length - 1 - k]? = ys[ys.length - 1 - k]?) := by
                rw [List.getElem?_eq_getElem (by omega), List.getElem?_eq_getElem (by omega), he]; rfl
              clear he
              go_wp2
              go_quiet (fail)
              go_wp2
              go_roundw
              case rel => exact ⟨k + 1, by omega, by omega, by go_num, fun i hi => by
                by_cases e : i = k
                · subst e; exact HE.out
                · exact HT.out i (by omega), hd.drewN _⟩
              case measure => simp [intOf]; omega
            · have hbe := str_ne he
              have HE : Hid (csuf xs ys = k) := csuf_of HS.out k (by omega) (by omega) HT.out fun _ _ e => he (by
                rw [List.getElem?_eq_getElem (by omega), List.getElem?_eq_getElem (by omega)] at e
                exact Option.some.inj e)
              clear he
              go_wp2
              go_quiet (fail)
              go_wp2
              go_meet
              exact ⟨k, rfl, HE, hd.drewN _⟩
          · have HE : Hid (csuf xs ys = k) := csuf_of HS.out k (by omega) (by omega) HT.out fun _ h => absurd h hlt'
            have g1 : (s : Int) + k < xs.length := by omega
            have h2 : decide ((s : Int) + k < ys.length) = false := by simp; omega
            go_wp2
            go_quiet (fail)
            go_wp2
            go_meet
            exact ⟨k, rfl, HE, hd.drewN _⟩
        · have HE : Hid (csuf xs ys = k) := csuf_of HS.out k (by omega) (by omega) HT.out fun h _ => absurd h hlt
          have h2 : decide ((s : Int) + k < xs.length) = false := by simp; omega
          go_wp2
          go_quiet (fail)
          go_wp2
          go_meet
          exact ⟨k, rfl, HE, hd.drewN _⟩
    case rest =>
      obtain ⟨k, rfl, HE, hd⟩ := hcut
      go_wp2
      go_ret2
      exact ⟨ret_int2 (by rw [HS.out]) (by rw [HE.out]), HD.out.trans hd⟩
end Go.Proofs.Ythobbcafemkhbaa
