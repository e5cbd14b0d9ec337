/- The walk of the law DiskCut: it returns true for any disk and list of numbers. -/
import Derived.Test.YtpihapkclnhklaaDkAwake
namespace Go.Proofs.Ytpihapkclnhklaa
open Go.RowKit

theorem below_chain {a w w' : World} (h : Below a.heap.size a w) (hb : Below w.heap.size w w') : Below a.heap.size a w' := h.trans (hb.mono h.size)

set_option maxRecDepth 100000 in
set_option maxHeartbeats 2000000 in
theorem law_cut (W : World) (v : Value) (d : Dk) (hd : Dsk W v d) (vi : Value) (ps : List Int) (hps : Ints W vi ps) :
    Calls Try.prog 4 #[v, vi] W fun e w' => e = .returned (.bool true) ∧ Below W.heap.size W w' := by
  obtain ⟨vs, vp, rfl, hD⟩ := hd
  obtain ⟨A, c, P, cp, rfl, rfl, hc, hcp, hm, hmp⟩ := hD.form
  obtain ⟨I, ci, rfl, hci, hmi⟩ := hps.form
  have hv := Var.new hD
  have hb := (Below.refl W.heap.size W).alloc (Nat.le_refl _) (.cells #[.int .i64 d.size, .slice A d.secs.length c, .slice P d.pend.length cp, .int .i64 d.left] 26)
  have hi := hps.keep (Keeps.alloc W (.cells #[.int .i64 d.size, .slice A d.secs.length c, .slice P d.pend.length cp, .int .i64 d.left] 26))
  have cg := great_any _ _ _ d hv.dk
  clear hc hcp hm hmp hD hps
  go_enter Try.func4, Try.ntmps4
  go_wp2_with fail
  refine cg.mono ?_
  clear cg
  generalize W.alloc (.cells #[.int .i64 d.size, .slice A d.secs.length c, .slice P d.pend.length cp, .int .i64 d.left] 26) = w1 at *
  rintro e w2 ⟨rfl, hb2⟩
  have hv2 := hv.keep hb2
  have hb3 := hb.trans (hb2.mono (by have := hb.size; omega))
  have hi2 := hi.keep (Keeps.of_below hb2)
  clear hv hb hb2 hi
  cases hgr : greatB d
  · have hgb := greatB_false hgr
    by_cases hl : 20 < (ps.length : Int)
    · have aw := awake_any w2
      go_wp2_with fail
      refine aw.mono ?_
      clear aw
      rintro e w4 ⟨rfl, hb4⟩
      have hb5 := hb3.trans (hb4.mono (by have := hb3.size; omega))
      go_wp2
      go_ret
      exact ⟨rfl, hb5⟩
    · have hpl : d.pend.length ≤ 100000 := by omega
      have KEY : Hid (∀ w', Below w2.heap.size w2 w' → w'.cell? ⟨W.heap.size, 0, none⟩ = some (.int .i64 d.size) ∧ w'.cell? ⟨W.heap.size, 1, none⟩ = some (.slice A d.secs.length c) ∧ w'.cell? ⟨W.heap.size, 2, none⟩ = some (.slice P d.pend.length cp) ∧ w'.cell? ⟨W.heap.size, 3, none⟩ = some (.int .i64 d.left)) := fun w' h => by
        obtain ⟨q0, q1, q2, q3, _⟩ := (hv2.keep h).facts
        exact ⟨q0, q1, q2, q3⟩
      have C1 : Hid (∀ w', Below w2.heap.size w2 w' → Calls Try.prog 16 #[.agg #[.int .i64 d.size, .slice A d.secs.length c, .slice P d.pend.length cp, .int .i64 d.left], .slice I ps.length ci] w' (CutPost w' (cutD d ps))) := fun w' h =>
        cut_any w' _ _ _ d (hv2.keep h).dk hpl ps (hi2.keep (Keeps.of_below h))
      have C2 : Hid (∀ w', Below w2.heap.size w2 w' → Calls Try.prog 17 #[.agg #[.int .i64 d.size, .slice A d.secs.length c, .slice P d.pend.length cp, .int .i64 d.left], .slice I ps.length ci] w' (CutPost w' (cutD d ps))) := fun w' h =>
        rcut_any w' _ _ _ d (hv2.keep h).dk ps (hi2.keep (Keeps.of_below h))
      have k0 : Below w2.heap.size w2 w2 := Below.refl _ _
      have k1 : Below w2.heap.size w2 w2.drew := below_drew1 (Below.refl _ _)
      clear hv2 hi2 hgr hgb hpl
      generalize cutD d ps = dc at *
      go_wp2
      go_region_held3 (fun w' => w'.cell? ⟨W.heap.size, 0, none⟩ = some (.int .i64 d.size) ∧ w'.cell? ⟨W.heap.size, 1, none⟩ = some (.slice A d.secs.length c) ∧ w'.cell? ⟨W.heap.size, 2, none⟩ = some (.slice P d.pend.length cp) ∧ w'.cell? ⟨W.heap.size, 3, none⟩ = some (.int .i64 d.left)) (first | exact KEY.out _ (by assumption) | go_keep)
        (first
          | (go_at_call 16; refine (C1.out _ (by assumption)).mono ?_; rintro e w3 ⟨vs3, vp3, rfl, hD3, hb3'⟩; obtain ⟨A3, c3, P3, cp3, rfl, rfl, _, _, _, _⟩ := hD3.form; have hq3 := below_chain (a := w2) (by assumption) hb3')
          | (go_at_call 17; refine (C2.out _ (by assumption)).mono ?_; rintro e w4 ⟨vs4, vp4, rfl, hD4, hb4'⟩; obtain ⟨A4, c4, P4, cp4, rfl, rfl, _, _, _, _⟩ := hD4.form; have hq4 := below_chain (a := w2) (by assumption) hb4')
          | (go_at_call 14; refine (same_any _ _ _ _ _ dc (by first | assumption | exact DskP.keep (by assumption) (Keeps.of_below (by assumption))) (by first | assumption | exact DskP.keep (by assumption) (Keeps.of_below (by assumption)))).mono ?_; rintro e w5 ⟨rfl, hb5'⟩; have hq5 := below_chain (a := w2) (by assumption) hb5')
          | (go_at_call 11; refine (awake_any _).mono ?_; rintro e w6 ⟨rfl, hb6'⟩; have hq6 := below_chain (a := w2) (by assumption) hb6'))
      all_goals
        have hq := hb3.trans (Below.mono hq6 (by have := hb3.size; omega))
        go_wp2
        go_ret
        exact ⟨rfl, hq⟩
  · have aw := awake_any w2
    go_wp2_with fail
    refine aw.mono ?_
    clear aw
    rintro e w4 ⟨rfl, hb4⟩
    have hb5 := hb3.trans (hb4.mono (by have := hb3.size; omega))
    go_wp2
    go_ret
    exact ⟨rfl, hb5⟩
end Go.Proofs.Ytpihapkclnhklaa
