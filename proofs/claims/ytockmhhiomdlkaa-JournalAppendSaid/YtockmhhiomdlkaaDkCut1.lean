/- The closure of disk.Cut. -/
import Derived.Test.YtockmhhiomdlkaaDkA
import Derived.WalkLawsBesides
namespace Go.Proofs.Ytockmhhiomdlkaa
set_option linter.unusedSimpArgs false
set_option linter.unusedVariables false
open Go.RowKit

/-- What the closure does: it hands back the torn data, and counts. -/
def Cut1Post (W : World) (bn k' : Nat) (s : ByteArray) (e : Ending) (w' : World) : Prop :=
  e = .returned (.string s) ∧ Below bn W w' ∧ Agree (fun g => g = bn) W w' ∧ Blk w' bn 3 #[.int .i64 k']

set_option maxRecDepth 100000 in
set_option maxHeartbeats 1000000 in
theorem cut1_any (W : World) (bn bp bd k : Nat) (I : Option Addr) (ci : Nat) (ps : List Int) (z : Int) (u1 u2 u3 : Value) (old data : ByteArray)
    (hn : Blk W bn 3 #[.int .i64 ((min k ps.length : Nat) : Int)]) (hp : Blk W bp 47 #[.slice I ps.length ci]) (hd : Blk W bd 25 #[.int .i64 z, u1, u2, u3])
    (hps : Ints W (.slice I ps.length ci) ps) (hz0 : 1 ≤ z) (hz1 : z ≤ 512) (h1 : (data.size : Int) = z) (h2 : (old.size : Int) = z) (hk : k ≤ 1000000) :
    Calls Try.prog 55 #[.string old, .string data, .pointer (some ⟨bn, 0, none⟩), .pointer (some ⟨bp, 0, none⟩), .pointer (some ⟨bd, 0, none⟩)] W (Cut1Post W bn (min (k + 1) ps.length) (torn (pick (ps.getD k 0) z) data old)) := by
  obtain ⟨_, _, e0, hci, hmi⟩ := hps.form
  cases e0
  have q0 := hn.cell (j := 0) rfl
  have f0 := hn.frozen 0
  have p0 := hp.cell (j := 0) rfl
  have d0 := hd.cell (j := 0) rfl
  by_cases hlt : k < ps.length
  · obtain ⟨b, off, rfl, a1, a2, a3⟩ := hps.get hlt
    have hg : ps.getD k 0 = ps[k] := by rw [List.getD_eq_getElem?_getD, List.getElem?_eq_getElem hlt]; rfl
    have e1 : min k ps.length = k := by omega
    have e2 : min (k + 1) ps.length = k + 1 := by omega
    rw [e1] at q0 hn
    rw [e2, hg]
    clear e1 e2 hg
    generalize ps[k] = pk at *
    have b1 : pk.tmod (z + 1) < z + 1 := Int.tmod_lt_of_pos pk (show 0 < z + 1 by omega)
    have b2 : -(z + 1) < pk.tmod (z + 1) := by
      have := Int.tmod_lt_of_pos (-pk) (show 0 < z + 1 by omega)
      rw [Int.neg_tmod] at this
      omega
    have hz : ((z + 1 : Int) == 0) = false := by rw [beq_eq_false_iff_ne]; omega
    have zs : IntKind.i64.wrap (z + 1) = z + 1 := i64w (by omega) (by omega)
    have hq := pick_le pk z hz0
    generalize hqe : pick pk z = q at *
    have hqd : q ≤ data.size := by omega
    have hqo : q ≤ old.size := by omega
    have hcase : pk.tmod (z + 1) = (q : Int) ∨ (pk.tmod (z + 1) = -(q : Int) ∧ 0 < q) := by unfold pick at hqe; omega
    clear hqe b1 b2
    rcases hcase with htm | ⟨htm, hq1⟩
    all_goals
      go_enter Try.func55, Try.ntmps55
      go_wp2
      go_quiet (fail)
      rename Nat => nq
      have hB := ((below_drewN' (Below.refl bn W) nq).setCell (p := ⟨bn, 0, none⟩) (Nat.le_refl _) (.int .i64 ((k : Int) + 1)))
      have hA := (Agree.drewN (M := fun g => g = bn) W nq).trans (Agree.set1 (W.drewN nq) bn 0 (.int .i64 ((k : Int) + 1)))
      have hN : Blk ((W.drewN nq).setCell ⟨bn, 0, none⟩ (.int .i64 ((k : Int) + 1))) bn 3 #[.int .i64 ((k + 1 : Nat) : Int)] := (hn.drewN nq).set 0 _
      go_wp2
      go_quiet (fail)
      go_wp2
      go_ret
      exact ⟨rfl, below_drewN' hB _, hA.trans (Agree.drewN _ _), hN.drewN _⟩
  · have hg : ps.getD k 0 = 0 := by rw [List.getD_eq_getElem?_getD, List.getElem?_eq_none (by omega)]; rfl
    have e1 : min k ps.length = ps.length := by omega
    have e2 : min (k + 1) ps.length = ps.length := by omega
    rw [e1] at q0 hn
    rw [e2, hg, pick_zero, torn_zero]
    clear e1 e2 hg
    go_enter Try.func55, Try.ntmps55
    go_wp2
    go_quiet (fail)
    go_wp2
    go_ret
    exact ⟨rfl, below_drewN' (Below.refl _ _) _, Agree.drewN _ _, hn.drewN _⟩
end Go.Proofs.Ytockmhhiomdlkaa
