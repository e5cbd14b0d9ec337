/- The walk of the law TextmergeUnmark. -/
import Derived.Test.YthobbcafemkhbaaTmRunm
import Derived.Test.YthobbcafemkhbaaTmAwake
namespace Go.Proofs.Ythobbcafemkhbaa
open Go.RowKit
set_option linter.unusedVariables false

theorem lns_len3 (s : ByteArray) : (lns s).length ≤ s.size := by
  have key : ∀ {l : List ByteArray}, (∀ s ∈ l, 0 < s.size) → l.length ≤ (textB l).size := fun {l} => by
    induction l with
    | nil => exact fun _ => Nat.zero_le _
    | cons y l ih =>
      intro h
      have e : (textB (y :: l)).size = y.size + (textB l).size := by rw [textB_size, textB_size]; simp
      have h1 := h y List.mem_cons_self
      have h2 := ih fun s hs => h s (List.mem_cons_of_mem _ hs)
      rw [e, List.length_cons]; omega
  have := key (l := lns s) fun x hx => oneL_pos ((lns_prp s).1 x hx)
  rwa [textB_lns] at this

set_option maxRecDepth 100000 in
set_option maxHeartbeats 1000000 in
theorem law_unmark (w : World) (s : ByteArray) (hs : s.size ≤ 9223372036854775807) :
    Calls Try.prog 8 #[.string s] w fun e w' => e = .returned (.bool true) ∧ Below w.heap.size w w' := by
  have AW := Lib.hid awake19_any
  by_cases hm : s.size ≤ 400
  · have hd : decide ((400 : Int) < (s.size : Int)) = false := by simp; omega
    have hl := lns_len3 s
    have C1 := Lib.hid (fun w' => cunm_any w' s (by omega) (by omega))
    have C2 := Lib.hid (fun w' => runm_any w' s (by omega) (by omega))
    clear hl
    generalize unmP s = p at *
    obtain ⟨L, z⟩ := p
    go_enter Try.func8, Try.ntmps8
    go_wp2_with fail
    refine (C1.out _).mono ?_
    rintro e w1 ⟨v1, rfl, r1, hB⟩
    obtain ⟨A1, c1, rfl, _, _⟩ := r1.form
    clear C1
    go_wp2_with fail
    refine (C2.out _).mono ?_
    rintro e w2 ⟨v2, rfl, r2, b2⟩
    have hB := hB.trans (b2.mono hB.size)
    have r1 := r1.keep (Keeps.of_below b2)
    obtain ⟨A2, c2, rfl, _, _⟩ := r2.form
    have cs := rgSame_any w2 _ _ _ _ r1 r2
    rw [eqB_true rfl] at cs
    have CS := Lib.hid cs
    clear C2 b2 cs r1 r2
    go_wp2_with fail
    refine CS.out.mono ?_
    rintro e w3 ⟨rfl, n, rfl⟩
    have hB := below_drewN' hB n
    generalize w2.drewN n = w3 at *
    clear CS
    go_wp2_with fail
    refine (AW.out w3).mono ?_
    rintro e w4 ⟨rfl, b4⟩
    have hB := hB.trans (b4.mono hB.size)
    go_wp2
    go_ret
    exact ⟨rfl, hB⟩
  · have hd : decide ((400 : Int) < (s.size : Int)) = true := by simp; omega
    go_enter Try.func8, Try.ntmps8
    go_wp2_with fail
    refine (AW.out _).mono ?_
    rintro e w1 ⟨rfl, b1⟩
    go_wp2
    go_ret
    exact ⟨rfl, b1⟩
end Go.Proofs.Ythobbcafemkhbaa
