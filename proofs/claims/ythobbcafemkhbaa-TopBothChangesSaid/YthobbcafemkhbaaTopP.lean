/- Plain: a clean merge of texts has both changes. -/
import Derived.Test.YthobbcafemkhbaaTop
import Derived.Test.YthobbcafemkhbaaTmGood
import Derived.Test.YthobbcafemkhbaaTmLaw1
namespace Go.Proofs.Ythobbcafemkhbaa
set_option linter.unusedVariables false

theorem cntX_eq (x : ByteArray) (l : List ByteArray) : cntX x l = @List.count ByteArray instBEqOfDecidableEq x l := rfl
theorem onlyP_in {others : List ByteArray} {x : ByteArray} (h : x ∈ others) : onlyP others x = false := by
  unfold onlyP
  rw [(Lib.containsS_iff _ _).2 h]; rfl
theorem one_of {full : List Rg} (hv : vldF false full = true) (hc : cntL full = 0) : full = addL [] (txtR full) := cln_one hc ((vldF_iff _ _).1 hv).2
theorem swap_one (t : List ByteArray) : (addL ([] : List Rg) t).map swapR = addL [] t := by
  by_cases h : t = []
  · subst h; rw [addL_nil]; rfl
  · rw [addL_empty h]; rfl
theorem lns_txt {full : List Rg} (hv : vldF false full = true) (hc : cntL full = 0) : lns (textB (txtR full)) = txtR full := by
  have h1 := one_of hv hc
  obtain ⟨h2, _⟩ := (vldF_iff _ _).1 hv
  apply lns_textB
  by_cases h : txtR full = []
  · rw [h]; exact ⟨(fun _ h => by cases h), (fun _ h => by cases h)⟩
  · rw [addL_empty h] at h1
    rw [h1] at h2
    rcases h2 with h2 | ⟨L', x, e, _, h4⟩
    · cases h2
    · have e' := List.append_inj_right' (s₁ := []) e rfl
      have : x = (false, [], txtR full, []) := by
        have := List.cons.inj e'
        exact this.1.symm
      rw [this] at h4
      exact h4.2.1
/-- What the law finds. -/
structure TopF (a b c : ByteArray) (full other : List Rg) (T : List ByteArray) : Prop where
  txt : lns (textB T) = T
  cf : clnS full = (textB T, true)
  co : clnS other = (textB T, true)
  o1 : T.filter (onlyP (lns a ++ lns c)) = (lns b).filter (onlyP (lns a ++ lns c))
  o2 : T.filter (onlyP (lns a ++ lns b)) = (lns c).filter (onlyP (lns a ++ lns b))
  ct : ∀ x, cntX x (lns a) = 0 → cntX x (lns b) ≤ cntX x T ∧ cntX x (lns c) ≤ cntX x T ∧ cntX x T ≤ cntX x (lns b) + cntX x (lns c)
  len : T.length ≤ 1000
  sz : (textB T).size ≤ 1000000
theorem top_facts {a b c : ByteArray} (ha : few1 a = true) (hb : few1 b = true) (hc : few1 c = true) :
    (∃ T, TopF a b c (mergeL (lns a) (lns b) (lns c)) (mergeL (lns a) (lns c) (lns b)) T) ∨ (clnS (mergeL (lns a) (lns b) (lns c)) = (⟨#[]⟩, false) ∧ clnS (mergeL (lns a) (lns c) (lns b)) = (⟨#[]⟩, false)) := by
  have hsw := merge_swap (lns a) (lns b) (lns c)
  have hv := vld_merge a b c
  have hv2 := vld_merge a c b
  have hg := Good.merge ha hb hc
  by_cases h0 : cntL (mergeL (lns a) (lns b) (lns c)) = 0
  · left
    have h1 := one_of hv h0
    have heq : mergeL (lns a) (lns c) (lns b) = mergeL (lns a) (lns b) (lns c) := by
      rw [← hsw, h1, swap_one]
    have hcf : clnS (mergeL (lns a) (lns b) (lns c)) = (textB (txtR (mergeL (lns a) (lns b) (lns c))), true) := by
      exact (clnS_valid hv).trans (if_pos h0)
    have hlen : (txtR (mergeL (lns a) (lns b) (lns c))).length ≤ 60 := by
      by_cases h : txtR (mergeL (lns a) (lns b) (lns c)) = []
      · rw [h]; simp
      · rw [addL_empty h] at h1
        have := totR_mem (L := mergeL (lns a) (lns b) (lns c)) (x := (false, [], txtR (mergeL (lns a) (lns b) (lns c)), [])) (by
          generalize txtR (mergeL (lns a) (lns b) (lns c)) = t at *
          rw [h1]; exact List.mem_singleton.2 rfl)
        have h2 := hg.t
        simp only at this
        omega
    have hsz : ∀ s ∈ txtR (mergeL (lns a) (lns b) (lns c)), s.size ≤ 200 := fun s hs => by
      unfold txtR at hs
      obtain ⟨l, hl, hs⟩ := List.mem_flatten.1 hs
      obtain ⟨x, hx, rfl⟩ := List.mem_map.1 hl
      exact (all_str.1 hg.z x hx).2.1 s hs
    refine ⟨_, lns_txt hv h0, hcf, by rw [heq]; exact hcf, ?_, ?_, fun x hx => ?_, by omega, ?_⟩
    · exact merge_only _ _ _ _ (fun x hx => onlyP_in (List.mem_append_left _ hx)) (fun x hx => onlyP_in (List.mem_append_right _ hx)) h0
    · have := merge_only (lns a) (lns c) (lns b) (onlyP (lns a ++ lns b)) (fun x hx => onlyP_in (List.mem_append_left _ hx)) (fun x hx => onlyP_in (List.mem_append_right _ hx)) (by rw [heq]; exact h0)
      rwa [heq] at this
    · exact merge_counts (lns a) (lns b) (lns c) x hx h0
    · have := sum_le hsz
      rw [textB_size]
      have : (txtR (mergeL (lns a) (lns b) (lns c))).length * 200 ≤ 60 * 200 := Nat.mul_le_mul_right _ hlen
      omega
  · right
    have h2 : cntL (mergeL (lns a) (lns c) (lns b)) = cntL (mergeL (lns a) (lns b) (lns c)) := by
      rw [← hsw]
      unfold cntL
      rw [List.countP_map]
      congr 1
      funext x
      obtain ⟨c, x⟩ := x
      cases c <;> rfl
    exact ⟨(clnS_valid hv).trans (if_neg h0), (clnS_valid hv2).trans (if_neg (fun e => h0 (h2 ▸ e)))⟩
theorem good_cl {L : List Rg} (g : Good L) : ∀ x ∈ L, x.2.2.1.length ≤ 100000 ∧ (textB x.2.2.1).size ≤ 100000000 := fun x hx => by
  have h1 := totR_mem hx
  have h2 := g.t
  have h3 := sum_le ((all_str.1 g.z x hx).2.1)
  have h4 : x.2.2.1.length * 200 ≤ 60 * 200 := Nat.mul_le_mul_right _ (by omega)
  rw [textB_size]
  exact ⟨by omega, by omega⟩
end Go.Proofs.Ythobbcafemkhbaa
