/- The walk of the law TextmergeMarks. -/
import Derived.Test.YthobbcafemkhbaaTmCunm
import Derived.Test.YthobbcafemkhbaaTmCmark
import Derived.Test.YthobbcafemkhbaaTmGood
import Derived.Test.YthobbcafemkhbaaTmLaw2
namespace Go.Proofs.Ythobbcafemkhbaa
open Go.RowKit
set_option linter.unusedVariables false

theorem vld_ok : ∀ {L : List Rg} {pp : Bool}, vldF pp L = true → ∀ x ∈ L, ∃ p, okR p x
  | [], _, _, _, h => by cases h
  | y :: t, pp, h, x, hx => by
    have h' : (lnB t.isEmpty y && (okB pp y && vldF (!y.1) t)) = true := h
    rw [Bool.and_eq_true, Bool.and_eq_true] at h'
    obtain ⟨_, h2, h3⟩ := h'
    rcases List.mem_cons.1 hx with rfl | hx
    · exact ⟨pp, (okB_iff _ _).1 h2⟩
    · exact vld_ok h3 x hx
/-- The lists of a region stand in its marked text. -/
theorem mk_sub {x : Rg} {p : Bool} (h : okR p x) : ((∀ s ∈ x.2.1, s ∈ mkLines x) ∧ (∀ s ∈ x.2.2.1, s ∈ mkLines x) ∧ ∀ s ∈ x.2.2.2, s ∈ mkLines x) ∧ (x.2.1.length ≤ (mkLines x).length ∧ x.2.2.1.length ≤ (mkLines x).length ∧ x.2.2.2.length ≤ (mkLines x).length ∧ 1 ≤ (mkLines x).length) := by
  obtain ⟨c, b, l, r⟩ := x
  cases c
  · obtain ⟨h1, h2, h3, h4⟩ := okR_plain.1 h
    subst h3 h4
    have := List.length_pos_iff.2 h2
    exact ⟨⟨(fun _ h => by cases h), (fun s hs => hs), (fun _ h => by cases h)⟩, Nat.zero_le _, Nat.le_refl _, Nat.zero_le _, this⟩
  · have e : mkLines (true, b, l, r) = [mk0] ++ l ++ [mk1] ++ b ++ [mk2] ++ r ++ [mk3] := by unfold mkLines; simp
    rw [e]
    refine ⟨⟨fun s hs => by simp [show s ∈ b from hs], fun s hs => by simp [show s ∈ l from hs], fun s hs => by simp [show s ∈ r from hs]⟩, ?_, ?_, ?_, ?_⟩
    · show b.length ≤ _; simp; omega
    · show l.length ≤ _; simp; omega
    · show r.length ≤ _; simp; omega
    · simp
theorem mkAll_mem {L : List Rg} {x : Rg} (h : x ∈ L) {s : ByteArray} (hs : s ∈ mkLines x) : s ∈ mkAll L := List.mem_flatMap.2 ⟨x, h, hs⟩
theorem mkAll_one : ∀ {L : List Rg} {x : Rg}, x ∈ L → (mkLines x).length ≤ (mkAll L).length
  | y :: L, x, h => by
    have e : mkAll (y :: L) = mkLines y ++ mkAll L := by simp [mkAll]
    rw [e, List.length_append]
    rcases List.mem_cons.1 h with rfl | h
    · omega
    · have := mkAll_one h; omega
theorem mkAll_count : ∀ {L : List Rg}, (∀ x ∈ L, 1 ≤ (mkLines x).length) → L.length ≤ (mkAll L).length
  | [], _ => Nat.zero_le _
  | y :: L, h => by
    have e : mkAll (y :: L) = mkLines y ++ mkAll L := by simp [mkAll]
    rw [e, List.length_append, List.length_cons]
    have h1 := h y List.mem_cons_self
    have h2 := mkAll_count fun x hx => h x (List.mem_cons_of_mem _ hx)
    omega
/-- Mark's contract for valid regions with a small text. -/
theorem cmark_small {L : List Rg} (hv : vldF false L = true) (hl : (mkAll L).length ≤ 100000) (hT : (textB (mkAll L)).size ≤ 10000000) (w : World) (v : Value) (h : Rgs w v L) :
    Calls Try.prog 29 #[v] w fun e w' => e = .returned (.tuple #[.string (markS L).1, .int .i64 (markS L).2]) ∧ Below w.heap.size w w' := by
  have hz : ∀ s ∈ mkAll L, s.size ≤ 1000000000 := fun s hs => by have := size_mem hs; omega
  refine cmark_any w v L h (fun x hx => ?_) ?_ (fun x hx => ?_) (by omega)
  · obtain ⟨p, hp⟩ := vld_ok hv x hx
    obtain ⟨⟨h1, h2, h3⟩, _⟩ := mk_sub hp
    exact ⟨fun s hs => hz s (mkAll_mem hx (h1 s hs)), fun s hs => hz s (mkAll_mem hx (h2 s hs)), fun s hs => hz s (mkAll_mem hx (h3 s hs))⟩
  · have := mkAll_count (L := L) fun x hx => by
      obtain ⟨p, hp⟩ := vld_ok hv x hx
      exact (mk_sub hp).2.2.2.2
    omega
  · obtain ⟨p, hp⟩ := vld_ok hv x hx
    obtain ⟨_, h1, h2, h3, _⟩ := mk_sub hp
    have := mkAll_one hx
    exact ⟨by omega, by omega, by omega⟩
theorem len_size : ∀ {l : List ByteArray}, (∀ s ∈ l, 0 < s.size) → l.length ≤ (textB l).size
  | [], _ => Nat.zero_le _
  | y :: l, h => by
    have e : (textB (y :: l)).size = y.size + (textB l).size := by rw [textB_size, textB_size]; simp
    have h1 := h y List.mem_cons_self
    have h2 := len_size fun s hs => h s (List.mem_cons_of_mem _ hs)
    rw [e, List.length_cons]; omega
theorem lns_len2 (s : ByteArray) : (lns s).length ≤ s.size := by
  have := len_size (l := lns s) fun x hx => oneL_pos ((lns_prp s).1 x hx)
  rwa [textB_lns] at this
/-- What Unmark accepts: its regions are valid, and their lines are the text's. -/
theorem unm_some {m : ByteArray} {L : List Rg} (h : unmS m = some L) : vldF false L = true ∧ mkAll L = lns m ∧ markS L = (m, 0) := by
  unfold unmS at h
  cases hs : stS (lns m) with
  | none => rw [hs] at h; cases h
  | some L' =>
    rw [hs] at h
    have h' : (if vldF false L' = true then some L' else none) = some L := h
    by_cases hv : vldF false L' = true
    · rw [if_pos hv] at h'
      obtain rfl := Option.some.inj h'
      have h1 := st_lines endB _ 0 cur0 [] L' curOk.zero hs
      rw [map_nrm_end (st_loose _ _ _ _ _ hs).2] at h1
      refine ⟨hv, by simpa [mkAll, parT] using h1, ?_⟩
      rw [mark_read hs, if_pos hv]
    · rw [if_neg hv] at h'; cases h'
theorem unmP_some {m : ByteArray} {L : List Rg} (h : unmS m = some L) : unmP m = (L, 0) := by unfold unmP; rw [h]
theorem unmP_none {m : ByteArray} (h : unmS m = none) : unmP m = ([], 3) := by unfold unmP; rw [h]
theorem mkLines_len (x : Rg) : (mkLines x).length ≤ x.2.1.length + x.2.2.1.length + x.2.2.2.length + 4 := by
  obtain ⟨c, b, l, r⟩ := x
  cases c
  · show l.length ≤ _; show l.length ≤ b.length + l.length + r.length + 4; omega
  · have e : mkLines (true, b, l, r) = [mk0] ++ l ++ [mk1] ++ b ++ [mk2] ++ r ++ [mk3] := by unfold mkLines; simp
    rw [e]; simp; omega
theorem mkAll_len' {n : Nat} : ∀ (L : List Rg), (∀ x ∈ L, (mkLines x).length ≤ n) → (mkAll L).length ≤ L.length * n
  | [], _ => by simp [mkAll]
  | x :: L, h => by
    have h1 := mkAll_len' L fun y hy => h y (List.mem_cons_of_mem _ hy)
    have h2 := h x List.mem_cons_self
    have e : mkAll (x :: L) = mkLines x ++ mkAll L := by simp [mkAll]
    rw [e, List.length_append, List.length_cons, Nat.add_mul]
    omega
theorem Good.mkLen {L : List Rg} (g : Good L) : (mkAll L).length ≤ 20000 := by
  have h1 := mkAll_len' (n := 184) L fun x hx => by
    have h1 := totR_mem hx
    have h2 := g.t
    have h3 := mkLines_len x
    omega
  have := g.n
  have : L.length * 184 ≤ 41 * 184 := Nat.mul_le_mul_right _ this
  omega
theorem Good.mkSize {L : List Rg} (g : Good L) : (textB (mkAll L)).size ≤ 10000000 := by
  have h1 := g.mkLen
  have hs : ∀ s ∈ mkAll L, s.size ≤ 200 := fun s hs => by
    obtain ⟨x, hx, hs⟩ := List.mem_flatMap.1 hs
    obtain ⟨a1, a2, a3⟩ := all_str.1 g.z x hx
    obtain ⟨c, b, l, r⟩ := x
    cases c
    · exact a2 s hs
    · have e : mkLines (true, b, l, r) = [mk0] ++ l ++ [mk1] ++ b ++ [mk2] ++ r ++ [mk3] := by unfold mkLines; simp
      rw [e] at hs
      have hm : ∀ m ∈ mks, m.size ≤ 200 := fun m hm => by rw [mks_size m hm]; omega
      simp only [List.mem_append, List.mem_singleton] at hs
      rcases hs with (((((rfl | hs) | rfl) | hs) | rfl) | hs) | rfl
      · exact hm _ (by simp [mks])
      · exact a2 s hs
      · exact hm _ (by simp [mks])
      · exact a1 s hs
      · exact hm _ (by simp [mks])
      · exact a3 s hs
      · exact hm _ (by simp [mks])
  have h2 := sum_le hs
  have h3 : (mkAll L).length * 200 ≤ 20000 * 200 := Nat.mul_le_mul_right _ h1
  rw [textB_size]
  omega

/-- The end of the law. -/
theorem marks_end {full : List Rg} (g : Good full) : (∃ s, markS full = (s, 3)) ∨ (∃ s, markS full = (s, 0) ∧ unmP s = (full, 0) ∧ s.size ≤ 10000000 ∧ (lns s).length ≤ 100000) := by
  unfold markS
  rw [if_pos g.v]
  cases hu : full.any unfR
  · right
    rw [if_neg (by simp)]
    refine ⟨_, rfl, unmP_some (unm_mark g.v hu), g.mkSize, ?_⟩
    obtain ⟨h1, _⟩ := (vldF_iff _ _).1 g.v
    rw [lns_textB _ (mkAll_prp h1 (any_unf.1 hu))]
    have := g.mkLen
    omega
  · left
    rw [if_pos rfl]
    exact ⟨_, rfl⟩

set_option maxRecDepth 100000 in
set_option maxHeartbeats 2000000 in
/-- From the merging on. -/
theorem law_marks (w : World) (a : ByteArray) (ha : a.size ≤ 9223372036854775807) (b : ByteArray) (hb : b.size ≤ 9223372036854775807) (c : ByteArray) (hc : c.size ≤ 9223372036854775807) (m : ByteArray) (hm : m.size ≤ 9223372036854775807) :
    Calls Try.prog 10 #[.string a, .string b, .string c, .string m] w fun e w' => e = .returned (.bool true) ∧ Below w.heap.size w w' := by
  have cf := Lib.hid (few_lit3 w a b c)
  have AW := Lib.hid awake19_any
  cases hf : (few1 a && (few1 b && few1 c))
  · rw [hf] at cf
    clear hf
    go_enter Try.func10, Try.ntmps10
    go_wp2_with fail
    refine cf.out.mono ?_
    rintro e w1 ⟨rfl, b1⟩
    go_wp2_with fail
    refine (AW.out w1).mono ?_
    rintro e w2 ⟨rfl, b2⟩
    have hB := b1.trans (b2.mono b1.size)
    go_wp2
    go_ret
    exact ⟨rfl, hB⟩
  · rw [hf] at cf
    rw [Bool.and_eq_true, Bool.and_eq_true] at hf
    obtain ⟨fa, fb, fc⟩ := hf
    have cm := Lib.hid (merge_len fa fb fc)
    have hg := Good.merge fa fb fc
    clear fa fb fc
    generalize mergeL (lns a) (lns b) (lns c) = full at *
    have hend := marks_end hg
    have CK := Lib.hid (cmark_small hg.v (by have := hg.mkLen; omega) hg.mkSize)
    clear hg
    obtain ⟨ms, me⟩ : ∃ ms, markS full = ms := ⟨_, rfl⟩
    rw [me] at CK hend
    clear me
    have HEND := Lib.hid hend
    clear hend
    by_cases hml : m.size ≤ 400
    · have hd : decide ((400 : Int) < (m.size : Int)) = false := by simp; omega
      have CU := Lib.hid (fun w' => cunm_any w' m (by omega) (by have := lns_len2 m; omega))
      have hkey : (∃ L, unmP m = (L, 0) ∧ ∀ w' v, Rgs w' v L → Calls Try.prog 29 #[v] w' fun e w'' => e = .returned (.tuple #[.string m, .int .i64 0]) ∧ Below w'.heap.size w' w'') ∨ unmP m = ([], 3) := by
        cases hu : unmS m with
        | none => exact .inr (unmP_none hu)
        | some L =>
          refine .inl ⟨L, unmP_some hu, fun w' v hr => ?_⟩
          obtain ⟨h1, h2, h3⟩ := unm_some hu
          have := cmark_small h1 (by rw [h2]; have := lns_len2 m; omega) (by rw [h2, textB_lns]; omega) w' v hr
          rwa [h3] at this
      have HK := Lib.hid hkey
      clear hkey
      obtain ⟨up, hup⟩ : ∃ P, unmP m = P := ⟨_, rfl⟩
      rw [hup] at CU HK
      clear hup
      go_enter Try.func10, Try.ntmps10
      go_wp2_with fail
      refine cf.out.mono ?_
      rintro e w1 ⟨rfl, b1⟩
      clear cf
      go_wp2_with fail
      refine (CU.out w1).mono ?_
      rintro e w2 ⟨v2, rfl, r2, b2⟩
      have hB := b1.trans (b2.mono b1.size)
      clear b1 b2 CU
      obtain ⟨A2, c2, rfl, _, _⟩ := r2.form
      rcases HK.out with ⟨L, rfl, hL⟩ | rfl
      · have CK1 := Lib.hid (hL w2 _ r2)
        clear hL r2 HK
        go_wp2_with fail
        refine CK1.out.mono ?_
        rintro e w3 ⟨rfl, b3⟩
        have hB := hB.trans (b3.mono hB.size)
        clear CK1 b3
        go_wp2_with fail
        refine (cm.out _).mono ?_
        rintro e w4 ⟨v4, rfl, r4, b4⟩
        have hB := hB.trans (b4.mono hB.size)
        clear cm b4
        have CK2 := Lib.hid (CK.out w4 v4 r4)
        obtain ⟨A4, c4, rfl, _, _⟩ := r4.form
        clear CK
        rcases HEND.out with ⟨t, rfl⟩ | ⟨t, rfl, hu, ht, hn⟩
        · clear HEND r4
          go_wp2_with fail
          refine CK2.out.mono ?_
          rintro e w5 ⟨rfl, b5⟩
          have hB := hB.trans (b5.mono hB.size)
          clear CK2 b5
          go_wp2_with fail
          refine (AW.out w5).mono ?_
          rintro e w6 ⟨rfl, b6⟩
          have hB := hB.trans (b6.mono hB.size)
          go_wp2
          go_ret
          exact ⟨rfl, hB⟩
        · have CU2 := Lib.hid (fun w' => cunm_any w' t ht hn)
          rw [hu] at CU2
          clear HEND hu
          go_wp2_with fail
          refine CK2.out.mono ?_
          rintro e w5 ⟨rfl, b5⟩
          have hB := hB.trans (b5.mono hB.size)
          have r4 := r4.keep (Keeps.of_below b5)
          clear CK2 b5
          go_wp2_with fail
          refine (CU2.out w5).mono ?_
          rintro e w6 ⟨v6, rfl, r6, b6⟩
          have hB := hB.trans (b6.mono hB.size)
          have r4 := r4.keep (Keeps.of_below b6)
          have cs := rgSame_any w6 _ _ _ _ r4 r6
          rw [eqB_true rfl] at cs
          have CS := Lib.hid cs
          obtain ⟨A6, c6, rfl, _, _⟩ := r6.form
          clear CU2 b6 cs r4 r6
          go_wp2_with fail
          refine CS.out.mono ?_
          rintro e w7 ⟨rfl, n, rfl⟩
          have hB := below_drewN' hB n
          generalize w6.drewN n = w7 at *
          clear CS
          go_wp2_with fail
          refine (AW.out w7).mono ?_
          rintro e w8 ⟨rfl, b8⟩
          have hB := hB.trans (b8.mono hB.size)
          go_wp2
          go_ret
          exact ⟨rfl, hB⟩
      · clear r2 HK
        go_wp2_with fail
        refine (cm.out _).mono ?_
        rintro e w4 ⟨v4, rfl, r4, b4⟩
        have hB := hB.trans (b4.mono hB.size)
        clear cm b4
        have CK2 := Lib.hid (CK.out w4 v4 r4)
        obtain ⟨A4, c4, rfl, _, _⟩ := r4.form
        clear CK
        rcases HEND.out with ⟨t, rfl⟩ | ⟨t, rfl, hu, ht, hn⟩
        · clear HEND r4
          go_wp2_with fail
          refine CK2.out.mono ?_
          rintro e w5 ⟨rfl, b5⟩
          have hB := hB.trans (b5.mono hB.size)
          clear CK2 b5
          go_wp2_with fail
          refine (AW.out w5).mono ?_
          rintro e w6 ⟨rfl, b6⟩
          have hB := hB.trans (b6.mono hB.size)
          go_wp2
          go_ret
          exact ⟨rfl, hB⟩
        · have CU2 := Lib.hid (fun w' => cunm_any w' t ht hn)
          rw [hu] at CU2
          clear HEND hu
          go_wp2_with fail
          refine CK2.out.mono ?_
          rintro e w5 ⟨rfl, b5⟩
          have hB := hB.trans (b5.mono hB.size)
          have r4 := r4.keep (Keeps.of_below b5)
          clear CK2 b5
          go_wp2_with fail
          refine (CU2.out w5).mono ?_
          rintro e w6 ⟨v6, rfl, r6, b6⟩
          have hB := hB.trans (b6.mono hB.size)
          have r4 := r4.keep (Keeps.of_below b6)
          have cs := rgSame_any w6 _ _ _ _ r4 r6
          rw [eqB_true rfl] at cs
          have CS := Lib.hid cs
          obtain ⟨A6, c6, rfl, _, _⟩ := r6.form
          clear CU2 b6 cs r4 r6
          go_wp2_with fail
          refine CS.out.mono ?_
          rintro e w7 ⟨rfl, n, rfl⟩
          have hB := below_drewN' hB n
          generalize w6.drewN n = w7 at *
          clear CS
          go_wp2_with fail
          refine (AW.out w7).mono ?_
          rintro e w8 ⟨rfl, b8⟩
          have hB := hB.trans (b8.mono hB.size)
          go_wp2
          go_ret
          exact ⟨rfl, hB⟩
    · have hd : decide ((400 : Int) < (m.size : Int)) = true := by simp; omega
      go_enter Try.func10, Try.ntmps10
      go_wp2_with fail
      refine cf.out.mono ?_
      rintro e w1 ⟨rfl, b1⟩
      go_wp2_with fail
      refine (AW.out w1).mono ?_
      rintro e w2 ⟨rfl, b2⟩
      have hB := b1.trans (b2.mono b1.size)
      go_wp2
      go_ret
      exact ⟨rfl, hB⟩
end Go.Proofs.Ythobbcafemkhbaa
