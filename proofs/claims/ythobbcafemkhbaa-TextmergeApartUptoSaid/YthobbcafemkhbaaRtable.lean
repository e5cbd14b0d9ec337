/- cordwoodref18.table: the table of the least sizes, a row a slice. -/
import Derived.Test.YthobbcafemkhbaaRead
import Derived.Test.YthobbcafemkhbaaMem
import Derived.Test.YthobbcafemkhbaaPlain
import Derived.Deep.DeepCutAuto
import Derived.Deep.CutBlock
import Derived.BigRegion
namespace Go.Proofs.Ythobbcafemkhbaa
open Go.RowKit

theorem Try.info_int : (Try.prog.info? 3).map (fun i => (i.zero, i.size, i.bytes)) = some (some (.int .i64 0), 1, 8) := by kernel_rfl
theorem Try.info_ints : (Try.prog.info? 65).map (fun i => (i.zero, i.size, i.bytes)) = some (some (.slice none 0 0), 1, 24) := by kernel_rfl

theorem nodup_ne {l : List Nat} (h : l.Nodup) {i j : Nat} (hi : i < l.length) (hj : j < l.length) (hne : i ≠ j) : l[i] ≠ l[j] := by
  have h := List.pairwise_iff_getElem.1 h
  rcases Nat.lt_or_gt_of_ne hne with h1 | h1
  · exact h i j hi hj h1
  · exact fun e => h j i hj hi h1 e.symm

def rowV (r : Nat) (g : Nat) : Value := .slice (some ⟨g, 0, none⟩) r r

/-- The rows of the table, filled from row i, column j on. -/
def DQ (w : World) (gs : List Nat) (p q : List ByteArray) (i j : Nat) : Prop :=
  ∀ a g, gs[a]? = some g → ∃ cs, Blk w g 3 cs ∧ cs.size = q.length + 1 ∧ ∀ b, b ≤ q.length → (i < a ∨ i = a ∧ j ≤ b) → cs[b]? = some (.int .i64 (dist (p.drop a) (q.drop b)))

theorem DQ.drewN {w : World} {gs : List Nat} {p q : List ByteArray} {i j : Nat} (h : DQ w gs p q i j) (n : Nat) : DQ (w.drewN n) gs p q i j := h
theorem DQ.row {w : World} {gs : List Nat} {p q : List ByteArray} {i : Nat} (h : DQ w gs p q (i + 1) 0) : DQ w gs p q i (q.length + 1) := fun a g hg => by
  obtain ⟨cs, h1, h2, h3⟩ := h a g hg
  exact ⟨cs, h1, h2, fun b hb hab => h3 b hb (by omega)⟩
theorem DQ.set {w : World} {gs : List Nat} {p q : List ByteArray} {i j g : Nat} (h : DQ w gs p q i (j + 1)) (hn : gs.Nodup) (hg : gs[i]? = some g) (hj : j ≤ q.length) {z : Int} (hz : z = dist (p.drop i) (q.drop j)) :
    DQ (w.setCell ⟨g, j, none⟩ (.int .i64 z)) gs p q i j := by
  subst hz
  intro a g' hg'
  obtain ⟨cs, h1, h2, h3⟩ := h a g' hg'
  by_cases e : a = i
  · subst e
    obtain rfl : g' = g := by rw [hg] at hg'; exact (Option.some.inj hg').symm
    refine ⟨_, h1.set _ _, by rw [Array.size_setIfInBounds]; exact h2, fun b hb hab => ?_⟩
    by_cases eb : j = b
    · subst eb
      rw [Array.getElem?_setIfInBounds_self_of_lt (by omega)]
    · rw [Array.getElem?_setIfInBounds_ne eb]
      exact h3 b hb (by omega)
  · have hne : g' ≠ g := by
      rintro rfl
      obtain ⟨ha, e1⟩ := List.getElem?_eq_some_iff.1 hg'
      obtain ⟨hi, e2⟩ := List.getElem?_eq_some_iff.1 hg
      exact nodup_ne hn ha hi e (e1.trans e2.symm)
    exact ⟨cs, h1.far hne _, h2, fun b hb hab => h3 b hb (by omega)⟩

theorem DQ.step {p q : List ByteArray} {w wr : World} {gs : List Nat} {g go : Nat} {cur : Array Value} {i j : Nat} (hd : DQ wr gs p q i (j + 1)) (hbel : Below w.heap.size w wr) (hB : ∀ g ∈ gs, w.heap.size ≤ g) (hn : gs.Nodup)
    (hgo : Blk wr go 65 cur) (hne : ∀ g ∈ gs, go ≠ g) (hg : gs[i]? = some g) (hj : j ≤ q.length) {z : Int} (hz : z = dist (p.drop i) (q.drop j)) :
    Blk (wr.setCell ⟨g, j, none⟩ (.int .i64 z)) go 65 cur ∧ Below w.heap.size w (wr.setCell ⟨g, j, none⟩ (.int .i64 z)) ∧
      ((∃ j' : Nat, j' ≤ q.length ∧ Value.int .i64 ((j : Int) - 1) = .int .i64 j' ∧ DQ (wr.setCell ⟨g, j, none⟩ (.int .i64 z)) gs p q i (j' + 1)) ∨
       (Value.int .i64 ((j : Int) - 1) = .int .i64 (-1) ∧ DQ (wr.setCell ⟨g, j, none⟩ (.int .i64 z)) gs p q i 0)) := by
  have hm : g ∈ gs := List.mem_of_getElem? hg
  refine ⟨hgo.far (hne g hm) _, hbel.setCell (hB g hm) _, ?_⟩
  have h' := hd.set hn hg hj hz
  rcases j with _ | j
  · exact .inr ⟨rfl, h'⟩
  · exact .inl ⟨j, by omega, by congr 1; omega, h'⟩

/-- The finished table. -/
def Tab (w : World) (v : Value) (p q : List ByteArray) : Prop :=
  ∃ go cap, v = .slice (some ⟨go, 0, none⟩) (p.length + 1) cap ∧ ∀ a, a ≤ p.length → ∃ g, w.cell? ⟨go, a, none⟩ = some (.slice (some ⟨g, 0, none⟩) (q.length + 1) (q.length + 1)) ∧
    ∀ b, b ≤ q.length → w.cell? ⟨g, b, none⟩ = some (.int .i64 (dist (p.drop a) (q.drop b)))
theorem Tab.keep {w w' : World} {v : Value} {p q : List ByteArray} (h : Tab w v p q) (k : Keeps w w') : Tab w' v p q := by
  obtain ⟨go, cap, e, h⟩ := h
  refine ⟨go, cap, e, fun a ha => ?_⟩
  obtain ⟨g, h1, h2⟩ := h a ha
  exact ⟨g, k _ _ _ h1, fun b hb => k _ _ _ (h2 b hb)⟩

set_option maxRecDepth 100000 in
set_option maxHeartbeats 1000000 in
theorem rtable_any (w : World) (va vb : Value) (xs ys : List ByteArray) (ha : Strs w va xs) (hb : Strs w vb ys) (hx : xs.length ≤ 1000) (hy : ys.length ≤ 1000) :
    Calls Try.prog 81 #[va, vb] w fun e w' => ∃ v, e = .returned v ∧ Tab w' v xs ys ∧ Below w.heap.size w w' := by
  obtain ⟨A, c, rfl, hc, hm⟩ := ha.form
  obtain ⟨B, d, rfl, hc', hm'⟩ := hb.form
  obtain ⟨i0, hi, hz0, hz1, hz2⟩ := info_parts Try.info_int
  obtain ⟨i1, hi1, hy0, hy1, hy2⟩ := info_parts Try.info_ints
  go_enter Try.func81, Try.ntmps81
  go_wp2
  have hgrow : ∀ (wr w1 w2 : World) (gs : List Nat) (g : Nat) (v v' : Value) (k : Nat), Below w.heap.size w wr → gs.length = k → gs.Nodup →
      (∀ g ∈ gs, w.heap.size ≤ g ∧ Blk wr g 3 (Array.replicate (ys.length + 1) (.int .i64 0))) → wr.ownsRow w.heap.size 65 1 v k (gs.map (rowV (ys.length + 1))) →
      wr.heap.size ≤ g → Blk w1 g 3 (Array.replicate (ys.length + 1) (.int .i64 0)) → Below wr.heap.size wr w1 →
      w2.ownsRow w.heap.size 65 1 v' (k + 1) (gs.map (rowV (ys.length + 1)) ++ [rowV (ys.length + 1) g]) → (w1.alloc (.cells #[rowV (ys.length + 1) g] 65)).grownBy w2 v.ownBlock →
      ∃ gs' : List Nat, gs'.length = k + 1 ∧ gs'.Nodup ∧ (∀ g ∈ gs', w.heap.size ≤ g ∧ Blk w2 g 3 (Array.replicate (ys.length + 1) (.int .i64 0))) ∧
        w2.ownsRow w.heap.size 65 1 v' (k + 1) (gs'.map (rowV (ys.length + 1))) ∧ Below w.heap.size w w2 := by
    intro wr w1 w2 gs g v v' k hb0 hl hn hB hown hg hblk hb1 hown2 hgr
    have hbsz := hb0.size
    have hown' := hown.lt
    have hty : ∀ g', (∃ w', Blk w' g' 3 (Array.replicate (ys.length + 1) (.int .i64 0)) ∧ Below wr.heap.size wr w' ∧ True) → some g' ≠ v.ownBlock := by
      rintro g' ⟨w', h1, h2, _⟩ e
      rcases hown.2 with ⟨rfl, _⟩ | ⟨gv, cap, cur, rfl, _, h3, _⟩
      · simp [Value.ownBlock] at e
      · simp [Value.ownBlock] at e
        subst e
        have h4 := (h2.block g' (Array.getElem?_eq_some_iff.1 h3).1).trans h3
        unfold Blk at h1
        rw [h1] at h4
        injection h4 with h4
        injection h4 with _ h5
        cases h5
    refine ⟨gs ++ [g], by simp [hl], ?_, ?_, by simpa using hown2, ?_⟩
    · rw [List.nodup_append]
      refine ⟨hn, by simp, ?_⟩
      rintro a ha b hb rfl
      simp at hb
      subst hb
      have := (hB a ha).2.lt
      omega
    · intro g' hg'
      rcases List.mem_append.1 hg' with h1 | h1
      · have hB' := hB g' h1
        refine ⟨hB'.1, (((hB'.2.keep hb1).alloc _).grown hgr (hty g' ⟨wr, hB'.2, Below.refl _ _, trivial⟩))⟩
      · simp at h1
        subst h1
        exact ⟨by omega, ((hblk.alloc _).grown hgr (hty g' ⟨w1, hblk, hb1, trivial⟩))⟩
    · have hb2 : Below w.heap.size w w1 := hb0.trans (hb1.mono hbsz)
      exact (hb2.alloc hb2.size _).grown hgr (by have := (hb2.alloc hb2.size (.cells #[rowV (ys.length + 1) g] 65)).size; exact this) (fun k hk => (hown' k hk).1)
  have HG := Lib.hid hgrow
  clear hgrow
  go_loopw [5, 6] (fun v i wr => ∃ (k : Nat) (gs : List Nat), k ≤ xs.length + 1 ∧ i = .int .i64 k ∧ Hid (gs.length = k) ∧ gs.Nodup ∧ Hid (∀ g ∈ gs, w.heap.size ≤ g ∧ Blk wr g 3 (Array.replicate (ys.length + 1) (.int .i64 0))) ∧
      wr.ownsRow w.heap.size 65 1 v k (gs.map (rowV (ys.length + 1))) ∧ Below w.heap.size w wr) (fun _ i _ => xs.length + 1 - (intOf i).toNat)
  case atStart =>
    exact ⟨0, [], by omega, rfl, rfl, by simp, fun g hg => by simp at hg, (Blk.new _ _ _).own (Nat.le_refl _) (cap := 0) (by simp) (by simp) (by simp), (Below.refl _ _).alloc (Nat.le_refl _) _⟩
  case round =>
    obtain ⟨k, gs, hk, rfl, hl, hn, hB, hown, hbel⟩ := hrel
    by_cases hlt : k ≤ xs.length
    · go_wp2_with (first
        | (at_make; refine wpList_make_blk _ rfl _ _ _ rfl 3 i0 (.int .i64 0) Try.underlying65 hi hz0 hz1 rfl .i64 .i64 _ _ (ys.length + 1) rfl rfl (by omega) (by omega) (by rw [hz2]; omega) (by omega) ?_; intro g w1 hg hblk hbel1)
        | (at_builtin; refine wpList_append_any _ rfl _ _ _ rfl w.heap.size 65 i1 (.slice none 0 0) 1 24 Try.underlying109 hi1 hy0 hy1 hy2 rfl (by omega) u5 k _ rfl ((hown.kept (grown_of_below hbel1) (by cases u5.ownBlock <;> simp)).alloc _) _ 1 1 [rowV (ys.length + 1) g] rfl rfl (CellsAt.of_new _ _ _ _) (by simp [rowV, Value.oneCell']) (by omega) (by omega) (by have := hbel.size; have := hbel1.size; simp; omega) ?_; intro v' w2 hown2 hgr _))
      go_roundw
      case rel =>
        obtain ⟨gs', r1, r2, r3, r4, r5⟩ := HG.out wr w1 w2 gs g u5 v' k hbel hl.out hn hB.out hown hg hblk hbel1 hown2 hgr
        exact ⟨k + 1, gs', by omega, by go_num, r1, r2, r3, r4, r5⟩
      case measure => simp [intOf]; omega
    · clear HG
      obtain rfl : k = xs.length + 1 := by omega
      have hlen := hl.out
      obtain ⟨hol, ⟨_, h0⟩ | ⟨go, cap, cur, rfl, hgo, hblk, hle, hcap, hcs, htk⟩⟩ := hown
      · omega
      have hcur : ∀ (a g : Nat), gs[a]? = some g → cur[a]? = some (rowV (ys.length + 1) g) := by
        intro a g hg
        have h1 : (gs.map (rowV (ys.length + 1)))[a]? = some (rowV (ys.length + 1) g) := by simp [hg]
        rw [← htk, List.getElem?_take] at h1
        split at h1
        · simpa using h1
        · cases h1
      have hblk : Blk wr go 65 cur := hblk
      have hne : ∀ g ∈ gs, go ≠ g := by
        rintro g hg rfl
        have h1 := (hB.out go hg).2
        unfold Blk at h1 hblk
        rw [hblk] at h1
        injection h1 with h1
        injection h1 with _ h2
        cases h2
      have hB1 : ∀ g ∈ gs, w.heap.size ≤ g := fun g hg => (hB.out g hg).1
      have hd0 : DQ wr gs xs ys xs.length (ys.length + 1) := fun a g hg =>
        ⟨_, (hB.out g (List.mem_of_getElem? hg)).2, by simp, fun b hb hab => by
          have := (List.getElem?_eq_some_iff.1 hg).1
          omega⟩
      have HL : Hid (gs.length = xs.length + 1) := hlen
      have HC := Lib.hid hcur
      have HE := Lib.hid hne
      have HB1 := Lib.hid hB1
      clear hB hl hlen hol hcs htk hcur hne hB1
      obtain ⟨w1, rfl⟩ : ∃ w1 : World, w1 = wr := ⟨_, rfl⟩
      go_wp2
      go_loopw [7] (fun i wr => Blk wr go 65 cur ∧ Below w.heap.size w wr ∧ ((∃ m : Nat, m ≤ xs.length ∧ i = .int .i64 m ∧ DQ wr gs xs ys m (ys.length + 1)) ∨ (i = .int .i64 (-1) ∧ DQ wr gs xs ys 0 0))) (fun i _ => (intOf i + 1).toNat)
      case atStart => exact ⟨hblk, hbel, .inl ⟨xs.length, by omega, rfl, hd0⟩⟩
      case round =>
        clear hblk hbel hd0
        obtain ⟨hblk, hbel, ⟨m, hm, rfl, hdp⟩ | ⟨rfl, hdp⟩⟩ := hrel
        · obtain ⟨wo, rfl⟩ : ∃ wo : World, wo = wr := ⟨_, rfl⟩
          obtain ⟨g, hg⟩ : ∃ g, gs[m]? = some g := ⟨_, List.getElem?_eq_getElem (by rw [HL.out]; omega)⟩
          have HGm := Lib.hid hg
          clear hg
          go_wp2
          go_loopw [8] (fun k wr => Blk wr go 65 cur ∧ Below w.heap.size w wr ∧ ((∃ j : Nat, j ≤ ys.length ∧ k = .int .i64 j ∧ DQ wr gs xs ys m (j + 1)) ∨ (k = .int .i64 (-1) ∧ DQ wr gs xs ys m 0))) (fun k _ => (intOf k + 1).toNat)
          case atStart => exact ⟨hblk, hbel, .inl ⟨ys.length, by omega, rfl, hdp⟩⟩
          case round =>
            clear hblk hdp hbel
            obtain ⟨hblk, hbel, ⟨j, hj, rfl, hdp⟩ | ⟨rfl, hdp⟩⟩ := hrel
            · obtain ⟨cs, hbm, hcs, hcv⟩ := hdp m g HGm.out
              have hfr := hbm.frozen j
              obtain ⟨u, hu⟩ : ∃ u, cs[j]? = some u := ⟨_, Array.getElem?_eq_getElem (by omega)⟩
              have hce := hbm.cell hu
              have hrow : wr.cell? ⟨go, m, none⟩ = some (.slice (some ⟨g, 0, none⟩) (ys.length + 1) (ys.length + 1)) := hblk.cell (HC.out m g HGm.out)
              clear hu
              have HS := Lib.hid hcs
              clear hcs
              by_cases hmx : m = xs.length
              · have hm1 : ((m : Int) == xs.length) = true := by simp [hmx]
                have HM := Lib.hid hmx
                clear hmx
                go_wp2
                go_roundw
                case rel => exact DQ.step hdp hbel HB1.out hn hblk HE.out HGm.out hj (by rw [HM.out, dist_end_l]; omega)
                case measure => simp [intOf] <;> omega
              · have hm1 : ((m : Int) == xs.length) = false := by simp; omega
                have hmx' : m < xs.length := by omega
                clear hmx
                by_cases hjy : j = ys.length
                · have hj1 : ((j : Int) == ys.length) = true := by simp [hjy]
                  have HM := Lib.hid hjy
                  clear hjy
                  go_wp2
                  go_roundw
                  case rel => exact DQ.step hdp hbel HB1.out hn hblk HE.out HGm.out hj (by rw [HM.out, dist_end_r]; omega)
                  case measure => simp [intOf] <;> omega
                · have hj1 : ((j : Int) == ys.length) = false := by simp; omega
                  have hjy' : j < ys.length := by omega
                  clear hjy
                  obtain ⟨b, off, rfl, ha1⟩ := (ha.keep (Keeps.of_below hbel)).get hmx'
                  obtain ⟨b', off', rfl, hb1⟩ := (hb.keep (Keeps.of_below hbel)).get hjy'
                  have d1 := dist_drop_le xs ys (m + 1) (j + 1)
                  have d2 := dist_drop_le xs ys (m + 1) j
                  have d3 := dist_drop_le xs ys m (j + 1)
                  obtain ⟨g', hg'⟩ : ∃ g', gs[m + 1]? = some g' := ⟨_, List.getElem?_eq_getElem (by rw [HL.out]; omega)⟩
                  have hrow' : wr.cell? ⟨go, m + 1, none⟩ = some (.slice (some ⟨g', 0, none⟩) (ys.length + 1) (ys.length + 1)) := hblk.cell (HC.out _ g' hg')
                  obtain ⟨cs', hbm', hcs', hcv'⟩ := hdp _ g' hg'
                  have c1 := hbm'.cell (hcv' (j + 1) (by omega) (.inl (by omega)))
                  have c2 := hbm'.cell (hcv' j (by omega) (.inl (by omega)))
                  have c3 := hbm.cell (hcv (j + 1) (by omega) (.inr ⟨rfl, by omega⟩))
                  have HG' := Lib.hid hg'
                  clear hg' hcv hcv' hcs'
                  by_cases he : xs[m] = ys[j]
                  · have hbe := str_eq he
                    have HD := Lib.hid (dist_eq hmx' hjy' he)
                    clear he d2 d3 c2 c3
                    go_wp2
                    go_quiet (fail)
                    go_wp2
                    go_region
                    go_wp2
                    go_roundw
                    case rel => exact DQ.step (hdp.drewN _) (below_drewN' hbel _) HB1.out hn (hblk.drewN _) HE.out HGm.out hj (by rw [HD.out])
                    case measure => simp [intOf] <;> omega
                  · have hbe := str_ne he
                    have HD := Lib.hid (dist_ne hmx' hjy' he)
                    clear he d1 c1
                    generalize hA2 : dist (xs.drop (m + 1)) (ys.drop j) = D2 at *
                    generalize hA3 : dist (xs.drop m) (ys.drop (j + 1)) = D3 at *
                    clear hA2 hA3
                    go_wp2
                    go_quiet (fail)
                    go_wp2
                    go_region
                    go_wp2
                    go_roundw
                    case rel => exact DQ.step (hdp.drewN _) (below_drewN' hbel _) HB1.out hn (hblk.drewN _) HE.out HGm.out hj (by rw [HD.out]; split <;> omega)
                    case measure => simp [intOf] <;> omega
            · go_wp2
              go_roundw
              case rel =>
                rcases m with _ | m
                · exact ⟨hblk, hbel, .inr ⟨rfl, hdp⟩⟩
                · exact ⟨hblk, hbel, .inl ⟨m, by omega, by congr 1; omega, hdp.row⟩⟩
              case measure => simp [intOf] <;> omega
        · go_wp2
          go_ret
          refine ⟨_, rfl, ⟨go, cap, rfl, fun a ha => ?_⟩, hbel⟩
          obtain ⟨g, hg⟩ : ∃ g, gs[a]? = some g := ⟨_, List.getElem?_eq_getElem (by rw [HL.out]; omega)⟩
          obtain ⟨cs, h1, h2, h3⟩ := hdp a g hg
          exact ⟨g, hblk.cell (HC.out a g hg), fun b hb => h1.cell (h3 b hb (by omega))⟩
end Go.Proofs.Ythobbcafemkhbaa
