/- cordwoodref19.places. -/
import Derived.Test.YthobbcafemkhbaaTmRef
import Derived.Test.YthobbcafemkhbaaTmP
import Derived.Test.YthobbcafemkhbaaRdiff
namespace Go.Proofs.Ythobbcafemkhbaa
open Go.RowKit

section
variable {α : Type} {n i k : Nat} {z : Int} {o e : List α} {hs : List (Int × List α × List α)} {full out : List Int}
theorem plc_over (h : full = out ++ plcF n i k hs) (hs' : sepB n ((i : Int) - 1) hs) (hi : n ≤ i) : full = out := by
  cases hs with
  | nil => exact plc_fin h hi
  | cons x hs =>
    obtain ⟨z, o, e⟩ := x
    obtain ⟨⟨h1, h2, h3, h4⟩, h5⟩ := hs'
    have ho : o = [] := List.eq_nil_of_length_eq_zero (by omega)
    subst ho
    cases hs with
    | nil =>
      rw [h]
      show out ++ ((List.range (z.toNat - i)).map _ ++ (List.replicate 0 (-1) ++ (List.range (n - (z.toNat + 0))).map _)) = out
      rw [show z.toNat - i = 0 by omega, show n - (z.toNat + 0) = 0 by omega]
      simp
    | cons y hs =>
      obtain ⟨c, o', e'⟩ := y
      obtain ⟨⟨k1, k2, k3, k4⟩, _⟩ := h5
      simp only [List.length_nil] at *
      omega
/-- The new lines of hunks. -/
def newL (hs : List (Int × List α × List α)) : Nat := (hs.map fun h => h.2.2.length).sum
theorem newL_cons (h : Int × List α × List α) (hs : List (Int × List α × List α)) : newL (h :: hs) = h.2.2.length + newL hs := by simp [newL]
theorem newL_le : ∀ hs : List (Int × List α × List α), newL hs ≤ sizeH hs
  | [] => Nat.le_refl _
  | h :: hs => by rw [newL_cons, sizeH_cons]; have := newL_le hs; omega
end
theorem keeps_empty {w w' : World} {g : Nat} {t : TypeId} (hb : Blk w g t #[]) (hA : Agree (fun b => b = g) w w') : Keeps w w' := by
  intro b o u hu
  by_cases h : b = g
  · subst h
    rw [cell_of_row w b o #[] t (0, 0) hb] at hu
    simp at hu
  · exact (World.cell?_of_block (a := ⟨b, o, none⟩) (hA.block b (World.block_lt_of_cell? w _ hu) h)).trans hu

/-- The loop of places. -/
def PlcRel (w : World) (full : List Int) (n : Nat) (vh : Value) (hs : List Hk) (S : Nat) (v by_ h i : Value) (wr : World) : Prop :=
  ∃ (ii hh k : Nat) (z : Int) (out : List Int), i = .int .i64 ii ∧ h = .int .i64 hh ∧ by_ = .int .i64 z ∧ Hid (z + ii = k) ∧ ii ≤ n ∧ hh ≤ hs.length ∧ out.length ≤ ii ∧ Hid (k + newL (hs.drop hh) ≤ ii + S) ∧ -1000 ≤ z ∧ z ≤ S ∧
    Hid (full = out ++ plcF n ii k (hs.drop hh)) ∧ Hid (sepB n ((ii : Int) - 1) (hs.drop hh)) ∧ wr.ownsRow w.heap.size 3 1 v out.length (out.map (.int .i64)) ∧ Stab wr (OwnOf v) (fun w' => Hks w' vh hs) ∧ Below w.heap.size w wr
theorem sep_len : ∀ {hs : List Hk} {n : Nat} {z : Int}, sepB n z hs → hs.length ≤ sizeH hs
  | [], _, _, _ => Nat.zero_le _
  | (c, o, e) :: hs, n, z, ⟨⟨h1, _⟩, h5⟩ => by rw [sizeH_cons, List.length_cons]; have := sep_len h5; simp only; omega
theorem Hks.get_ {w : World} {hs : List Hk} {A : Option Addr} {c n : Nat} (h : Hks w (.slice A n c) hs) {i : Nat} {z : Int} {o e : List ByteArray} (hi : hs[i]? = some (z, o, e)) :
    ∃ b off vo vn, A = some ⟨b, off, none⟩ ∧ w.cell? ⟨b, off + i * 3, none⟩ = some (.int .i64 z) ∧ w.cell? ⟨b, off + i * 3 + 1, none⟩ = some vo ∧ w.cell? ⟨b, off + i * 3 + 2, none⟩ = some vn ∧ Strs w vo o ∧ Strs w vn e := by
  obtain ⟨hlt, hx⟩ := List.getElem?_eq_some_iff.1 hi
  obtain ⟨b, off, vo, vn, e, a1, a2, a3, a4, a5, _⟩ := h.get hlt
  rw [hx] at a1 a4 a5
  exact ⟨b, off, vo, vn, e, a1, a2, a3, a4, a5⟩
/-- The inner loop of places. -/
def PlcIn (w : World) (vh : Value) (hs : List Hk) (out : List Int) (m : Nat) (v k : Value) (wr : World) : Prop :=
  ∃ kk : Nat, kk ≤ m ∧ k = .int .i64 kk ∧ wr.ownsRow w.heap.size 3 1 v (out.length + kk) ((out ++ List.replicate kk (-1)).map (.int .i64)) ∧ Stab wr (OwnOf v) (fun w' => Hks w' vh hs) ∧ Below w.heap.size w wr
theorem row_grow {w wr w2 : World} {ob : Obj} {v v2 : Value} {φ : World → Prop} {base : Nat} {e : TypeId} {sz n : Nat} {xs : List Value} (hown : wr.ownsRow base e sz v n xs) (hb : base = w.heap.size) (hst : Stab wr (OwnOf v) φ) (hbel : Below w.heap.size w wr)
    (hg : (wr.alloc ob).grownBy w2 v.ownBlock) (ha : v2.ownBlock = v.ownBlock ∨ v2.ownBlock = some (wr.alloc ob).heap.size) : Stab w2 (OwnOf v2) φ ∧ Below w.heap.size w w2 := by
  subst hb
  refine ⟨hst.grow ((Agree.alloc wr ob).trans (Agree.of_grown hg fun _ h => h)) (Moved.of_at ha (by simp)), ?_⟩
  exact (hbel.alloc hbel.size ob).grown hg (by have := hbel.size; simp; omega) fun k hk => (hown.lt k hk).1
theorem rep_succ (out : List Int) (kk : Nat) : (out ++ List.replicate kk (-1)).map (Value.int .i64) ++ [.int .i64 (-1)] = (out ++ List.replicate (kk + 1) (-1)).map (.int .i64) := by
  rw [List.replicate_succ', ← List.append_assoc, List.map_append (l₂ := [-1])]; rfl
theorem drop_at {α : Type} {l : List α} {i : Nat} (h : i < l.length) : l.drop i = l[i] :: l.drop (i + 1) := List.drop_eq_getElem_cons h

set_option maxRecDepth 100000 in
set_option maxHeartbeats 2000000 in
theorem rplaces_any (w : World) (va vb : Value) (xs ys : List ByteArray) (ha : Strs w va xs) (hb : Strs w vb ys) (hx : xs.length ≤ 1000) (hy : ys.length ≤ 1000) :
    Calls Try.prog 39 #[va, vb] w fun e w' => ∃ v, e = .returned v ∧ w'.ownsRow w.heap.size 3 1 v (plcL xs ys).length ((plcL xs ys).map (.int .i64)) ∧ Below w.heap.size w w' := by
  obtain ⟨A, c, rfl, hc, hm⟩ := ha.form
  obtain ⟨i0, hi, hz0, hz1, hz2⟩ := info_parts Try.info_int
  have cd := rdiff_any (w.alloc (.cells #[] 3)) _ vb xs ys (ha.keep (Keeps.alloc _ _)) (hb.keep (Keeps.alloc _ _)) hx hy
  obtain ⟨B, d, rfl, hc', hm'⟩ := hb.form
  have hS0 : sizeH (diffL xs ys) ≤ 2000 := by
    rw [size_diffL_dist]
    have := (dist_len xs ys).2.2
    omega
  have hS : newL (diffL xs ys) ≤ 2000 := by have h1 := newL_le (diffL xs ys); omega
  obtain ⟨HF, HB⟩ := plcF_start xs ys
  have HF := Lib.hid HF
  have HB := Lib.hid HB
  clear ha hb
  generalize plcL xs ys = full at *
  generalize hn : xs.length = n at *
  generalize diffL xs ys = hs at *
  go_enter Try.func39, Try.ntmps39
  go_wp2_with fail
  refine cd.mono ?_
  clear cd
  rintro e w1 ⟨vh, rfl, ho, hbl⟩
  have hbel : Below w.heap.size w w1 := ((Below.refl _ _).alloc (Nat.le_refl _) _).trans (hbl.mono (by simp))
  have hk := ho.sl
  have hb0 : Blk w1 w.heap.size 3 #[] := (Blk.new w #[] 3).keep hbl
  have hst : Stab w1 (OwnOf (.slice (some ⟨w.heap.size, 0, none⟩) 0 0)) fun w' => Hks w' vh hs := fun w' k => Hks.keep hk (keeps_empty hb0 (k.mono fun _ _ h => by simpa [OwnOf, Value.ownBlock] using h.symm))
  obtain ⟨Ah, ch, rfl, hh1, hh2⟩ := Hks.form hk
  have hlen : hs.length ≤ 3000 := by have := sep_len HB.out; omega
  have how0 := hb0.own (Nat.le_refl _) (cap := 0) (sz := 1) (n := 0) rfl (by unfold maxLen; omega) (by omega)
  obtain ⟨v0, hv0⟩ : ∃ v : Value, v = .slice (some ⟨w.heap.size, 0, none⟩) 0 0 := ⟨_, rfl⟩
  have hrel0 : PlcRel w full n (.slice Ah hs.length ch) hs (newL hs) (.slice (some ⟨w.heap.size, 0, none⟩) 0 0) (.int .i64 0) (.int .i64 0) (.int .i64 0) w1 :=
    ⟨0, 0, 0, 0, [], rfl, rfl, rfl, rfl, by omega, by omega, by simp, (by show _ ≤ _; simp), by omega, by omega, HF, HB, how0, hst, hbel⟩
  clear hk ho hb0 hst how0 hbel HF HB hbl
  go_wp2
  go_loopw [5, 7, 8, 9] (fun v by_ h i wr => PlcRel w full n (.slice Ah hs.length ch) hs (newL hs) v by_ h i wr) (fun _ _ h i _ => (n - (intOf i).toNat) + (hs.length - (intOf h).toNat))
  case atStart => exact hrel0
  case round =>
    clear hrel0
    obtain ⟨ii, hh, k, z, out, rfl, rfl, rfl, HZ, hii, hhh, hol, HS, z1, z2, HF, HB, hown, hst, hbel⟩ := hrel
    by_cases hlt : ii < n
    · have hbs := hbel.size
      by_cases hhl : hh < hs.length
      · obtain ⟨⟨zz, o, e⟩, hx⟩ : ∃ x, hs[hh]? = some x := ⟨_, List.getElem?_eq_getElem hhl⟩
        have hdr : hs.drop hh = (zz, o, e) :: hs.drop (hh + 1) := by
          obtain ⟨_, hx'⟩ := List.getElem?_eq_some_iff.1 hx
          rw [drop_at hhl, hx']
        have HX := Lib.hid hx
        clear hx
        obtain ⟨b, off, vo, vn, rfl, a1, a2, a3, a4, a5⟩ := hst.now.get_ HX.out
        rw [hdr] at HF HB HS
        by_cases hz : zz = (ii : Int)
        · have hbz : (zz == (ii : Int)) = true := by simp [hz]
          obtain ⟨p1, p2, p3⟩ := plc_hunk HF.out HB.out hz
          have HF2 := Lib.hid p1
          have HB2 := Lib.hid p2
          have hnl : k + e.length + newL (hs.drop (hh + 1)) ≤ ii + newL hs := by have := HS.out; rw [newL_cons] at this; simp only at this; omega
          have HS2 : Hid (k + e.length + newL (hs.drop (hh + 1)) ≤ ii + o.length + newL hs) := by show _ ≤ _; omega
          have hzk := HZ.out
          have HZ2 : Hid (z + e.length - o.length + ((ii + o.length : Nat) : Int) = ((k + e.length : Nat) : Int)) := by show _ = _; omega
          obtain ⟨Ao, co, rfl, ho1, ho2⟩ := a4.form
          obtain ⟨An, cn, rfl, hn1, hn2⟩ := a5.form
          have hel : e.length ≤ 4000 := by omega
          have hol2 : o.length ≤ 1000 := by omega
          have z3 : -1000 ≤ z + e.length - o.length := by omega
          have z4 : z + e.length - o.length ≤ newL hs := by omega
          clear hz hzk p1 p2 hnl HZ HS HF HB hdr a4 a5
          have hin0 : PlcIn w (.slice (some ⟨b, off, none⟩) hs.length ch) hs out o.length u5 (.int .i64 0) wr := ⟨0, by omega, rfl, by simpa using hown, hst, hbel⟩
          clear hown hst hbel
          go_wp2
          go_loopw [5, 10] (fun v k wr' => PlcIn w (.slice (some ⟨b, off, none⟩) hs.length ch) hs out o.length v k wr') (fun _ k _ => o.length - (intOf k).toNat)
          case atStart => exact hin0
          case round =>
            clear hin0 a1 a2 a3
            obtain ⟨kk, hkk, rfl, hown, hst, hbel⟩ := hrel
            obtain ⟨b', off', vo, vn, hbo, a1, a2, a3, a4, a5⟩ := hst.now.get_ HX.out
            cases hbo
            obtain ⟨Ao, co, rfl, ho1, ho2⟩ := a4.form
            obtain ⟨An, cn, rfl, hn1, hn2⟩ := a5.form
            clear a4 a5
            have hbs := hbel.size
            by_cases hkl : kk < o.length
            · go_wp2_with (at_builtin; go_must (refine wpList_append_any _ rfl (.tmp 42) (.tmp 43) _ rfl w.heap.size 3 i0 _ 1 8 Try.underlying65 hi hz0 hz1 hz2 rfl (by omega) u5 (out.length + kk) _ rfl (hown.alloc _) _ 1 1 [.int .i64 (-1)] rfl rfl (CellsAt.of_new _ _ _ _) (by simp [Value.oneCell']) (by omega) (by omega) (by simp; omega) ?_)
                           intro v2 w2 ho2 hg2 ha2)
              obtain ⟨g1, g2⟩ := row_grow hown rfl hst hbel hg2 ha2
              rw [rep_succ] at ho2
              go_roundw
              case rel => exact ⟨kk + 1, by omega, by go_num, ho2, g1, g2⟩
              case measure => simp [intOf]; omega
            · obtain rfl : kk = o.length := by omega
              have y1 : IntKind.i64.wrap (z + (e.length : Int)) = z + e.length := i64w (by omega) (by omega)
              have y2 : IntKind.i64.wrap (z + (e.length : Int) - o.length) = z + e.length - o.length := i64w (by omega) (by omega)
              clear z1 z2 HX
              go_wp2
              go_quiet (fail)
              go_wp2
              go_roundw
              case rel => exact ⟨ii + o.length, hh + 1, k + e.length, z + e.length - o.length, out ++ List.replicate o.length (-1), by go_num, by go_num, rfl, HZ2, p3, by omega, by simp; omega, HS2, z3, z4, HF2, HB2, by rw [List.length_append, List.length_replicate]; exact own_below hown (below_drewN' (Below.refl _ _) _), hst.go (Agree.drewN _ _), below_drewN' hbel _⟩
              case measure => simp [intOf]; omega
        · have hbz : (zz == (ii : Int)) = false := by simp [hz]
          obtain ⟨p1, p2, p3⟩ := plc_go HF.out HB.out hz
          have hsn : hs.drop hh = (zz, o, e) :: hs.drop (hh + 1) := hdr
          rw [← hdr] at p1 p2 HS
          have HF2 := Lib.hid p1
          have HB2 := Lib.hid p2
          have hzk := HZ.out
          have HZ2 : Hid (z + ((ii + 1 : Nat) : Int) = ((k + 1 : Nat) : Int)) := by show _ = _; omega
          have HS2 : Hid (k + 1 + newL (hs.drop hh) ≤ ii + 1 + newL hs) := by have := HS.out; show _ ≤ _; omega
          have HK : Hid ((ii : Int) + z = (k : Int)) := by show _ = _; omega
          clear hz hzk p1 p2 HZ HS HF HB hdr a2 a3 a4 a5 hsn
          go_wp2_with (at_builtin; go_must (refine wpList_append_any _ rfl (.tmp 70) (.tmp 74) _ rfl w.heap.size 3 i0 _ 1 8 Try.underlying65 hi hz0 hz1 hz2 rfl (by omega) u5 out.length _ rfl (hown.alloc _) _ 1 1 [.int .i64 ((ii : Int) + z)] rfl rfl (CellsAt.of_new _ _ _ _) (by simp [Value.oneCell']) (by omega) (by omega) (by simp; omega) ?_)
                       intro v2 w2 ho2 hg2 ha2)
          obtain ⟨g1, g2⟩ := row_grow hown rfl hst hbel hg2 ha2
          rw [HK.out] at ho2
          go_roundw
          case rel => exact ⟨ii + 1, hh, k + 1, z, out ++ [(k : Int)], by go_num, rfl, rfl, HZ2, by omega, by omega, by simp; omega, HS2, z1, z2, HF2, HB2, by rw [List.length_append, List.map_append]; exact ho2, g1, g2⟩
          case measure => simp [intOf]; omega
      · have hdr : hs.drop hh = [] := List.drop_of_length_le (by omega)
        rw [hdr] at HF HB HS
        have HF2 := Lib.hid (plc_end HF.out hlt)
        have HB2 : Hid (sepB n (((ii + 1 : Nat) : Int) - 1) ([] : List Hk)) := trivial
        rw [← hdr] at HF2 HB2 HS
        have hzk := HZ.out
        have HZ2 : Hid (z + ((ii + 1 : Nat) : Int) = ((k + 1 : Nat) : Int)) := by show _ = _; omega
        have HS2 : Hid (k + 1 + newL (hs.drop hh) ≤ ii + 1 + newL hs) := by have := HS.out; show _ ≤ _; omega
        have HK : Hid ((ii : Int) + z = (k : Int)) := by show _ = _; omega
        clear hzk HZ HS HF HB hdr
        go_wp2_with (at_builtin; go_must (refine wpList_append_any _ rfl (.tmp 70) (.tmp 74) _ rfl w.heap.size 3 i0 _ 1 8 Try.underlying65 hi hz0 hz1 hz2 rfl (by omega) u5 out.length _ rfl (hown.alloc _) _ 1 1 [.int .i64 ((ii : Int) + z)] rfl rfl (CellsAt.of_new _ _ _ _) (by simp [Value.oneCell']) (by omega) (by omega) (by simp; omega) ?_)
                     intro v2 w2 ho2 hg2 ha2)
        obtain ⟨g1, g2⟩ := row_grow hown rfl hst hbel hg2 ha2
        rw [HK.out] at ho2
        go_roundw
        case rel => exact ⟨ii + 1, hh, k + 1, z, out ++ [(k : Int)], by go_num, rfl, rfl, HZ2, by omega, by omega, by simp; omega, HS2, z1, z2, HF2, HB2, by rw [List.length_append, List.map_append]; exact ho2, g1, g2⟩
        case measure => simp [intOf]; omega
    · have HE : Hid (full = out) := plc_over HF.out HB.out (by omega)
      go_wp2
      go_ret
      exact ⟨_, rfl, by rw [HE.out]; exact hown, hbel⟩
end Go.Proofs.Ythobbcafemkhbaa
