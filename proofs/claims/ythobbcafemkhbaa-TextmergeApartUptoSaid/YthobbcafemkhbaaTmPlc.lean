/- textmerge.places. -/
import Derived.Test.YthobbcafemkhbaaTmRplc
import Derived.Test.YthobbcafemkhbaaTmAdd
import Derived.Test.YthobbcafemkhbaaDiff
namespace Go.Proofs.Ythobbcafemkhbaa
open Go.RowKit

theorem run_make_row1 {P : Program} (t e : TypeId) (i : TypeInfo) (z : Value) (h1 : P.underlying t = some (.slice e)) (h2 : P.info? e = some i) (h3 : i.zero = some z) (h4 : i.size = 1) (hz : z.cells = #[z]) (kl kc : IntKind) (n : Nat) (hb : i.bytes * n ≤ 281474976710656) (hn : n ≤ 9223372036854775807) :
    ∀ w : World, (Instr.makeSlice t (.int kl 0) (.int kc (n : Int))).run P w = .ok (.slice (some ⟨w.heap.size, 0, none⟩) 0 n) (w.alloc (.cells (Array.replicate n z) e)) := by
  intro w
  have hb' : (i.bytes : Int) * (n : Int) ≤ 281474976710656 := by
    have h : ((i.bytes * n : Nat) : Int) ≤ 281474976710656 := by omega
    rwa [Int.natCast_mul] at h
  have hrun := run_make (P := P) w t e i z h1 h2 h3 kl kc 0 n (by omega) (by omega) hb' (by omega)
  simp only [Int.toNat_natCast, h4, Nat.mul_one] at hrun
  rw [madeCells_one hz] at hrun
  exact hrun

/-- Cells of strings stay. -/
def KeepsS (w w' : World) : Prop := ∀ b o s, w.cell? ⟨b, o, none⟩ = some (.string s) → w'.cell? ⟨b, o, none⟩ = some (.string s)
theorem Strs.keepS {w w' : World} {v : Value} {xs : List ByteArray} (h : Strs w v xs) (k : KeepsS w w') : Strs w' v xs := by
  obtain ⟨A, c, vs, e, h1, h2, h3, h4⟩ := h
  refine ⟨A, c, vs, e, h1, h2, fun j u hu => ?_, h4⟩
  obtain ⟨b, off, e1, hc⟩ := h3 j u hu
  have e2 := elems_cells h4
  rw [e2, List.getElem?_map] at hu
  cases hx : xs[j]? with
  | none => rw [hx] at hu; cases hu
  | some s =>
    rw [hx] at hu
    cases hu
    exact ⟨b, off, e1, k _ _ _ hc⟩
/-- The hunks stay while a block of numbers, older than they are, is written. -/
theorem hks_stab {w : World} {vh : Value} {hs : List Hk} {base g n : Nat} {z : Int} (h : Ow w base 92 3 (HkR w) vh hs) (hb : Blk w g 3 (Array.replicate n (.int .i64 z))) :
    Stab w (fun b => b = g) fun w' => Hks w' vh hs := by
  intro w' k
  have hS : KeepsS w w' := by
    intro b o s hc
    by_cases hbg : b = g
    · subst hbg
      rw [cell_of_row w b o _ 3 (0, 0) hb] at hc
      by_cases ho : o < n
      · rw [Array.getElem?_replicate, if_pos ho] at hc; cases hc
      · rw [Array.getElem?_replicate, if_neg ho] at hc; cases hc
    · exact (World.cell?_of_block (a := ⟨b, o, none⟩) (k.block b (World.block_lt_of_cell? w _ hc) hbg)).trans hc
  obtain ⟨vs, ho, he⟩ := h
  have ho2 := own_stab ho (M := fun b => b = g) (fun g' hg' e => own_ne_type ho hb (by decide) (e ▸ hg')) _ k
  exact Ow.sl ⟨vs, ho2, he.mono fun us x ⟨vo, vn, e1, h1, h2, h3⟩ => ⟨vo, vn, e1, h1.keepS hS, h2.keepS hS, h3⟩⟩

/-- The rows of places under way. -/
def PcRow (w : World) (vh : Value) (hs : List Hk) (v : Value) (out : List Int) (wr : World) : Prop :=
  wr.ownsRow w.heap.size 3 1 v out.length (out.map (.int .i64)) ∧ Stab wr (OwnOf v) (fun w' => Hks w' vh hs) ∧ Below w.heap.size w wr
theorem PcRow.push {w wr w2 : World} {vh v v2 : Value} {hs : List Hk} {out : List Int} {z : Int} {ob : Obj} (h : PcRow w vh hs v out wr) (hg : (wr.alloc ob).grownBy w2 v.ownBlock) (ho : w2.ownsRow w.heap.size 3 1 v2 (out.length + 1) (out.map (.int .i64) ++ [.int .i64 z]))
    (ha : v2.ownBlock = v.ownBlock ∨ v2.ownBlock = some (wr.alloc ob).heap.size) : PcRow w vh hs v2 (out ++ [z]) w2 := by
  obtain ⟨h1, h2, h3⟩ := h
  obtain ⟨g1, g2⟩ := row_grow h1 rfl h2 h3 hg ha
  exact ⟨by rw [List.length_append, List.map_append]; exact ho, g1, g2⟩
theorem PcRow.below {w wr w2 : World} {vh v : Value} {hs : List Hk} {out : List Int} (h : PcRow w vh hs v out wr) (k : Below wr.heap.size wr w2) : PcRow w vh hs v out w2 :=
  ⟨own_below h.1 k, h.2.1.go (Agree.of_below k _), h.2.2.trans (k.mono h.2.2.size)⟩
theorem PcRow.blk {w wr w2 : World} {vh v : Value} {hs : List Hk} {out : List Int} {ob : Obj} (h : PcRow w vh hs v out wr) (hg : (wr.alloc ob).grownBy w2 v.ownBlock) {g : Nat} {t : TypeId} {cs : Array Value} (ht : t ≠ 3) (hb : Blk wr g t cs) : Blk w2 g t cs :=
  (hb.alloc ob).grown hg fun e => own_ne_type h.1 hb (Ne.symm ht) e.symm
def PcA (full : List Int) (n S : Nat) (out : List Int) (k : Nat) (hs : List Hk) : Prop := Hid (full = out ++ plcF n out.length k hs) ∧ Hid (sepB n ((out.length : Int) - 1) hs) ∧ Hid (k + newL hs ≤ out.length + S)
theorem PcA.go {full out : List Int} {n S k : Nat} {z : Int} {o e : List ByteArray} {hs : List Hk} (h : PcA full n S out k ((z, o, e) :: hs)) (hz : ¬ z = (out.length : Int)) : PcA full n S (out ++ [(k : Int)]) (k + 1) ((z, o, e) :: hs) ∧ out.length < n := by
  obtain ⟨h1, h2, h3⟩ := h
  obtain ⟨p1, p2, p3⟩ := plc_go h1.out h2.out hz
  have hl : (out ++ [(k : Int)]).length = out.length + 1 := by simp
  refine ⟨⟨?_, ?_, ?_⟩, p3⟩
  · show _ = _; rw [hl]; exact p1
  · show sepB _ _ _; rw [hl]; exact p2
  · have := h3.out; show _ ≤ _; rw [hl]; omega
theorem PcA.hunk {full out : List Int} {n S k : Nat} {z : Int} {o e : List ByteArray} {hs : List Hk} (h : PcA full n S out k ((z, o, e) :: hs)) (hz : z = (out.length : Int)) : PcA full n S (out ++ List.replicate o.length (-1)) (k + e.length) hs ∧ out.length + o.length ≤ n := by
  obtain ⟨h1, h2, h3⟩ := h
  obtain ⟨p1, p2, p3⟩ := plc_hunk h1.out h2.out hz
  have hl : (out ++ List.replicate o.length (-1)).length = out.length + o.length := by simp
  refine ⟨⟨?_, ?_, ?_⟩, p3⟩
  · show _ = _; rw [hl]; exact p1
  · show sepB _ _ _; rw [hl]; exact p2
  · have := h3.out
    rw [newL_cons] at this
    simp only at this
    show _ ≤ _; rw [hl]; omega
theorem PcA.le {full out : List Int} {n S k : Nat} {z : Int} {o e : List ByteArray} {hs : List Hk} (h : PcA full n S out k ((z, o, e) :: hs)) : (out.length : Int) ≤ z ∧ z + o.length ≤ n ∧ k + e.length ≤ out.length + S := by
  obtain ⟨⟨h1, h2, h3, h4⟩, _⟩ := h.2.1.out
  have := h.2.2.out
  rw [newL_cons] at this
  simp only at this
  omega
theorem PcA.end_ {full out : List Int} {n S k : Nat} (h : PcA full n S out k []) (hlt : out.length < n) : PcA full n S (out ++ [(k : Int)]) (k + 1) [] := by
  obtain ⟨h1, h2, h3⟩ := h
  have hl : (out ++ [(k : Int)]).length = out.length + 1 := by simp
  refine ⟨?_, trivial, ?_⟩
  · show _ = _; rw [hl]; exact plc_end h1.out hlt
  · have := h3.out; show _ ≤ _; rw [hl]; omega
theorem PcA.fin {full out : List Int} {n S k : Nat} (h : PcA full n S out k []) (hlt : ¬ out.length < n) : full = out := plc_fin h.1.out (by omega)
theorem PcA.bound {full out : List Int} {n S k : Nat} {hs : List Hk} (h : PcA full n S out k hs) : k ≤ out.length + S := by have := h.2.2.out; omega
/-- The loops of places. -/
def PcRel (w : World) (full : List Int) (n S : Nat) (vh : Value) (hs : List Hk) (v at_ t : Value) (wr : World) : Prop :=
  ∃ (hh k : Nat) (out : List Int), t = .int .i64 hh ∧ at_ = .int .i64 k ∧ hh ≤ hs.length ∧ out.length ≤ n ∧ PcA full n S out k (hs.drop hh) ∧ PcRow w vh hs v out wr
def PcRel2 (w : World) (full : List Int) (n S : Nat) (vh : Value) (hs : List Hk) (x : Hk) (hr : List Hk) (gb : Nat) (cs : Array Value) (v at_ : Value) (wr : World) : Prop :=
  ∃ (k : Nat) (out : List Int), at_ = .int .i64 k ∧ out.length ≤ n ∧ PcA full n S out k (x :: hr) ∧ PcRow w vh hs v out wr ∧ Blk wr gb 92 cs
def PcRel3 (w : World) (vh : Value) (hs : List Hk) (out : List Int) (m : Nat) (gb : Nat) (cs : Array Value) (v t : Value) (wr : World) : Prop :=
  ∃ kk : Nat, kk ≤ m ∧ t = .int .i64 kk ∧ PcRow w vh hs v (out ++ List.replicate kk (-1)) wr ∧ Blk wr gb 92 cs
def PcRel4 (w : World) (full : List Int) (n S : Nat) (vh : Value) (hs : List Hk) (v at_ : Value) (wr : World) : Prop :=
  ∃ (k : Nat) (out : List Int), at_ = .int .i64 k ∧ out.length ≤ n ∧ PcA full n S out k [] ∧ PcRow w vh hs v out wr

set_option maxRecDepth 100000 in
set_option maxHeartbeats 2000000 in
theorem places_any (w : World) (va vb : Value) (xs ys : List ByteArray) (ha : Strs w va xs) (hb : Strs w vb ys) (hx : xs.length ≤ 1000) (hy : ys.length ≤ 1000) :
    Calls Try.prog 59 #[va, vb] w fun e w' => ∃ v, e = .returned v ∧ w'.ownsRow w.heap.size 3 1 v (plcL xs ys).length ((plcL xs ys).map (.int .i64)) ∧ Below w.heap.size w w' := by
  obtain ⟨A, c, rfl, hc, hm⟩ := ha.form
  obtain ⟨i0, hi, hz0, hz1, hz2⟩ := info_parts Try.info_int
  have hmk := run_make_row1 (P := Try.prog) 65 3 i0 (.int .i64 0) Try.underlying65 hi hz0 hz1 rfl .i64 .i64 xs.length (by rw [hz2]; omega) (by omega)
  have cd := diff_any (w.alloc (.cells (Array.replicate xs.length (.int .i64 0)) 3)) _ vb xs ys (ha.keep (Keeps.alloc _ _)) (hb.keep (Keeps.alloc _ _)) hx hy
  obtain ⟨B, d, rfl, hc', hm'⟩ := hb.form
  have hS0 : sizeH (diffL xs ys) ≤ 2000 := by
    rw [size_diffL_dist]
    have := (dist_len xs ys).2.2
    omega
  have hS : newL (diffL xs ys) ≤ 2000 := by have h1 := newL_le (diffL xs ys); omega
  obtain ⟨HF, HB⟩ := plcF_start xs ys
  have hpa : PcA (plcL xs ys) xs.length (newL (diffL xs ys)) [] 0 (diffL xs ys) := ⟨HF, HB, by show _ ≤ _; simp⟩
  have hlen : (diffL xs ys).length ≤ 3000 := by have := sep_len HB; omega
  clear ha hb HF HB
  generalize plcL xs ys = full at *
  generalize xs.length = n at *
  generalize diffL xs ys = hs at *
  generalize newL hs = S at *
  go_enter Try.func59, Try.ntmps59
  go_wp2_with fail
  refine cd.mono ?_
  clear cd hmk
  rintro e w1 ⟨vh, rfl, ho, hbl⟩
  have hbel : Below w.heap.size w w1 := ((Below.refl _ _).alloc (Nat.le_refl _) _).trans (hbl.mono (by simp))
  have hb0 : Blk w1 w.heap.size 3 (Array.replicate n (.int .i64 0)) := (Blk.new w _ 3).keep hbl
  have hst : Stab w1 (OwnOf (.slice (some ⟨w.heap.size, 0, none⟩) 0 n)) fun w' => Hks w' vh hs := (hks_stab ho hb0).mono fun _ _ h => by simpa [OwnOf, Value.ownBlock] using h.symm
  obtain ⟨Ah, ch, rfl, hh1, hh2⟩ := Hks.form ho.sl
  have how0 := hb0.own (Nat.le_refl _) (cap := n) (sz := 1) (n := 0) (by simp) (by unfold maxLen; omega) (by omega)
  have hrow0 : PcRow w (.slice Ah hs.length ch) hs (.slice (some ⟨w.heap.size, 0, none⟩) 0 n) [] w1 := ⟨by simpa using how0, hst, hbel⟩
  have hrel0 : PcRel w full n S (.slice Ah hs.length ch) hs (.slice (some ⟨w.heap.size, 0, none⟩) 0 n) (.int .i64 0) (.int .i64 0) w1 := ⟨0, 0, [], rfl, rfl, by omega, by simp, hpa, hrow0⟩
  clear ho hb0 hst how0 hbel hbl hrow0 hpa
  go_wp2
  go_loopw [5, 6, 16] (fun v at_ t wr => PcRel w full n S (.slice Ah hs.length ch) hs v at_ t wr) (fun _ _ t _ => hs.length - (intOf t).toNat)
  case atStart => exact hrel0
  case round =>
    clear hrel0
    obtain ⟨hh, k, out, rfl, rfl, hhh, hol, hpa, hrow⟩ := hrel
    by_cases hhl : hh < hs.length
    · obtain ⟨⟨zz, o, e⟩, hx⟩ : ∃ x, hs[hh]? = some x := ⟨_, List.getElem?_eq_getElem hhl⟩
      have hdr : hs.drop hh = (zz, o, e) :: hs.drop (hh + 1) := by
        obtain ⟨_, hx'⟩ := List.getElem?_eq_some_iff.1 hx
        rw [drop_at hhl, hx']
      have hbs := hrow.2.2.size
      obtain ⟨b, off, vo, vn, rfl, a1, a2, a3, a4, a5⟩ := hrow.2.1.now.get_ hx
      rw [hdr] at hpa
      obtain ⟨Ao, co, rfl, ho1, ho2⟩ := a4.form
      obtain ⟨An, cn, rfl, hn1, hn2⟩ := a5.form
      obtain ⟨z0, z1, z2⟩ := hpa.le
      have hrel2 : PcRel2 w full n S (.slice (some ⟨b, off, none⟩) hs.length ch) hs (zz, o, e) (hs.drop (hh + 1)) wr.heap.size #[.int .i64 zz, .slice Ao o.length co, .slice An e.length cn] u5 (.int .i64 k) (wr.alloc (.cells #[.int .i64 zz, .slice Ao o.length co, .slice An e.length cn] 92)) :=
        ⟨k, out, rfl, hol, hpa, hrow.below ((Below.refl _ _).alloc (Nat.le_refl _) _), Blk.new _ _ _⟩
      clear hx hdr a4 a5 hrow hpa
      go_wp2_with fail
      generalize hgb : wr.heap.size = gb at *
      have HGB := Lib.hid hgb
      clear hgb
      go_loopw [5, 6] (fun v at_ wr' => PcRel2 w full n S (.slice (some ⟨b, off, none⟩) hs.length ch) hs (zz, o, e) (hs.drop (hh + 1)) gb #[.int .i64 zz, .slice Ao o.length co, .slice An e.length cn] v at_ wr') (fun _ at_ _ => 5000 - (intOf at_).toNat)
      case atStart => exact hrel2
      case round =>
        clear hrel2 a1 a2 a3 z0 z1 z2 hol
        obtain ⟨k, out, rfl, hol, hpa, hrow, hbk⟩ := hrel
        obtain ⟨k0, k1, k2, _, _, _⟩ := blk3 hbk
        obtain ⟨z0, z1, z2⟩ := hpa.le
        have hown := hrow.1
        obtain ⟨Av, cv, hv⟩ := own_form hown
        subst hv
        have hbs := hrow.2.2.size
        by_cases hz : zz = (out.length : Int)
        · obtain ⟨p1, p2⟩ := hpa.hunk hz
          have hlt : ¬ (out.length : Int) < zz := by omega
          have hrel3 : PcRel3 w (.slice (some ⟨b, off, none⟩) hs.length ch) hs out o.length gb #[.int .i64 zz, .slice Ao o.length co, .slice An e.length cn] (.slice Av out.length cv) (.int .i64 0) wr := ⟨0, by omega, rfl, by simpa using hrow, hbk⟩
          clear hz hpa hrow hbk hown
          go_wp2_with fail
          clear k0 k1 k2 hbs
          go_loopw [5, 34] (fun v t wr' => PcRel3 w (.slice (some ⟨b, off, none⟩) hs.length ch) hs out o.length gb #[.int .i64 zz, .slice Ao o.length co, .slice An e.length cn] v t wr') (fun _ t _ => o.length - (intOf t).toNat)
          case atStart => exact hrel3
          case round =>
            clear hrel3
            obtain ⟨kk, hkk, rfl, hrow, hbk⟩ := hrel
            obtain ⟨k0, k1, k2, _, _, _⟩ := blk3 hbk
            have hown := hrow.1
            have hrl : (out ++ List.replicate kk (-1 : Int)).length = out.length + kk := by simp
            rw [hrl] at hown
            obtain ⟨Av, cv, hv⟩ := own_form hown
            subst hv
            have hbs := hrow.2.2.size
            have HRL := Lib.hid hrl
            clear hrl
            by_cases hkl : kk < o.length
            · go_wp2_with (at_builtin; go_must (refine wpList_append_any _ rfl (.tmp 36) (.tmp 37) _ rfl w.heap.size 3 i0 _ 1 8 Try.underlying65 hi hz0 hz1 hz2 rfl (by omega) (.slice Av (out.length + kk) cv) (out.length + kk) _ rfl (hown.alloc _) _ 1 1 [.int .i64 (-1)] rfl rfl (CellsAt.of_new _ _ _ _) (by simp [Value.oneCell']) (by omega) (by omega) (by simp; omega) ?_)
                           intro v2 w2 ho2 hg2 ha2)
              have hp := hrow.push hg2 (by rw [HRL.out]; exact ho2) ha2
              rw [List.append_assoc, ← List.replicate_succ'] at hp
              go_roundw
              case rel => exact ⟨kk + 1, by omega, by go_num, hp, hrow.blk hg2 (by decide) hbk⟩
              case measure => simp [intOf]; omega
            · obtain rfl : kk = o.length := by omega
              go_wp2
              go_roundw
              case rel => exact ⟨hh + 1, k + e.length, _, by go_num, by go_num, by omega, by rw [List.length_append, List.length_replicate]; exact p2, p1, hrow⟩
              case measure => simp [intOf]; omega
        · have hlt : (out.length : Int) < zz := by omega
          obtain ⟨p1, p2⟩ := hpa.go hz
          clear hz hpa
          go_wp2_with (at_builtin; go_must (refine wpList_append_any _ rfl (.tmp 25) (.tmp 27) _ rfl w.heap.size 3 i0 _ 1 8 Try.underlying65 hi hz0 hz1 hz2 rfl (by omega) (.slice Av out.length cv) out.length _ rfl (hown.alloc _) _ 1 1 [.int .i64 (k : Int)] rfl rfl (CellsAt.of_new _ _ _ _) (by simp [Value.oneCell']) (by omega) (by omega) (by simp; omega) ?_)
                       intro v2 w2 ho2 hg2 ha2)
          go_roundw
          case rel => exact ⟨k + 1, _, by go_num, by simp; omega, p1, hrow.push hg2 ho2 ha2, hrow.blk hg2 (by decide) hbk⟩
          case measure => simp [intOf]; omega
    · have hdr : hs.drop hh = [] := List.drop_of_length_le (by omega)
      rw [hdr] at hpa
      have hrel4 : PcRel4 w full n S (.slice Ah hs.length ch) hs u5 (.int .i64 k) wr := ⟨k, out, rfl, hol, hpa, hrow⟩
      clear hdr hpa hrow
      go_wp2_with fail
      go_loopw [5, 6] (fun v at_ wr' => PcRel4 w full n S (.slice Ah hs.length ch) hs v at_ wr') (fun _ at_ _ => 5000 - (intOf at_).toNat)
      case atStart => exact hrel4
      case round =>
        clear hrel4 hol
        obtain ⟨k, out, rfl, hol, hpa, hrow⟩ := hrel
        have hown := hrow.1
        have hkb := hpa.bound
        obtain ⟨Av, cv, hv⟩ := own_form hown
        subst hv
        have hbs := hrow.2.2.size
        by_cases hlt : out.length < n
        · have p1 := hpa.end_ hlt
          clear hpa
          go_wp2_with (at_builtin; go_must (refine wpList_append_any _ rfl (.tmp 51) (.tmp 53) _ rfl w.heap.size 3 i0 _ 1 8 Try.underlying65 hi hz0 hz1 hz2 rfl (by omega) (.slice Av out.length cv) out.length _ rfl (hown.alloc _) _ 1 1 [.int .i64 (k : Int)] rfl rfl (CellsAt.of_new _ _ _ _) (by simp [Value.oneCell']) (by omega) (by omega) (by simp; omega) ?_)
                       intro v2 w2 ho2 hg2 ha2)
          go_roundw
          case rel => exact ⟨k + 1, _, by go_num, by simp; omega, p1, hrow.push hg2 ho2 ha2⟩
          case measure => simp [intOf]; omega
        · have HE := Lib.hid (hpa.fin hlt)
          clear hpa
          go_wp2
          go_ret
          exact ⟨_, rfl, by rw [HE.out]; exact hrow.1, hrow.2.2⟩
end Go.Proofs.Ythobbcafemkhbaa
