/- delta: split. -/
import Derived.Test.YtiioebpmfjipeaaDeAdd
import Derived.Test.YtiioebpmfjipeaaSamB
import Derived.Test.YtiioebpmfjipeaaGrow
import Derived.Test.YtiioebpmfjipeaaHold
import Derived.Deep.RegionHeld3
import Derived.StillTailTactics
import Derived.Deep.CutBlock
namespace Go.Proofs.Ytiioebpmfjipeaa
set_option linter.unusedVariables false
set_option linter.unusedSimpArgs false
open Go.RowKit

/-- The first loop of split. -/
def CopyR (B g : Nat) (Bq : Aut) (q part m : Nat) (e0 : Option Nat) (w0 w : World) : Prop :=
  ∃ ns es own C, IdxM w B g ns es ∧ Rep ns es own C ∧ Copy es own Bq q part e0 C ∧ ns.length = m ∧ Below B w0 w
/-- The second loop of split. -/
def TurnR (A : Aut) (L : Nat → List UInt8) (t : List UInt8) (c : UInt8) (whole p q part : Nat) (Bq : Aut) (B g m : Nat) (p' : Option Nat) (b : Nat) (w0 w : World) : Prop :=
  ∃ ns es own D, IdxM w B g ns es ∧ Rep ns es own D ∧ Turn A L t c whole p q part Bq p' b D ∧ ns.length = m ∧ Below B w0 w
/-- What split leaves. -/
def SplitR (A : Aut) (L : Nat → List UInt8) (t : List UInt8) (c : UInt8) (whole p q part : Nat) (Bq : Aut) (B g : Nat) (w : World) : Prop :=
  ∃ ns es own D p' b, IdxM w B g ns es ∧ Rep ns es own D ∧ ns.length = part + 1 ∧ Turn A L t c whole p q part Bq p' b D ∧ Turned A c p q part Bq D
def stepM (i : Value) (A : Aut) : Nat := if intOf i < 0 then 0 else A.len (intOf i).toNat + 1
theorem stepM_none (A : Aut) : stepM (.int .i64 (optI none)) A = 0 := rfl
theorem stepM_some (A : Aut) (p : Nat) : stepM (.int .i64 (optI (some p))) A = A.len p + 1 := by
  have h : ¬ ((p : Nat) : Int) < 0 := by omega
  simp [stepM, intOf, optI, h]

set_option maxRecDepth 100000 in
set_option maxHeartbeats 4000000 in
theorem split_any (w : World) {B g : Nat} {ns : List Nd} {es : List Ed} {own : Nat → Nat} {A Bq : Aut} {L : Nat → List UInt8} {t : List UInt8} {last whole p q b : Nat} {c : UInt8}
    (M : IdxM w B g ns es) (R : Rep ns es own Bq) (h : A.Inv L t last) (hf : ¬ A.V whole) (P : Path A L t c whole (some p) b Bq) (hg : Bq.go p c = some q) (hl : A.len p + 1 < A.len q) (hn : ns.length ≤ 200000) (ht : t.length ≤ 100000000) :
    Calls Try.prog 77 #[.pointer (some ⟨g, 0, none⟩), .int .i64 p, .int .i64 q, .int .u8 c.toNat] w fun e w' =>
      e = .returned (.int .i64 ns.length) ∧ SplitR A L t c whole p q ns.length Bq B g w' ∧ Below B w w' := by
  obtain ⟨i1, hi1, hy0, hy1, hy2⟩ := info_parts Try.info_node
  obtain ⟨vq, hge⟩ := P.len_ge h hg
  obtain ⟨vp, hpt, hb⟩ := P.pos
  have hpw : p ≠ whole := fun e => hf (e ▸ vp)
  have hqw : q ≠ whole := fun e => hf (e ▸ vq)
  have hvp : p < ns.length := (R.V p).1 ((P.V p).2 (.inl vp))
  have hvq : q < ns.length := (R.V q).1 ((P.V q).2 (.inl vq))
  have hvw : whole < ns.length := (R.V whole).1 ((P.V whole).2 (.inr rfl))
  have hfp : ¬ A.V ns.length := fun e => by have := (R.V ns.length).1 ((P.V _).2 (.inl e)); omega
  have hpx := List.getElem?_eq_getElem hvp
  have hqx := List.getElem?_eq_getElem hvq
  generalize ns[p] = px at hpx
  generalize ns[q] = qx at hqx
  have r1 := (R.node p px hpx).1
  have r2 := (R.node q qx hqx).2.1
  have r3 := (R.node q qx hqx).2.2.1
  have r1' : px.len = A.len p := by rw [r1, P.len]; exact upd_ne _ _ hpw
  have hlen := h.len_le vq
  have R1 := R.node' (px.len + 1) qx.link qx.fin
  rw [r1', r2, r3] at R1
  have HR1 := Lib.hid R1
  have HCS := Lib.hid (Copy.start (l := A.len p + 1) (lk := Bq.link q) (f := Bq.fin q) R hqx)
  obtain ⟨vn, ve, hV⟩ := M
  obtain ⟨gn, cn, rfl, _, hc1, hc2, n0, _⟩ := hV.node_at hpx
  obtain ⟨gn', cn', e1, _, _, _, _, m1, m2, m3⟩ := hV.node_at hqx
  injection e1 with e1 _ e3
  subst e3
  injection e1 with e1
  injection e1 with e1 _ _
  subst e1
  have b0 : w.cell? ⟨g, 0, none⟩ = some (.slice (some ⟨gn, 0, none⟩) ns.length cn) := hV.box.cell rfl
  have hgs := hV.box.lt
  have hbs := hV.base
  have hon := hV.nodes
  have hgl := (hon.lt gn rfl).2
  have hbox := hV.box
  have H := Lib.hid hV
  have HH := Lib.hid h
  have HP := Lib.hid P
  have Hf := Lib.hid hf
  have Hfp := Lib.hid hfp
  have Hg := Lib.hid hg
  have HE : Hid (ndC ⟨A.len p + 1, Bq.link q, Bq.fin q, none⟩ = [.int .i64 ((px.len : Int) + 1), .int .i64 (optI qx.link), .int .i64 qx.fin, .int .i64 (-1)]) := by
    show _ = _
    rw [r1', r2, r3]; rfl
  have hpl : px.len + 1 < 100000000 := by omega
  clear R R1 hV h P hf hfp hg hge r1 r1' r2 r3 hl hpt hb vp vq
  generalize optI qx.link = lk at *
  generalize qx.fin = fi at *
  generalize px.len = pl at *
  have hxl := hqx
  clear hpx hqx
  have hz1 : IntKind.i64.wrap ((pl : Int) + 1) = (pl : Int) + 1 := i64w (by omega) (by omega)
  go_enter Try.func77, Try.ntmps77
  go_wp2_with fail
  refine AtS.start (S := fun w' => w'.cell? ⟨g, 0, none⟩ = some (.slice (some ⟨gn, 0, none⟩) ns.length cn) ∧ w'.cell? ⟨gn, p * 4, none⟩ = some (.int .i64 pl) ∧ w'.cell? ⟨gn, q * 4 + 1, none⟩ = some (.int .i64 lk) ∧ w'.cell? ⟨gn, q * 4 + 2, none⟩ = some (.int .i64 fi)) (by kernel_rfl) ⟨b0, n0, m1, m2⟩ 32 ?_
  -- takes '[0]' free:0-3 load:4 free:5-7 load:8 free:9-11 load:12 free:13-16 load:17 free:18-20 load:21 free:22-24 load:25 free:26-28 load:29 free:30
  (refine AtS.free (i := 0) (v := ?_) (by simp only [List.getElem?_toArray, List.getElem?_cons_succ, List.getElem?_cons_zero]; rfl) (by kernel_rfl) (by kernel_rfl) (by kernel_rfl) (fun _ _ _ h => h) (by kernel_rfl) (Or.inl ⟨by rfl, fun w _ => ?_⟩) ?_; rotate_left; (go_simp; try with_reducible rfl); simp only [Act.put, List.setIfInBounds_toArray, List.set_cons_zero, List.set_cons_succ])
  (refine AtS.free (i := 1) (v := ?_) (by simp only [List.getElem?_toArray, List.getElem?_cons_succ, List.getElem?_cons_zero]; rfl) (by kernel_rfl) (by kernel_rfl) (by kernel_rfl) (fun _ _ _ h => h) (by kernel_rfl) (Or.inl ⟨by rfl, fun w _ => ?_⟩) ?_; rotate_left; (go_simp; try with_reducible rfl); simp only [Act.put, List.setIfInBounds_toArray, List.set_cons_zero, List.set_cons_succ])
  (refine AtS.free (i := 2) (v := ?_) (by simp only [List.getElem?_toArray, List.getElem?_cons_succ, List.getElem?_cons_zero]; rfl) (by kernel_rfl) (by kernel_rfl) (by kernel_rfl) (fun _ _ _ h => h) (by kernel_rfl) (Or.inl ⟨by rfl, fun w _ => ?_⟩) ?_; rotate_left; (go_simp; try with_reducible rfl); simp only [Act.put, List.setIfInBounds_toArray, List.set_cons_zero, List.set_cons_succ])
  (refine AtS.free (i := 3) (v := ?_) (by simp only [List.getElem?_toArray, List.getElem?_cons_succ, List.getElem?_cons_zero]; rfl) (by kernel_rfl) (by kernel_rfl) (by kernel_rfl) (fun _ _ _ h => h) (by kernel_rfl) (Or.inl ⟨by rfl, fun w _ => ?_⟩) ?_; rotate_left; (go_simp; try with_reducible rfl); simp only [Act.put, List.setIfInBounds_toArray, List.set_cons_zero, List.set_cons_succ])
  (refine AtS.load (i := 4) (v := ?_) (by simp only [List.getElem?_toArray, List.getElem?_cons_succ, List.getElem?_cons_zero]; rfl) (by kernel_rfl) (by kernel_rfl) (by kernel_rfl) (fun _ _ _ h => h) [0] (by kernel_rfl) (Or.inl ⟨by rfl, fun w hSw => ?_⟩) ?_; rotate_left; ((try dsimp only at hSw); go_split_ands; go_simp; try with_reducible rfl); simp only [Act.put, List.setIfInBounds_toArray, List.set_cons_zero, List.set_cons_succ])
  (refine AtS.free (i := 5) (v := ?_) (by simp only [List.getElem?_toArray, List.getElem?_cons_succ, List.getElem?_cons_zero]; rfl) (by kernel_rfl) (by kernel_rfl) (by kernel_rfl) (fun _ _ _ h => h) (by kernel_rfl) (Or.inl ⟨by rfl, fun w _ => ?_⟩) ?_; rotate_left; (go_simp; try with_reducible rfl); simp only [Act.put, List.setIfInBounds_toArray, List.set_cons_zero, List.set_cons_succ])
  (refine AtS.free (i := 6) (v := ?_) (by simp only [List.getElem?_toArray, List.getElem?_cons_succ, List.getElem?_cons_zero]; rfl) (by kernel_rfl) (by kernel_rfl) (by kernel_rfl) (fun _ _ _ h => h) (by kernel_rfl) (Or.inl ⟨by rfl, fun w _ => ?_⟩) ?_; rotate_left; (go_simp; try with_reducible rfl); simp only [Act.put, List.setIfInBounds_toArray, List.set_cons_zero, List.set_cons_succ])
  (refine AtS.free (i := 7) (v := ?_) (by simp only [List.getElem?_toArray, List.getElem?_cons_succ, List.getElem?_cons_zero]; rfl) (by kernel_rfl) (by kernel_rfl) (by kernel_rfl) (fun _ _ _ h => h) (by kernel_rfl) (Or.inl ⟨by rfl, fun w _ => ?_⟩) ?_; rotate_left; (go_simp; try with_reducible rfl); simp only [Act.put, List.setIfInBounds_toArray, List.set_cons_zero, List.set_cons_succ])
  (refine AtS.load (i := 8) (v := ?_) (by simp only [List.getElem?_toArray, List.getElem?_cons_succ, List.getElem?_cons_zero]; rfl) (by kernel_rfl) (by kernel_rfl) (by kernel_rfl) (fun _ _ _ h => h) [0] (by kernel_rfl) (Or.inl ⟨by rfl, fun w hSw => ?_⟩) ?_; rotate_left; ((try dsimp only at hSw); go_split_ands; go_simp; try with_reducible rfl); simp only [Act.put, List.setIfInBounds_toArray, List.set_cons_zero, List.set_cons_succ])
  (refine AtS.free (i := 9) (v := ?_) (by simp only [List.getElem?_toArray, List.getElem?_cons_succ, List.getElem?_cons_zero]; rfl) (by kernel_rfl) (by kernel_rfl) (by kernel_rfl) (fun _ _ _ h => h) (by kernel_rfl) (Or.inl ⟨by rfl, fun w _ => ?_⟩) ?_; rotate_left; (go_simp; try with_reducible rfl); simp only [Act.put, List.setIfInBounds_toArray, List.set_cons_zero, List.set_cons_succ])
  (refine AtS.free (i := 10) (v := ?_) (by simp only [List.getElem?_toArray, List.getElem?_cons_succ, List.getElem?_cons_zero]; rfl) (by kernel_rfl) (by kernel_rfl) (by kernel_rfl) (fun _ _ _ h => h) (by kernel_rfl) (Or.inl ⟨by rfl, fun w _ => ?_⟩) ?_; rotate_left; (go_simp; try with_reducible rfl); simp only [Act.put, List.setIfInBounds_toArray, List.set_cons_zero, List.set_cons_succ])
  (refine AtS.free (i := 11) (v := ?_) (by simp only [List.getElem?_toArray, List.getElem?_cons_succ, List.getElem?_cons_zero]; rfl) (by kernel_rfl) (by kernel_rfl) (by kernel_rfl) (fun _ _ _ h => h) (by kernel_rfl) (Or.inl ⟨by rfl, fun w _ => ?_⟩) ?_; rotate_left; (go_simp; try with_reducible rfl); simp only [Act.put, List.setIfInBounds_toArray, List.set_cons_zero, List.set_cons_succ])
  (refine AtS.load (i := 12) (v := ?_) (by simp only [List.getElem?_toArray, List.getElem?_cons_succ, List.getElem?_cons_zero]; rfl) (by kernel_rfl) (by kernel_rfl) (by kernel_rfl) (fun _ _ _ h => h) [0] (by kernel_rfl) (Or.inl ⟨by rfl, fun w hSw => ?_⟩) ?_; rotate_left; ((try dsimp only at hSw); go_split_ands; go_simp; try with_reducible rfl); simp only [Act.put, List.setIfInBounds_toArray, List.set_cons_zero, List.set_cons_succ])
  (refine AtS.free (i := 13) (v := ?_) (by simp only [List.getElem?_toArray, List.getElem?_cons_succ, List.getElem?_cons_zero]; rfl) (by kernel_rfl) (by kernel_rfl) (by kernel_rfl) (fun _ _ _ h => h) (by kernel_rfl) (Or.inl ⟨by rfl, fun w _ => ?_⟩) ?_; rotate_left; (go_simp; try with_reducible rfl); simp only [Act.put, List.setIfInBounds_toArray, List.set_cons_zero, List.set_cons_succ])
  (refine AtS.free (i := 14) (v := ?_) (by simp only [List.getElem?_toArray, List.getElem?_cons_succ, List.getElem?_cons_zero]; rfl) (by kernel_rfl) (by kernel_rfl) (by kernel_rfl) (fun _ _ _ h => h) (by kernel_rfl) (Or.inl ⟨by rfl, fun w _ => ?_⟩) ?_; rotate_left; (go_simp; try with_reducible rfl); simp only [Act.put, List.setIfInBounds_toArray, List.set_cons_zero, List.set_cons_succ])
  (refine AtS.free (i := 15) (v := ?_) (by simp only [List.getElem?_toArray, List.getElem?_cons_succ, List.getElem?_cons_zero]; rfl) (by kernel_rfl) (by kernel_rfl) (by kernel_rfl) (fun _ _ _ h => h) (by kernel_rfl) (Or.inl ⟨by rfl, fun w _ => ?_⟩) ?_; rotate_left; (go_simp; try with_reducible rfl); simp only [Act.put, List.setIfInBounds_toArray, List.set_cons_zero, List.set_cons_succ])
  (refine AtS.free (i := 16) (v := ?_) (by simp only [List.getElem?_toArray, List.getElem?_cons_succ, List.getElem?_cons_zero]; rfl) (by kernel_rfl) (by kernel_rfl) (by kernel_rfl) (fun _ _ _ h => h) (by kernel_rfl) (Or.inl ⟨by rfl, fun w _ => ?_⟩) ?_; rotate_left; (go_simp; try with_reducible rfl); simp only [Act.put, List.setIfInBounds_toArray, List.set_cons_zero, List.set_cons_succ])
  (refine AtS.load (i := 17) (v := ?_) (by simp only [List.getElem?_toArray, List.getElem?_cons_succ, List.getElem?_cons_zero]; rfl) (by kernel_rfl) (by kernel_rfl) (by kernel_rfl) (fun _ _ _ h => h) [0] (by kernel_rfl) (Or.inl ⟨by rfl, fun w hSw => ?_⟩) ?_; rotate_left; ((try dsimp only at hSw); go_split_ands; go_simp; try with_reducible rfl); simp only [Act.put, List.setIfInBounds_toArray, List.set_cons_zero, List.set_cons_succ])
  (refine AtS.free (i := 18) (v := ?_) (by simp only [List.getElem?_toArray, List.getElem?_cons_succ, List.getElem?_cons_zero]; rfl) (by kernel_rfl) (by kernel_rfl) (by kernel_rfl) (fun _ _ _ h => h) (by kernel_rfl) (Or.inl ⟨by rfl, fun w _ => ?_⟩) ?_; rotate_left; (go_simp; try with_reducible rfl); simp only [Act.put, List.setIfInBounds_toArray, List.set_cons_zero, List.set_cons_succ])
  (refine AtS.free (i := 19) (v := ?_) (by simp only [List.getElem?_toArray, List.getElem?_cons_succ, List.getElem?_cons_zero]; rfl) (by kernel_rfl) (by kernel_rfl) (by kernel_rfl) (fun _ _ _ h => h) (by kernel_rfl) (Or.inl ⟨by rfl, fun w _ => ?_⟩) ?_; rotate_left; (go_simp; try with_reducible rfl); simp only [Act.put, List.setIfInBounds_toArray, List.set_cons_zero, List.set_cons_succ])
  (refine AtS.free (i := 20) (v := ?_) (by simp only [List.getElem?_toArray, List.getElem?_cons_succ, List.getElem?_cons_zero]; rfl) (by kernel_rfl) (by kernel_rfl) (by kernel_rfl) (fun _ _ _ h => h) (by kernel_rfl) (Or.inl ⟨by rfl, fun w _ => ?_⟩) ?_; rotate_left; (go_simp; try with_reducible rfl); simp only [Act.put, List.setIfInBounds_toArray, List.set_cons_zero, List.set_cons_succ])
  (refine AtS.load (i := 21) (v := ?_) (by simp only [List.getElem?_toArray, List.getElem?_cons_succ, List.getElem?_cons_zero]; rfl) (by kernel_rfl) (by kernel_rfl) (by kernel_rfl) (fun _ _ _ h => h) [0] (by kernel_rfl) (Or.inl ⟨by rfl, fun w hSw => ?_⟩) ?_; rotate_left; ((try dsimp only at hSw); go_split_ands; go_simp; try with_reducible rfl); simp only [Act.put, List.setIfInBounds_toArray, List.set_cons_zero, List.set_cons_succ])
  (refine AtS.free (i := 22) (v := ?_) (by simp only [List.getElem?_toArray, List.getElem?_cons_succ, List.getElem?_cons_zero]; rfl) (by kernel_rfl) (by kernel_rfl) (by kernel_rfl) (fun _ _ _ h => h) (by kernel_rfl) (Or.inl ⟨by rfl, fun w _ => ?_⟩) ?_; rotate_left; (go_simp; try with_reducible rfl); simp only [Act.put, List.setIfInBounds_toArray, List.set_cons_zero, List.set_cons_succ])
  (refine AtS.free (i := 23) (v := ?_) (by simp only [List.getElem?_toArray, List.getElem?_cons_succ, List.getElem?_cons_zero]; rfl) (by kernel_rfl) (by kernel_rfl) (by kernel_rfl) (fun _ _ _ h => h) (by kernel_rfl) (Or.inl ⟨by rfl, fun w _ => ?_⟩) ?_; rotate_left; (go_simp; try with_reducible rfl); simp only [Act.put, List.setIfInBounds_toArray, List.set_cons_zero, List.set_cons_succ])
  (refine AtS.free (i := 24) (v := ?_) (by simp only [List.getElem?_toArray, List.getElem?_cons_succ, List.getElem?_cons_zero]; rfl) (by kernel_rfl) (by kernel_rfl) (by kernel_rfl) (fun _ _ _ h => h) (by kernel_rfl) (Or.inl ⟨by rfl, fun w _ => ?_⟩) ?_; rotate_left; (go_simp; try with_reducible rfl); simp only [Act.put, List.setIfInBounds_toArray, List.set_cons_zero, List.set_cons_succ])
  (refine AtS.load (i := 25) (v := ?_) (by simp only [List.getElem?_toArray, List.getElem?_cons_succ, List.getElem?_cons_zero]; rfl) (by kernel_rfl) (by kernel_rfl) (by kernel_rfl) (fun _ _ _ h => h) [0] (by kernel_rfl) (Or.inl ⟨by rfl, fun w hSw => ?_⟩) ?_; rotate_left; ((try dsimp only at hSw); go_split_ands; go_simp; try with_reducible rfl); simp only [Act.put, List.setIfInBounds_toArray, List.set_cons_zero, List.set_cons_succ])
  (refine AtS.free (i := 26) (v := ?_) (by simp only [List.getElem?_toArray, List.getElem?_cons_succ, List.getElem?_cons_zero]; rfl) (by kernel_rfl) (by kernel_rfl) (by kernel_rfl) (fun _ _ _ h => h) (by kernel_rfl) (Or.inl ⟨by rfl, fun w _ => ?_⟩) ?_; rotate_left; (go_simp; try with_reducible rfl); simp only [Act.put, List.setIfInBounds_toArray, List.set_cons_zero, List.set_cons_succ])
  (refine AtS.free (i := 27) (v := ?_) (by simp only [List.getElem?_toArray, List.getElem?_cons_succ, List.getElem?_cons_zero]; rfl) (by kernel_rfl) (by kernel_rfl) (by kernel_rfl) (fun _ _ _ h => h) (by kernel_rfl) (Or.inl ⟨by rfl, fun w _ => ?_⟩) ?_; rotate_left; (go_simp; try with_reducible rfl); simp only [Act.put, List.setIfInBounds_toArray, List.set_cons_zero, List.set_cons_succ])
  (refine AtS.free (i := 28) (v := ?_) (by simp only [List.getElem?_toArray, List.getElem?_cons_succ, List.getElem?_cons_zero]; rfl) (by kernel_rfl) (by kernel_rfl) (by kernel_rfl) (fun _ _ _ h => h) (by kernel_rfl) (Or.inl ⟨by rfl, fun w _ => ?_⟩) ?_; rotate_left; (go_simp; try with_reducible rfl); simp only [Act.put, List.setIfInBounds_toArray, List.set_cons_zero, List.set_cons_succ])
  (refine AtS.load (i := 29) (v := ?_) (by simp only [List.getElem?_toArray, List.getElem?_cons_succ, List.getElem?_cons_zero]; rfl) (by kernel_rfl) (by kernel_rfl) (by kernel_rfl) (fun _ _ _ h => h) [0] (by kernel_rfl) (Or.inl ⟨by rfl, fun w hSw => ?_⟩) ?_; rotate_left; ((try dsimp only at hSw); go_split_ands; go_simp; try with_reducible rfl); simp only [Act.put, List.setIfInBounds_toArray, List.set_cons_zero, List.set_cons_succ])
  (refine AtS.free (i := 30) (v := ?_) (by simp only [List.getElem?_toArray, List.getElem?_cons_succ, List.getElem?_cons_zero]; rfl) (by kernel_rfl) (by kernel_rfl) (by kernel_rfl) (fun _ _ _ h => h) (by kernel_rfl) (Or.inl ⟨by rfl, fun w _ => ?_⟩) ?_; rotate_left; (go_simp; try with_reducible rfl); simp only [Act.put, List.setIfInBounds_toArray, List.set_cons_zero, List.set_cons_succ])
  -- end takes
  refine AtS.only (i := 31) (by simp only [List.getElem?_toArray, List.getElem?_cons_succ, List.getElem?_cons_zero]; rfl) (by kernel_rfl) (by rfl) ?_
  intro K hK
  go_simp
  have hkw := ((Below.refl w.heap.size w).alloc (Nat.le_refl _) (.cells #[.int .i64 ((pl : Int) + 1), .int .i64 lk, .int .i64 fi, .int .i64 (-1)] 82)).drew
  have hK' := hK
  clear hK
  refine hK' _ _ ⟨by rw [hkw.cell (p := ⟨g, 0, none⟩) hgs]; exact b0, by rw [hkw.cell (p := ⟨gn, p * 4, none⟩) hgl]; exact n0, by rw [hkw.cell (p := ⟨gn, q * 4 + 1, none⟩) hgl]; exact m1, by rw [hkw.cell (p := ⟨gn, q * 4 + 2, none⟩) hgl]; exact m2⟩ ?_
  clear hK' K
  refine AtS.law (i := 32) (by simp only [List.getElem?_toArray, List.getElem?_cons_succ, List.getElem?_cons_zero]; rfl) (by kernel_rfl) (by rfl) ?_
  refine step_append_any _ rfl _ _ _ rfl B 82 i1 _ 4 32 Try.underlying83 hi1 hy0 hy1 hy2 rfl (by omega) (.slice (some ⟨gn, 0, none⟩) ns.length cn) ns.length _ rfl (World.ownsRow.drew (World.ownsRow.alloc hon _)) _ 1 1 [.int .i64 ((pl : Int) + 1), .int .i64 lk, .int .i64 fi, .int .i64 (-1)] rfl rfl (CellsAt.of_new _ _ _ _) (by simp [Value.oneCell']) (by omega) (by omega) (by simp; omega) ?_
  intro v1 w2 hown1 hgr hat
  obtain ⟨A', c', rfl⟩ := own_form hown1
  have hbk2 := Blk.grown (Blk.drew (Blk.alloc hbox (.cells #[.int .i64 ((pl : Int) + 1), .int .i64 lk, .int .i64 fi, .int .i64 (-1)] 82))) hgr (own_ne_type hon hbox (by decide)).symm
  have p1 := hbk2.cell (j := 0) rfl
  have f1 := hbk2.frozen 0
  have H2 := (H.out.keep hkw).grow_nodes (x := ⟨A.len p + 1, Bq.link q, Bq.fin q, none⟩) (by rw [HE.out]; exact hown1) hgr (own_ne_type hon hbox (by decide))
  have hd3 := ((hkw.mono (show B ≤ w.heap.size by omega)).grown hgr (by simp; omega) (fun g' h => (hon.lt g' h).1)).setCell (p := ⟨g, 0, none⟩) hbs (.slice A' (ns.length + 1) c')
  simp only [Act.put, List.setIfInBounds_toArray, List.set_cons_zero, List.set_cons_succ]
  -- takes '[0]' free:33-34
  (refine AtS.free (i := 33) (v := ?_) (by simp only [List.getElem?_toArray, List.getElem?_cons_succ, List.getElem?_cons_zero]; rfl) (by kernel_rfl) (by kernel_rfl) (by kernel_rfl) (fun _ _ _ h => h) (by kernel_rfl) (Or.inl ⟨by rfl, fun w _ => ?_⟩) ?_; rotate_left; (go_simp; try with_reducible rfl); simp only [Act.put, List.setIfInBounds_toArray, List.set_cons_zero, List.set_cons_succ])
  (refine AtS.free (i := 34) (v := ?_) (by simp only [List.getElem?_toArray, List.getElem?_cons_succ, List.getElem?_cons_zero]; rfl) (by kernel_rfl) (by kernel_rfl) (by kernel_rfl) (fun _ _ _ h => h) (by kernel_rfl) (Or.inl ⟨by rfl, fun w _ => ?_⟩) ?_; rotate_left; (go_simp; try with_reducible rfl); simp only [Act.put, List.setIfInBounds_toArray, List.set_cons_zero, List.set_cons_succ])
  -- end takes
  refine AtS.late (i := 35) (by simp only [List.getElem?_toArray, List.getElem?_cons_succ, List.getElem?_cons_zero]; rfl) (by kernel_rfl) (by rfl) (by rfl) ?_
  intro K hK
  go_simp
  refine hK _ _ (AtS.done (by kernel_rfl) ?_)
  clear hK K
  refine NoPanic.normal ?_
  clear p1 f1 hbk2 hown1 hgr hat hkw hon hbox b0 n0 m1 m2 m3 H HE hz1 hgs hgl hc1 hc2
  generalize w2.setCell ⟨g, 0, none⟩ (.slice A' (ns.length + 1) c') = w3 at *
  have hqx2 : (ns ++ [(⟨A.len p + 1, Bq.link q, Bq.fin q, none⟩ : Nd)])[q]? = some qx := by rw [List.getElem?_append_left hvq]; exact hxl
  obtain ⟨gn', cn', e1, _, hc1', hc2', _, _, _, k3⟩ := H2.node_at hqx2
  injection e1 with e1 e2 e3
  subst e1
  subst e3
  rw [← e2] at hc1'
  clear e2
  have c0 : w3.cell? ⟨g, 0, none⟩ = some (.slice (some ⟨gn', 0, none⟩) (ns.length + 1) c') := H2.box.cell (j := 0) rfl
  have hw1 : IntKind.i64.wrap (((ns.length + 1 : Nat) : Int) - 1) = (ns.length : Int) := by rw [i64w (by omega) (by omega)]; omega
  have HC : CopyR B g (Bq.node ns.length (A.len p + 1) (Bq.link q) (Bq.fin q)) q ns.length (ns.length + 1) qx.edge w w3 := ⟨_, _, _, _, ⟨_, _, H2⟩, HR1.out, HCS.out, by simp, hd3⟩
  have HC' := Lib.hid HC
  clear HC HR1 HCS H2 hd3 hxl hqx2
  clear hi1 hy0 hy1 hy2
  go_wp2
  go_loopw [10] (fun i wr => ∃ e0 : Option Nat, i = .int .i64 (optI e0) ∧ CopyR B g (Bq.node ns.length (A.len p + 1) (Bq.link q) (Bq.fin q)) q ns.length (ns.length + 1) e0 w wr) (fun i _ => (intOf i + 1).toNat)
  case atStart => exact ⟨_, rfl, HC'.out⟩
  case round =>
    obtain ⟨e0, rfl, HC⟩ := hrel
    cases e0 with
    | none =>
      obtain ⟨ns2, es2, own2, C, ⟨vn2, ve2, HV⟩, R2, K2, hm, hb⟩ := HC
      have hqp : q ≠ ns.length := by omega
      have hT := Turn.start HH.out Hf.out Hfp.out (by omega) HP.out Hg.out K2.same K2.go (fun x => by rw [K2.fin R2 (by omega) hqp x])
      have hxq := List.getElem?_eq_getElem (show q < ns2.length by omega)
      generalize ns2[q] = xq at hxq
      have hk := R2.setLink hxq (some ns.length)
      obtain ⟨gn2, cn2, rfl, hg1, hg2, hfr, HW⟩ := HV.put_node hxq (k := 1) (by omega) (x' := { xq with link := some ns.length }) (u := .int .i64 ns.length) rfl
      have c2 : wr.cell? ⟨g, 0, none⟩ = some (.slice (some ⟨gn2, 0, none⟩) ns2.length cn2) := HV.box.cell rfl
      obtain ⟨_, _, e1, _, _, _, _, q1, _, _⟩ := HV.node_at hxq
      injection e1 with e1 _ e3
      injection e1 with e1
      injection e1 with e1 _ _
      subst e1
      clear e3
      have hlq : q < ns2.length := by omega
      have HC2 : TurnR A L t c whole p q ns.length Bq B g (ns.length + 1) (some p) (A.len p + 1) w (wr.setCell ⟨gn2, q * 4 + 1, none⟩ (.int .i64 ns.length)) :=
        ⟨_, _, _, _, ⟨_, _, HW⟩, hk, hT, by rw [List.length_set]; exact hm, hb.setCell (p := ⟨gn2, q * 4 + 1, none⟩) hg1 _⟩
      have HC2' := Lib.hid HC2
      clear HC2 HW hk hT HV R2 K2 hm hb hxq HC'
      simp only [optI_none]
      go_wp2
      go_loopw [1] (fun i wr => ∃ p' : Option Nat, i = .int .i64 (optI p') ∧ ∃ b, TurnR A L t c whole p q ns.length Bq B g (ns.length + 1) p' b w wr) (fun i _ => stepM i A)
      case atStart => exact ⟨_, rfl, _, HC2'.out⟩
      case round =>
        obtain ⟨p', rfl, b', HC⟩ := hrel
        obtain ⟨ns3, es3, own3, D, M3, R3, T3, hm3, hb3⟩ := HC
        cases p' with
        | none =>
          have HS : SplitR A L t c whole p q ns.length Bq B g wr := ⟨_, _, _, _, _, _, M3, R3, hm3, T3, T3.end_none⟩
          have HS' := Lib.hid HS
          have Hb := Lib.hid hb3
          clear HS M3 R3 T3 hm3 hb3
          simp only [optI_none]
          go_wp2
          go_ret
          exact ⟨rfl, HS'.out, Hb.out⟩
        | some r =>
          obtain ⟨vr, hrt, hrb⟩ := T3.pos
          have hr3 : r < ns3.length := (R3.V r).1 ((T3.V r).2 (.inl (.inl vr)))
          have hxr := List.getElem?_eq_getElem hr3
          generalize ns3[r] = xr at hxr
          have CF := Lib.hid (find_any _ M3 R3 hxr c)
          have HM3 := Lib.hid M3
          have HR3 := Lib.hid R3
          have HT3 := Lib.hid T3
          have Hm := Lib.hid hm3
          have Hb := Lib.hid hb3
          have HX := Lib.hid hxr
          clear M3 R3 T3 hm3 hb3 hxr hrt hrb vr
          simp only [optI_some]
          go_wp2_with fail
          refine CF.out.mono ?_
          rintro e w1 ⟨rfl, e0, rfl, hf⟩
          cases e0 with
          | none =>
            have hd := hf.none HR3.out hr3
            have HS : SplitR A L t c whole p q ns.length Bq B g w1 := ⟨_, _, _, _, _, _, HM3.out, HR3.out, Hm.out, HT3.out, HT3.out.end_some HH.out HP.out Hg.out (by rw [hd]; exact fun e => (by cases e))⟩
            have HS' := Lib.hid HS
            clear HS hd hf
            simp only [optI_none]
            go_wp2
            go_ret
            exact ⟨rfl, HS'.out, Hb.out⟩
          | some j =>
            obtain ⟨y, hy, ho, hl', hd⟩ := hf.some HR3.out
            obtain ⟨vn3, ve3, HV3⟩ := HM3.out
            obtain ⟨ge, ce, rfl, hj, hce1, hce2, e0, e1, e2⟩ := HV3.edge_at hy
            have b1 : w1.cell? ⟨g, 1, none⟩ = some (.slice (some ⟨ge, 0, none⟩) es3.length ce) := HV3.box.cell rfl
            by_cases hq : y.to = q
            · obtain ⟨b2, hb2, HN⟩ := HT3.out.next HH.out Hf.out Hfp.out HP.out Hg.out (by rw [hd, hq])
              have hpl3 : ns.length < ns3.length := by have := Hm.out; omega
              have hk := HR3.out.setTo hy hpl3
              rw [ho] at hk
              obtain ⟨ge', ce', e3, hg1, hg2, hfr, HW⟩ := HV3.put_edge hy (k := 1) (by omega) (x' := ⟨y.letter, ns.length, y.next⟩) (u := .int .i64 ns.length) rfl
              injection e3 with e3 _ e4
              injection e3 with e3
              injection e3 with e3 _ _
              subst e3
              subst e4
              have hxr := HX.out
              obtain ⟨gn3, cn3, rfl, hv3, hc31, hc32, n0, n1, n2, n3⟩ := HW.node_at hxr
              have b0 : (w1.setCell ⟨ge, j * 3 + 1, none⟩ (.int .i64 ns.length)).cell? ⟨g, 0, none⟩ = some (.slice (some ⟨gn3, 0, none⟩) ns3.length cn3) := HW.box.cell rfl
              have hlk := (HR3.out.node r xr hxr).2.1
              have hms : stepM (.int .i64 (optI xr.link)) A < A.len r + 1 := by
                rw [hlk]
                have hp1 := HN.pos
                obtain ⟨_, _, hb1⟩ := HT3.out.pos
                cases hq : D.link r with
                | none => rw [stepM_none]; omega
                | some u => rw [hq] at hp1; obtain ⟨_, _, hp2⟩ := hp1; rw [stepM_some]; omega
              rw [← hlk] at HN
              have HC4 : TurnR A L t c whole p q ns.length Bq B g (ns.length + 1) xr.link b2 w (w1.setCell ⟨ge, j * 3 + 1, none⟩ (.int .i64 ns.length)) :=
                ⟨_, _, _, _, ⟨_, _, HW⟩, hk, by rw [hl']; exact HN, Hm.out, Hb.out.setCell (p := ⟨ge, j * 3 + 1, none⟩) hg1 _⟩
              have HC4' := Lib.hid HC4
              have Hms := Lib.hid hms
              subst hq
              clear HC4 HN hk HW HV3 hy hf hd hxr hlk hms ho hl' HX hb2 CF HM3 HR3 HT3 Hm
              simp only [optI_some]
              go_upto_region 12 with (fail)
              clear e0 e1 e2 b1 hfr
              generalize w1.setCell ⟨ge, j * 3 + 1, none⟩ (.int .i64 ns.length) = w5 at *
              go_wp2
              go_roundw
              case rel => exact ⟨_, rfl, _, HC4'.out⟩
              case measure => rw [← optI_some, stepM_some]; exact Hms.out
            · have HS : SplitR A L t c whole p q ns.length Bq B g w1 := ⟨_, _, _, _, _, _, HM3.out, HR3.out, Hm.out, HT3.out, HT3.out.end_some HH.out HP.out Hg.out (by rw [hd]; exact fun e => hq (Option.some.inj e))⟩
              have HS' := Lib.hid HS
              clear HS hd hf hy ho hl' HV3
              have hq' : ((y.to : Int) != (q : Int)) = true := by
                rw [bne_iff_ne]
                omega
              clear hq
              simp only [optI_some]
              go_wp2
              go_ret
              exact ⟨rfl, HS'.out, Hb.out⟩
    | some j =>
      obtain ⟨ns2, es2, own2, C, ⟨vn2, ve2, HV⟩, R2, K2, hm, hb⟩ := HC
      obtain ⟨y, hy⟩ : ∃ y, es2[j]? = some y := by
        obtain ⟨k, h1, h2, _⟩ := K2.k
        exact ⟨_, List.getElem?_eq_getElem (by have := (headOf_some h2.symm).1; omega)⟩
      have hpl2 : ns.length < ns2.length := by omega
      have hx2 := List.getElem?_eq_getElem hpl2
      generalize ns2[ns.length] = x2 at hx2
      have hfew := R2.few
      obtain ⟨ge, ce, rfl, hj, hce1, hce2, e0, e1, e2⟩ := HV.edge_at hy
      have b1 : wr.cell? ⟨g, 1, none⟩ = some (.slice (some ⟨ge, 0, none⟩) es2.length ce) := HV.box.cell rfl
      have HVd := HV.keep (Below.refl wr.heap.size wr).drew
      obtain ⟨K2a, K2b⟩ := Copy.next (nx := x2.edge) R2 K2 (by omega) hy
      have hyto := (R2.next j y hy).2.1
      have hlt : optI y.next < j := by
        have := (R2.next j y hy).2.2
        rw [this]
        cases hq : headOf own2 (own2 j) j with
        | none => simp [optI]; omega
        | some q => have := (headOf_some hq).1; simp [optI]; omega
      have hge : -1 ≤ optI y.next := by
        cases y.next with
        | none => simp [optI]
        | some q => simp only [optI]; omega
      have R3 := R2.add hx2 (u := y.to) hyto K2a
      have HR3 := Lib.hid R3
      have HK3 := Lib.hid K2b
      have CA := Lib.hid (add_any wr.drew ⟨_, _, HVd⟩ hx2 y.letter y.to (by omega))
      have HY := Lib.hid hy
      have Hm := Lib.hid hm
      have Hb := Lib.hid hb
      clear R2 K2 hm hb hy HV HVd K2a K2b R3 hx2 hyto
      simp only [optI_some]
      go_wp2_with fail
      go_still_tail 18, (by kernel_rfl)
      go_wp2_with fail
      refine CA.out.mono ?_
      rintro e w4 ⟨rfl, ⟨vn4, ve4, HV4⟩, hb4⟩
      have hb5 := Hb.out.trans (((Below.refl B wr).drew).trans hb4)
      have hy4 : (es2 ++ [(⟨y.letter, y.to, x2.edge⟩ : Ed)])[j]? = some y := by rw [List.getElem?_append_left hj]; exact HY.out
      obtain ⟨ge4, ce4, rfl, hj4, hc41, hc42, f0, f1, f2⟩ := HV4.edge_at hy4
      have d1 : w4.cell? ⟨g, 1, none⟩ = some (.slice (some ⟨ge4, 0, none⟩) (es2 ++ [(⟨y.letter, y.to, x2.edge⟩ : Ed)]).length ce4) := HV4.box.cell rfl
      have HC4 : CopyR B g (Bq.node ns.length (A.len p + 1) (Bq.link q) (Bq.fin q)) q ns.length (ns.length + 1) y.next w w4 := ⟨_, _, _, _, ⟨_, _, HV4⟩, HR3.out, HK3.out, by rw [List.length_set]; exact Hm.out, hb5⟩
      have HC4' := Lib.hid HC4
      clear HC4 HV4 hb4 hb5 hy4 HR3 HK3 CA HY Hm Hb
      generalize (es2 ++ [(⟨y.letter, y.to, x2.edge⟩ : Ed)]).length = m4 at *
      go_wp2
      go_roundw
      case rel => exact ⟨_, rfl, HC4'.out⟩
      case measure => simp [intOf]; omega
end Go.Proofs.Ytiioebpmfjipeaa
