/- delta: add. -/
import Derived.Test.YtiioebpmfjipeaaDeFind
import Derived.BigRegion
import Derived.Deep.RegionLaw
import Derived.Deep.DeepMust
namespace Go.Proofs.Ytiioebpmfjipeaa
open Go.RowKit

theorem Try.info_edge : (Try.prog.info? 98).map (fun i => (i.zero, i.size, i.bytes)) = some (some (.agg #[.int .u8 0, .int .i64 0, .int .i64 0]), 3, 24) := by kernel_rfl
theorem Try.info_node : (Try.prog.info? 82).map (fun i => (i.zero, i.size, i.bytes)) = some (some (.agg #[.int .i64 0, .int .i64 0, .int .i64 0, .int .i64 0]), 4, 32) := by kernel_rfl

set_option maxRecDepth 100000 in
set_option maxHeartbeats 1000000 in
theorem add_any (w : World) {B g : Nat} {ns : List Nd} {es : List Ed} (M : IdxM w B g ns es) {v : Nat} {x : Nd} (hx : ns[v]? = some x) (c : UInt8) (u : Nat) (hes : es.length ≤ 100000000) :
    Calls Try.prog 76 #[.pointer (some ⟨g, 0, none⟩), .int .i64 v, .int .u8 c.toNat, .int .i64 u] w fun e w' =>
      e = .returned (.tuple #[]) ∧ IdxM w' B g (ns.set v { x with edge := some es.length }) (es ++ [⟨c, u, x.edge⟩]) ∧ Below B w w' := by
  obtain ⟨i1, hi1, hy0, hy1, hy2⟩ := info_parts Try.info_edge
  obtain ⟨vn, ve, h⟩ := M
  obtain ⟨gn, cn, rfl, hv, hc1, hc2, n0, n1, n2, n3⟩ := h.node_at hx
  have b0 : w.cell? ⟨g, 0, none⟩ = some (.slice (some ⟨gn, 0, none⟩) ns.length cn) := h.box.cell rfl
  have hgs := h.box.lt
  have hbs := h.base
  obtain ⟨A, ce, rfl⟩ := own_form h.edges
  have b1 : w.cell? ⟨g, 1, none⟩ = some (.slice A es.length ce) := h.box.cell rfl
  have H := Lib.hid h
  have hoe := h.edges
  have hbox := h.box
  clear n0 n1 n2 h
  generalize hie : optI x.edge = ie at *
  have HIE := Lib.hid hie
  clear hie
  generalize hcl : c.toNat = cl at *
  have HCL := Lib.hid hcl
  clear hcl
  go_enter Try.func76, Try.ntmps76
  go_wp2
  go_region_law ((refine step_append_any _ rfl _ _ _ rfl B 98 i1 _ 3 24 Try.underlying84 hi1 hy0 hy1 hy2 rfl (by omega) (.slice A es.length ce) es.length _ rfl (World.ownsRow.drew (World.ownsRow.alloc hoe _)) _ 1 1 [.int .u8 cl, .int .i64 u, .int .i64 ie] rfl rfl (CellsAt.of_new _ _ _ _) (by simp [Value.oneCell']) (by omega) (by omega) (by simp; omega) ?_; intro v1 w2 hown1 hgr hat; obtain ⟨A', c', rfl⟩ := own_form hown1; have hbk2 := Blk.grown (Blk.drew (Blk.alloc hbox (.cells #[.int .u8 cl, .int .i64 u, .int .i64 ie] 98))) hgr (own_ne_type hoe hbox (by decide)).symm; have p1 := hbk2.cell (j := 1) rfl; have f1 := hbk2.frozen 1))
  all_goals
    have hkw := ((Below.refl w.heap.size w).alloc (Nat.le_refl _) (.cells #[.int .u8 cl, .int .i64 u, .int .i64 ie] 98)).drew
    have eC : edC ⟨c, u, x.edge⟩ = [.int .u8 cl, .int .i64 u, .int .i64 ie] := by simp only [edC]; rw [HCL.out, HIE.out]
    have H2 := (H.out.keep hkw).grow_edges (x := ⟨c, u, x.edge⟩) (by rw [eC]; exact hown1) hgr (own_ne_type hoe hbox (by decide))
    have hd3 := ((hkw.mono (show B ≤ w.heap.size by omega)).grown hgr (by simp; omega) (fun g' h => (hoe.lt g' h).1)).setCell (p := ⟨g, 1, none⟩) hbs (.slice A' (es.length + 1) c')
    clear p1 f1 hbk2 hown1 hgr hat hkw eC b0 b1 n3 hoe hbox
    generalize w2.setCell ⟨g, 1, none⟩ (.slice A' (es.length + 1) c') = w3 at *
    obtain ⟨gn', cn', e1, hb1, hb2, hfr, HV⟩ := H2.put_node hx (k := 3) (by omega) (x' := { x with edge := some es.length }) (u := .int .i64 es.length) rfl
    injection e1 with e2 _ _
    injection e2 with e2
    injection e2 with e2 _ _
    subst e2
    obtain ⟨_, _, _, _, _, _, _, _, _, m3⟩ := H2.node_at hx
    have c0 := H2.box.cell (j := 0) rfl
    have c1 := H2.box.cell (j := 1) rfl
    have hdd := hd3.setCell (p := ⟨gn, v * 4 + 3, none⟩) hb1 (.int .i64 es.length)
    have hw1 : IntKind.i64.wrap (((es.length + 1 : Nat) : Int) - 1) = (es.length : Int) := by rw [i64w (by omega) (by omega)]; omega
    have HW := Lib.hid HV
    have HD := Lib.hid hdd
    clear hd3 hdd H2 hx HV
    go_wp2
    go_region_law (fail)
    all_goals
      go_wp2
      have hw2 : IntKind.i64.wrap (es.length : Int) = (es.length : Int) := i64w (by omega) (by omega)
      rw [hw2]
      exact bodyPost_end (results_none rfl _ _ _) rfl ⟨rfl, ⟨_, _, HW.out.keep (Below.refl _ _).drew⟩, HD.out.drew⟩
end Go.Proofs.Ytiioebpmfjipeaa
