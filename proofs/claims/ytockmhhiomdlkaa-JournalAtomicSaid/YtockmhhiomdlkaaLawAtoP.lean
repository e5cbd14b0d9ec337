/- JournalAtomic, with its argument opened. -/
import Derived.Test.YtockmhhiomdlkaaLawAto
namespace Go.Proofs.Ytockmhhiomdlkaa
open Go.ChangeShapes Go.WideShapes Go.ChangeAt Go.RowKit Go.Deep
set_option linter.unusedVariables false
set_option linter.unusedSimpArgs false

def CrashP (W : World) (v : Value) (x : (Int × Int × List ActJ) × ActJ × Int × List Int) : Prop :=
  ∃ B lc rA rc iA ic pA pc, v = .agg #[.int .i64 x.1.1, .int .i64 x.1.2.1, .slice B x.1.2.2.length lc, .int .i64 x.2.1.kind, .slice rA x.2.1.recs.length rc, .int .i64 x.2.1.left, .slice iA x.2.1.ps.length ic, .int .u8 x.2.2.1, .slice pA x.2.2.2.length pc] ∧
    Acts W (.slice B x.1.2.2.length lc) x.1.2.2 ∧ (-9223372036854775808 ≤ x.1.2.1) ∧ ActP W rA rc iA ic x.2.1 ∧ (0 ≤ x.2.2.1 ∧ x.2.2.1 ≤ 255) ∧ Ints W (.slice pA x.2.2.2.length pc) x.2.2.2
section
variable {H : Type} {enc : TypeId × Value → H} {W : World} {base : Nat} {spare : Nat → Bool} {held : Bool}
set_option maxRecDepth 100000 in
set_option maxHeartbeats 1000000 in
theorem crash_of_trod {v : Value} {d : DataW H} {p : List MemPlace}
    (hv : Value.okWide Try.prog W .any base 55 v) (h : DataW.Trod enc Try.prog W 0 spare held 55 v d p) : ∃ x, CrashP W v x := by
  obtain ⟨cs, rfl, hsz⟩ := okWide_struct Try.underlying55 hv
  have hC : Try.prog.cellsOf 55 = 9 := by kernel_rfl
  have kR : Try.prog.cellsOf 42 = 3 := by kernel_rfl
  have kA : Try.prog.cellsOf 49 = 4 := by kernel_rfl
  have k8 : Try.prog.cellsOf 5 = 1 := by kernel_rfl
  have kI : Try.prog.cellsOf 47 = 1 := by kernel_rfl
  have ki : Try.prog.cellsOf 3 = 1 := by kernel_rfl
  have kS : Try.prog.cellsOf 22 = 1 := by kernel_rfl
  have kX : Try.prog.cellsOf 40 = 1 := by kernel_rfl
  rw [hC] at hsz
  obtain ⟨l⟩ := cs
  simp only [List.size_toArray] at hsz
  match l, hsz with
  | [c0, c1, c2, c3, c4, c5, c6, c7, c8], _ =>
    obtain ⟨fuel, hf⟩ := h
    obtain ⟨ys, n1, hn1, hy, hlen, hyl, hg⟩ := DataW.trod_struct Try.underlying55 hf
    have f0 := hg 0 _ rfl
    have f1 := hg 1 _ rfl
    have f2 := hg 2 _ rfl
    have f3 := hg 3 _ rfl
    have l0 : 0 < ys.length := by rw [hyl]; decide
    have l1 : 1 < ys.length := by rw [hyl]; decide
    have l2 : 2 < ys.length := by rw [hyl]; decide
    have l3 : 3 < ys.length := by rw [hyl]; decide
    have y0 : ys[0]? = some ys[0] := List.getElem?_eq_getElem l0
    have y1 : ys[1]? = some ys[1] := List.getElem?_eq_getElem l1
    have y2 : ys[2]? = some ys[2] := List.getElem?_eq_getElem l2
    have y3 : ys[3]? = some ys[3] := List.getElem?_eq_getElem l3
    have e0 : DataW.trod enc Try.prog W 0 spare held n1 42 [c0, c1, c2] = some ys[0] := by simpa [kR, kA, k8, kI, Value.cells] using f0.trans y0
    have e1 : DataW.trod enc Try.prog W 0 spare held n1 49 [c3, c4, c5, c6] = some ys[1] := by simpa [kR, kA, k8, kI, Value.cells] using f1.trans y1
    have e2 : DataW.trod enc Try.prog W 0 spare held n1 5 [c7] = some ys[2] := by simpa [kR, kA, k8, kI, Value.cells] using f2.trans y2
    have e3 : DataW.trod enc Try.prog W 0 spare held n1 47 [c8] = some ys[3] := by simpa [kR, kA, k8, kI, Value.cells] using f3.trans y3
    obtain ⟨ps, hps⟩ := ints_of_trod1 e3
    obtain ⟨lf, hlf, _, hwf⟩ := DataW.trod_int Try.underlying5 e2
    obtain ⟨zs, n2, hn2, hz, hzlen, hzl, hgz⟩ := DataW.trod_struct Try.underlying42 e0
    obtain ⟨xs, n3, hn3, hx, hxlen, hxl, hgx⟩ := DataW.trod_struct Try.underlying49 e1
    have z0 := (hgz 0 _ rfl).trans (List.getElem?_eq_getElem (show 0 < zs.length by rw [hzl]; decide))
    have z1 := (hgz 1 _ rfl).trans (List.getElem?_eq_getElem (show 1 < zs.length by rw [hzl]; decide))
    have z2 := (hgz 2 _ rfl).trans (List.getElem?_eq_getElem (show 2 < zs.length by rw [hzl]; decide))
    have x0 := (hgx 0 _ rfl).trans (List.getElem?_eq_getElem (show 0 < xs.length by rw [hxl]; decide))
    have x1 := (hgx 1 _ rfl).trans (List.getElem?_eq_getElem (show 1 < xs.length by rw [hxl]; decide))
    have x2 := (hgx 2 _ rfl).trans (List.getElem?_eq_getElem (show 2 < xs.length by rw [hxl]; decide))
    have x3 := (hgx 3 _ rfl).trans (List.getElem?_eq_getElem (show 3 < xs.length by rw [hxl]; decide))
    obtain ⟨q_g0, g0⟩ : ∃ q, DataW.trod enc Try.prog W 0 spare held n2 3 [c0] = some q := ⟨_, by simpa [ki, kX] using z0⟩
    obtain ⟨q_g1, g1⟩ : ∃ q, DataW.trod enc Try.prog W 0 spare held n2 3 [c1] = some q := ⟨_, by simpa [ki, kX] using z1⟩
    obtain ⟨q_g2, g2⟩ : ∃ q, DataW.trod enc Try.prog W 0 spare held n2 40 [c2] = some q := ⟨_, by simpa [ki, kX] using z2⟩
    obtain ⟨q_h0, h0⟩ : ∃ q, DataW.trod enc Try.prog W 0 spare held n3 3 [c3] = some q := ⟨_, by simpa [ki, kS, kI] using x0⟩
    obtain ⟨q_h1, h1⟩ : ∃ q, DataW.trod enc Try.prog W 0 spare held n3 22 [c4] = some q := ⟨_, by simpa [ki, kS, kI] using x1⟩
    obtain ⟨q_h2, h2⟩ : ∃ q, DataW.trod enc Try.prog W 0 spare held n3 3 [c5] = some q := ⟨_, by simpa [ki, kS, kI] using x2⟩
    obtain ⟨q_h3, h3⟩ : ∃ q, DataW.trod enc Try.prog W 0 spare held n3 47 [c6] = some q := ⟨_, by simpa [ki, kS, kI] using x3⟩
    obtain ⟨n, hnn, _, hwn⟩ := DataW.trod_int Try.underlying3 g0
    obtain ⟨z, hzz, _, hwz⟩ := DataW.trod_int Try.underlying3 g1
    obtain ⟨acts, hacts⟩ := acts_of_trod1 g2
    obtain ⟨a, vr, vp, ea, a1, a2, a3, a4⟩ := act_of_fields h0 h1 h2 h3
    simp only [List.cons.injEq, and_true] at hlf hnn hzz ea
    obtain ⟨rfl, rfl, rfl, rfl⟩ := ea
    subst hlf hnn hzz
    obtain ⟨B, lc, rfl, _, _⟩ := hacts.form
    obtain ⟨rA, rc, rfl, _, _⟩ := Txs.form a1
    obtain ⟨iA, ic, rfl, _, _⟩ := a2.form
    obtain ⟨pA, pc, rfl, _, _⟩ := hps.form
    exact ⟨((n, z, acts), a, lf, ps), B, lc, rA, rc, iA, ic, pA, pc, rfl, hacts, (wf64 hwz).1, ⟨a1, a2, a3.1, a3.2, a4.1, a4.2⟩, wf8 hwf, hps⟩
end
theorem law_atomicP (W : World) (v : Value) (x : (Int × Int × List ActJ) × ActJ × Int × List Int) (s : CrashP W v x) :
    Calls Try.prog 9 #[v] W fun e w' => e = .returned (.bool true) ∧ Below W.heap.size W w' := by
  obtain ⟨B, lc, rA, rc, iA, ic, pA, pc, rfl, h, hz, ha, hlf, hps⟩ := s
  exact law_atomic W _ _ hz B lc _ h rA rc iA ic _ ha _ hlf pA pc _ hps
end Go.Proofs.Ytockmhhiomdlkaa
