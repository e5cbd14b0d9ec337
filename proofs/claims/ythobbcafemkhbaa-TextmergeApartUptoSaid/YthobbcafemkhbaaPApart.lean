/- TextmergeApart, for arguments of bulk at most 1048576: the law returns true, and the argument reads as before. No further condition. -/
import Derived.Test.YthobbcafemkhbaaOpenR
import Derived.Test.YthobbcafemkhbaaTmLaw4
import Derived.Lib.SmallJoins
import Derived.JoinedCond
namespace Go.Proofs.Ythobbcafemkhbaa
open Go.ChangeShapes Go.WideShapes Go.ChangeAt Go.RowKit Go.Deep Go.Joins
set_option linter.unusedVariables false

theorem bulk_part {H : Type} {d : DataW H} : ∀ {l : List (DataW H)}, d ∈ l → Rows.uptoBulk d ≤ Rows.uptoBulkAll l
  | x :: r, h => by
    simp only [Rows.uptoBulkAll]
    rcases List.mem_cons.1 h with e | e
    · subst e; omega
    · have := bulk_part e; omega
set_option maxRecDepth 100000 in
theorem apart_of_trod {H : Type} {enc : TypeId × Value → H} {W : World} {base : Nat} {spare : Nat → Bool} {held : Bool} {v : Value} {d : DataW H} {p : List MemPlace}
    (hv : Value.okWide Try.prog W .any base 38 v) (h : DataW.Trod enc Try.prog W 0 spare held 38 v d p) :
    ∃ (v0 v1 v2 v3 : Value) (m : ByteArray) (F L NF NL : List ByteArray) (d0 d1 d2 d3 : DataW H), v = .agg #[v0, v1, v2, v3, .string m] ∧ d = .agg [d0, d1, d2, d3, .lit (.string m.data.toList)] ∧ Strs W v0 F ∧ Strs W v1 L ∧ Strs W v2 NF ∧ Strs W v3 NL := by
  obtain ⟨⟨cs⟩, rfl, hsz⟩ := okWide_struct Try.underlying38 hv
  have hC : Try.prog.cellsOf 38 = 5 := by kernel_rfl
  have k1 : Try.prog.cellsOf 36 = 1 := by kernel_rfl
  have k2 : Try.prog.cellsOf 9 = 1 := by kernel_rfl
  match cs, hsz.trans hC with
  | [c0, c1, c2, c3, c4], _ =>
    obtain ⟨fuel, hf⟩ := h
    obtain ⟨ys, n, _, hx, _, hlen, hg⟩ := DataW.trod_struct Try.underlying38 hf
    match ys, hlen with
    | [y0, y1, y2, y3, y4], _ =>
      have f0 := hg 0 _ rfl
      have f1 := hg 1 _ rfl
      have f2 := hg 2 _ rfl
      have f3 := hg 3 _ rfl
      have f4 := hg 4 _ rfl
      have e0 : DataW.trod enc Try.prog W 0 spare held n 36 [c0] = some y0 := by simpa [Value.cells, k1, k2] using f0
      have e1 : DataW.trod enc Try.prog W 0 spare held n 36 [c1] = some y1 := by simpa [Value.cells, k1, k2] using f1
      have e2 : DataW.trod enc Try.prog W 0 spare held n 36 [c2] = some y2 := by simpa [Value.cells, k1, k2] using f2
      have e3 : DataW.trod enc Try.prog W 0 spare held n 36 [c3] = some y3 := by simpa [Value.cells, k1, k2] using f3
      have e4 : DataW.trod enc Try.prog W 0 spare held n 9 [c4] = some y4 := by simpa [Value.cells, k1, k2] using f4
      obtain ⟨F, s0⟩ := strs_of_trod1 e0
      obtain ⟨L, s1⟩ := strs_of_trod1 e1
      obtain ⟨NF, s2⟩ := strs_of_trod1 e2
      obtain ⟨NL, s3⟩ := strs_of_trod1 e3
      obtain ⟨m, hm, hy, _⟩ := DataW.trod_string Try.underlying9 e4
      simp only [List.cons.injEq, and_true] at hm
      subst hm
      simp only [Prod.mk.injEq] at hx
      refine ⟨c0, c1, c2, c3, m, F, L, NF, NL, y0.1, y1.1, y2.1, y3.1, rfl, ?_, s0, s1, s2, s3⟩
      have := hx.1
      rw [hy] at this
      simpa using this

set_option maxRecDepth 100000 in
theorem apart_contract (H : Type) (enc : TypeId × Value → H) (W : World) (base : Nat) (args : Array Value) (ds gs : List (DataW H)) (before : List MemPlace)
    (hval0 : ∀ (j : Nat) t v, Try.f6.params[j]? = some t → args[j]? = some v → Value.okWide Try.prog W .any base t v)
    (hW : DataW.Whole enc Try.prog Try.f6.params.toList Rows.textmergeApartSpec.vars false W args.toList ds gs before) (hk : Rows.uptoSmall H (ds ++ gs) = true) :
    Calls Try.prog 6 args W fun e W' => ∃ v, e = .returned v ∧ Rows.textmergeApartSpec.post enc Try.prog Try.f6 false true false false W args v W' := by
  have hval := hval0
  have hW' := hW
  obtain ⟨p, q, hA0, hV, rfl, hfz, hnd⟩ := hW
  have hA : DataW.TrodAll enc Try.prog W 0 (fun _ => true) true Try.f6.params.toList args.toList ds p := hA0
  rw [Try.params6] at hA hval
  obtain ⟨v0, vs0, d0, ds0, p0, q0, hargs, rfl, rfl, h0, r0⟩ := trodAll_cons hA
  obtain ⟨rfl, rfl, rfl⟩ := trodAll_nil r0
  obtain rfl : args = #[v0] := by cases args; simp_all
  obtain ⟨rfl, rfl⟩ := trodVars_none hV
  have lt0 : ∀ x ∈ p0, x.block < W.heap.size := by obtain ⟨m, hm⟩ := h0; exact DataW.trod_lt m _ _ _ hm
  obtain ⟨a0, a1, a2, a3, m, F, L, NF, NL, e0, e1, e2, e3, rfl, hd, s0, s1, s2, s3⟩ := apart_of_trod (hval 0 _ v0 rfl rfl) h0
  have hm : m.size ≤ 1048576 := by
    have hb : Rows.uptoBulkAll ([d0] ++ []) ≤ 1048576 := of_decide_eq_true hk
    have h1 : Rows.uptoBulk d0 ≤ Rows.uptoBulkAll ([d0] ++ []) := bulk_part (by simp)
    rw [hd] at h1 hb
    have h2 : Rows.uptoBulkAll [e0, e1, e2, e3, .lit (.string m.data.toList)] + 1 = Rows.uptoBulk (.agg [e0, e1, e2, e3, .lit (.string m.data.toList)]) := by simp only [Rows.uptoBulk]
    have h3 : Rows.uptoBulk (DataW.lit (H := H) (.string m.data.toList)) ≤ Rows.uptoBulkAll [e0, e1, e2, e3, .lit (.string m.data.toList)] := bulk_part (by simp)
    have h4 : Rows.uptoBulk (DataW.lit (H := H) (.string m.data.toList)) = m.data.toList.length + 1 := by simp [Rows.uptoBulk]
    have h5 : m.data.toList.length = m.size := rfl
    omega
  clear hA0 hval0
  refine (law_apart W m hm a0 a1 a2 a3 F L NF NL s0 s1 s2 s3).mono fun e W' ⟨he, bel⟩ => ?_
  subst he
  exact ⟨_, rfl, _, _, _, [], _, [], hW', trodAll_mk1 (shut_bool Try.underlying4 _), (trodAll_cons_mk (Below.trod rowLaidOut (by kernel_rfl) (of_decide_eq_true (by kernel_rfl)) h0 bel lt0) trodAll_mk0), rfl, bel.frame _, fun h => by cases h⟩

set_option maxRecDepth 100000 in
theorem textmergeApart_lifted (os : Os) (started : os.Started) (H : Type) (enc : TypeId × Value → H) (F : Stop.Interp) :
    ReturnsInHanded {} Try.checked os 6 .any ((Rows.OpenSpec.upto Rows.textmergeApartSpec).pre6 enc Try.prog Try.f6 Rows.textmergeApartUptoRow.domain false) (((Rows.OpenSpec.upto Rows.textmergeApartSpec).at F).post enc Try.prog Try.f6 false true false false) := by
  refine returnsInHanded_of_cond (C := Try.checked) (s := Rows.OpenSpec.upto Rows.textmergeApartSpec) (k := Rows.uptoSmall) rfl rowOwn started (by kernel_rfl) Try.func6
    (OpenSpec.witness (enc := enc) (C := Try.checked) (s := Rows.OpenSpec.upto Rows.textmergeApartSpec) (k := Rows.uptoSmall) rfl false ⟨#[], #[.agg #[.slice none 0 0, .slice none 0 0, .slice none 0 0, .slice none 0 0, .string .empty]], []⟩ 8 (by kernel_rfl) (by kernel_rfl) (by kernel_rfl)
      (x := ([.agg [.nil, .nil, .nil, .nil, .lit (.string [])]], [], [])) (by kernel_rfl) rfl (by kernel_rfl)) ?_
  intro W base args ds gs before hval hW _ hk _
  exact apart_contract H enc W base args ds gs before hval hW hk

theorem textmergeApartUpto_holds : Rows.TextmergeApartUptoSaid :=
  OpenClaim.holds_of_cond 6 Try.f6 rfl rfl rfl rfl rfl rfl rfl ⟨rfl, rfl, rfl, rfl, rfl⟩ rfl rfl rfl rfl rfl (by kernel_rfl) Try.func6 (by kernel_rfl)
    (of_decide_eq_true (by kernel_rfl)) (by unfold Func.isWrapper; first | (rw [if_pos (by decide +kernel)]; kernel_rfl) | (rw [if_neg (by decide +kernel)]; exact ⟨rfl, rfl⟩))
    (fun os started H enc _ F => textmergeApart_lifted os started H enc F)
#print axioms textmergeApartUpto_holds
end Go.Proofs.Ythobbcafemkhbaa
