/- delta: the longest match from a place on (Source.Diff's first closure). -/
import Derived.Test.YtiioebpmfjipeaaDeNew
import Derived.Test.YtiioebpmfjipeaaPick
import Derived.Deep.QuietTactic
namespace Go.Proofs.Ytiioebpmfjipeaa
set_option linter.unusedVariables false
set_option linter.unusedSimpArgs false
open Go.RowKit

def LongE (a b : List UInt8) (at_ : Nat) (w0 : World) (e : Ending) (w : World) : Prop :=
  ∃ off : Nat, e = .returned (.tuple #[.int .i64 off, .int .i64 ((pick a (b.drop at_)).2 : Nat)]) ∧ (0 < (pick a (b.drop at_)).2 → off = (pick a (b.drop at_)).1) ∧ Drawn w0 w
theorem IdxM.drewN {w : World} {B g : Nat} {ns : List Nd} {es : List Ed} (h : IdxM w B g ns es) (n : Nat) : IdxM (w.drewN n) B g ns es := by
  obtain ⟨vn, ve, h⟩ := h
  exact ⟨vn, ve, h.keep (((Drawn.refl w).drewN n).below _)⟩
theorem getElem_drop_take {b : List UInt8} {p m : Nat} (h : p + m < b.length) : (b.drop p).take (m + 1) = (b.drop p).take m ++ [b[p + m]] := by
  rw [List.take_succ_eq_append_getElem (by rw [List.length_drop]; omega)]
  simp

set_option maxRecDepth 100000 in
set_option maxHeartbeats 2000000 in
theorem longest_any (w : World) {t : List UInt8} {b : ByteArray} {B g gs gi p : Nat} (hI : IndexP t B g w) (x1 : w.cell? ⟨gs, 0, none⟩ = some (.string b)) (x2 : w.cell? ⟨gi, 0, none⟩ = some (.pointer (some ⟨g, 0, none⟩))) (hp : p < b.size) (hb : b.size ≤ 65536) (ht : t.length ≤ 65536) :
    Calls Try.prog 54 #[.int .i64 p, .pointer (some ⟨gs, 0, none⟩), .pointer (some ⟨gi, 0, none⟩)] w (LongE t b.data.toList p w) := by
  obtain ⟨mm, la, ns, es, own, A, L, M, R, I, _⟩ := hI
  have HI := Lib.hid I
  have HR := Lib.hid R
  have HM := Lib.hid M
  have h0 : A.Cls L 0 ((b.data.toList.drop p).take 0) := by rw [List.take_zero]; exact I.empty
  have H0 := Lib.hid h0
  have hbl : b.data.toList.length = b.size := by simp
  have HBL := Lib.hid hbl
  clear I R M h0 hbl
  go_enter Try.func54, Try.ntmps54
  go_wp2
  go_loopw [6, 7] (fun vi mi wr => ∃ v m : Nat, p + m ≤ b.size ∧ vi = .int .i64 v ∧ mi = .int .i64 m ∧ Hid (A.Cls L v ((b.data.toList.drop p).take m)) ∧ Drawn w wr) (fun _ mi _ => b.size - (intOf mi).toNat)
  case atStart => exact ⟨0, 0, by omega, rfl, rfl, H0.out, Drawn.refl _⟩
  case round =>
    obtain ⟨v, m, hm, rfl, rfl, HC, hd⟩ := hrel
    have hbl := HBL.out
    have hv : v < ns.length := (HR.out.V v).1 HC.out.1
    have x1' : wr.cell? ⟨gs, 0, none⟩ = some (.string b) := by obtain ⟨k, rfl⟩ := hd; exact x1
    have x2' : wr.cell? ⟨gi, 0, none⟩ = some (.pointer (some ⟨g, 0, none⟩)) := by obtain ⟨k, rfl⟩ := hd; exact x2
    have M2 : IdxM wr B g ns es := by obtain ⟨k, rfl⟩ := hd; exact HM.out.drewN k
    have hz1 : IntKind.i64.wrap ((p : Int) + m) = (p : Int) + m := i64w (by omega) (by omega)
    have done : (∀ c, (b.data.toList.drop p)[m]? = some c → A.go v c = none) → ∀ w', Drawn w w' → LongE t b.data.toList p w (.returned (.tuple #[.int .i64 ((A.fin v : Int) - m), .int .i64 m])) w' := fun hs w' hd' => by
      obtain ⟨k1, k2, k3, k4⟩ := pick_of_aut HI.out (by rw [List.length_drop]; omega) HC.out hs
      refine ⟨A.fin v - m, ?_, fun h => ?_, hd'⟩
      · rw [k1]
        have : ((A.fin v : Int) - m) = ((A.fin v - m : Nat) : Int) := by omega
        rw [this]
      · rw [k1] at h
        exact (k2 h).symm
    have hfin : m ≤ A.fin v ∧ A.fin v ≤ t.length := by
      obtain ⟨f1, f2, f3⟩ := HI.out.fin v _ HC.out
      have := ((suf_take f1).1 f2).1
      rw [List.length_take, List.length_drop] at this
      exact ⟨by omega, f1⟩
    have hxv := List.getElem?_eq_getElem hv
    generalize ns[v] = xv at hxv
    have hfv := (HR.out.node v xv hxv).2.2.1
    have HD := Lib.hid done
    clear done
    by_cases hlt : p + m < b.size
    · have CS : ∀ n, Calls Try.prog 55 #[.pointer (some ⟨g, 0, none⟩), .int .i64 v, .int .u8 (b[p + m]).toNat] (wr.drewN n) fun e w' => e = .returned (.int .i64 (optI (A.go v b[p + m]))) ∧ w' = wr.drewN n := fun n => (step_any _ (M2.drewN n) HR.out hv b[p + m]).mono fun e w' h => ⟨h.2, h.1⟩
      have hc : (b.data.toList.drop p)[m]? = some b[p + m] := by
        rw [List.getElem?_drop, List.getElem?_eq_getElem (by omega)]; rfl
      have g1 : (p : Int) + m < b.size := by omega
      have g2 : 0 ≤ (p : Int) + m := by omega
      have g3 : ((p : Int) + m).toNat = p + m := by omega
      cases hgo : A.go v b[p + m] with
      | none =>
        rw [hgo] at CS
        have HE := Lib.hid (HD.out (fun c h => by rw [hc] at h; cases h; exact hgo))
        have CS' := Lib.hid CS
        obtain ⟨vn, ve, HV⟩ := M2
        obtain ⟨gn, cn, rfl, _, q1, q2, _, _, n2, _⟩ := HV.node_at hxv
        rw [hfv] at n2
        have b0 : wr.cell? ⟨g, 0, none⟩ = some (.slice (some ⟨gn, 0, none⟩) ns.length cn) := HV.box.cell rfl
        simp only [optI_none] at CS'
        have hz2 : IntKind.i64.wrap ((A.fin v : Int) - m) = (A.fin v : Int) - m := i64w (by omega) (by omega)
        clear CS hgo hc HV hxv hfv x1 x2 HC
        go_wp2
        go_quiet ((exact Calls.quiet_of_same (CS'.out _)))
        go_wp2
        exact bodyPost_ret (v := .tuple #[.int .i64 ((A.fin v : Int) - m), .int .i64 m]) (by simp [results, Try.results54, go_sem]) rfl (HE.out _ (hd.drewN _))
      | some u =>
        rw [hgo] at CS
        have CS' := Lib.hid CS
        have HN : A.Cls L u ((b.data.toList.drop p).take (m + 1)) := by
          rw [getElem_drop_take (by omega)]
          exact (HI.out.step v _ u HC.out.1 hgo).2.2 _ HC.out
        have HN' := Lib.hid HN
        simp only [optI_some] at CS'
        clear CS hgo hc M2 hxv hfv x1 x2 HC HN HD hfin
        go_wp2
        go_quiet ((exact Calls.quiet_of_same (CS'.out _)))
        go_wp2
        go_roundw
        case rel => exact ⟨u, m + 1, by omega, rfl, by go_num, HN'.out, hd.drewN _⟩
        case measure => simp [intOf]; omega
    · have HE := Lib.hid (HD.out (fun c h => by
        have := (List.getElem?_eq_some_iff.1 h).1
        rw [List.length_drop] at this
        omega))
      obtain ⟨vn, ve, HV⟩ := M2
      obtain ⟨gn, cn, rfl, _, q1, q2, _, _, n2, _⟩ := HV.node_at hxv
      rw [hfv] at n2
      have b0 : wr.cell? ⟨g, 0, none⟩ = some (.slice (some ⟨gn, 0, none⟩) ns.length cn) := HV.box.cell rfl
      have hz2 : IntKind.i64.wrap ((A.fin v : Int) - m) = (A.fin v : Int) - m := i64w (by omega) (by omega)
      have g1 : ¬ (p : Int) + m < b.size := by omega
      clear HV hxv hfv x1 x2 HC hlt
      go_wp2
      exact bodyPost_ret (v := .tuple #[.int .i64 ((A.fin v : Int) - m), .int .i64 m]) (by simp [results, Try.results54, go_sem]) rfl (HE.out _ hd)
end Go.Proofs.Ytiioebpmfjipeaa
