/- The closure text of TextmergeApart. -/
import Derived.Test.YthobbcafemkhbaaTmLaw2
import Derived.BigQuiet
namespace Go.Proofs.Ythobbcafemkhbaa
open Go.RowKit
set_option linter.unusedVariables false

set_option maxRecDepth 100000 in
set_option maxHeartbeats 1000000 in
theorem apText_any (w : World) (va vb : Value) (a b : List ByteArray) (g : Nat) (mid : ByteArray) (ha : Strs w va a) (hb : Strs w vb b) (hm : w.cell? ⟨g, 0, none⟩ = some (.string mid))
    (la : a.length ≤ 8) (lb : b.length ≤ 8) (sa : (textB a).size ≤ 1000) (sb : (textB b).size ≤ 1000) (sm : mid.size ≤ 20) :
    Calls Try.prog 20 #[va, vb, .pointer (some ⟨g, 0, none⟩)] w fun e w' => e = .returned (.string (textB a ++ mid ++ textB b)) ∧ Drawn w w' := by
  have C1 := Lib.hid fun n => rtext_any (w.drewN n) va a (ha.keep (Keeps.drewN w n)) (by omega) (by omega)
  have C2 := Lib.hid fun n => rtext_any (w.drewN n) vb b (hb.keep (Keeps.drewN w n)) (by omega) (by omega)
  have hs1 := ByteArray.size_append (a := textB a) (b := mid)
  have hs2 := ByteArray.size_append (a := textB a ++ mid) (b := textB b)
  obtain ⟨A0, c0, rfl, _, _⟩ := ha.form
  obtain ⟨A1, c1, rfl, _, _⟩ := hb.form
  clear ha hb
  go_enter Try.func20, Try.ntmps20
  generalize textB a = ta at *
  generalize textB b = tb at *
  go_wp2
  go_quiet ((first
    | (go_at_call_of 21 (Value.slice A0 a.length c0); exact quiet_drawn (C1.out _))
    | (go_at_call_of 21 (Value.slice A1 b.length c1); exact quiet_drawn (C2.out _))))
  go_wp2
  go_ret
  exact ⟨rfl, _, rfl⟩
end Go.Proofs.Ythobbcafemkhbaa
