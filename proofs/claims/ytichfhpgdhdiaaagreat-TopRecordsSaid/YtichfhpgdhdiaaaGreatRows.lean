/-
  No cell of these rows narrows 'for every input' (looked for: loops, veiled, ifaces, maps, wideKeys, modest, calm, conditions, laid).
  DERIVED. THE GIVEN ROWS OF THIS SEAT. 4 by the template 'for every input the law returns true; each argument reads behind the call as it read before'; 0 by the template 'total and deterministic' (their statements: YtichfhpgdhdiaaaGreatTotals.lean).
  GIVEN WITH THE SEED: the statements are not yours to turn. If you find one false, say at which input.
  Laid BY PROGRAM, IN A SANDBOX (cutbox-rows.mjs): the forced cells as the released guide's own fill.sh prints them over the translation 700735d4d258d610… (all of the seat's roots in one cut). By AI agents, Wed Nov 11 2026. No macro, syntax, notation, axiom, sorry.
-/
import Derived.Test.YtichfhpgdhdiaaaGreatChecked
import GoSem.Claim
import GoSem.ClaimJoined
import GoSem.ClaimMapViews
import Derived.JoinedTies
import Derived.KernelRfl
namespace Go.Proofs.YtichfhpgdhdiaaaGreat
/- THE CELL 'sum', in the pinned program and in every row, IS THE sha256 OF THE DUMP (.gsa) THAT YtichfhpgdhdiaaaGreatProg.lean LOADS. Nothing in Lean hashes anything: it is a label: what it is worth is what the hold of that sum in a sandbox is worth. -/
noncomputable def Tryz.pinned : Pinned := { name := "ytichfhpgdhdiaaagreat", sum := "700735d4d258d6108565408baf2f06926d97a39f44393d27b0bd982ed543b816", checked := Tryz.checked }
namespace Rows
def none {H : Type} : Left H := { results := [], args := [] }

/-- 'cordwoodtop.TopPortions': WHATEVER THE INPUT: true; the input reads as it did. -/
def topPortionsSpec : ChangeSpec := { name := "topPortions", fn := fun _ => fun
  | [d1, d2] => { results := [.lit (.bool true)], args := [d1, d2] }
  | _ => none }
def topPortionsRow : OpenClaim := { program := "ytichfhpgdhdiaaagreat", sum := "700735d4d258d6108565408baf2f06926d97a39f44393d27b0bd982ed543b816", func := "cordwood/cordwoodtop.TopPortions", spec := "topPortions", inPlace := ["internal/abi.NoEscape", "internal/bytealg.MakeNoZero"], unfollowed := true, recurses := true, plainKeys := false, apart := false }
def TopPortionsSaid : Prop := topPortionsRow.holds Tryz.pinned (OpenSpec.ofChange topPortionsSpec)

/-- ITS FALSE NEIGHBOUR: 'it returns false'. Refute it at one input. -/
def topPortionsWrong : ChangeSpec := { name := "topPortions", fn := fun _ => fun
  | [d1, d2] => { results := [.lit (.bool false)], args := [d1, d2] }
  | _ => none }
def TopPortionsWrongFalsely : Prop := topPortionsRow.holds Tryz.pinned (OpenSpec.ofChange topPortionsWrong)

/-- 'cordwoodtop.TopNested': WHATEVER THE INPUT: true; the input reads as it did. -/
def topNestedSpec : ChangeSpec := { name := "topNested", fn := fun _ => fun
  | [d1, d2] => { results := [.lit (.bool true)], args := [d1, d2] }
  | _ => none }
def topNestedRow : OpenClaim := { program := "ytichfhpgdhdiaaagreat", sum := "700735d4d258d6108565408baf2f06926d97a39f44393d27b0bd982ed543b816", func := "cordwood/cordwoodtop.TopNested", spec := "topNested", inPlace := ["internal/abi.NoEscape", "internal/bytealg.MakeNoZero"], unfollowed := true, recurses := true, plainKeys := false, apart := false }
def TopNestedSaid : Prop := topNestedRow.holds Tryz.pinned (OpenSpec.ofChange topNestedSpec)

/-- ITS FALSE NEIGHBOUR: 'it returns false'. Refute it at one input. -/
def topNestedWrong : ChangeSpec := { name := "topNested", fn := fun _ => fun
  | [d1, d2] => { results := [.lit (.bool false)], args := [d1, d2] }
  | _ => none }
def TopNestedWrongFalsely : Prop := topNestedRow.holds Tryz.pinned (OpenSpec.ofChange topNestedWrong)

/-- 'cordwoodtop.TopRecords': WHATEVER THE INPUT: true; the input reads as it did. -/
def topRecordsSpec : ChangeSpec := { name := "topRecords", fn := fun _ => fun
  | [d1, d2, d3] => { results := [.lit (.bool true)], args := [d1, d2, d3] }
  | _ => none }
def topRecordsRow : OpenClaim := { program := "ytichfhpgdhdiaaagreat", sum := "700735d4d258d6108565408baf2f06926d97a39f44393d27b0bd982ed543b816", func := "cordwood/cordwoodtop.TopRecords", spec := "topRecords", inPlace := ["internal/abi.NoEscape", "internal/bytealg.MakeNoZero"], unfollowed := true, recurses := true, plainKeys := false, apart := false }
def TopRecordsSaid : Prop := topRecordsRow.holds Tryz.pinned (OpenSpec.ofChange topRecordsSpec)

/-- ITS FALSE NEIGHBOUR: 'it returns false'. Refute it at one input. -/
def topRecordsWrong : ChangeSpec := { name := "topRecords", fn := fun _ => fun
  | [d1, d2, d3] => { results := [.lit (.bool false)], args := [d1, d2, d3] }
  | _ => none }
def TopRecordsWrongFalsely : Prop := topRecordsRow.holds Tryz.pinned (OpenSpec.ofChange topRecordsWrong)

/-- 'cordwoodtop.TopRewritten': WHATEVER THE INPUT: true; the input reads as it did. -/
def topRewrittenSpec : ChangeSpec := { name := "topRewritten", fn := fun _ => fun
  | [d1, d2, d3] => { results := [.lit (.bool true)], args := [d1, d2, d3] }
  | _ => none }
def topRewrittenRow : OpenClaim := { program := "ytichfhpgdhdiaaagreat", sum := "700735d4d258d6108565408baf2f06926d97a39f44393d27b0bd982ed543b816", func := "cordwood/cordwoodtop.TopRewritten", spec := "topRewritten", inPlace := ["internal/abi.NoEscape", "internal/bytealg.MakeNoZero"], unfollowed := true, recurses := true, plainKeys := false, apart := false }
def TopRewrittenSaid : Prop := topRewrittenRow.holds Tryz.pinned (OpenSpec.ofChange topRewrittenSpec)

/-- ITS FALSE NEIGHBOUR: 'it returns false'. Refute it at one input. -/
def topRewrittenWrong : ChangeSpec := { name := "topRewritten", fn := fun _ => fun
  | [d1, d2, d3] => { results := [.lit (.bool false)], args := [d1, d2, d3] }
  | _ => none }
def TopRewrittenWrongFalsely : Prop := topRewrittenRow.holds Tryz.pinned (OpenSpec.ofChange topRewrittenWrong)

/- THE SECOND FORM. 'bulk': how many values and letters a reading holds, each counted each time it is reached (what is shared counts as often as it is met; a slice's spare places count too). A statement '..UptoSaid' is the law's where the arguments, and the package variables that the reading takes, are together of bulk at most 1048576: NARROWER than '..Said'. Prove '..Said' where nothing that the law and all that it calls make is longer than what came in: it says more and counts as full. Else prove '..UptoSaid'. A law counts once. -/
mutual
def uptoBulk {H : Type} : DataW H → Nat
  | .lit (.string bytes) => bytes.length + 1
  | .lit _ => 1
  | .nil => 1
  | .ptr d => uptoBulk d + 1
  | .slice elems spare => uptoBulkAll elems + uptoBulkAll spare + 1
  | .agg parts => uptoBulkAll parts + 1
  | .iface _ d => uptoBulk d + 1
  | .map entries => uptoBulkEntries entries + 1
  | .held _ => 1
def uptoBulkAll {H : Type} : List (DataW H) → Nat
  | [] => 0
  | d :: r => uptoBulk d + uptoBulkAll r
def uptoBulkEntries {H : Type} : List (Lit × DataW H) → Nat
  | [] => 0
  | x :: r => uptoBulkEntry x + uptoBulkEntries r
def uptoBulkEntry {H : Type} : Lit × DataW H → Nat
  | (.string bytes, d) => bytes.length + uptoBulk d + 1
  | (_, d) => uptoBulk d + 1
 end
def uptoSmall : (H : Type) → List (DataW H) → Bool := fun _ ds => decide (uptoBulkAll ds ≤ 1048576)
def OpenSpec.upto (s : _root_.Go.ChangeSpec) : _root_.Go.OpenSpec := { _root_.Go.OpenSpec.ofChange s with cond := some uptoSmall }

/-- 'cordwoodtop.TopPortions', WHERE WHAT IT READS IS OF BULK AT MOST 1048576: true; the input reads as it did. -/
def topPortionsUptoRow : OpenClaim := { program := "ytichfhpgdhdiaaagreat", sum := "700735d4d258d6108565408baf2f06926d97a39f44393d27b0bd982ed543b816", func := "cordwood/cordwoodtop.TopPortions", spec := "topPortions", inPlace := ["internal/abi.NoEscape", "internal/bytealg.MakeNoZero"], unfollowed := true, recurses := true, plainKeys := false, apart := false, narrowed := true }
def TopPortionsUptoSaid : Prop := topPortionsUptoRow.holds Tryz.pinned (OpenSpec.upto topPortionsSpec)

/-- 'cordwoodtop.TopNested', WHERE WHAT IT READS IS OF BULK AT MOST 1048576: true; the input reads as it did. -/
def topNestedUptoRow : OpenClaim := { program := "ytichfhpgdhdiaaagreat", sum := "700735d4d258d6108565408baf2f06926d97a39f44393d27b0bd982ed543b816", func := "cordwood/cordwoodtop.TopNested", spec := "topNested", inPlace := ["internal/abi.NoEscape", "internal/bytealg.MakeNoZero"], unfollowed := true, recurses := true, plainKeys := false, apart := false, narrowed := true }
def TopNestedUptoSaid : Prop := topNestedUptoRow.holds Tryz.pinned (OpenSpec.upto topNestedSpec)

/-- 'cordwoodtop.TopRecords', WHERE WHAT IT READS IS OF BULK AT MOST 1048576: true; the input reads as it did. -/
def topRecordsUptoRow : OpenClaim := { program := "ytichfhpgdhdiaaagreat", sum := "700735d4d258d6108565408baf2f06926d97a39f44393d27b0bd982ed543b816", func := "cordwood/cordwoodtop.TopRecords", spec := "topRecords", inPlace := ["internal/abi.NoEscape", "internal/bytealg.MakeNoZero"], unfollowed := true, recurses := true, plainKeys := false, apart := false, narrowed := true }
def TopRecordsUptoSaid : Prop := topRecordsUptoRow.holds Tryz.pinned (OpenSpec.upto topRecordsSpec)

/-- 'cordwoodtop.TopRewritten', WHERE WHAT IT READS IS OF BULK AT MOST 1048576: true; the input reads as it did. -/
def topRewrittenUptoRow : OpenClaim := { program := "ytichfhpgdhdiaaagreat", sum := "700735d4d258d6108565408baf2f06926d97a39f44393d27b0bd982ed543b816", func := "cordwood/cordwoodtop.TopRewritten", spec := "topRewritten", inPlace := ["internal/abi.NoEscape", "internal/bytealg.MakeNoZero"], unfollowed := true, recurses := true, plainKeys := false, apart := false, narrowed := true }
def TopRewrittenUptoSaid : Prop := topRewrittenUptoRow.holds Tryz.pinned (OpenSpec.upto topRewrittenSpec)

end Rows
end Go.Proofs.YtichfhpgdhdiaaaGreat
