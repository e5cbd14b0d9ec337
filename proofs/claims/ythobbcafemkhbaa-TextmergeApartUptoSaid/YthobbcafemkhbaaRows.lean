/-
  No cell of these rows narrows 'for every input' (looked for: loops, veiled, ifaces, maps, wideKeys, modest, calm, conditions, laid).
  DERIVED. THE GIVEN ROWS OF THIS SEAT. 9 by the template 'for every input the law returns true; each argument reads behind the call as it read before'; 0 by the template 'total and deterministic' (their statements: YthobbcafemkhbaaTotals.lean).
  GIVEN WITH THE SEED: the statements are not yours to turn. If you find one false, say at which input.
  Laid BY PROGRAM, IN A SANDBOX (cutbox-rows.mjs): the forced cells as the released guide's own fill.sh prints them over the translation 60b33f745c568d13… (all of the seat's roots in one cut). By AI agents, Wed Nov 11 2026. No macro, syntax, notation, axiom, sorry.
-/
import Derived.Test.YthobbcafemkhbaaChecked
import GoSem.Claim
import GoSem.ClaimJoined
import GoSem.ClaimMapViews
import Derived.JoinedTies
import Derived.KernelRfl
namespace Go.Proofs.Ythobbcafemkhbaa
/- THE CELL 'sum', in the pinned program and in every row, IS THE sha256 OF THE DUMP (.gsa) THAT YthobbcafemkhbaaProg.lean LOADS. Nothing in Lean hashes anything: it is a label: what it is worth is what the hold of that sum in a sandbox is worth. -/
noncomputable def Try.pinned : Pinned := { name := "ythobbcafemkhbaa", sum := "60b33f745c568d138d92ea4b1199fcd7c7c0e5c8f1cb97acef6bddaf2d5bd00e", checked := Try.checked }
namespace Rows
def none {H : Type} : Left H := { results := [], args := [] }

/-- 'cordwoodlaw19.TextmergeMerge': WHATEVER THE INPUT: true; the input reads as it did. -/
def textmergeMergeSpec : ChangeSpec := { name := "textmergeMerge", fn := fun _ => fun
  | [d1, d2, d3] => { results := [.lit (.bool true)], args := [d1, d2, d3] }
  | _ => none }
def textmergeMergeRow : OpenClaim := { program := "ythobbcafemkhbaa", sum := "60b33f745c568d138d92ea4b1199fcd7c7c0e5c8f1cb97acef6bddaf2d5bd00e", func := "cordwood/cordwoodlaw19.TextmergeMerge", spec := "textmergeMerge", inPlace := ["internal/bytealg.IndexByteString", "internal/abi.NoEscape", "internal/bytealg.MakeNoZero"], unfollowed := true, recurses := true, apart := false }
def TextmergeMergeSaid : Prop := textmergeMergeRow.holds Try.pinned (OpenSpec.ofChange textmergeMergeSpec)

/-- ITS FALSE NEIGHBOUR: 'it returns false'. Refute it at one input. -/
def textmergeMergeWrong : ChangeSpec := { name := "textmergeMerge", fn := fun _ => fun
  | [d1, d2, d3] => { results := [.lit (.bool false)], args := [d1, d2, d3] }
  | _ => none }
def TextmergeMergeWrongFalsely : Prop := textmergeMergeRow.holds Try.pinned (OpenSpec.ofChange textmergeMergeWrong)

/-- 'cordwoodlaw19.TextmergeSymmetric': WHATEVER THE INPUT: true; the input reads as it did. -/
def textmergeSymmetricSpec : ChangeSpec := { name := "textmergeSymmetric", fn := fun _ => fun
  | [d1, d2, d3] => { results := [.lit (.bool true)], args := [d1, d2, d3] }
  | _ => none }
def textmergeSymmetricRow : OpenClaim := { program := "ythobbcafemkhbaa", sum := "60b33f745c568d138d92ea4b1199fcd7c7c0e5c8f1cb97acef6bddaf2d5bd00e", func := "cordwood/cordwoodlaw19.TextmergeSymmetric", spec := "textmergeSymmetric", inPlace := ["internal/bytealg.IndexByteString", "internal/abi.NoEscape", "internal/bytealg.MakeNoZero"], unfollowed := true, recurses := true, apart := false }
def TextmergeSymmetricSaid : Prop := textmergeSymmetricRow.holds Try.pinned (OpenSpec.ofChange textmergeSymmetricSpec)

/-- ITS FALSE NEIGHBOUR: 'it returns false'. Refute it at one input. -/
def textmergeSymmetricWrong : ChangeSpec := { name := "textmergeSymmetric", fn := fun _ => fun
  | [d1, d2, d3] => { results := [.lit (.bool false)], args := [d1, d2, d3] }
  | _ => none }
def TextmergeSymmetricWrongFalsely : Prop := textmergeSymmetricRow.holds Try.pinned (OpenSpec.ofChange textmergeSymmetricWrong)

/-- 'cordwoodlaw19.TextmergeTrivial': WHATEVER THE INPUT: true; the input reads as it did. -/
def textmergeTrivialSpec : ChangeSpec := { name := "textmergeTrivial", fn := fun _ => fun
  | [d1, d2] => { results := [.lit (.bool true)], args := [d1, d2] }
  | _ => none }
def textmergeTrivialRow : OpenClaim := { program := "ythobbcafemkhbaa", sum := "60b33f745c568d138d92ea4b1199fcd7c7c0e5c8f1cb97acef6bddaf2d5bd00e", func := "cordwood/cordwoodlaw19.TextmergeTrivial", spec := "textmergeTrivial", inPlace := ["internal/bytealg.IndexByteString", "internal/abi.NoEscape", "internal/bytealg.MakeNoZero"], unfollowed := true, recurses := true, apart := false }
def TextmergeTrivialSaid : Prop := textmergeTrivialRow.holds Try.pinned (OpenSpec.ofChange textmergeTrivialSpec)

/-- ITS FALSE NEIGHBOUR: 'it returns false'. Refute it at one input. -/
def textmergeTrivialWrong : ChangeSpec := { name := "textmergeTrivial", fn := fun _ => fun
  | [d1, d2] => { results := [.lit (.bool false)], args := [d1, d2] }
  | _ => none }
def TextmergeTrivialWrongFalsely : Prop := textmergeTrivialRow.holds Try.pinned (OpenSpec.ofChange textmergeTrivialWrong)

/-- 'cordwoodlaw19.TextmergeApart': WHATEVER THE INPUT: true; the input reads as it did. -/
def textmergeApartSpec : ChangeSpec := { name := "textmergeApart", fn := fun _ => fun
  | [d] => { results := [.lit (.bool true)], args := [d] }
  | _ => none }
def textmergeApartRow : OpenClaim := { program := "ythobbcafemkhbaa", sum := "60b33f745c568d138d92ea4b1199fcd7c7c0e5c8f1cb97acef6bddaf2d5bd00e", func := "cordwood/cordwoodlaw19.TextmergeApart", spec := "textmergeApart", inPlace := ["internal/bytealg.IndexByteString", "internal/abi.NoEscape", "internal/bytealg.MakeNoZero"], unfollowed := true, recurses := true, apart := false }
def TextmergeApartSaid : Prop := textmergeApartRow.holds Try.pinned (OpenSpec.ofChange textmergeApartSpec)

/-- ITS FALSE NEIGHBOUR: 'it returns false'. Refute it at one input. -/
def textmergeApartWrong : ChangeSpec := { name := "textmergeApart", fn := fun _ => fun
  | [d] => { results := [.lit (.bool false)], args := [d] }
  | _ => none }
def TextmergeApartWrongFalsely : Prop := textmergeApartRow.holds Try.pinned (OpenSpec.ofChange textmergeApartWrong)

/-- 'cordwoodlaw19.TextmergeSettles': WHATEVER THE INPUT: true; the input reads as it did. -/
def textmergeSettlesSpec : ChangeSpec := { name := "textmergeSettles", fn := fun _ => fun
  | [d1, d2, d3, d4, d5, d6, d7] => { results := [.lit (.bool true)], args := [d1, d2, d3, d4, d5, d6, d7] }
  | _ => none }
def textmergeSettlesRow : OpenClaim := { program := "ythobbcafemkhbaa", sum := "60b33f745c568d138d92ea4b1199fcd7c7c0e5c8f1cb97acef6bddaf2d5bd00e", func := "cordwood/cordwoodlaw19.TextmergeSettles", spec := "textmergeSettles", inPlace := ["internal/bytealg.IndexByteString", "internal/abi.NoEscape", "internal/bytealg.MakeNoZero"], unfollowed := true, recurses := true, apart := false }
def TextmergeSettlesSaid : Prop := textmergeSettlesRow.holds Try.pinned (OpenSpec.ofChange textmergeSettlesSpec)

/-- ITS FALSE NEIGHBOUR: 'it returns false'. Refute it at one input. -/
def textmergeSettlesWrong : ChangeSpec := { name := "textmergeSettles", fn := fun _ => fun
  | [d1, d2, d3, d4, d5, d6, d7] => { results := [.lit (.bool false)], args := [d1, d2, d3, d4, d5, d6, d7] }
  | _ => none }
def TextmergeSettlesWrongFalsely : Prop := textmergeSettlesRow.holds Try.pinned (OpenSpec.ofChange textmergeSettlesWrong)

/-- 'cordwoodlaw19.TextmergeUnmark': WHATEVER THE INPUT: true; the input reads as it did. -/
def textmergeUnmarkSpec : ChangeSpec := { name := "textmergeUnmark", fn := fun _ => fun
  | [d] => { results := [.lit (.bool true)], args := [d] }
  | _ => none }
def textmergeUnmarkRow : OpenClaim := { program := "ythobbcafemkhbaa", sum := "60b33f745c568d138d92ea4b1199fcd7c7c0e5c8f1cb97acef6bddaf2d5bd00e", func := "cordwood/cordwoodlaw19.TextmergeUnmark", spec := "textmergeUnmark", inPlace := ["internal/bytealg.IndexByteString", "internal/abi.NoEscape", "internal/bytealg.MakeNoZero"], unfollowed := true, recurses := true, apart := false }
def TextmergeUnmarkSaid : Prop := textmergeUnmarkRow.holds Try.pinned (OpenSpec.ofChange textmergeUnmarkSpec)

/-- ITS FALSE NEIGHBOUR: 'it returns false'. Refute it at one input. -/
def textmergeUnmarkWrong : ChangeSpec := { name := "textmergeUnmark", fn := fun _ => fun
  | [d] => { results := [.lit (.bool false)], args := [d] }
  | _ => none }
def TextmergeUnmarkWrongFalsely : Prop := textmergeUnmarkRow.holds Try.pinned (OpenSpec.ofChange textmergeUnmarkWrong)

/-- 'cordwoodlaw19.TextmergeRegions': WHATEVER THE INPUT: true; the input reads as it did. -/
def textmergeRegionsSpec : ChangeSpec := { name := "textmergeRegions", fn := fun _ => fun
  | [d1, d2, d3] => { results := [.lit (.bool true)], args := [d1, d2, d3] }
  | _ => none }
def textmergeRegionsRow : OpenClaim := { program := "ythobbcafemkhbaa", sum := "60b33f745c568d138d92ea4b1199fcd7c7c0e5c8f1cb97acef6bddaf2d5bd00e", func := "cordwood/cordwoodlaw19.TextmergeRegions", spec := "textmergeRegions", inPlace := ["internal/bytealg.IndexByteString", "internal/abi.NoEscape", "internal/bytealg.MakeNoZero"], unfollowed := true, recurses := true, apart := false }
def TextmergeRegionsSaid : Prop := textmergeRegionsRow.holds Try.pinned (OpenSpec.ofChange textmergeRegionsSpec)

/-- ITS FALSE NEIGHBOUR: 'it returns false'. Refute it at one input. -/
def textmergeRegionsWrong : ChangeSpec := { name := "textmergeRegions", fn := fun _ => fun
  | [d1, d2, d3] => { results := [.lit (.bool false)], args := [d1, d2, d3] }
  | _ => none }
def TextmergeRegionsWrongFalsely : Prop := textmergeRegionsRow.holds Try.pinned (OpenSpec.ofChange textmergeRegionsWrong)

/-- 'cordwoodlaw19.TextmergeMarks': WHATEVER THE INPUT: true; the input reads as it did. -/
def textmergeMarksSpec : ChangeSpec := { name := "textmergeMarks", fn := fun _ => fun
  | [d1, d2, d3, d4] => { results := [.lit (.bool true)], args := [d1, d2, d3, d4] }
  | _ => none }
def textmergeMarksRow : OpenClaim := { program := "ythobbcafemkhbaa", sum := "60b33f745c568d138d92ea4b1199fcd7c7c0e5c8f1cb97acef6bddaf2d5bd00e", func := "cordwood/cordwoodlaw19.TextmergeMarks", spec := "textmergeMarks", inPlace := ["internal/bytealg.IndexByteString", "internal/abi.NoEscape", "internal/bytealg.MakeNoZero"], unfollowed := true, recurses := true, apart := false }
def TextmergeMarksSaid : Prop := textmergeMarksRow.holds Try.pinned (OpenSpec.ofChange textmergeMarksSpec)

/-- ITS FALSE NEIGHBOUR: 'it returns false'. Refute it at one input. -/
def textmergeMarksWrong : ChangeSpec := { name := "textmergeMarks", fn := fun _ => fun
  | [d1, d2, d3, d4] => { results := [.lit (.bool false)], args := [d1, d2, d3, d4] }
  | _ => none }
def TextmergeMarksWrongFalsely : Prop := textmergeMarksRow.holds Try.pinned (OpenSpec.ofChange textmergeMarksWrong)

/-- 'cordwoodtop.TopBothChanges': WHATEVER THE INPUT: true; the input reads as it did. -/
def topBothChangesSpec : ChangeSpec := { name := "topBothChanges", fn := fun _ => fun
  | [d1, d2, d3] => { results := [.lit (.bool true)], args := [d1, d2, d3] }
  | _ => none }
def topBothChangesRow : OpenClaim := { program := "ythobbcafemkhbaa", sum := "60b33f745c568d138d92ea4b1199fcd7c7c0e5c8f1cb97acef6bddaf2d5bd00e", func := "cordwood/cordwoodtop.TopBothChanges", spec := "topBothChanges", inPlace := ["internal/bytealg.IndexByteString", "internal/abi.NoEscape", "internal/bytealg.MakeNoZero"], unfollowed := true, recurses := true, apart := false }
def TopBothChangesSaid : Prop := topBothChangesRow.holds Try.pinned (OpenSpec.ofChange topBothChangesSpec)

/-- ITS FALSE NEIGHBOUR: 'it returns false'. Refute it at one input. -/
def topBothChangesWrong : ChangeSpec := { name := "topBothChanges", fn := fun _ => fun
  | [d1, d2, d3] => { results := [.lit (.bool false)], args := [d1, d2, d3] }
  | _ => none }
def TopBothChangesWrongFalsely : Prop := topBothChangesRow.holds Try.pinned (OpenSpec.ofChange topBothChangesWrong)

/- THE SECOND FORM. 'bulk': how many values and letters a reading holds, each counted each time it is reached (what is shared counts as often as it is met; a slice's spare places count too). A statement '..UptoSaid' is the law's where the arguments, and the package variables that the reading takes, are together of bulk at most 1048576: NARROWER than '..Said'. Prove '..Said' where nothing that the law and all that it calls make is longer than what came in: it says more and counts as full. Else prove '..UptoSaid'. A law counts once. -/
mutual
def uptoBulk {H : Type} : DataW H → Nat
  | .lit (.string bytes) => bytes.length + 1
  | .lit _ => 1
  | .nil => 1
  | .ptr d => uptoBulk d + 1
  | .slice elems spare => uptoBulkAll elems + uptoBulkAll spare + 1
  | .agg parts => uptoBulkAll parts + 1
  | .iface _ d => uptoBulk d + 1
  | .map entries => uptoBulkEntries entries + 1
  | .held _ => 1
def uptoBulkAll {H : Type} : List (DataW H) → Nat
  | [] => 0
  | d :: r => uptoBulk d + uptoBulkAll r
def uptoBulkEntries {H : Type} : List (Lit × DataW H) → Nat
  | [] => 0
  | x :: r => uptoBulkEntry x + uptoBulkEntries r
def uptoBulkEntry {H : Type} : Lit × DataW H → Nat
  | (.string bytes, d) => bytes.length + uptoBulk d + 1
  | (_, d) => uptoBulk d + 1
 end
def uptoSmall : (H : Type) → List (DataW H) → Bool := fun _ ds => decide (uptoBulkAll ds ≤ 1048576)
def OpenSpec.upto (s : _root_.Go.ChangeSpec) : _root_.Go.OpenSpec := { _root_.Go.OpenSpec.ofChange s with cond := some uptoSmall }

/-- 'cordwoodlaw19.TextmergeMerge', WHERE WHAT IT READS IS OF BULK AT MOST 1048576: true; the input reads as it did. -/
def textmergeMergeUptoRow : OpenClaim := { program := "ythobbcafemkhbaa", sum := "60b33f745c568d138d92ea4b1199fcd7c7c0e5c8f1cb97acef6bddaf2d5bd00e", func := "cordwood/cordwoodlaw19.TextmergeMerge", spec := "textmergeMerge", inPlace := ["internal/bytealg.IndexByteString", "internal/abi.NoEscape", "internal/bytealg.MakeNoZero"], unfollowed := true, recurses := true, apart := false, narrowed := true }
def TextmergeMergeUptoSaid : Prop := textmergeMergeUptoRow.holds Try.pinned (OpenSpec.upto textmergeMergeSpec)

/-- 'cordwoodlaw19.TextmergeSymmetric', WHERE WHAT IT READS IS OF BULK AT MOST 1048576: true; the input reads as it did. -/
def textmergeSymmetricUptoRow : OpenClaim := { program := "ythobbcafemkhbaa", sum := "60b33f745c568d138d92ea4b1199fcd7c7c0e5c8f1cb97acef6bddaf2d5bd00e", func := "cordwood/cordwoodlaw19.TextmergeSymmetric", spec := "textmergeSymmetric", inPlace := ["internal/bytealg.IndexByteString", "internal/abi.NoEscape", "internal/bytealg.MakeNoZero"], unfollowed := true, recurses := true, apart := false, narrowed := true }
def TextmergeSymmetricUptoSaid : Prop := textmergeSymmetricUptoRow.holds Try.pinned (OpenSpec.upto textmergeSymmetricSpec)

/-- 'cordwoodlaw19.TextmergeTrivial', WHERE WHAT IT READS IS OF BULK AT MOST 1048576: true; the input reads as it did. -/
def textmergeTrivialUptoRow : OpenClaim := { program := "ythobbcafemkhbaa", sum := "60b33f745c568d138d92ea4b1199fcd7c7c0e5c8f1cb97acef6bddaf2d5bd00e", func := "cordwood/cordwoodlaw19.TextmergeTrivial", spec := "textmergeTrivial", inPlace := ["internal/bytealg.IndexByteString", "internal/abi.NoEscape", "internal/bytealg.MakeNoZero"], unfollowed := true, recurses := true, apart := false, narrowed := true }
def TextmergeTrivialUptoSaid : Prop := textmergeTrivialUptoRow.holds Try.pinned (OpenSpec.upto textmergeTrivialSpec)

/-- 'cordwoodlaw19.TextmergeApart', WHERE WHAT IT READS IS OF BULK AT MOST 1048576: true; the input reads as it did. -/
def textmergeApartUptoRow : OpenClaim := { program := "ythobbcafemkhbaa", sum := "60b33f745c568d138d92ea4b1199fcd7c7c0e5c8f1cb97acef6bddaf2d5bd00e", func := "cordwood/cordwoodlaw19.TextmergeApart", spec := "textmergeApart", inPlace := ["internal/bytealg.IndexByteString", "internal/abi.NoEscape", "internal/bytealg.MakeNoZero"], unfollowed := true, recurses := true, apart := false, narrowed := true }
def TextmergeApartUptoSaid : Prop := textmergeApartUptoRow.holds Try.pinned (OpenSpec.upto textmergeApartSpec)

/-- 'cordwoodlaw19.TextmergeSettles', WHERE WHAT IT READS IS OF BULK AT MOST 1048576: true; the input reads as it did. -/
def textmergeSettlesUptoRow : OpenClaim := { program := "ythobbcafemkhbaa", sum := "60b33f745c568d138d92ea4b1199fcd7c7c0e5c8f1cb97acef6bddaf2d5bd00e", func := "cordwood/cordwoodlaw19.TextmergeSettles", spec := "textmergeSettles", inPlace := ["internal/bytealg.IndexByteString", "internal/abi.NoEscape", "internal/bytealg.MakeNoZero"], unfollowed := true, recurses := true, apart := false, narrowed := true }
def TextmergeSettlesUptoSaid : Prop := textmergeSettlesUptoRow.holds Try.pinned (OpenSpec.upto textmergeSettlesSpec)

/-- 'cordwoodlaw19.TextmergeUnmark', WHERE WHAT IT READS IS OF BULK AT MOST 1048576: true; the input reads as it did. -/
def textmergeUnmarkUptoRow : OpenClaim := { program := "ythobbcafemkhbaa", sum := "60b33f745c568d138d92ea4b1199fcd7c7c0e5c8f1cb97acef6bddaf2d5bd00e", func := "cordwood/cordwoodlaw19.TextmergeUnmark", spec := "textmergeUnmark", inPlace := ["internal/bytealg.IndexByteString", "internal/abi.NoEscape", "internal/bytealg.MakeNoZero"], unfollowed := true, recurses := true, apart := false, narrowed := true }
def TextmergeUnmarkUptoSaid : Prop := textmergeUnmarkUptoRow.holds Try.pinned (OpenSpec.upto textmergeUnmarkSpec)

/-- 'cordwoodlaw19.TextmergeRegions', WHERE WHAT IT READS IS OF BULK AT MOST 1048576: true; the input reads as it did. -/
def textmergeRegionsUptoRow : OpenClaim := { program := "ythobbcafemkhbaa", sum := "60b33f745c568d138d92ea4b1199fcd7c7c0e5c8f1cb97acef6bddaf2d5bd00e", func := "cordwood/cordwoodlaw19.TextmergeRegions", spec := "textmergeRegions", inPlace := ["internal/bytealg.IndexByteString", "internal/abi.NoEscape", "internal/bytealg.MakeNoZero"], unfollowed := true, recurses := true, apart := false, narrowed := true }
def TextmergeRegionsUptoSaid : Prop := textmergeRegionsUptoRow.holds Try.pinned (OpenSpec.upto textmergeRegionsSpec)

/-- 'cordwoodlaw19.TextmergeMarks', WHERE WHAT IT READS IS OF BULK AT MOST 1048576: true; the input reads as it did. -/
def textmergeMarksUptoRow : OpenClaim := { program := "ythobbcafemkhbaa", sum := "60b33f745c568d138d92ea4b1199fcd7c7c0e5c8f1cb97acef6bddaf2d5bd00e", func := "cordwood/cordwoodlaw19.TextmergeMarks", spec := "textmergeMarks", inPlace := ["internal/bytealg.IndexByteString", "internal/abi.NoEscape", "internal/bytealg.MakeNoZero"], unfollowed := true, recurses := true, apart := false, narrowed := true }
def TextmergeMarksUptoSaid : Prop := textmergeMarksUptoRow.holds Try.pinned (OpenSpec.upto textmergeMarksSpec)

/-- 'cordwoodtop.TopBothChanges', WHERE WHAT IT READS IS OF BULK AT MOST 1048576: true; the input reads as it did. -/
def topBothChangesUptoRow : OpenClaim := { program := "ythobbcafemkhbaa", sum := "60b33f745c568d138d92ea4b1199fcd7c7c0e5c8f1cb97acef6bddaf2d5bd00e", func := "cordwood/cordwoodtop.TopBothChanges", spec := "topBothChanges", inPlace := ["internal/bytealg.IndexByteString", "internal/abi.NoEscape", "internal/bytealg.MakeNoZero"], unfollowed := true, recurses := true, apart := false, narrowed := true }
def TopBothChangesUptoSaid : Prop := topBothChangesUptoRow.holds Try.pinned (OpenSpec.upto topBothChangesSpec)

end Rows
end Go.Proofs.Ythobbcafemkhbaa
