/-
  No cell of these rows narrows 'for every input' (looked for: loops, veiled, ifaces, maps, wideKeys, modest, calm, conditions, laid).
  DERIVED. THE GIVEN ROWS OF THIS SEAT. 8 by the template 'for every input the law returns true; each argument reads behind the call as it read before'; 0 by the template 'total and deterministic' (their statements: YtobiheoammhcmaaTotals.lean).
  GIVEN WITH THE SEED: the statements are not yours to turn. If you find one false, say at which input.
  Laid BY PROGRAM, IN A SANDBOX (cutbox-rows.mjs): the forced cells as the released guide's own fill.sh prints them over the translation 33f0da335fc1cb76… (all of the seat's roots in one cut). By AI agents, Wed Nov 11 2026. No macro, syntax, notation, axiom, sorry.
-/
import Derived.Test.YtobiheoammhcmaaChecked
import GoSem.Claim
import GoSem.ClaimJoined
import GoSem.ClaimMapViews
import Derived.JoinedTies
import Derived.KernelRfl
namespace Go.Proofs.Ytobiheoammhcmaa
/- THE CELL 'sum', in the pinned program and in every row, IS THE sha256 OF THE DUMP (.gsa) THAT YtobiheoammhcmaaProg.lean LOADS. Nothing in Lean hashes anything: it is a label: what it is worth is what the hold of that sum in a sandbox is worth. -/
noncomputable def Try.pinned : Pinned := { name := "ytobiheoammhcmaa", sum := "33f0da335fc1cb76cdf9e773eba1a2524e51750c2e7e64a122e7039f00ebeda9", checked := Try.checked }
namespace Rows
def none {H : Type} : Left H := { results := [], args := [] }

/-- 'cordwoodlaw18.LinediffDiff': WHATEVER THE INPUT: true; the input reads as it did. -/
def linediffDiffSpec : ChangeSpec := { name := "linediffDiff", fn := fun _ => fun
  | [d1, d2] => { results := [.lit (.bool true)], args := [d1, d2] }
  | _ => none }
def linediffDiffRow : OpenClaim := { program := "ytobiheoammhcmaa", sum := "33f0da335fc1cb76cdf9e773eba1a2524e51750c2e7e64a122e7039f00ebeda9", func := "cordwood/cordwoodlaw18.LinediffDiff", spec := "linediffDiff", inPlace := ["internal/bytealg.IndexByteString"], unfollowed := true, recurses := true, apart := false }
def LinediffDiffSaid : Prop := linediffDiffRow.holds Try.pinned (OpenSpec.ofChange linediffDiffSpec)

/-- ITS FALSE NEIGHBOUR: 'it returns false'. Refute it at one input. -/
def linediffDiffWrong : ChangeSpec := { name := "linediffDiff", fn := fun _ => fun
  | [d1, d2] => { results := [.lit (.bool false)], args := [d1, d2] }
  | _ => none }
def LinediffDiffWrongFalsely : Prop := linediffDiffRow.holds Try.pinned (OpenSpec.ofChange linediffDiffWrong)

/-- 'cordwoodlaw18.LinediffMetric': WHATEVER THE INPUT: true; the input reads as it did. -/
def linediffMetricSpec : ChangeSpec := { name := "linediffMetric", fn := fun _ => fun
  | [d1, d2, d3] => { results := [.lit (.bool true)], args := [d1, d2, d3] }
  | _ => none }
def linediffMetricRow : OpenClaim := { program := "ytobiheoammhcmaa", sum := "33f0da335fc1cb76cdf9e773eba1a2524e51750c2e7e64a122e7039f00ebeda9", func := "cordwood/cordwoodlaw18.LinediffMetric", spec := "linediffMetric", inPlace := ["internal/bytealg.IndexByteString"], unfollowed := true, recurses := true, apart := false }
def LinediffMetricSaid : Prop := linediffMetricRow.holds Try.pinned (OpenSpec.ofChange linediffMetricSpec)

/-- ITS FALSE NEIGHBOUR: 'it returns false'. Refute it at one input. -/
def linediffMetricWrong : ChangeSpec := { name := "linediffMetric", fn := fun _ => fun
  | [d1, d2, d3] => { results := [.lit (.bool false)], args := [d1, d2, d3] }
  | _ => none }
def LinediffMetricWrongFalsely : Prop := linediffMetricRow.holds Try.pinned (OpenSpec.ofChange linediffMetricWrong)

/-- 'cordwoodlaw18.LinediffSeparate': WHATEVER THE INPUT: true; the input reads as it did. -/
def linediffSeparateSpec : ChangeSpec := { name := "linediffSeparate", fn := fun _ => fun
  | [d1, d2] => { results := [.lit (.bool true)], args := [d1, d2] }
  | _ => none }
def linediffSeparateRow : OpenClaim := { program := "ytobiheoammhcmaa", sum := "33f0da335fc1cb76cdf9e773eba1a2524e51750c2e7e64a122e7039f00ebeda9", func := "cordwood/cordwoodlaw18.LinediffSeparate", spec := "linediffSeparate", inPlace := ["internal/bytealg.IndexByteString"], unfollowed := true, recurses := true, apart := false }
def LinediffSeparateSaid : Prop := linediffSeparateRow.holds Try.pinned (OpenSpec.ofChange linediffSeparateSpec)

/-- ITS FALSE NEIGHBOUR: 'it returns false'. Refute it at one input. -/
def linediffSeparateWrong : ChangeSpec := { name := "linediffSeparate", fn := fun _ => fun
  | [d1, d2] => { results := [.lit (.bool false)], args := [d1, d2] }
  | _ => none }
def LinediffSeparateWrongFalsely : Prop := linediffSeparateRow.holds Try.pinned (OpenSpec.ofChange linediffSeparateWrong)

/-- 'cordwoodlaw18.LinediffLeast': WHATEVER THE INPUT: true; the input reads as it did. -/
def linediffLeastSpec : ChangeSpec := { name := "linediffLeast", fn := fun _ => fun
  | [d1, d2] => { results := [.lit (.bool true)], args := [d1, d2] }
  | _ => none }
def linediffLeastRow : OpenClaim := { program := "ytobiheoammhcmaa", sum := "33f0da335fc1cb76cdf9e773eba1a2524e51750c2e7e64a122e7039f00ebeda9", func := "cordwood/cordwoodlaw18.LinediffLeast", spec := "linediffLeast", inPlace := ["internal/bytealg.IndexByteString"], unfollowed := true, recurses := true, apart := false }
def LinediffLeastSaid : Prop := linediffLeastRow.holds Try.pinned (OpenSpec.ofChange linediffLeastSpec)

/-- ITS FALSE NEIGHBOUR: 'it returns false'. Refute it at one input. -/
def linediffLeastWrong : ChangeSpec := { name := "linediffLeast", fn := fun _ => fun
  | [d1, d2] => { results := [.lit (.bool false)], args := [d1, d2] }
  | _ => none }
def LinediffLeastWrongFalsely : Prop := linediffLeastRow.holds Try.pinned (OpenSpec.ofChange linediffLeastWrong)

/-- 'cordwoodlaw18.LinediffApply': WHATEVER THE INPUT: true; the input reads as it did. -/
def linediffApplySpec : ChangeSpec := { name := "linediffApply", fn := fun _ => fun
  | [d1, d2] => { results := [.lit (.bool true)], args := [d1, d2] }
  | _ => none }
def linediffApplyRow : OpenClaim := { program := "ytobiheoammhcmaa", sum := "33f0da335fc1cb76cdf9e773eba1a2524e51750c2e7e64a122e7039f00ebeda9", func := "cordwood/cordwoodlaw18.LinediffApply", spec := "linediffApply", inPlace := ["internal/bytealg.IndexByteString"], unfollowed := true, recurses := true, apart := false }
def LinediffApplySaid : Prop := linediffApplyRow.holds Try.pinned (OpenSpec.ofChange linediffApplySpec)

/-- ITS FALSE NEIGHBOUR: 'it returns false'. Refute it at one input. -/
def linediffApplyWrong : ChangeSpec := { name := "linediffApply", fn := fun _ => fun
  | [d1, d2] => { results := [.lit (.bool false)], args := [d1, d2] }
  | _ => none }
def LinediffApplyWrongFalsely : Prop := linediffApplyRow.holds Try.pinned (OpenSpec.ofChange linediffApplyWrong)

/-- 'cordwoodlaw18.LinediffThere': WHATEVER THE INPUT: true; the input reads as it did. -/
def linediffThereSpec : ChangeSpec := { name := "linediffThere", fn := fun _ => fun
  | [d1, d2] => { results := [.lit (.bool true)], args := [d1, d2] }
  | _ => none }
def linediffThereRow : OpenClaim := { program := "ytobiheoammhcmaa", sum := "33f0da335fc1cb76cdf9e773eba1a2524e51750c2e7e64a122e7039f00ebeda9", func := "cordwood/cordwoodlaw18.LinediffThere", spec := "linediffThere", inPlace := ["internal/bytealg.IndexByteString"], unfollowed := true, recurses := true, apart := false }
def LinediffThereSaid : Prop := linediffThereRow.holds Try.pinned (OpenSpec.ofChange linediffThereSpec)

/-- ITS FALSE NEIGHBOUR: 'it returns false'. Refute it at one input. -/
def linediffThereWrong : ChangeSpec := { name := "linediffThere", fn := fun _ => fun
  | [d1, d2] => { results := [.lit (.bool false)], args := [d1, d2] }
  | _ => none }
def LinediffThereWrongFalsely : Prop := linediffThereRow.holds Try.pinned (OpenSpec.ofChange linediffThereWrong)

/-- 'cordwoodlaw18.LinediffLines': WHATEVER THE INPUT: true; the input reads as it did. -/
def linediffLinesSpec : ChangeSpec := { name := "linediffLines", fn := fun _ => fun
  | [d1, d2] => { results := [.lit (.bool true)], args := [d1, d2] }
  | _ => none }
def linediffLinesRow : OpenClaim := { program := "ytobiheoammhcmaa", sum := "33f0da335fc1cb76cdf9e773eba1a2524e51750c2e7e64a122e7039f00ebeda9", func := "cordwood/cordwoodlaw18.LinediffLines", spec := "linediffLines", inPlace := ["internal/bytealg.IndexByteString", "internal/abi.NoEscape", "internal/bytealg.MakeNoZero"], unfollowed := true, recurses := true, apart := false }
def LinediffLinesSaid : Prop := linediffLinesRow.holds Try.pinned (OpenSpec.ofChange linediffLinesSpec)

/-- ITS FALSE NEIGHBOUR: 'it returns false'. Refute it at one input. -/
def linediffLinesWrong : ChangeSpec := { name := "linediffLines", fn := fun _ => fun
  | [d1, d2] => { results := [.lit (.bool false)], args := [d1, d2] }
  | _ => none }
def LinediffLinesWrongFalsely : Prop := linediffLinesRow.holds Try.pinned (OpenSpec.ofChange linediffLinesWrong)

/-- 'cordwoodlaw18.LinediffText': WHATEVER THE INPUT: true; the input reads as it did. -/
def linediffTextSpec : ChangeSpec := { name := "linediffText", fn := fun _ => fun
  | [d] => { results := [.lit (.bool true)], args := [d] }
  | _ => none }
def linediffTextRow : OpenClaim := { program := "ytobiheoammhcmaa", sum := "33f0da335fc1cb76cdf9e773eba1a2524e51750c2e7e64a122e7039f00ebeda9", func := "cordwood/cordwoodlaw18.LinediffText", spec := "linediffText", inPlace := ["internal/bytealg.IndexByteString", "internal/abi.NoEscape", "internal/bytealg.MakeNoZero"], unfollowed := true, recurses := true, apart := false }
def LinediffTextSaid : Prop := linediffTextRow.holds Try.pinned (OpenSpec.ofChange linediffTextSpec)

/-- ITS FALSE NEIGHBOUR: 'it returns false'. Refute it at one input. -/
def linediffTextWrong : ChangeSpec := { name := "linediffText", fn := fun _ => fun
  | [d] => { results := [.lit (.bool false)], args := [d] }
  | _ => none }
def LinediffTextWrongFalsely : Prop := linediffTextRow.holds Try.pinned (OpenSpec.ofChange linediffTextWrong)

/- THE SECOND FORM. 'bulk': how many values and letters a reading holds, each counted each time it is reached (what is shared counts as often as it is met; a slice's spare places count too). A statement '..UptoSaid' is the law's where the arguments, and the package variables that the reading takes, are together of bulk at most 1048576: NARROWER than '..Said'. Prove '..Said' where nothing that the law and all that it calls make is longer than what came in: it says more and counts as full. Else prove '..UptoSaid'. A law counts once. -/
mutual
def uptoBulk {H : Type} : DataW H → Nat
  | .lit (.string bytes) => bytes.length + 1
  | .lit _ => 1
  | .nil => 1
  | .ptr d => uptoBulk d + 1
  | .slice elems spare => uptoBulkAll elems + uptoBulkAll spare + 1
  | .agg parts => uptoBulkAll parts + 1
  | .iface _ d => uptoBulk d + 1
  | .map entries => uptoBulkEntries entries + 1
  | .held _ => 1
def uptoBulkAll {H : Type} : List (DataW H) → Nat
  | [] => 0
  | d :: r => uptoBulk d + uptoBulkAll r
def uptoBulkEntries {H : Type} : List (Lit × DataW H) → Nat
  | [] => 0
  | x :: r => uptoBulkEntry x + uptoBulkEntries r
def uptoBulkEntry {H : Type} : Lit × DataW H → Nat
  | (.string bytes, d) => bytes.length + uptoBulk d + 1
  | (_, d) => uptoBulk d + 1
 end
def uptoSmall : (H : Type) → List (DataW H) → Bool := fun _ ds => decide (uptoBulkAll ds ≤ 1048576)
def OpenSpec.upto (s : _root_.Go.ChangeSpec) : _root_.Go.OpenSpec := { _root_.Go.OpenSpec.ofChange s with cond := some uptoSmall }

/-- 'cordwoodlaw18.LinediffDiff', WHERE WHAT IT READS IS OF BULK AT MOST 1048576: true; the input reads as it did. -/
def linediffDiffUptoRow : OpenClaim := { program := "ytobiheoammhcmaa", sum := "33f0da335fc1cb76cdf9e773eba1a2524e51750c2e7e64a122e7039f00ebeda9", func := "cordwood/cordwoodlaw18.LinediffDiff", spec := "linediffDiff", inPlace := ["internal/bytealg.IndexByteString"], unfollowed := true, recurses := true, apart := false, narrowed := true }
def LinediffDiffUptoSaid : Prop := linediffDiffUptoRow.holds Try.pinned (OpenSpec.upto linediffDiffSpec)

/-- 'cordwoodlaw18.LinediffMetric', WHERE WHAT IT READS IS OF BULK AT MOST 1048576: true; the input reads as it did. -/
def linediffMetricUptoRow : OpenClaim := { program := "ytobiheoammhcmaa", sum := "33f0da335fc1cb76cdf9e773eba1a2524e51750c2e7e64a122e7039f00ebeda9", func := "cordwood/cordwoodlaw18.LinediffMetric", spec := "linediffMetric", inPlace := ["internal/bytealg.IndexByteString"], unfollowed := true, recurses := true, apart := false, narrowed := true }
def LinediffMetricUptoSaid : Prop := linediffMetricUptoRow.holds Try.pinned (OpenSpec.upto linediffMetricSpec)

/-- 'cordwoodlaw18.LinediffSeparate', WHERE WHAT IT READS IS OF BULK AT MOST 1048576: true; the input reads as it did. -/
def linediffSeparateUptoRow : OpenClaim := { program := "ytobiheoammhcmaa", sum := "33f0da335fc1cb76cdf9e773eba1a2524e51750c2e7e64a122e7039f00ebeda9", func := "cordwood/cordwoodlaw18.LinediffSeparate", spec := "linediffSeparate", inPlace := ["internal/bytealg.IndexByteString"], unfollowed := true, recurses := true, apart := false, narrowed := true }
def LinediffSeparateUptoSaid : Prop := linediffSeparateUptoRow.holds Try.pinned (OpenSpec.upto linediffSeparateSpec)

/-- 'cordwoodlaw18.LinediffLeast', WHERE WHAT IT READS IS OF BULK AT MOST 1048576: true; the input reads as it did. -/
def linediffLeastUptoRow : OpenClaim := { program := "ytobiheoammhcmaa", sum := "33f0da335fc1cb76cdf9e773eba1a2524e51750c2e7e64a122e7039f00ebeda9", func := "cordwood/cordwoodlaw18.LinediffLeast", spec := "linediffLeast", inPlace := ["internal/bytealg.IndexByteString"], unfollowed := true, recurses := true, apart := false, narrowed := true }
def LinediffLeastUptoSaid : Prop := linediffLeastUptoRow.holds Try.pinned (OpenSpec.upto linediffLeastSpec)

/-- 'cordwoodlaw18.LinediffApply', WHERE WHAT IT READS IS OF BULK AT MOST 1048576: true; the input reads as it did. -/
def linediffApplyUptoRow : OpenClaim := { program := "ytobiheoammhcmaa", sum := "33f0da335fc1cb76cdf9e773eba1a2524e51750c2e7e64a122e7039f00ebeda9", func := "cordwood/cordwoodlaw18.LinediffApply", spec := "linediffApply", inPlace := ["internal/bytealg.IndexByteString"], unfollowed := true, recurses := true, apart := false, narrowed := true }
def LinediffApplyUptoSaid : Prop := linediffApplyUptoRow.holds Try.pinned (OpenSpec.upto linediffApplySpec)

/-- 'cordwoodlaw18.LinediffThere', WHERE WHAT IT READS IS OF BULK AT MOST 1048576: true; the input reads as it did. -/
def linediffThereUptoRow : OpenClaim := { program := "ytobiheoammhcmaa", sum := "33f0da335fc1cb76cdf9e773eba1a2524e51750c2e7e64a122e7039f00ebeda9", func := "cordwood/cordwoodlaw18.LinediffThere", spec := "linediffThere", inPlace := ["internal/bytealg.IndexByteString"], unfollowed := true, recurses := true, apart := false, narrowed := true }
def LinediffThereUptoSaid : Prop := linediffThereUptoRow.holds Try.pinned (OpenSpec.upto linediffThereSpec)

/-- 'cordwoodlaw18.LinediffLines', WHERE WHAT IT READS IS OF BULK AT MOST 1048576: true; the input reads as it did. -/
def linediffLinesUptoRow : OpenClaim := { program := "ytobiheoammhcmaa", sum := "33f0da335fc1cb76cdf9e773eba1a2524e51750c2e7e64a122e7039f00ebeda9", func := "cordwood/cordwoodlaw18.LinediffLines", spec := "linediffLines", inPlace := ["internal/bytealg.IndexByteString", "internal/abi.NoEscape", "internal/bytealg.MakeNoZero"], unfollowed := true, recurses := true, apart := false, narrowed := true }
def LinediffLinesUptoSaid : Prop := linediffLinesUptoRow.holds Try.pinned (OpenSpec.upto linediffLinesSpec)

/-- 'cordwoodlaw18.LinediffText', WHERE WHAT IT READS IS OF BULK AT MOST 1048576: true; the input reads as it did. -/
def linediffTextUptoRow : OpenClaim := { program := "ytobiheoammhcmaa", sum := "33f0da335fc1cb76cdf9e773eba1a2524e51750c2e7e64a122e7039f00ebeda9", func := "cordwood/cordwoodlaw18.LinediffText", spec := "linediffText", inPlace := ["internal/bytealg.IndexByteString", "internal/abi.NoEscape", "internal/bytealg.MakeNoZero"], unfollowed := true, recurses := true, apart := false, narrowed := true }
def LinediffTextUptoSaid : Prop := linediffTextUptoRow.holds Try.pinned (OpenSpec.upto linediffTextSpec)

end Rows
end Go.Proofs.Ytobiheoammhcmaa
