/-
  No cell of these rows narrows 'for every input' (looked for: loops, veiled, ifaces, maps, wideKeys, modest, calm, conditions, laid).
  DERIVED. THE GIVEN ROWS OF THIS SEAT. 6 by the template 'for every input the law returns true; each argument reads behind the call as it read before'; 0 by the template 'total and deterministic' (their statements: YtkeiiaedikicdaaTotals.lean).
  GIVEN WITH THE SEED: the statements are not yours to turn. If you find one false, say at which input.
  Laid BY PROGRAM, IN A SANDBOX (cutbox-rows.mjs): the forced cells as the released guide's own fill.sh prints them over the translation 69a41fa7733964d7… (all of the seat's roots in one cut). By AI agents, Wed Nov 11 2026. No macro, syntax, notation, axiom, sorry.
-/
import Derived.Test.YtkeiiaedikicdaaChecked
import GoSem.Claim
import GoSem.ClaimJoined
import GoSem.ClaimMapViews
import Derived.JoinedTies
import Derived.KernelRfl
namespace Go.Proofs.Ytkeiiaedikicdaa
/- THE CELL 'sum', in the pinned program and in every row, IS THE sha256 OF THE DUMP (.gsa) THAT YtkeiiaedikicdaaProg.lean LOADS. Nothing in Lean hashes anything: it is a label: what it is worth is what the hold of that sum in a sandbox is worth. -/
noncomputable def Try.pinned : Pinned := { name := "ytkeiiaedikicdaa", sum := "69a41fa7733964d7cec272a7a22ae61b2ae47029a9ecd98f00b9fdb35c459c0d", checked := Try.checked }
namespace Rows
def none {H : Type} : Left H := { results := [], args := [] }

/-- 'annuletlaw02.LabelRunes': WHATEVER THE INPUT: true; the input reads as it did. -/
def labelRunesSpec : ChangeSpec := { name := "labelRunes", fn := fun _ => fun
  | [d] => { results := [.lit (.bool true)], args := [d] }
  | _ => none }
def labelRunesRow : OpenClaim := { program := "ytkeiiaedikicdaa", sum := "69a41fa7733964d7cec272a7a22ae61b2ae47029a9ecd98f00b9fdb35c459c0d", func := "annulet/annuletlaw02.LabelRunes", spec := "labelRunes", apart := false }
def LabelRunesSaid : Prop := labelRunesRow.holds Try.pinned (OpenSpec.ofChange labelRunesSpec)

/-- ITS FALSE NEIGHBOUR: 'it returns false'. Refute it at one input. -/
def labelRunesWrong : ChangeSpec := { name := "labelRunes", fn := fun _ => fun
  | [d] => { results := [.lit (.bool false)], args := [d] }
  | _ => none }
def LabelRunesWrongFalsely : Prop := labelRunesRow.holds Try.pinned (OpenSpec.ofChange labelRunesWrong)

/-- 'annuletlaw02.LabelSames': WHATEVER THE INPUT: true; the input reads as it did. -/
def labelSamesSpec : ChangeSpec := { name := "labelSames", fn := fun _ => fun
  | [d1, d2] => { results := [.lit (.bool true)], args := [d1, d2] }
  | _ => none }
def labelSamesRow : OpenClaim := { program := "ytkeiiaedikicdaa", sum := "69a41fa7733964d7cec272a7a22ae61b2ae47029a9ecd98f00b9fdb35c459c0d", func := "annulet/annuletlaw02.LabelSames", spec := "labelSames", apart := false }
def LabelSamesSaid : Prop := labelSamesRow.holds Try.pinned (OpenSpec.ofChange labelSamesSpec)

/-- ITS FALSE NEIGHBOUR: 'it returns false'. Refute it at one input. -/
def labelSamesWrong : ChangeSpec := { name := "labelSames", fn := fun _ => fun
  | [d1, d2] => { results := [.lit (.bool false)], args := [d1, d2] }
  | _ => none }
def LabelSamesWrongFalsely : Prop := labelSamesRow.holds Try.pinned (OpenSpec.ofChange labelSamesWrong)

/-- 'annuletlaw02.LabelCuts': WHATEVER THE INPUT: true; the input reads as it did. -/
def labelCutsSpec : ChangeSpec := { name := "labelCuts", fn := fun _ => fun
  | [d1, d2] => { results := [.lit (.bool true)], args := [d1, d2] }
  | _ => none }
def labelCutsRow : OpenClaim := { program := "ytkeiiaedikicdaa", sum := "69a41fa7733964d7cec272a7a22ae61b2ae47029a9ecd98f00b9fdb35c459c0d", func := "annulet/annuletlaw02.LabelCuts", spec := "labelCuts", apart := false }
def LabelCutsSaid : Prop := labelCutsRow.holds Try.pinned (OpenSpec.ofChange labelCutsSpec)

/-- ITS FALSE NEIGHBOUR: 'it returns false'. Refute it at one input. -/
def labelCutsWrong : ChangeSpec := { name := "labelCuts", fn := fun _ => fun
  | [d1, d2] => { results := [.lit (.bool false)], args := [d1, d2] }
  | _ => none }
def LabelCutsWrongFalsely : Prop := labelCutsRow.holds Try.pinned (OpenSpec.ofChange labelCutsWrong)

/-- 'annuletlaw02.LabelParts': WHATEVER THE INPUT: true; the input reads as it did. -/
def labelPartsSpec : ChangeSpec := { name := "labelParts", fn := fun _ => fun
  | [d1, d2] => { results := [.lit (.bool true)], args := [d1, d2] }
  | _ => none }
def labelPartsRow : OpenClaim := { program := "ytkeiiaedikicdaa", sum := "69a41fa7733964d7cec272a7a22ae61b2ae47029a9ecd98f00b9fdb35c459c0d", func := "annulet/annuletlaw02.LabelParts", spec := "labelParts", apart := false }
def LabelPartsSaid : Prop := labelPartsRow.holds Try.pinned (OpenSpec.ofChange labelPartsSpec)

/-- ITS FALSE NEIGHBOUR: 'it returns false'. Refute it at one input. -/
def labelPartsWrong : ChangeSpec := { name := "labelParts", fn := fun _ => fun
  | [d1, d2] => { results := [.lit (.bool false)], args := [d1, d2] }
  | _ => none }
def LabelPartsWrongFalsely : Prop := labelPartsRow.holds Try.pinned (OpenSpec.ofChange labelPartsWrong)

/-- 'annuletlaw02.LabelIDs': WHATEVER THE INPUT: true; the input reads as it did. -/
def labelIDsSpec : ChangeSpec := { name := "labelIDs", fn := fun _ => fun
  | [d] => { results := [.lit (.bool true)], args := [d] }
  | _ => none }
def labelIDsRow : OpenClaim := { program := "ytkeiiaedikicdaa", sum := "69a41fa7733964d7cec272a7a22ae61b2ae47029a9ecd98f00b9fdb35c459c0d", func := "annulet/annuletlaw02.LabelIDs", spec := "labelIDs", apart := false }
def LabelIDsSaid : Prop := labelIDsRow.holds Try.pinned (OpenSpec.ofChange labelIDsSpec)

/-- ITS FALSE NEIGHBOUR: 'it returns false'. Refute it at one input. -/
def labelIDsWrong : ChangeSpec := { name := "labelIDs", fn := fun _ => fun
  | [d] => { results := [.lit (.bool false)], args := [d] }
  | _ => none }
def LabelIDsWrongFalsely : Prop := labelIDsRow.holds Try.pinned (OpenSpec.ofChange labelIDsWrong)

/-- 'annuletlaw02.LabelTwice': WHATEVER THE INPUT: true; the input reads as it did. -/
def labelTwiceSpec : ChangeSpec := { name := "labelTwice", fn := fun _ => fun
  | [d] => { results := [.lit (.bool true)], args := [d] }
  | _ => none }
def labelTwiceRow : OpenClaim := { program := "ytkeiiaedikicdaa", sum := "69a41fa7733964d7cec272a7a22ae61b2ae47029a9ecd98f00b9fdb35c459c0d", func := "annulet/annuletlaw02.LabelTwice", spec := "labelTwice", apart := false }
def LabelTwiceSaid : Prop := labelTwiceRow.holds Try.pinned (OpenSpec.ofChange labelTwiceSpec)

/-- ITS FALSE NEIGHBOUR: 'it returns false'. Refute it at one input. -/
def labelTwiceWrong : ChangeSpec := { name := "labelTwice", fn := fun _ => fun
  | [d] => { results := [.lit (.bool false)], args := [d] }
  | _ => none }
def LabelTwiceWrongFalsely : Prop := labelTwiceRow.holds Try.pinned (OpenSpec.ofChange labelTwiceWrong)

/- THE SECOND FORM. 'bulk': how many values and letters a reading holds, each counted each time it is reached (what is shared counts as often as it is met; a slice's spare places count too). A statement '..UptoSaid' is the law's where the arguments, and the package variables that the reading takes, are together of bulk at most 1048576: NARROWER than '..Said'. Prove '..Said' where nothing that the law and all that it calls make is longer than what came in: it says more and counts as full. Else prove '..UptoSaid'. A law counts once. -/
mutual
def uptoBulk {H : Type} : DataW H → Nat
  | .lit (.string bytes) => bytes.length + 1
  | .lit _ => 1
  | .nil => 1
  | .ptr d => uptoBulk d + 1
  | .slice elems spare => uptoBulkAll elems + uptoBulkAll spare + 1
  | .agg parts => uptoBulkAll parts + 1
  | .iface _ d => uptoBulk d + 1
  | .map entries => uptoBulkEntries entries + 1
  | .held _ => 1
def uptoBulkAll {H : Type} : List (DataW H) → Nat
  | [] => 0
  | d :: r => uptoBulk d + uptoBulkAll r
def uptoBulkEntries {H : Type} : List (Lit × DataW H) → Nat
  | [] => 0
  | x :: r => uptoBulkEntry x + uptoBulkEntries r
def uptoBulkEntry {H : Type} : Lit × DataW H → Nat
  | (.string bytes, d) => bytes.length + uptoBulk d + 1
  | (_, d) => uptoBulk d + 1
 end
def uptoSmall : (H : Type) → List (DataW H) → Bool := fun _ ds => decide (uptoBulkAll ds ≤ 1048576)
def OpenSpec.upto (s : _root_.Go.ChangeSpec) : _root_.Go.OpenSpec := { _root_.Go.OpenSpec.ofChange s with cond := some uptoSmall }

/-- 'annuletlaw02.LabelRunes', WHERE WHAT IT READS IS OF BULK AT MOST 1048576: true; the input reads as it did. -/
def labelRunesUptoRow : OpenClaim := { program := "ytkeiiaedikicdaa", sum := "69a41fa7733964d7cec272a7a22ae61b2ae47029a9ecd98f00b9fdb35c459c0d", func := "annulet/annuletlaw02.LabelRunes", spec := "labelRunes", apart := false, narrowed := true }
def LabelRunesUptoSaid : Prop := labelRunesUptoRow.holds Try.pinned (OpenSpec.upto labelRunesSpec)

/-- 'annuletlaw02.LabelSames', WHERE WHAT IT READS IS OF BULK AT MOST 1048576: true; the input reads as it did. -/
def labelSamesUptoRow : OpenClaim := { program := "ytkeiiaedikicdaa", sum := "69a41fa7733964d7cec272a7a22ae61b2ae47029a9ecd98f00b9fdb35c459c0d", func := "annulet/annuletlaw02.LabelSames", spec := "labelSames", apart := false, narrowed := true }
def LabelSamesUptoSaid : Prop := labelSamesUptoRow.holds Try.pinned (OpenSpec.upto labelSamesSpec)

/-- 'annuletlaw02.LabelCuts', WHERE WHAT IT READS IS OF BULK AT MOST 1048576: true; the input reads as it did. -/
def labelCutsUptoRow : OpenClaim := { program := "ytkeiiaedikicdaa", sum := "69a41fa7733964d7cec272a7a22ae61b2ae47029a9ecd98f00b9fdb35c459c0d", func := "annulet/annuletlaw02.LabelCuts", spec := "labelCuts", apart := false, narrowed := true }
def LabelCutsUptoSaid : Prop := labelCutsUptoRow.holds Try.pinned (OpenSpec.upto labelCutsSpec)

/-- 'annuletlaw02.LabelParts', WHERE WHAT IT READS IS OF BULK AT MOST 1048576: true; the input reads as it did. -/
def labelPartsUptoRow : OpenClaim := { program := "ytkeiiaedikicdaa", sum := "69a41fa7733964d7cec272a7a22ae61b2ae47029a9ecd98f00b9fdb35c459c0d", func := "annulet/annuletlaw02.LabelParts", spec := "labelParts", apart := false, narrowed := true }
def LabelPartsUptoSaid : Prop := labelPartsUptoRow.holds Try.pinned (OpenSpec.upto labelPartsSpec)

/-- 'annuletlaw02.LabelIDs', WHERE WHAT IT READS IS OF BULK AT MOST 1048576: true; the input reads as it did. -/
def labelIDsUptoRow : OpenClaim := { program := "ytkeiiaedikicdaa", sum := "69a41fa7733964d7cec272a7a22ae61b2ae47029a9ecd98f00b9fdb35c459c0d", func := "annulet/annuletlaw02.LabelIDs", spec := "labelIDs", apart := false, narrowed := true }
def LabelIDsUptoSaid : Prop := labelIDsUptoRow.holds Try.pinned (OpenSpec.upto labelIDsSpec)

/-- 'annuletlaw02.LabelTwice', WHERE WHAT IT READS IS OF BULK AT MOST 1048576: true; the input reads as it did. -/
def labelTwiceUptoRow : OpenClaim := { program := "ytkeiiaedikicdaa", sum := "69a41fa7733964d7cec272a7a22ae61b2ae47029a9ecd98f00b9fdb35c459c0d", func := "annulet/annuletlaw02.LabelTwice", spec := "labelTwice", apart := false, narrowed := true }
def LabelTwiceUptoSaid : Prop := labelTwiceUptoRow.holds Try.pinned (OpenSpec.upto labelTwiceSpec)

end Rows
end Go.Proofs.Ytkeiiaedikicdaa
