/-
  No cell of these rows narrows 'for every input' (looked for: loops, veiled, ifaces, maps, wideKeys, modest, calm, conditions, laid).
  DERIVED. THE GIVEN ROWS OF THIS SEAT. 6 by the template 'for every input the law returns true; each argument reads behind the call as it read before'; 0 by the template 'total and deterministic' (their statements: YtemgfcpambbanaaTotals.lean).
  GIVEN WITH THE SEED: the statements are not yours to turn. If you find one false, say at which input.
  Laid BY PROGRAM, IN A SANDBOX (cutbox-rows.mjs): the forced cells as the released guide's own fill.sh prints them over the translation d90cd89728d4b491… (all of the seat's roots in one cut). By AI agents, Wed Nov 11 2026. No macro, syntax, notation, axiom, sorry.
-/
import Derived.Test.YtemgfcpambbanaaChecked
import GoSem.Claim
import GoSem.ClaimJoined
import GoSem.ClaimMapViews
import Derived.JoinedTies
import Derived.KernelRfl
namespace Go.Proofs.Ytemgfcpambbanaa
/- THE CELL 'sum', in the pinned program and in every row, IS THE sha256 OF THE DUMP (.gsa) THAT YtemgfcpambbanaaProg.lean LOADS. Nothing in Lean hashes anything: it is a label: what it is worth is what the hold of that sum in a sandbox is worth. -/
noncomputable def Try.pinned : Pinned := { name := "ytemgfcpambbanaa", sum := "d90cd89728d4b4917ce9cd375e12d7cd6a0d71501dfdfc8affd45cc197e7fc19", checked := Try.checked }
namespace Rows
def none {H : Type} : Left H := { results := [], args := [] }

/-- 'annuletlaw11.TrailSimple': WHATEVER THE INPUT: true; the input reads as it did. -/
def trailSimpleSpec : ChangeSpec := { name := "trailSimple", fn := fun _ => fun
  | [d] => { results := [.lit (.bool true)], args := [d] }
  | _ => none }
def trailSimpleRow : OpenClaim := { program := "ytemgfcpambbanaa", sum := "d90cd89728d4b4917ce9cd375e12d7cd6a0d71501dfdfc8affd45cc197e7fc19", func := "annulet/annuletlaw11.TrailSimple", spec := "trailSimple", apart := false }
def TrailSimpleSaid : Prop := trailSimpleRow.holds Try.pinned (OpenSpec.ofChange trailSimpleSpec)

/-- ITS FALSE NEIGHBOUR: 'it returns false'. Refute it at one input. -/
def trailSimpleWrong : ChangeSpec := { name := "trailSimple", fn := fun _ => fun
  | [d] => { results := [.lit (.bool false)], args := [d] }
  | _ => none }
def TrailSimpleWrongFalsely : Prop := trailSimpleRow.holds Try.pinned (OpenSpec.ofChange trailSimpleWrong)

/-- 'annuletlaw11.TrailErases': WHATEVER THE INPUT: true; the input reads as it did. -/
def trailErasesSpec : ChangeSpec := { name := "trailErases", fn := fun _ => fun
  | [d] => { results := [.lit (.bool true)], args := [d] }
  | _ => none }
def trailErasesRow : OpenClaim := { program := "ytemgfcpambbanaa", sum := "d90cd89728d4b4917ce9cd375e12d7cd6a0d71501dfdfc8affd45cc197e7fc19", func := "annulet/annuletlaw11.TrailErases", spec := "trailErases", apart := false }
def TrailErasesSaid : Prop := trailErasesRow.holds Try.pinned (OpenSpec.ofChange trailErasesSpec)

/-- ITS FALSE NEIGHBOUR: 'it returns false'. Refute it at one input. -/
def trailErasesWrong : ChangeSpec := { name := "trailErases", fn := fun _ => fun
  | [d] => { results := [.lit (.bool false)], args := [d] }
  | _ => none }
def TrailErasesWrongFalsely : Prop := trailErasesRow.holds Try.pinned (OpenSpec.ofChange trailErasesWrong)

/-- 'annuletlaw11.TrailStays': WHATEVER THE INPUT: true; the input reads as it did. -/
def trailStaysSpec : ChangeSpec := { name := "trailStays", fn := fun _ => fun
  | [d] => { results := [.lit (.bool true)], args := [d] }
  | _ => none }
def trailStaysRow : OpenClaim := { program := "ytemgfcpambbanaa", sum := "d90cd89728d4b4917ce9cd375e12d7cd6a0d71501dfdfc8affd45cc197e7fc19", func := "annulet/annuletlaw11.TrailStays", spec := "trailStays", apart := false }
def TrailStaysSaid : Prop := trailStaysRow.holds Try.pinned (OpenSpec.ofChange trailStaysSpec)

/-- ITS FALSE NEIGHBOUR: 'it returns false'. Refute it at one input. -/
def trailStaysWrong : ChangeSpec := { name := "trailStays", fn := fun _ => fun
  | [d] => { results := [.lit (.bool false)], args := [d] }
  | _ => none }
def TrailStaysWrongFalsely : Prop := trailStaysRow.holds Try.pinned (OpenSpec.ofChange trailStaysWrong)

/-- 'annuletlaw11.TrailNew': WHATEVER THE INPUT: true; the input reads as it did. -/
def trailNewSpec : ChangeSpec := { name := "trailNew", fn := fun _ => fun
  | [d] => { results := [.lit (.bool true)], args := [d] }
  | _ => none }
def trailNewRow : OpenClaim := { program := "ytemgfcpambbanaa", sum := "d90cd89728d4b4917ce9cd375e12d7cd6a0d71501dfdfc8affd45cc197e7fc19", func := "annulet/annuletlaw11.TrailNew", spec := "trailNew", apart := false }
def TrailNewSaid : Prop := trailNewRow.holds Try.pinned (OpenSpec.ofChange trailNewSpec)

/-- ITS FALSE NEIGHBOUR: 'it returns false'. Refute it at one input. -/
def trailNewWrong : ChangeSpec := { name := "trailNew", fn := fun _ => fun
  | [d] => { results := [.lit (.bool false)], args := [d] }
  | _ => none }
def TrailNewWrongFalsely : Prop := trailNewRow.holds Try.pinned (OpenSpec.ofChange trailNewWrong)

/-- 'annuletlaw11.TrailAsks': WHATEVER THE INPUT: true; the input reads as it did. -/
def trailAsksSpec : ChangeSpec := { name := "trailAsks", fn := fun _ => fun
  | [d1, d2, d3] => { results := [.lit (.bool true)], args := [d1, d2, d3] }
  | _ => none }
def trailAsksRow : OpenClaim := { program := "ytemgfcpambbanaa", sum := "d90cd89728d4b4917ce9cd375e12d7cd6a0d71501dfdfc8affd45cc197e7fc19", func := "annulet/annuletlaw11.TrailAsks", spec := "trailAsks", apart := false }
def TrailAsksSaid : Prop := trailAsksRow.holds Try.pinned (OpenSpec.ofChange trailAsksSpec)

/-- ITS FALSE NEIGHBOUR: 'it returns false'. Refute it at one input. -/
def trailAsksWrong : ChangeSpec := { name := "trailAsks", fn := fun _ => fun
  | [d1, d2, d3] => { results := [.lit (.bool false)], args := [d1, d2, d3] }
  | _ => none }
def TrailAsksWrongFalsely : Prop := trailAsksRow.holds Try.pinned (OpenSpec.ofChange trailAsksWrong)

/-- 'annuletlaw11.TrailBoth': WHATEVER THE INPUT: true; the input reads as it did. -/
def trailBothSpec : ChangeSpec := { name := "trailBoth", fn := fun _ => fun
  | [d1, d2] => { results := [.lit (.bool true)], args := [d1, d2] }
  | _ => none }
def trailBothRow : OpenClaim := { program := "ytemgfcpambbanaa", sum := "d90cd89728d4b4917ce9cd375e12d7cd6a0d71501dfdfc8affd45cc197e7fc19", func := "annulet/annuletlaw11.TrailBoth", spec := "trailBoth", apart := false }
def TrailBothSaid : Prop := trailBothRow.holds Try.pinned (OpenSpec.ofChange trailBothSpec)

/-- ITS FALSE NEIGHBOUR: 'it returns false'. Refute it at one input. -/
def trailBothWrong : ChangeSpec := { name := "trailBoth", fn := fun _ => fun
  | [d1, d2] => { results := [.lit (.bool false)], args := [d1, d2] }
  | _ => none }
def TrailBothWrongFalsely : Prop := trailBothRow.holds Try.pinned (OpenSpec.ofChange trailBothWrong)

/- THE SECOND FORM. 'bulk': how many values and letters a reading holds, each counted each time it is reached (what is shared counts as often as it is met; a slice's spare places count too). A statement '..UptoSaid' is the law's where the arguments, and the package variables that the reading takes, are together of bulk at most 1048576: NARROWER than '..Said'. Prove '..Said' where nothing that the law and all that it calls make is longer than what came in: it says more and counts as full. Else prove '..UptoSaid'. A law counts once. -/
mutual
def uptoBulk {H : Type} : DataW H → Nat
  | .lit (.string bytes) => bytes.length + 1
  | .lit _ => 1
  | .nil => 1
  | .ptr d => uptoBulk d + 1
  | .slice elems spare => uptoBulkAll elems + uptoBulkAll spare + 1
  | .agg parts => uptoBulkAll parts + 1
  | .iface _ d => uptoBulk d + 1
  | .map entries => uptoBulkEntries entries + 1
  | .held _ => 1
def uptoBulkAll {H : Type} : List (DataW H) → Nat
  | [] => 0
  | d :: r => uptoBulk d + uptoBulkAll r
def uptoBulkEntries {H : Type} : List (Lit × DataW H) → Nat
  | [] => 0
  | x :: r => uptoBulkEntry x + uptoBulkEntries r
def uptoBulkEntry {H : Type} : Lit × DataW H → Nat
  | (.string bytes, d) => bytes.length + uptoBulk d + 1
  | (_, d) => uptoBulk d + 1
 end
def uptoSmall : (H : Type) → List (DataW H) → Bool := fun _ ds => decide (uptoBulkAll ds ≤ 1048576)
def OpenSpec.upto (s : _root_.Go.ChangeSpec) : _root_.Go.OpenSpec := { _root_.Go.OpenSpec.ofChange s with cond := some uptoSmall }

/-- 'annuletlaw11.TrailSimple', WHERE WHAT IT READS IS OF BULK AT MOST 1048576: true; the input reads as it did. -/
def trailSimpleUptoRow : OpenClaim := { program := "ytemgfcpambbanaa", sum := "d90cd89728d4b4917ce9cd375e12d7cd6a0d71501dfdfc8affd45cc197e7fc19", func := "annulet/annuletlaw11.TrailSimple", spec := "trailSimple", apart := false, narrowed := true }
def TrailSimpleUptoSaid : Prop := trailSimpleUptoRow.holds Try.pinned (OpenSpec.upto trailSimpleSpec)

/-- 'annuletlaw11.TrailErases', WHERE WHAT IT READS IS OF BULK AT MOST 1048576: true; the input reads as it did. -/
def trailErasesUptoRow : OpenClaim := { program := "ytemgfcpambbanaa", sum := "d90cd89728d4b4917ce9cd375e12d7cd6a0d71501dfdfc8affd45cc197e7fc19", func := "annulet/annuletlaw11.TrailErases", spec := "trailErases", apart := false, narrowed := true }
def TrailErasesUptoSaid : Prop := trailErasesUptoRow.holds Try.pinned (OpenSpec.upto trailErasesSpec)

/-- 'annuletlaw11.TrailStays', WHERE WHAT IT READS IS OF BULK AT MOST 1048576: true; the input reads as it did. -/
def trailStaysUptoRow : OpenClaim := { program := "ytemgfcpambbanaa", sum := "d90cd89728d4b4917ce9cd375e12d7cd6a0d71501dfdfc8affd45cc197e7fc19", func := "annulet/annuletlaw11.TrailStays", spec := "trailStays", apart := false, narrowed := true }
def TrailStaysUptoSaid : Prop := trailStaysUptoRow.holds Try.pinned (OpenSpec.upto trailStaysSpec)

/-- 'annuletlaw11.TrailNew', WHERE WHAT IT READS IS OF BULK AT MOST 1048576: true; the input reads as it did. -/
def trailNewUptoRow : OpenClaim := { program := "ytemgfcpambbanaa", sum := "d90cd89728d4b4917ce9cd375e12d7cd6a0d71501dfdfc8affd45cc197e7fc19", func := "annulet/annuletlaw11.TrailNew", spec := "trailNew", apart := false, narrowed := true }
def TrailNewUptoSaid : Prop := trailNewUptoRow.holds Try.pinned (OpenSpec.upto trailNewSpec)

/-- 'annuletlaw11.TrailAsks', WHERE WHAT IT READS IS OF BULK AT MOST 1048576: true; the input reads as it did. -/
def trailAsksUptoRow : OpenClaim := { program := "ytemgfcpambbanaa", sum := "d90cd89728d4b4917ce9cd375e12d7cd6a0d71501dfdfc8affd45cc197e7fc19", func := "annulet/annuletlaw11.TrailAsks", spec := "trailAsks", apart := false, narrowed := true }
def TrailAsksUptoSaid : Prop := trailAsksUptoRow.holds Try.pinned (OpenSpec.upto trailAsksSpec)

/-- 'annuletlaw11.TrailBoth', WHERE WHAT IT READS IS OF BULK AT MOST 1048576: true; the input reads as it did. -/
def trailBothUptoRow : OpenClaim := { program := "ytemgfcpambbanaa", sum := "d90cd89728d4b4917ce9cd375e12d7cd6a0d71501dfdfc8affd45cc197e7fc19", func := "annulet/annuletlaw11.TrailBoth", spec := "trailBoth", apart := false, narrowed := true }
def TrailBothUptoSaid : Prop := trailBothUptoRow.holds Try.pinned (OpenSpec.upto trailBothSpec)

end Rows
end Go.Proofs.Ytemgfcpambbanaa
