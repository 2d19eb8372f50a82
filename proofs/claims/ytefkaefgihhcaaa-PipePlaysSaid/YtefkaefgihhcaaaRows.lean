/-
  No cell of these rows narrows 'for every input' (looked for: loops, veiled, ifaces, maps, wideKeys, modest, calm, conditions, laid).
  DERIVED. THE GIVEN ROWS OF THIS SEAT. 5 by the template 'for every input the law returns true; each argument reads behind the call as it read before'; 0 by the template 'total and deterministic' (their statements: YtefkaefgihhcaaaTotals.lean).
  GIVEN WITH THE SEED: the statements are not yours to turn. If you find one false, say at which input.
  Laid BY PROGRAM, IN A SANDBOX (cutbox-rows.mjs): the forced cells as the released guide's own fill.sh prints them over the translation b8a05383569275c3… (all of the seat's roots in one cut). By AI agents, Wed Nov 11 2026. No macro, syntax, notation, axiom, sorry.
-/
import Derived.Test.YtefkaefgihhcaaaChecked
import GoSem.Claim
import GoSem.ClaimJoined
import GoSem.ClaimMapViews
import Derived.JoinedTies
import Derived.KernelRfl
namespace Go.Proofs.Ytefkaefgihhcaaa
/- THE CELL 'sum', in the pinned program and in every row, IS THE sha256 OF THE DUMP (.gsa) THAT YtefkaefgihhcaaaProg.lean LOADS. Nothing in Lean hashes anything: it is a label: what it is worth is what the hold of that sum in a sandbox is worth. -/
noncomputable def Try.pinned : Pinned := { name := "ytefkaefgihhcaaa", sum := "b8a05383569275c352b923287aa5e9010dcbbc2e86ca5d1eb19288d485c43995", checked := Try.checked }
namespace Rows
def none {H : Type} : Left H := { results := [], args := [] }

/-- 'annuletlaw07.PipeOrder': WHATEVER THE INPUT: true; the input reads as it did. -/
def pipeOrderSpec : ChangeSpec := { name := "pipeOrder", fn := fun _ => fun
  | [d1, d2] => { results := [.lit (.bool true)], args := [d1, d2] }
  | _ => none }
def pipeOrderRow : OpenClaim := { program := "ytefkaefgihhcaaa", sum := "b8a05383569275c352b923287aa5e9010dcbbc2e86ca5d1eb19288d485c43995", func := "annulet/annuletlaw07.PipeOrder", spec := "pipeOrder", apart := false }
def PipeOrderSaid : Prop := pipeOrderRow.holds Try.pinned (OpenSpec.ofChange pipeOrderSpec)

/-- ITS FALSE NEIGHBOUR: 'it returns false'. Refute it at one input. -/
def pipeOrderWrong : ChangeSpec := { name := "pipeOrder", fn := fun _ => fun
  | [d1, d2] => { results := [.lit (.bool false)], args := [d1, d2] }
  | _ => none }
def PipeOrderWrongFalsely : Prop := pipeOrderRow.holds Try.pinned (OpenSpec.ofChange pipeOrderWrong)

/-- 'annuletlaw07.PipePlays': WHATEVER THE INPUT: true; the input reads as it did. -/
def pipePlaysSpec : ChangeSpec := { name := "pipePlays", fn := fun _ => fun
  | [d] => { results := [.lit (.bool true)], args := [d] }
  | _ => none }
def pipePlaysRow : OpenClaim := { program := "ytefkaefgihhcaaa", sum := "b8a05383569275c352b923287aa5e9010dcbbc2e86ca5d1eb19288d485c43995", func := "annulet/annuletlaw07.PipePlays", spec := "pipePlays", apart := false }
def PipePlaysSaid : Prop := pipePlaysRow.holds Try.pinned (OpenSpec.ofChange pipePlaysSpec)

/-- ITS FALSE NEIGHBOUR: 'it returns false'. Refute it at one input. -/
def pipePlaysWrong : ChangeSpec := { name := "pipePlays", fn := fun _ => fun
  | [d] => { results := [.lit (.bool false)], args := [d] }
  | _ => none }
def PipePlaysWrongFalsely : Prop := pipePlaysRow.holds Try.pinned (OpenSpec.ofChange pipePlaysWrong)

/-- 'annuletlaw07.PipeFills': WHATEVER THE INPUT: true; the input reads as it did. -/
def pipeFillsSpec : ChangeSpec := { name := "pipeFills", fn := fun _ => fun
  | [d1, d2] => { results := [.lit (.bool true)], args := [d1, d2] }
  | _ => none }
def pipeFillsRow : OpenClaim := { program := "ytefkaefgihhcaaa", sum := "b8a05383569275c352b923287aa5e9010dcbbc2e86ca5d1eb19288d485c43995", func := "annulet/annuletlaw07.PipeFills", spec := "pipeFills", apart := false }
def PipeFillsSaid : Prop := pipeFillsRow.holds Try.pinned (OpenSpec.ofChange pipeFillsSpec)

/-- ITS FALSE NEIGHBOUR: 'it returns false'. Refute it at one input. -/
def pipeFillsWrong : ChangeSpec := { name := "pipeFills", fn := fun _ => fun
  | [d1, d2] => { results := [.lit (.bool false)], args := [d1, d2] }
  | _ => none }
def PipeFillsWrongFalsely : Prop := pipeFillsRow.holds Try.pinned (OpenSpec.ofChange pipeFillsWrong)

/-- 'annuletlaw07.PipeCounts': WHATEVER THE INPUT: true; the input reads as it did. -/
def pipeCountsSpec : ChangeSpec := { name := "pipeCounts", fn := fun _ => fun
  | [d1, d2] => { results := [.lit (.bool true)], args := [d1, d2] }
  | _ => none }
def pipeCountsRow : OpenClaim := { program := "ytefkaefgihhcaaa", sum := "b8a05383569275c352b923287aa5e9010dcbbc2e86ca5d1eb19288d485c43995", func := "annulet/annuletlaw07.PipeCounts", spec := "pipeCounts", apart := false }
def PipeCountsSaid : Prop := pipeCountsRow.holds Try.pinned (OpenSpec.ofChange pipeCountsSpec)

/-- ITS FALSE NEIGHBOUR: 'it returns false'. Refute it at one input. -/
def pipeCountsWrong : ChangeSpec := { name := "pipeCounts", fn := fun _ => fun
  | [d1, d2] => { results := [.lit (.bool false)], args := [d1, d2] }
  | _ => none }
def PipeCountsWrongFalsely : Prop := pipeCountsRow.holds Try.pinned (OpenSpec.ofChange pipeCountsWrong)

/-- 'annuletlaw07.PipeNil': WHATEVER THE INPUT: true; the input reads as it did. -/
def pipeNilSpec : ChangeSpec := { name := "pipeNil", fn := fun _ => fun
  | [d1, d2] => { results := [.lit (.bool true)], args := [d1, d2] }
  | _ => none }
def pipeNilRow : OpenClaim := { program := "ytefkaefgihhcaaa", sum := "b8a05383569275c352b923287aa5e9010dcbbc2e86ca5d1eb19288d485c43995", func := "annulet/annuletlaw07.PipeNil", spec := "pipeNil", apart := false }
def PipeNilSaid : Prop := pipeNilRow.holds Try.pinned (OpenSpec.ofChange pipeNilSpec)

/-- ITS FALSE NEIGHBOUR: 'it returns false'. Refute it at one input. -/
def pipeNilWrong : ChangeSpec := { name := "pipeNil", fn := fun _ => fun
  | [d1, d2] => { results := [.lit (.bool false)], args := [d1, d2] }
  | _ => none }
def PipeNilWrongFalsely : Prop := pipeNilRow.holds Try.pinned (OpenSpec.ofChange pipeNilWrong)

/- THE SECOND FORM. 'bulk': how many values and letters a reading holds, each counted each time it is reached (what is shared counts as often as it is met; a slice's spare places count too). A statement '..UptoSaid' is the law's where the arguments, and the package variables that the reading takes, are together of bulk at most 1048576: NARROWER than '..Said'. Prove '..Said' where nothing that the law and all that it calls make is longer than what came in: it says more and counts as full. Else prove '..UptoSaid'. A law counts once. -/
mutual
def uptoBulk {H : Type} : DataW H → Nat
  | .lit (.string bytes) => bytes.length + 1
  | .lit _ => 1
  | .nil => 1
  | .ptr d => uptoBulk d + 1
  | .slice elems spare => uptoBulkAll elems + uptoBulkAll spare + 1
  | .agg parts => uptoBulkAll parts + 1
  | .iface _ d => uptoBulk d + 1
  | .map entries => uptoBulkEntries entries + 1
  | .held _ => 1
def uptoBulkAll {H : Type} : List (DataW H) → Nat
  | [] => 0
  | d :: r => uptoBulk d + uptoBulkAll r
def uptoBulkEntries {H : Type} : List (Lit × DataW H) → Nat
  | [] => 0
  | x :: r => uptoBulkEntry x + uptoBulkEntries r
def uptoBulkEntry {H : Type} : Lit × DataW H → Nat
  | (.string bytes, d) => bytes.length + uptoBulk d + 1
  | (_, d) => uptoBulk d + 1
 end
def uptoSmall : (H : Type) → List (DataW H) → Bool := fun _ ds => decide (uptoBulkAll ds ≤ 1048576)
def OpenSpec.upto (s : _root_.Go.ChangeSpec) : _root_.Go.OpenSpec := { _root_.Go.OpenSpec.ofChange s with cond := some uptoSmall }

/-- 'annuletlaw07.PipeOrder', WHERE WHAT IT READS IS OF BULK AT MOST 1048576: true; the input reads as it did. -/
def pipeOrderUptoRow : OpenClaim := { program := "ytefkaefgihhcaaa", sum := "b8a05383569275c352b923287aa5e9010dcbbc2e86ca5d1eb19288d485c43995", func := "annulet/annuletlaw07.PipeOrder", spec := "pipeOrder", apart := false, narrowed := true }
def PipeOrderUptoSaid : Prop := pipeOrderUptoRow.holds Try.pinned (OpenSpec.upto pipeOrderSpec)

/-- 'annuletlaw07.PipePlays', WHERE WHAT IT READS IS OF BULK AT MOST 1048576: true; the input reads as it did. -/
def pipePlaysUptoRow : OpenClaim := { program := "ytefkaefgihhcaaa", sum := "b8a05383569275c352b923287aa5e9010dcbbc2e86ca5d1eb19288d485c43995", func := "annulet/annuletlaw07.PipePlays", spec := "pipePlays", apart := false, narrowed := true }
def PipePlaysUptoSaid : Prop := pipePlaysUptoRow.holds Try.pinned (OpenSpec.upto pipePlaysSpec)

/-- 'annuletlaw07.PipeFills', WHERE WHAT IT READS IS OF BULK AT MOST 1048576: true; the input reads as it did. -/
def pipeFillsUptoRow : OpenClaim := { program := "ytefkaefgihhcaaa", sum := "b8a05383569275c352b923287aa5e9010dcbbc2e86ca5d1eb19288d485c43995", func := "annulet/annuletlaw07.PipeFills", spec := "pipeFills", apart := false, narrowed := true }
def PipeFillsUptoSaid : Prop := pipeFillsUptoRow.holds Try.pinned (OpenSpec.upto pipeFillsSpec)

/-- 'annuletlaw07.PipeCounts', WHERE WHAT IT READS IS OF BULK AT MOST 1048576: true; the input reads as it did. -/
def pipeCountsUptoRow : OpenClaim := { program := "ytefkaefgihhcaaa", sum := "b8a05383569275c352b923287aa5e9010dcbbc2e86ca5d1eb19288d485c43995", func := "annulet/annuletlaw07.PipeCounts", spec := "pipeCounts", apart := false, narrowed := true }
def PipeCountsUptoSaid : Prop := pipeCountsUptoRow.holds Try.pinned (OpenSpec.upto pipeCountsSpec)

/-- 'annuletlaw07.PipeNil', WHERE WHAT IT READS IS OF BULK AT MOST 1048576: true; the input reads as it did. -/
def pipeNilUptoRow : OpenClaim := { program := "ytefkaefgihhcaaa", sum := "b8a05383569275c352b923287aa5e9010dcbbc2e86ca5d1eb19288d485c43995", func := "annulet/annuletlaw07.PipeNil", spec := "pipeNil", apart := false, narrowed := true }
def PipeNilUptoSaid : Prop := pipeNilUptoRow.holds Try.pinned (OpenSpec.upto pipeNilSpec)

end Rows
end Go.Proofs.Ytefkaefgihhcaaa
