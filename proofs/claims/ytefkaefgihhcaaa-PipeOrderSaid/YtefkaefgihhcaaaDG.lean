/- PipeOrder, whatever the pieces' count. -/
import Derived.Test.YtefkaefgihhcaaaDE
namespace Go.Proofs.Ytefkaefgihhcaaa.PP
open Go.RowKit Go.Proofs.YtefkaefgihhcaaaW.PrintWords Go.Proofs.YtefkaefgihhcaaaW.PrintLast Go.Proofs.YtefkaefgihhcaaaW.PrintMore
theorem pipeOrder_law (A : Option Addr) (len c : Nat) (xs : List (List Int)) (i : Int) (w : World) (hn : xs.length = len) (hr : Kd.C (Kd.slice 5 (Kd.int .u8)) w A len xs) (hb : ∀ x ∈ xs, x.length ≤ 140737488351232) (_ : (Lit.int .i64 i).wf = true) :
    Calls Try.prog 3 #[.slice A len c, .int .i64 i] w fun e w' => e = .returned (.bool true) ∧ Below w.heap.size w w' := by
  subst hn
  rcases Nat.lt_or_ge xs.length 1 with h | h
  · exact pipeOrder_none i w hr hb h h
  · rcases Nat.lt_or_ge 200 xs.length with h2 | h2
    · exact pipeOrder_many i w hr hb h2 h2
    · exact pipeOrder_some i w hr hb h h2
end Go.Proofs.Ytefkaefgihhcaaa.PP
