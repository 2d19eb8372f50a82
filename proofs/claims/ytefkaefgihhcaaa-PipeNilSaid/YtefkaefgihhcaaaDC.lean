/- The walk of PipeNil. -/
import Derived.Test.YtefkaefgihhcaaaDB
namespace Go.Proofs.Ytefkaefgihhcaaa.PP
open Go.RowKit Go.Proofs.YtefkaefgihhcaaaW.PrintWords Go.Proofs.YtefkaefgihhcaaaW.PrintLast Go.Proofs.YtefkaefgihhcaaaW.PrintMore
attribute [local go_sem] max2_int min2_int max_two min_two max_three min_three max_four min_four
set_option linter.unusedVariables false
set_option linter.unusedSimpArgs false
set_option maxHeartbeats 4000000 in
set_option maxRecDepth 100000 in
theorem pipeNil_walk (u : Value) (i : Int) (w : World) : Calls Try.prog 7 #[u, .int .i64 i] w fun e w' => e = .returned (.bool true) ∧ Below w.heap.size w w' := by
  go_enter Try.func7, Try.ntmps7
  go_wp2_with (first
    | (go_at_call 10; (with_reducible refine (take_nil i).mono ?_); rintro e w1 ⟨rfl, rfl⟩)
    | (go_at_call 11; (with_reducible refine (fixed_c w).mono ?_); rintro e w2 ⟨rfl, hb⟩; have HB := Aside0.mk hb; clear hb)
    | (go_at_call 8; (with_reducible refine (put_nil u).mono ?_); rintro e w3 ⟨rfl, rfl⟩)
    | (go_at_call 9; (with_reducible refine (twice_nil i).mono ?_); rintro e w4 ⟨rfl, rfl⟩)
    | (go_at_call 16; (with_reducible refine fall_nil.mono ?_); rintro e w5 ⟨rfl, rfl⟩)
    | (go_at_call 12; (with_reducible refine len_nil.mono ?_); rintro e w6 ⟨rfl, rfl⟩)
    | (go_at_call 17; (with_reducible refine all_nil.mono ?_); rintro e w7 ⟨rfl, rfl⟩))
  go_ret
  exact ⟨rfl, HB.out⟩
theorem pipeNil_law (A : Option Addr) (len cap : Nat) (zs : List Int) (i : Int) (w : World) (h : (A = none ∧ len = 0 ∧ cap = 0 ∧ zs = []) ∨ ∃ x, A = some x ∧ len ≤ cap ∧ cap ≤ maxLen ∧ zs.length = cap ∧ (∀ i, i < zs.length → w.cell? (x.add i) = some (.int .u8 (zs.getD i 0))) ∧ ∀ n ∈ zs, (Lit.int .u8 n).wf = true) (hy : len * 1 ≤ 140737488351232) (hi : (Lit.int .i64 i).wf = true) :
    Calls Try.prog 7 #[.slice A len cap, .int .i64 i] w fun e w' => e = .returned (.bool true) ∧ Below w.heap.size w w' := pipeNil_walk _ i w
end Go.Proofs.Ytefkaefgihhcaaa.PP
