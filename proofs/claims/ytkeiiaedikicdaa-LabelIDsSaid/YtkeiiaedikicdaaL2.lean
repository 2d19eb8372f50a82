/- The contracts of label.fold. -/
import Derived.Test.YtkeiiaedikicdaaL1
namespace Go.Proofs.Ytkeiiaedikicdaa.PL
open Go.RowKit Go.Proofs.YtkeiiaedikicdaaW.PrintWords Go.Proofs.YtkeiiaedikicdaaW.PrintLast Go.Proofs.YtkeiiaedikicdaaW.PrintMore
attribute [local go_sem] max2_int min2_int max_two min_two max_three min_three max_four min_four
set_option linter.unusedVariables false
set_option linter.unusedSimpArgs false
section
variable {w : World}
set_option maxHeartbeats 1000000 in
theorem fold_0 {r : Int} (h0 : 0 ≤ r) (h1 : r ≤ 1114111) (a : 65 ≤ r) (b : r ≤ 90) : Calls Try.prog 20 #[.int .i32 r] w fun e w' => e = .returned (.tuple #[.int .i32 (fr r), .bool (okr r)]) ∧ w = w' := by
  have e1 : fr r = r + 32 := by unfold fr; rw [if_pos ⟨a, b⟩]
  have e2 : okr r = true := by unfold okr; exact decide_eq_true (by omega)
  rw [e1, e2]
  clear e1 e2
  skip
  have g : IntKind.i32.wrap (r + 32) = r + 32 := by rw [IntKind.wrap_i32]; omega
  go_enter Try.func20, Try.ntmps20
  go_wp2
  first | go_ret2 | go_ret
  exact ⟨rfl, rfl⟩
set_option maxHeartbeats 1000000 in
theorem fold_1 {r : Int} (h0 : 0 ≤ r) (h1 : r ≤ 1114111) (a : 97 ≤ r) (b : r ≤ 122) : Calls Try.prog 20 #[.int .i32 r] w fun e w' => e = .returned (.tuple #[.int .i32 (fr r), .bool (okr r)]) ∧ w = w' := by
  have e1 : fr r = r := by unfold fr; rw [if_neg (by omega)]
  have e2 : okr r = true := by unfold okr; exact decide_eq_true (by omega)
  rw [e1, e2]
  clear e1 e2
  skip
  skip
  go_enter Try.func20, Try.ntmps20
  go_wp2
  first | go_ret2 | go_ret
  exact ⟨rfl, rfl⟩
set_option maxHeartbeats 1000000 in
theorem fold_2 {r : Int} (h0 : 0 ≤ r) (h1 : r ≤ 1114111) (a : 48 ≤ r) (b : r ≤ 57) : Calls Try.prog 20 #[.int .i32 r] w fun e w' => e = .returned (.tuple #[.int .i32 (fr r), .bool (okr r)]) ∧ w = w' := by
  have e1 : fr r = r := by unfold fr; rw [if_neg (by omega)]
  have e2 : okr r = true := by unfold okr; exact decide_eq_true (by omega)
  rw [e1, e2]
  clear e1 e2
  skip
  skip
  go_enter Try.func20, Try.ntmps20
  go_wp2
  first | go_ret2 | go_ret
  exact ⟨rfl, rfl⟩
set_option maxHeartbeats 1000000 in
theorem fold_3 {r : Int} (h0 : 0 ≤ r) (h1 : r ≤ 1114111) (a : r = 45) : Calls Try.prog 20 #[.int .i32 r] w fun e w' => e = .returned (.tuple #[.int .i32 (fr r), .bool (okr r)]) ∧ w = w' := by
  have e1 : fr r = r := by unfold fr; rw [if_neg (by omega)]
  have e2 : okr r = true := by unfold okr; exact decide_eq_true (by omega)
  rw [e1, e2]
  clear e1 e2
  subst a
  skip
  go_enter Try.func20, Try.ntmps20
  go_wp2
  first | go_ret2 | go_ret
  exact ⟨rfl, rfl⟩
set_option maxHeartbeats 1000000 in
theorem fold_4 {r : Int} (h0 : 0 ≤ r) (h1 : r ≤ 1114111) (a : r < 45) : Calls Try.prog 20 #[.int .i32 r] w fun e w' => e = .returned (.tuple #[.int .i32 (fr r), .bool (okr r)]) ∧ w = w' := by
  have e1 : fr r = r := by unfold fr; rw [if_neg (by omega)]
  have e2 : okr r = false := by unfold okr; exact decide_eq_false (by omega)
  rw [e1, e2]
  clear e1 e2
  skip
  skip
  go_enter Try.func20, Try.ntmps20
  go_wp2
  first | go_ret2 | go_ret
  exact ⟨rfl, rfl⟩
set_option maxHeartbeats 1000000 in
theorem fold_5 {r : Int} (h0 : 0 ≤ r) (h1 : r ≤ 1114111) (a : 45 < r) (b : r < 48) : Calls Try.prog 20 #[.int .i32 r] w fun e w' => e = .returned (.tuple #[.int .i32 (fr r), .bool (okr r)]) ∧ w = w' := by
  have e1 : fr r = r := by unfold fr; rw [if_neg (by omega)]
  have e2 : okr r = false := by unfold okr; exact decide_eq_false (by omega)
  rw [e1, e2]
  clear e1 e2
  skip
  skip
  go_enter Try.func20, Try.ntmps20
  go_wp2
  first | go_ret2 | go_ret
  exact ⟨rfl, rfl⟩
set_option maxHeartbeats 1000000 in
theorem fold_6 {r : Int} (h0 : 0 ≤ r) (h1 : r ≤ 1114111) (a : 57 < r) (b : r < 65) : Calls Try.prog 20 #[.int .i32 r] w fun e w' => e = .returned (.tuple #[.int .i32 (fr r), .bool (okr r)]) ∧ w = w' := by
  have e1 : fr r = r := by unfold fr; rw [if_neg (by omega)]
  have e2 : okr r = false := by unfold okr; exact decide_eq_false (by omega)
  rw [e1, e2]
  clear e1 e2
  skip
  skip
  go_enter Try.func20, Try.ntmps20
  go_wp2
  first | go_ret2 | go_ret
  exact ⟨rfl, rfl⟩
set_option maxHeartbeats 1000000 in
theorem fold_7 {r : Int} (h0 : 0 ≤ r) (h1 : r ≤ 1114111) (a : 90 < r) (b : r < 97) : Calls Try.prog 20 #[.int .i32 r] w fun e w' => e = .returned (.tuple #[.int .i32 (fr r), .bool (okr r)]) ∧ w = w' := by
  have e1 : fr r = r := by unfold fr; rw [if_neg (by omega)]
  have e2 : okr r = false := by unfold okr; exact decide_eq_false (by omega)
  rw [e1, e2]
  clear e1 e2
  skip
  skip
  go_enter Try.func20, Try.ntmps20
  go_wp2
  first | go_ret2 | go_ret
  exact ⟨rfl, rfl⟩
set_option maxHeartbeats 1000000 in
theorem fold_8 {r : Int} (h0 : 0 ≤ r) (h1 : r ≤ 1114111) (a : 122 < r) (b : r < 161) : Calls Try.prog 20 #[.int .i32 r] w fun e w' => e = .returned (.tuple #[.int .i32 (fr r), .bool (okr r)]) ∧ w = w' := by
  have e1 : fr r = r := by unfold fr; rw [if_neg (by omega)]
  have e2 : okr r = false := by unfold okr; exact decide_eq_false (by omega)
  rw [e1, e2]
  clear e1 e2
  skip
  skip
  go_enter Try.func20, Try.ntmps20
  go_wp2
  first | go_ret2 | go_ret
  exact ⟨rfl, rfl⟩
set_option maxHeartbeats 1000000 in
theorem fold_9 {r : Int} (h0 : 0 ≤ r) (h1 : r ≤ 1114111) (a : 161 ≤ r) (b : r < 65533) : Calls Try.prog 20 #[.int .i32 r] w fun e w' => e = .returned (.tuple #[.int .i32 (fr r), .bool (okr r)]) ∧ w = w' := by
  have e1 : fr r = r := by unfold fr; rw [if_neg (by omega)]
  have e2 : okr r = true := by unfold okr; exact decide_eq_true (by omega)
  rw [e1, e2]
  clear e1 e2
  skip
  skip
  have d1 : (r != 65533) = true := by simp; omega
  go_enter Try.func20, Try.ntmps20
  go_wp2
  first | go_ret2 | go_ret
  exact ⟨rfl, rfl⟩
set_option maxHeartbeats 1000000 in
theorem fold_10 {r : Int} (h0 : 0 ≤ r) (h1 : r ≤ 1114111) (a : 65533 < r) : Calls Try.prog 20 #[.int .i32 r] w fun e w' => e = .returned (.tuple #[.int .i32 (fr r), .bool (okr r)]) ∧ w = w' := by
  have e1 : fr r = r := by unfold fr; rw [if_neg (by omega)]
  have e2 : okr r = true := by unfold okr; exact decide_eq_true (by omega)
  rw [e1, e2]
  clear e1 e2
  skip
  skip
  have d1 : (r != 65533) = true := by simp; omega
  go_enter Try.func20, Try.ntmps20
  go_wp2
  first | go_ret2 | go_ret
  exact ⟨rfl, rfl⟩
set_option maxHeartbeats 1000000 in
theorem fold_11 {r : Int} (h0 : 0 ≤ r) (h1 : r ≤ 1114111) (a : r = 65533) : Calls Try.prog 20 #[.int .i32 r] w fun e w' => e = .returned (.tuple #[.int .i32 (fr r), .bool (okr r)]) ∧ w = w' := by
  have e1 : fr r = r := by unfold fr; rw [if_neg (by omega)]
  have e2 : okr r = false := by unfold okr; exact decide_eq_false (by omega)
  rw [e1, e2]
  clear e1 e2
  subst a
  skip
  go_enter Try.func20, Try.ntmps20
  go_wp2
  first | go_ret2 | go_ret
  exact ⟨rfl, rfl⟩
theorem fold_c (r : Int) (h0 : 0 ≤ r) (h1 : r ≤ 1114111) : Calls Try.prog 20 #[.int .i32 r] w fun e w' => e = .returned (.tuple #[.int .i32 (fr r), .bool (okr r)]) ∧ w = w' := by
  by_cases c0 : r < 45
  · exact fold_4 h0 h1 c0
  by_cases c1 : r = 45
  · exact fold_3 h0 h1 c1
  by_cases c2 : r < 48
  · exact fold_5 h0 h1 (by omega) c2
  by_cases c3 : r ≤ 57
  · exact fold_2 h0 h1 (by omega) c3
  by_cases c4 : r < 65
  · exact fold_6 h0 h1 (by omega) c4
  by_cases c5 : r ≤ 90
  · exact fold_0 h0 h1 (by omega) c5
  by_cases c6 : r < 97
  · exact fold_7 h0 h1 (by omega) c6
  by_cases c7 : r ≤ 122
  · exact fold_1 h0 h1 (by omega) c7
  by_cases c8 : r < 161
  · exact fold_8 h0 h1 (by omega) c8
  by_cases c9 : r < 65533
  · exact fold_9 h0 h1 (by omega) c9
  by_cases c10 : r = 65533
  · exact fold_11 h0 h1 c10
  · exact fold_10 h0 h1 (by omega)
end
end Go.Proofs.Ytkeiiaedikicdaa.PL
