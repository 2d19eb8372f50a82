/- The walk of LabelIDs. -/
import Derived.Test.YtkeiiaedikicdaaLJ
import Derived.Test.YtkeiiaedikicdaaLE
namespace Go.Proofs.Ytkeiiaedikicdaa.PL
open Go.RowKit Go.Proofs.YtkeiiaedikicdaaW.PrintWords Go.Proofs.YtkeiiaedikicdaaW.PrintLast Go.Proofs.YtkeiiaedikicdaaW.PrintMore
attribute [local go_sem] max2_int min2_int max_two min_two max_three min_three max_four min_four
set_option linter.unusedVariables false
set_option linter.unusedSimpArgs false
set_option maxHeartbeats 8000000 in
set_option maxRecDepth 100000 in
theorem labelIDs_of (s : ByteArray) (w : World) (b0 b1 b2 b3 b4 b5 b6 b7 b8 b9 b10 b11 b12 b13 b14 b15 ec : Int)
    (hA : ∀ w, Calls Try.prog 18 #[.string s] w fun e w' => e = .returned (.tuple #[.agg #[.int .u8 b0, .int .u8 b1, .int .u8 b2, .int .u8 b3, .int .u8 b4, .int .u8 b5, .int .u8 b6, .int .u8 b7, .int .u8 b8, .int .u8 b9, .int .u8 b10, .int .u8 b11, .int .u8 b12, .int .u8 b13, .int .u8 b14, .int .u8 b15], .int .i64 ec]) ∧ Below w.heap.size w w')
    (hB : ∀ w, Calls Try.prog 19 #[.string s] w fun e w' => e = .returned (.tuple #[.agg #[.int .u8 b0, .int .u8 b1, .int .u8 b2, .int .u8 b3, .int .u8 b4, .int .u8 b5, .int .u8 b6, .int .u8 b7, .int .u8 b8, .int .u8 b9, .int .u8 b10, .int .u8 b11, .int .u8 b12, .int .u8 b13, .int .u8 b14, .int .u8 b15], .int .i64 ec]) ∧ Below w.heap.size w w') : Calls Try.prog 7 #[.string s] w fun e w' => e = .returned (.bool true) ∧ Below w.heap.size w w' := by
  have hq36 : ∀ W, (Op.equalIn 10000 36 (.agg #[.int .u8 b0, .int .u8 b1, .int .u8 b2, .int .u8 b3, .int .u8 b4, .int .u8 b5, .int .u8 b6, .int .u8 b7, .int .u8 b8, .int .u8 b9, .int .u8 b10, .int .u8 b11, .int .u8 b12, .int .u8 b13, .int .u8 b14, .int .u8 b15]) (.agg #[.int .u8 b0, .int .u8 b1, .int .u8 b2, .int .u8 b3, .int .u8 b4, .int .u8 b5, .int .u8 b6, .int .u8 b7, .int .u8 b8, .int .u8 b9, .int .u8 b10, .int .u8 b11, .int .u8 b12, .int .u8 b13, .int .u8 b14, .int .u8 b15])).run Try.prog W = .ok true W := fun W => run_eq36 W _ (fun i hi => by
    match i, hi with
    | 0, _ => exact ⟨_, rfl⟩
    | 1, _ => exact ⟨_, rfl⟩
    | 2, _ => exact ⟨_, rfl⟩
    | 3, _ => exact ⟨_, rfl⟩
    | 4, _ => exact ⟨_, rfl⟩
    | 5, _ => exact ⟨_, rfl⟩
    | 6, _ => exact ⟨_, rfl⟩
    | 7, _ => exact ⟨_, rfl⟩
    | 8, _ => exact ⟨_, rfl⟩
    | 9, _ => exact ⟨_, rfl⟩
    | 10, _ => exact ⟨_, rfl⟩
    | 11, _ => exact ⟨_, rfl⟩
    | 12, _ => exact ⟨_, rfl⟩
    | 13, _ => exact ⟨_, rfl⟩
    | 14, _ => exact ⟨_, rfl⟩
    | 15, _ => exact ⟨_, rfl⟩
    | n + 16, h => omega) 9998
  have HA := Aside0.mk hA
  have HB := Aside0.mk hB
  clear hA hB
  go_enter Try.func7, Try.ntmps7
  go_wp2_with (first
    | (go_at_call 18; (with_reducible refine (HA.out w).mono ?_); rintro e w3 ⟨rfl, hb⟩; have H3 := Aside0.mk hb; clear hb)
    | (go_at_call 19; (with_reducible refine (HB.out _).mono ?_); rintro e w5 ⟨rfl, hb⟩; have H5 := Aside0.mk hb; clear hb)
    | (go_at_call 13; (with_reducible refine (fixed_c _).mono ?_); rintro e w7 ⟨rfl, hb⟩; have HQ := Aside0.mk (two_boxes H3.out H5.out hb); clear hb)
    | ((with_reducible refine gate_dst (N := 19) rfl ?_); (try (refine gate_guard (by rfl) ?_; dsimp only)); refine wpList_load_row rfl 36 (.tmp 3) rfl w3.heap.size rfl 36 #[.int .u8 b0, .int .u8 b1, .int .u8 b2, .int .u8 b3, .int .u8 b4, .int .u8 b5, .int .u8 b6, .int .u8 b7, .int .u8 b8, .int .u8 b9, .int .u8 b10, .int .u8 b11, .int .u8 b12, .int .u8 b13, .int .u8 b14, .int .u8 b15] (0, 0) (.array 16 5) HQ.out.2.1 Try.underlying36 rfl (by kernel_rfl) ?_)
    | ((with_reducible refine gate_dst (N := 20) rfl ?_); (try (refine gate_guard (by rfl) ?_; dsimp only)); refine wpList_load_row rfl 36 (.tmp 5) rfl w5.heap.size rfl 36 #[.int .u8 b0, .int .u8 b1, .int .u8 b2, .int .u8 b3, .int .u8 b4, .int .u8 b5, .int .u8 b6, .int .u8 b7, .int .u8 b8, .int .u8 b9, .int .u8 b10, .int .u8 b11, .int .u8 b12, .int .u8 b13, .int .u8 b14, .int .u8 b15] (0, 0) (.array 16 5) HQ.out.2.2 Try.underlying36 rfl (by kernel_rfl) ?_))
  go_ret
  exact ⟨rfl, HQ.out.1⟩
theorem labelIDs_law (s : ByteArray) (w : World) (h : s.size ≤ 140737488351232) : Calls Try.prog 7 #[.string s] w fun e w' => e = .returned (.bool true) ∧ Below w.heap.size w w' := by
  by_cases h0 : (RU s).2 = 0
  · obtain ⟨b0, b1, b2, b3, b4, b5, b6, b7, b8, b9, b10, b11, b12, b13, b14, b15, hids⟩ := ids_lit (xy (RU s).1)
    refine labelIDs_of s w b0 b1 b2 b3 b4 b5 b6 b7 b8 b9 b10 b11 b12 b13 b14 b15 0 (fun w => ?_) (fun w => ?_)
    · have h1 := id_some s w h0
      rw [hids] at h1
      exact h1
    · have h1 := refID_some s w (by omega) h0
      rw [hids] at h1
      exact h1
  · refine labelIDs_of s w 0 0 0 0 0 0 0 0 0 0 0 0 0 0 0 0 (RU s).2 (fun w => ?_) (fun w => ?_)
    · exact id_none s w h0
    · exact refID_none s w (by omega) h0
end Go.Proofs.Ytkeiiaedikicdaa.PL
