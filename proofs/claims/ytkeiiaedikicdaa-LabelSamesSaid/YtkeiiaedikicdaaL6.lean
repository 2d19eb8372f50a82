/- The contract of annuletlaw02.fixed. -/
import Derived.Test.YtkeiiaedikicdaaL5
namespace Go.Proofs.Ytkeiiaedikicdaa.PL
open Go.RowKit Go.Proofs.YtkeiiaedikicdaaW.PrintWords Go.Proofs.YtkeiiaedikicdaaW.PrintLast Go.Proofs.YtkeiiaedikicdaaW.PrintMore
attribute [local go_sem] max2_int min2_int max_two min_two max_three min_three max_four min_four
set_option linter.unusedVariables false
set_option linter.unusedSimpArgs false
theorem fx1 : FS (⟨#[65, 110, 110, 97, 45, 55]⟩ : ByteArray) = (⟨#[97, 110, 110, 97, 45, 55]⟩ : ByteArray) := by kernel_rfl
theorem fx2 : (RU (⟨#[65, 110, 110, 97, 45, 55]⟩ : ByteArray)).2 = 0 := by kernel_rfl
theorem fx3 : FS (⟨#[195, 132, 114, 103, 101, 114]⟩ : ByteArray) = (⟨#[195, 132, 114, 103, 101, 114]⟩ : ByteArray) := by kernel_rfl
theorem fx4 : (RU (⟨#[195, 132, 114, 103, 101, 114]⟩ : ByteArray)).2 = 0 := by kernel_rfl
theorem fx5 : RU (⟨#[97, 32, 98]⟩ : ByteArray) = ([], 2) := by kernel_rfl
theorem fx6 : C1 (⟨#[195, 188, 98, 101, 114]⟩ : ByteArray) 1 = (⟨#[195, 188]⟩ : ByteArray) := by kernel_rfl
theorem fx7 : C2 (⟨#[195, 188, 98, 101, 114]⟩ : ByteArray) 1 = (⟨#[98, 101, 114]⟩ : ByteArray) := by kernel_rfl
theorem fx8 : SM (⟨#[65]⟩ : ByteArray) (⟨#[97]⟩ : ByteArray) = true := by kernel_rfl
set_option maxHeartbeats 4000000 in
set_option maxRecDepth 100000 in
theorem fixed_c (w : World) : Calls Try.prog 13 #[] w fun e w' => e = .returned (.bool true) ∧ Below w.heap.size w w' := by
  go_enter Try.func13, Try.ntmps13
  go_wp2_with (first
    | (go_at_call 11; (with_reducible refine (foldS_c (⟨#[65, 110, 110, 97, 45, 55]⟩ : ByteArray) w).mono ?_); rintro e w1 ⟨rfl, hb⟩; rw [fx1, fx2]; have H1 := Aside0.mk hb; clear hb)
    | (go_at_call 11; (with_reducible refine (foldS_c (⟨#[195, 132, 114, 103, 101, 114]⟩ : ByteArray) w1).mono ?_); rintro e w2 ⟨rfl, hb⟩; rw [fx3, fx4]; have H2 := Aside0.mk (H1.out.trans (hb.mono H1.out.size)); clear hb)
    | (go_at_call 9; (with_reducible refine (runes_c (⟨#[97, 32, 98]⟩ : ByteArray) w2).mono ?_); rw [fx5]; rintro e w3 ⟨A3, c3, rfl, _, _, hb⟩; have H3 := Aside0.mk (H2.out.trans (hb.mono H2.out.size)); clear hb)
    | (go_at_call 16; (with_reducible refine (cut_c (⟨#[195, 188, 98, 101, 114]⟩ : ByteArray) 1 w3 (by decide) (by decide)).mono ?_); rintro e w4 ⟨rfl, hb⟩; rw [fx6, fx7]; have H4 := Aside0.mk (H3.out.trans (hb.mono H3.out.size)); clear hb)
    | (go_at_call 15; (with_reducible refine (same_c (⟨#[65]⟩ : ByteArray) (⟨#[97]⟩ : ByteArray) w4).mono ?_); rintro e w5 ⟨rfl, hb⟩; rw [fx8]; have H5 := Aside0.mk (H4.out.trans (hb.mono H4.out.size)); clear hb))
  go_ret
  exact ⟨rfl, H5.out⟩
end Go.Proofs.Ytkeiiaedikicdaa.PL
