/- The walk of LabelCuts. -/
import Derived.Test.YtkeiiaedikicdaaL8
import Derived.OpenShut
namespace Go.Proofs.Ytkeiiaedikicdaa.PL
open Go.RowKit Go.Proofs.YtkeiiaedikicdaaW.PrintWords Go.Proofs.YtkeiiaedikicdaaW.PrintLast Go.Proofs.YtkeiiaedikicdaaW.PrintMore
attribute [local go_sem] max2_int min2_int max_two min_two max_three min_three max_four min_four
set_option linter.unusedVariables false
set_option linter.unusedSimpArgs false
set_option maxHeartbeats 4000000 in
set_option maxRecDepth 100000 in
theorem labelCuts_walk (s : ByteArray) (n : Int) (w : World) (hn : n ≤ 9223372036854775807) : Calls Try.prog 5 #[.string s, .int .i64 n] w fun e w' => e = .returned (.bool true) ∧ Below w.heap.size w w' := by
  obtain ⟨m, hm⟩ : ∃ m : Nat, (if (2000 : Int) < (s.size : Int) then (2000 : Int) else (s.size : Int)) = (m : Int) := ⟨min s.size 2000, by split <;> omega⟩
  have hm1 : m ≤ s.size ∧ m ≤ 2000 := by split at hm <;> omega
  have hm2 : (m : Int) ≤ (s.size : Int) := by omega
  obtain ⟨t, ht⟩ : ∃ t, t = s.extract 0 m := ⟨_, rfl⟩
  have hts : t.size ≤ 2000 := by rw [ht]; simp; omega
  have HT : Aside0 (t.size ≤ 2000) := ⟨hts⟩
  have HN := Aside0.mk hn
  obtain ⟨a, ha⟩ : ∃ a, a = C1 t n := ⟨_, rfl⟩
  obtain ⟨b, hb⟩ : ∃ b, b = C2 t n := ⟨_, rfl⟩
  have HA := Aside0.mk ha
  have HB := Aside0.mk hb
  have HTT := Aside0.mk ht
  clear ha hb hn hts hm1 ht
  go_enter Try.func5, Try.ntmps5
  go_wp2_with (first
    | (go_at_call 16; rw [← HTT.out]; (with_reducible refine (cut_c t n w HN.out (by have := HT.out; omega)).mono ?_); rintro e w1 ⟨rfl, hb⟩; rw [← HA.out, ← HB.out]; have H1 := Aside0.mk hb; clear hb)
    | (go_at_call 17; (try rw [← HTT.out]); (with_reducible refine (refCut_c t n w1 HN.out (by have := HT.out; omega)).mono ?_); rintro e w2 ⟨rfl, hb⟩; rw [← HA.out, ← HB.out]; have H2 := Aside0.mk (H1.out.trans (hb.mono H1.out.size)); clear hb)
    | (go_at_call 13; (with_reducible refine (fixed_c w2).mono ?_); rintro e w3 ⟨rfl, hb⟩; have H3 := Aside0.mk (H2.out.trans (hb.mono H2.out.size)); clear hb))
  go_ret
  exact ⟨by simp, H3.out⟩
theorem labelCuts_law (s : ByteArray) (n : Int) (w : World) (_ : s.size ≤ 140737488351232) (hn : (Lit.int .i64 n).wf = true) : Calls Try.prog 5 #[.string s, .int .i64 n] w fun e w' => e = .returned (.bool true) ∧ Below w.heap.size w w' :=
  labelCuts_walk s n w (by have := bounds_i64 hn; omega)
end Go.Proofs.Ytkeiiaedikicdaa.PL
