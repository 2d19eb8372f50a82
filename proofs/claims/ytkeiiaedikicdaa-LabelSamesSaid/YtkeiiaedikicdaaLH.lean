/- The walks of LabelRunes, LabelSames. -/
import Derived.Test.YtkeiiaedikicdaaLG
namespace Go.Proofs.Ytkeiiaedikicdaa.PL
open Go.RowKit Go.Proofs.YtkeiiaedikicdaaW.PrintWords Go.Proofs.YtkeiiaedikicdaaW.PrintLast Go.Proofs.YtkeiiaedikicdaaW.PrintMore
attribute [local go_sem] max2_int min2_int max_two min_two max_three min_three max_four min_four
set_option linter.unusedVariables false
set_option linter.unusedSimpArgs false
set_option maxHeartbeats 8000000 in
set_option maxRecDepth 100000 in
theorem labelRunes_law (s : ByteArray) (w : World) (h : s.size ≤ 140737488351232) : Calls Try.prog 3 #[.string s] w fun e w' => e = .returned (.bool true) ∧ Below w.heap.size w w' := by
  have h2 : s.size ≤ 140737488355328 := by omega
  have HS := Aside0.mk h2
  obtain ⟨l, hl⟩ : ∃ l, l = (RU s).1 := ⟨_, rfl⟩
  obtain ⟨ec, hec⟩ : ∃ e, e = (RU s).2 := ⟨_, rfl⟩
  obtain ⟨n, hn⟩ : ∃ n, n = l.length := ⟨_, rfl⟩
  obtain ⟨fs, hfs⟩ : ∃ a, a = FS s := ⟨_, rfl⟩
  have HL := Aside0.mk hl
  have HN := Aside0.mk hn
  have HE := Aside0.mk hec
  have HF := Aside0.mk hfs
  have heq : (fs.toList == fs.toList) = true := by simp
  clear h h2 hl hec hn hfs
  go_enter Try.func3, Try.ntmps3
  go_wp2_with (first
    | (go_at_call 9; (with_reducible refine (runes_c s w).mono ?_); rintro e w1 ⟨A, c, rfl, _, hC, hb⟩; rw [← HE.out, ← HL.out, ← HN.out]; rw [← HL.out, ← HN.out] at hC; have HB1 := Aside0.mk hb; have HC1 := Aside0.mk hC; clear hC hb)
    | (go_at_call 10; (with_reducible refine (refRunes_c s w1 HS.out).mono ?_); rintro e w2 ⟨B, d, rfl, _, hC, hb⟩; rw [← HE.out, ← HL.out, ← HN.out]; rw [← HL.out, ← HN.out] at hC; have HB2 := Aside0.mk (HB1.out.trans (hb.mono HB1.out.size)); have HC2 := Aside0.mk (And.intro ((Kd.heap_int .i32).C (fun k hlt => hb.block k hlt) HC1.out) hC); clear hC hb)
    | (go_at_call 11; (with_reducible refine (foldS_c s w2).mono ?_); rintro e w3 ⟨rfl, hb⟩; rw [← HE.out, ← HF.out]; have HB3 := Aside0.mk (HB2.out.trans (hb.mono HB2.out.size)); have HC3 := Aside0.mk (And.intro ((Kd.heap_int .i32).C (fun k hlt => hb.block k hlt) HC2.out.1) ((Kd.heap_int .i32).C (fun k hlt => hb.block k hlt) HC2.out.2)); clear hb)
    | (go_at_call 12; (with_reducible refine (refFold_c s w3 HS.out).mono ?_); rintro e w4 ⟨rfl, hb⟩; rw [← HE.out, ← HF.out]; have HB4 := Aside0.mk (HB3.out.trans (hb.mono HB3.out.size)); have HC4 := Aside0.mk (And.intro ((Kd.heap_int .i32).C (fun k hlt => hb.block k hlt) HC3.out.1) ((Kd.heap_int .i32).C (fun k hlt => hb.block k hlt) HC3.out.2)); clear hb)
    | (go_at_call 13; (with_reducible refine (fixed_c w4).mono ?_); rintro e w5 ⟨rfl, hb⟩; have HB5 := Aside0.mk (HB4.out.trans (hb.mono HB4.out.size)); have HC5 := Aside0.mk (And.intro ((Kd.heap_int .i32).C (fun k hlt => hb.block k hlt) HC4.out.1) ((Kd.heap_int .i32).C (fun k hlt => hb.block k hlt) HC4.out.2)); clear hb)
    | (go_at_call 14; (with_reducible refine (sameRunes_c HC5.out.1 HC5.out.2).mono ?_); rintro e w6 ⟨rfl, hb⟩; have HB6 := Aside0.mk (HB5.out.trans (hb.mono HB5.out.size)); clear hb))
  go_ret
  exact ⟨rfl, HB6.out⟩
set_option maxHeartbeats 8000000 in
set_option maxRecDepth 100000 in
theorem labelSames_a (s t : ByteArray) (w : World) (hs : s.size ≤ 140737488355328) (ht : t.size ≤ 140737488355328) (h1 : (RU s).2 ≠ 0) : Calls Try.prog 4 #[.string s, .string t] w fun e w' => e = .returned (.bool true) ∧ Below w.heap.size w w' := by
  have HM1 : Aside0 (SM s t = false) := ⟨by unfold SM; rw [decide_eq_false h1]; rfl⟩
  have HM2 : Aside0 (SM t s = false) := ⟨by unfold SM; rw [decide_eq_false h1, Bool.and_false]; rfl⟩
  obtain ⟨ea, hea⟩ : ∃ e, e = (RU s).2 := ⟨_, rfl⟩
  obtain ⟨eb, heb⟩ : ∃ e, e = (RU t).2 := ⟨_, rfl⟩
  obtain ⟨fa, hfa⟩ : ∃ a, a = FS s := ⟨_, rfl⟩
  obtain ⟨fb, hfb⟩ : ∃ a, a = FS t := ⟨_, rfl⟩
  have HEA := Aside0.mk hea
  have HEB := Aside0.mk heb
  have HFA := Aside0.mk hfa
  have HFB := Aside0.mk hfb
  have HS := Aside0.mk hs
  have HT := Aside0.mk ht
  have q1 : (ea == 0) = false := by rw [beq_eq_false_iff_ne, HEA.out]; exact h1
  clear hea heb hfa hfb hs ht h1
  go_enter Try.func4, Try.ntmps4
  go_wp2_with (first
    | (go_at_call 12; (with_reducible refine (refFold_c s w HS.out).mono ?_); rintro e w1 ⟨rfl, hb⟩; rw [← HEA.out, ← HFA.out]; have HB1 := Aside0.mk hb; clear hb)
    | (go_at_call 12; (with_reducible refine (refFold_c t w1 HT.out).mono ?_); rintro e w2 ⟨rfl, hb⟩; rw [← HEB.out, ← HFB.out]; have HB2 := Aside0.mk (HB1.out.trans (hb.mono HB1.out.size)); clear hb)
    | (go_at_call 13; (with_reducible refine (fixed_c w2).mono ?_); rintro e w3 ⟨rfl, hb⟩; have HB3 := Aside0.mk (HB2.out.trans (hb.mono HB2.out.size)); clear hb)
    | (go_at_call 15; (with_reducible refine (same_c s t w3).mono ?_); rintro e w4 ⟨rfl, hb⟩; rw [HM1.out]; have HB4 := Aside0.mk (HB3.out.trans (hb.mono HB3.out.size)); clear hb)
    | (go_at_call 15; (with_reducible refine (same_c t s w4).mono ?_); rintro e w5 ⟨rfl, hb⟩; rw [HM2.out]; have HB5 := Aside0.mk (HB4.out.trans (hb.mono HB4.out.size)); clear hb))
  go_ret
  exact ⟨rfl, HB5.out⟩
set_option maxHeartbeats 8000000 in
set_option maxRecDepth 100000 in
theorem labelSames_b (s t : ByteArray) (w : World) (hs : s.size ≤ 140737488355328) (ht : t.size ≤ 140737488355328) (h1 : (RU s).2 = 0) (h2 : (RU t).2 ≠ 0) : Calls Try.prog 4 #[.string s, .string t] w fun e w' => e = .returned (.bool true) ∧ Below w.heap.size w w' := by
  have HM1 : Aside0 (SM s t = false) := ⟨by unfold SM; rw [decide_eq_false h2, Bool.and_false]; rfl⟩
  have HM2 : Aside0 (SM t s = false) := ⟨by unfold SM; rw [decide_eq_false h2]; rfl⟩
  obtain ⟨ea, hea⟩ : ∃ e, e = (RU s).2 := ⟨_, rfl⟩
  obtain ⟨eb, heb⟩ : ∃ e, e = (RU t).2 := ⟨_, rfl⟩
  obtain ⟨fa, hfa⟩ : ∃ a, a = FS s := ⟨_, rfl⟩
  obtain ⟨fb, hfb⟩ : ∃ a, a = FS t := ⟨_, rfl⟩
  have HEA := Aside0.mk hea
  have HEB := Aside0.mk heb
  have HFA := Aside0.mk hfa
  have HFB := Aside0.mk hfb
  have HS := Aside0.mk hs
  have HT := Aside0.mk ht
  have q1 : (ea == 0) = true := by rw [beq_iff_eq, HEA.out]; exact h1
  have q2 : (eb == 0) = false := by rw [beq_eq_false_iff_ne, HEB.out]; exact h2
  clear hea heb hfa hfb hs ht h1 h2
  go_enter Try.func4, Try.ntmps4
  go_wp2_with (first
    | (go_at_call 12; (with_reducible refine (refFold_c s w HS.out).mono ?_); rintro e w1 ⟨rfl, hb⟩; rw [← HEA.out, ← HFA.out]; have HB1 := Aside0.mk hb; clear hb)
    | (go_at_call 12; (with_reducible refine (refFold_c t w1 HT.out).mono ?_); rintro e w2 ⟨rfl, hb⟩; rw [← HEB.out, ← HFB.out]; have HB2 := Aside0.mk (HB1.out.trans (hb.mono HB1.out.size)); clear hb)
    | (go_at_call 13; (with_reducible refine (fixed_c w2).mono ?_); rintro e w3 ⟨rfl, hb⟩; have HB3 := Aside0.mk (HB2.out.trans (hb.mono HB2.out.size)); clear hb)
    | (go_at_call 15; (with_reducible refine (same_c s t w3).mono ?_); rintro e w4 ⟨rfl, hb⟩; rw [HM1.out]; have HB4 := Aside0.mk (HB3.out.trans (hb.mono HB3.out.size)); clear hb)
    | (go_at_call 15; (with_reducible refine (same_c t s w4).mono ?_); rintro e w5 ⟨rfl, hb⟩; rw [HM2.out]; have HB5 := Aside0.mk (HB4.out.trans (hb.mono HB4.out.size)); clear hb))
  go_ret
  exact ⟨rfl, HB5.out⟩
set_option maxHeartbeats 8000000 in
set_option maxRecDepth 100000 in
theorem labelSames_c (s t : ByteArray) (w : World) (hs : s.size ≤ 140737488355328) (ht : t.size ≤ 140737488355328) (h1 : (RU s).2 = 0) (h2 : (RU t).2 = 0) (h3 : FS s = FS t) : Calls Try.prog 4 #[.string s, .string t] w fun e w' => e = .returned (.bool true) ∧ Below w.heap.size w w' := by
  have HM1 : Aside0 (SM s t = true) := ⟨by unfold SM; rw [decide_eq_true h1, decide_eq_true h2, h3]; simp [MapKept.bytes_beq]⟩
  have HM2 : Aside0 (SM t s = true) := ⟨by unfold SM; rw [decide_eq_true h1, decide_eq_true h2, h3]; simp [MapKept.bytes_beq]⟩
  obtain ⟨ea, hea⟩ : ∃ e, e = (RU s).2 := ⟨_, rfl⟩
  obtain ⟨eb, heb⟩ : ∃ e, e = (RU t).2 := ⟨_, rfl⟩
  obtain ⟨fa, hfa⟩ : ∃ a, a = FS s := ⟨_, rfl⟩
  obtain ⟨fb, hfb⟩ : ∃ a, a = FS t := ⟨_, rfl⟩
  have HEA := Aside0.mk hea
  have HEB := Aside0.mk heb
  have HFA := Aside0.mk hfa
  have HFB := Aside0.mk hfb
  have HS := Aside0.mk hs
  have HT := Aside0.mk ht
  have q1 : (ea == 0) = true := by rw [beq_iff_eq, HEA.out]; exact h1
  have q2 : (eb == 0) = true := by rw [beq_iff_eq, HEB.out]; exact h2
  have q3 : (fa.toList == fb.toList) = true := by rw [HFA.out, HFB.out, h3]; simp
  clear hea heb hfa hfb hs ht h1 h2 h3
  go_enter Try.func4, Try.ntmps4
  go_wp2_with (first
    | (go_at_call 12; (with_reducible refine (refFold_c s w HS.out).mono ?_); rintro e w1 ⟨rfl, hb⟩; rw [← HEA.out, ← HFA.out]; have HB1 := Aside0.mk hb; clear hb)
    | (go_at_call 12; (with_reducible refine (refFold_c t w1 HT.out).mono ?_); rintro e w2 ⟨rfl, hb⟩; rw [← HEB.out, ← HFB.out]; have HB2 := Aside0.mk (HB1.out.trans (hb.mono HB1.out.size)); clear hb)
    | (go_at_call 13; (with_reducible refine (fixed_c w2).mono ?_); rintro e w3 ⟨rfl, hb⟩; have HB3 := Aside0.mk (HB2.out.trans (hb.mono HB2.out.size)); clear hb)
    | (go_at_call 15; (with_reducible refine (same_c s t w3).mono ?_); rintro e w4 ⟨rfl, hb⟩; rw [HM1.out]; have HB4 := Aside0.mk (HB3.out.trans (hb.mono HB3.out.size)); clear hb)
    | (go_at_call 15; (with_reducible refine (same_c t s w4).mono ?_); rintro e w5 ⟨rfl, hb⟩; rw [HM2.out]; have HB5 := Aside0.mk (HB4.out.trans (hb.mono HB4.out.size)); clear hb))
  go_ret
  exact ⟨rfl, HB5.out⟩
set_option maxHeartbeats 8000000 in
set_option maxRecDepth 100000 in
theorem labelSames_d (s t : ByteArray) (w : World) (hs : s.size ≤ 140737488355328) (ht : t.size ≤ 140737488355328) (h1 : (RU s).2 = 0) (h2 : (RU t).2 = 0) (h3 : FS s ≠ FS t) : Calls Try.prog 4 #[.string s, .string t] w fun e w' => e = .returned (.bool true) ∧ Below w.heap.size w w' := by
  have HM1 : Aside0 (SM s t = false) := ⟨by unfold SM; rw [beq_toListBytes, bytes_ne h3, Bool.and_false]⟩
  have HM2 : Aside0 (SM t s = false) := ⟨by unfold SM; rw [beq_toListBytes, bytes_ne (fun e => h3 e.symm), Bool.and_false]⟩
  obtain ⟨ea, hea⟩ : ∃ e, e = (RU s).2 := ⟨_, rfl⟩
  obtain ⟨eb, heb⟩ : ∃ e, e = (RU t).2 := ⟨_, rfl⟩
  obtain ⟨fa, hfa⟩ : ∃ a, a = FS s := ⟨_, rfl⟩
  obtain ⟨fb, hfb⟩ : ∃ a, a = FS t := ⟨_, rfl⟩
  have HEA := Aside0.mk hea
  have HEB := Aside0.mk heb
  have HFA := Aside0.mk hfa
  have HFB := Aside0.mk hfb
  have HS := Aside0.mk hs
  have HT := Aside0.mk ht
  have q1 : (ea == 0) = true := by rw [beq_iff_eq, HEA.out]; exact h1
  have q2 : (eb == 0) = true := by rw [beq_iff_eq, HEB.out]; exact h2
  have q3 : (fa.toList == fb.toList) = false := by rw [HFA.out, HFB.out]; exact bytes_ne h3
  clear hea heb hfa hfb hs ht h1 h2 h3
  go_enter Try.func4, Try.ntmps4
  go_wp2_with (first
    | (go_at_call 12; (with_reducible refine (refFold_c s w HS.out).mono ?_); rintro e w1 ⟨rfl, hb⟩; rw [← HEA.out, ← HFA.out]; have HB1 := Aside0.mk hb; clear hb)
    | (go_at_call 12; (with_reducible refine (refFold_c t w1 HT.out).mono ?_); rintro e w2 ⟨rfl, hb⟩; rw [← HEB.out, ← HFB.out]; have HB2 := Aside0.mk (HB1.out.trans (hb.mono HB1.out.size)); clear hb)
    | (go_at_call 13; (with_reducible refine (fixed_c w2).mono ?_); rintro e w3 ⟨rfl, hb⟩; have HB3 := Aside0.mk (HB2.out.trans (hb.mono HB2.out.size)); clear hb)
    | (go_at_call 15; (with_reducible refine (same_c s t w3).mono ?_); rintro e w4 ⟨rfl, hb⟩; rw [HM1.out]; have HB4 := Aside0.mk (HB3.out.trans (hb.mono HB3.out.size)); clear hb)
    | (go_at_call 15; (with_reducible refine (same_c t s w4).mono ?_); rintro e w5 ⟨rfl, hb⟩; rw [HM2.out]; have HB5 := Aside0.mk (HB4.out.trans (hb.mono HB4.out.size)); clear hb))
  go_ret
  exact ⟨rfl, HB5.out⟩
theorem labelSames_law (s t : ByteArray) (w : World) (hs : s.size ≤ 140737488351232) (ht : t.size ≤ 140737488351232) : Calls Try.prog 4 #[.string s, .string t] w fun e w' => e = .returned (.bool true) ∧ Below w.heap.size w w' := by
  by_cases h1 : (RU s).2 = 0
  · by_cases h2 : (RU t).2 = 0
    · by_cases h3 : FS s = FS t
      · exact labelSames_c s t w (by omega) (by omega) h1 h2 h3
      · exact labelSames_d s t w (by omega) (by omega) h1 h2 h3
    · exact labelSames_b s t w (by omega) (by omega) h1 h2
  · exact labelSames_a s t w (by omega) (by omega) h1
end Go.Proofs.Ytkeiiaedikicdaa.PL
