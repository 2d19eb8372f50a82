/- The walk of LabelParts. -/
import Derived.Test.YtkeiiaedikicdaaLA
import Derived.OpenShut
namespace Go.Proofs.Ytkeiiaedikicdaa.PL
open Go.RowKit Go.Proofs.YtkeiiaedikicdaaW.PrintWords Go.Proofs.YtkeiiaedikicdaaW.PrintLast Go.Proofs.YtkeiiaedikicdaaW.PrintMore
attribute [local go_sem] max2_int min2_int max_two min_two max_three min_three max_four min_four
set_option linter.unusedVariables false
set_option linter.unusedSimpArgs false
theorem empty_list {s : ByteArray} (h : s.size = 0) : s.toList.isEmpty = true := by
  have hse : s = ⟨#[]⟩ := by
    cases s with
    | mk d =>
      have : d.size = 0 := h
      rw [Array.size_eq_zero_iff.1 this]
  subst hse
  first | rfl | decide | simp
set_option maxHeartbeats 8000000 in
set_option maxRecDepth 100000 in
theorem labelParts_walk (s : ByteArray) (n : Int) (w : World) (hn : n ≤ 9223372036854775807) : Calls Try.prog 6 #[.string s, .int .i64 n] w fun e w' => e = .returned (.bool true) ∧ Below w.heap.size w w' := by
  obtain ⟨m, hm⟩ : ∃ m : Nat, (if (2000 : Int) < (s.size : Int) then (2000 : Int) else (s.size : Int)) = (m : Int) := ⟨min s.size 2000, by split <;> omega⟩
  have hm1 : m ≤ s.size ∧ m ≤ 2000 := by split at hm <;> omega
  have hm2 : (m : Int) ≤ (s.size : Int) := by omega
  obtain ⟨t, ht⟩ : ∃ t, t = s.extract 0 m := ⟨_, rfl⟩
  have hts : t.size ≤ 2000 := by rw [ht]; simp; omega
  have HT : Aside0 (t.size ≤ 2000) := ⟨hts⟩
  have HN := Aside0.mk hn
  obtain ⟨p1, p2, p3⟩ := parts_ok t n
  obtain ⟨a, ha⟩ : ∃ a, a = C1 t n := ⟨_, rfl⟩
  obtain ⟨b, hb⟩ : ∃ b, b = C2 t n := ⟨_, rfl⟩
  rw [← ha, ← hb] at p1 p3
  rw [← ha] at p2
  have hsz : a.size + b.size = t.size := by rw [← p1]; simp
  have HAS : Aside0 (a.size ≤ 70368744177664) := ⟨by omega⟩
  obtain ⟨N, hN⟩ : ∃ N, N = (rl a 0).length := ⟨_, rfl⟩
  rw [← hN] at p2
  obtain ⟨k, hk⟩ : ∃ k : Nat, (if n < 0 then (0 : Int) else n) = (k : Int) := ⟨n.toNat, by split <;> omega⟩
  have hNk : (N : Int) ≤ (k : Int) := by split at hk <;> omega
  have hs1 : (a.size : Int) + (b.size : Int) ≤ 2000 := by omega
  have HA := Aside0.mk ha
  have HB := Aside0.mk hb
  have HNN := Aside0.mk hN
  have HTT := Aside0.mk ht
  have HP1 := Aside0.mk p1
  have heq : ((a ++ b).toList == t.toList) = true := by rw [p1]; simp
  obtain ⟨eT, heT⟩ : ∃ e, e = (RU t).2 := ⟨_, rfl⟩
  obtain ⟨eA, heA⟩ : ∃ e, e = (RU a).2 := ⟨_, rfl⟩
  obtain ⟨eB, heB⟩ : ∃ e, e = (RU b).2 := ⟨_, rfl⟩
  rw [← heT, ← heA, ← heB] at p3
  have HET := Aside0.mk heT
  have HEA := Aside0.mk heA
  have HEB := Aside0.mk heB
  clear ha hb hn hts hm1 ht hN p2 p1 heT heA heB hsz
  by_cases h0 : eT = 0
  · obtain ⟨pa, pb⟩ := p3 h0
    subst h0
    clear p3
    by_cases za : a.size = 0
    · have la : a.toList.isEmpty = true := empty_list za
      clear pa za
      by_cases zb : b.size = 0
      · have lb : b.toList.isEmpty = true := empty_list zb
        clear pb zb
        go_enter Try.func6, Try.ntmps6
        go_wp2_with (first
            | (go_at_call 16; rw [← HTT.out]; (with_reducible refine (cut_c t n w HN.out (by have := HT.out; omega)).mono ?_); rintro e w1 ⟨rfl, hb⟩; rw [← HA.out, ← HB.out]; have H1 := Aside0.mk hb; clear hb)
            | (go_at_call 13; (with_reducible refine (fixed_c w1).mono ?_); rintro e w2 ⟨rfl, hb⟩; have H2 := Aside0.mk (H1.out.trans (hb.mono H1.out.size)); clear hb; obtain ⟨cr, w3, hcv, _, _, hbr⟩ := conv_to_runes w2 a HAS.out; rw [← HNN.out] at hcv; have H3 := Aside0.mk (H2.out.trans (hbr.mono H2.out.size)); clear hbr)
            | (go_at_call 9; (try rw [← HTT.out]); (with_reducible refine (runes_c t w3).mono ?_); rintro e w4 ⟨A4, c4, rfl, _, _, hb⟩; rw [← HET.out]; have H4 := Aside0.mk (H3.out.trans (hb.mono H3.out.size)); clear hb)
            | (go_at_call 9; (with_reducible refine (runes_c a w4).mono ?_); rintro e w5 ⟨A5, c5, rfl, _, _, hb⟩; rw [← HEA.out]; have H5 := Aside0.mk (H4.out.trans (hb.mono H4.out.size)); clear hb)
            | (go_at_call 9; (with_reducible refine (runes_c b w5).mono ?_); rintro e w6 ⟨A6, c6, rfl, _, _, hb⟩; rw [← HEB.out]; have H6 := Aside0.mk (H5.out.trans (hb.mono H5.out.size)); clear hb))
        go_ret
        exact ⟨by first | rfl | simp, H6.out⟩
      · have lb : b.toList.isEmpty = false := not_empty zb
        have hb0 := pb.resolve_left zb
        subst hb0
        clear pb zb
        go_enter Try.func6, Try.ntmps6
        go_wp2_with (first
            | (go_at_call 16; rw [← HTT.out]; (with_reducible refine (cut_c t n w HN.out (by have := HT.out; omega)).mono ?_); rintro e w1 ⟨rfl, hb⟩; rw [← HA.out, ← HB.out]; have H1 := Aside0.mk hb; clear hb)
            | (go_at_call 13; (with_reducible refine (fixed_c w1).mono ?_); rintro e w2 ⟨rfl, hb⟩; have H2 := Aside0.mk (H1.out.trans (hb.mono H1.out.size)); clear hb; obtain ⟨cr, w3, hcv, _, _, hbr⟩ := conv_to_runes w2 a HAS.out; rw [← HNN.out] at hcv; have H3 := Aside0.mk (H2.out.trans (hbr.mono H2.out.size)); clear hbr)
            | (go_at_call 9; (try rw [← HTT.out]); (with_reducible refine (runes_c t w3).mono ?_); rintro e w4 ⟨A4, c4, rfl, _, _, hb⟩; rw [← HET.out]; have H4 := Aside0.mk (H3.out.trans (hb.mono H3.out.size)); clear hb)
            | (go_at_call 9; (with_reducible refine (runes_c a w4).mono ?_); rintro e w5 ⟨A5, c5, rfl, _, _, hb⟩; rw [← HEA.out]; have H5 := Aside0.mk (H4.out.trans (hb.mono H4.out.size)); clear hb)
            | (go_at_call 9; (with_reducible refine (runes_c b w5).mono ?_); rintro e w6 ⟨A6, c6, rfl, _, _, hb⟩; rw [← HEB.out]; have H6 := Aside0.mk (H5.out.trans (hb.mono H5.out.size)); clear hb))
        go_ret
        exact ⟨by first | rfl | simp, H6.out⟩
    · have la : a.toList.isEmpty = false := not_empty za
      have ha0 := pa.resolve_left za
      subst ha0
      clear pa za
      by_cases zb : b.size = 0
      · have lb : b.toList.isEmpty = true := empty_list zb
        clear pb zb
        go_enter Try.func6, Try.ntmps6
        go_wp2_with (first
            | (go_at_call 16; rw [← HTT.out]; (with_reducible refine (cut_c t n w HN.out (by have := HT.out; omega)).mono ?_); rintro e w1 ⟨rfl, hb⟩; rw [← HA.out, ← HB.out]; have H1 := Aside0.mk hb; clear hb)
            | (go_at_call 13; (with_reducible refine (fixed_c w1).mono ?_); rintro e w2 ⟨rfl, hb⟩; have H2 := Aside0.mk (H1.out.trans (hb.mono H1.out.size)); clear hb; obtain ⟨cr, w3, hcv, _, _, hbr⟩ := conv_to_runes w2 a HAS.out; rw [← HNN.out] at hcv; have H3 := Aside0.mk (H2.out.trans (hbr.mono H2.out.size)); clear hbr)
            | (go_at_call 9; (try rw [← HTT.out]); (with_reducible refine (runes_c t w3).mono ?_); rintro e w4 ⟨A4, c4, rfl, _, _, hb⟩; rw [← HET.out]; have H4 := Aside0.mk (H3.out.trans (hb.mono H3.out.size)); clear hb)
            | (go_at_call 9; (with_reducible refine (runes_c a w4).mono ?_); rintro e w5 ⟨A5, c5, rfl, _, _, hb⟩; rw [← HEA.out]; have H5 := Aside0.mk (H4.out.trans (hb.mono H4.out.size)); clear hb)
            | (go_at_call 9; (with_reducible refine (runes_c b w5).mono ?_); rintro e w6 ⟨A6, c6, rfl, _, _, hb⟩; rw [← HEB.out]; have H6 := Aside0.mk (H5.out.trans (hb.mono H5.out.size)); clear hb))
        go_ret
        exact ⟨by first | rfl | simp, H6.out⟩
      · have lb : b.toList.isEmpty = false := not_empty zb
        have hb0 := pb.resolve_left zb
        subst hb0
        clear pb zb
        go_enter Try.func6, Try.ntmps6
        go_wp2_with (first
            | (go_at_call 16; rw [← HTT.out]; (with_reducible refine (cut_c t n w HN.out (by have := HT.out; omega)).mono ?_); rintro e w1 ⟨rfl, hb⟩; rw [← HA.out, ← HB.out]; have H1 := Aside0.mk hb; clear hb)
            | (go_at_call 13; (with_reducible refine (fixed_c w1).mono ?_); rintro e w2 ⟨rfl, hb⟩; have H2 := Aside0.mk (H1.out.trans (hb.mono H1.out.size)); clear hb; obtain ⟨cr, w3, hcv, _, _, hbr⟩ := conv_to_runes w2 a HAS.out; rw [← HNN.out] at hcv; have H3 := Aside0.mk (H2.out.trans (hbr.mono H2.out.size)); clear hbr)
            | (go_at_call 9; (try rw [← HTT.out]); (with_reducible refine (runes_c t w3).mono ?_); rintro e w4 ⟨A4, c4, rfl, _, _, hb⟩; rw [← HET.out]; have H4 := Aside0.mk (H3.out.trans (hb.mono H3.out.size)); clear hb)
            | (go_at_call 9; (with_reducible refine (runes_c a w4).mono ?_); rintro e w5 ⟨A5, c5, rfl, _, _, hb⟩; rw [← HEA.out]; have H5 := Aside0.mk (H4.out.trans (hb.mono H4.out.size)); clear hb)
            | (go_at_call 9; (with_reducible refine (runes_c b w5).mono ?_); rintro e w6 ⟨A6, c6, rfl, _, _, hb⟩; rw [← HEB.out]; have H6 := Aside0.mk (H5.out.trans (hb.mono H5.out.size)); clear hb))
        go_ret
        exact ⟨by first | rfl | simp, H6.out⟩
  · have q0 : (eT == 0) = false := beq_eq_false_iff_ne.2 h0
    clear p3
    go_enter Try.func6, Try.ntmps6
    go_wp2_with (first
      | (go_at_call 16; rw [← HTT.out]; (with_reducible refine (cut_c t n w HN.out (by have := HT.out; omega)).mono ?_); rintro e w1 ⟨rfl, hb⟩; rw [← HA.out, ← HB.out]; have H1 := Aside0.mk hb; clear hb)
      | (go_at_call 13; (with_reducible refine (fixed_c w1).mono ?_); rintro e w2 ⟨rfl, hb⟩; have H2 := Aside0.mk (H1.out.trans (hb.mono H1.out.size)); clear hb; obtain ⟨cr, w3, hcv, _, _, hbr⟩ := conv_to_runes w2 a HAS.out; rw [← HNN.out] at hcv; have H3 := Aside0.mk (H2.out.trans (hbr.mono H2.out.size)); clear hbr)
      | (go_at_call 9; (try rw [← HTT.out]); (with_reducible refine (runes_c t w3).mono ?_); rintro e w4 ⟨A4, c4, rfl, _, _, hb⟩; rw [← HET.out]; have H4 := Aside0.mk (H3.out.trans (hb.mono H3.out.size)); clear hb))
    go_ret
    exact ⟨rfl, H4.out⟩
theorem labelParts_law (s : ByteArray) (n : Int) (w : World) (_ : s.size ≤ 140737488351232) (hn : (Lit.int .i64 n).wf = true) : Calls Try.prog 6 #[.string s, .int .i64 n] w fun e w' => e = .returned (.bool true) ∧ Below w.heap.size w w' :=
  labelParts_walk s n w (by have := bounds_i64 hn; omega)
end Go.Proofs.Ytkeiiaedikicdaa.PL
