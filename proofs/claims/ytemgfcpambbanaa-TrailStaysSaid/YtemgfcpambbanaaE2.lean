/- The walk of TrailStays. -/
import Derived.Test.YtemgfcpambbanaaC6
namespace Go.Proofs.Ytemgfcpambbanaa.PT
open Go.RowKit Go.Proofs.YtemgfcpambbanaaW.PrintWords Go.Proofs.YtemgfcpambbanaaW.PrintLast Go.Proofs.YtemgfcpambbanaaW.PrintMore
attribute [local go_sem] max2_int min2_int max_two min_two max_three min_three max_four min_four
set_option linter.unusedVariables false
set_option maxHeartbeats 4000000 in
set_option maxRecDepth 100000 in
theorem trailStays_true (A0 : Option Addr) (c0 : Nat) (l0 : List Int) (w : World) (hr0 : Kd.C (Kd.int .i64) w A0 l0.length l0) (hc0 : l0.length ≤ c0) (hn : decide (l0.take 100).Nodup = true) :
    Calls Try.prog 5 #[.slice A0 l0.length c0] w fun e w' => e = .returned (.bool true) ∧ Below w.heap.size w w' := by
  have HR0 := Aside0.mk hr0
  have HC0 := Aside0.mk hc0
  have HN := Aside0.mk hn
  clear hr0 hc0 hn
  go_enter Try.func5, Try.ntmps5
  go_wp2_with (first
    | (go_at_call 9; (with_reducible refine (cut_at (St.start w) HR0.out HC0.out 100 100 (by decide) (by decide)).mono ?_); rintro e w0 ⟨A, t, rfl, ht, rfl, S0⟩)
    | (go_at_call 10; (with_reducible refine (erase_st S0 (l := t) (by simp)).mono ?_); rintro e w1 ⟨A1, a, c1, rfl, ha, S1⟩)
    | (go_at_call 11; (with_reducible refine (fixed_st S1).mono ?_); rintro e w2 ⟨rfl, S2⟩)
    | (go_at_call 10; (with_reducible refine (erase_st S2 (l := a) (by simp)).mono ?_); rintro e w3 ⟨A3, a2, c3, rfl, ha2, S3⟩)
    | (go_at_call 15; (with_reducible refine (same_st S3 (l := a2) (m := a) (by simp) (by simp) (by rw [ha2.out, ha.out, er_er])).mono ?_); rintro e w4 ⟨rfl, hd⟩; have S4 := St.drawn S3 hd; clear hd)
    | (go_at_call 14; (with_reducible refine (back_st S4 (l := t) (by simp)).mono ?_); rintro e w5 ⟨A5, b, c5, rfl, hb, S5⟩)
    | (go_at_call 14; (with_reducible refine (back_st S5 (l := b) (by simp)).mono ?_); rintro e w6 ⟨A6, b2, c6, rfl, hb2, S6⟩)
    | (go_at_call 15; (with_reducible refine (same_st S6 (l := b2) (m := t) (by simp) (by simp) (by rw [hb2.out, hb.out, List.reverse_reverse])).mono ?_); rintro e w7 ⟨rfl, hd⟩; have S7 := St.drawn S6 hd; clear hd)
    | (go_at_call 12; (with_reducible refine (refSimple_st S7 (l := t) (by simp) true (by rw [ht.out]; exact HN.out)).mono ?_); rintro e w8 ⟨rfl, hd⟩; have S8 := St.drawn S7 hd; clear hd)
    | (go_at_call 15; (with_reducible refine (same_st S8 (l := a) (m := t) (by simp) (by simp) (by rw [ha.out, ht.out]; exact er_same (of_decide_eq_true HN.out))).mono ?_); rintro e w9 ⟨rfl, hd⟩; have S9 := St.drawn S8 hd; clear hd))
  go_ret
  exact ⟨rfl, S9.old⟩
set_option maxHeartbeats 4000000 in
set_option maxRecDepth 100000 in
theorem trailStays_false (A0 : Option Addr) (c0 : Nat) (l0 : List Int) (w : World) (hr0 : Kd.C (Kd.int .i64) w A0 l0.length l0) (hc0 : l0.length ≤ c0) (hn : decide (l0.take 100).Nodup = false) :
    Calls Try.prog 5 #[.slice A0 l0.length c0] w fun e w' => e = .returned (.bool true) ∧ Below w.heap.size w w' := by
  have HR0 := Aside0.mk hr0
  have HC0 := Aside0.mk hc0
  have HN := Aside0.mk hn
  clear hr0 hc0 hn
  go_enter Try.func5, Try.ntmps5
  go_wp2_with (first
    | (go_at_call 9; (with_reducible refine (cut_at (St.start w) HR0.out HC0.out 100 100 (by decide) (by decide)).mono ?_); rintro e w0 ⟨A, t, rfl, ht, rfl, S0⟩)
    | (go_at_call 10; (with_reducible refine (erase_st S0 (l := t) (by simp)).mono ?_); rintro e w1 ⟨A1, a, c1, rfl, ha, S1⟩)
    | (go_at_call 11; (with_reducible refine (fixed_st S1).mono ?_); rintro e w2 ⟨rfl, S2⟩)
    | (go_at_call 10; (with_reducible refine (erase_st S2 (l := a) (by simp)).mono ?_); rintro e w3 ⟨A3, a2, c3, rfl, ha2, S3⟩)
    | (go_at_call 15; (with_reducible refine (same_st S3 (l := a2) (m := a) (by simp) (by simp) (by rw [ha2.out, ha.out, er_er])).mono ?_); rintro e w4 ⟨rfl, hd⟩; have S4 := St.drawn S3 hd; clear hd)
    | (go_at_call 14; (with_reducible refine (back_st S4 (l := t) (by simp)).mono ?_); rintro e w5 ⟨A5, b, c5, rfl, hb, S5⟩)
    | (go_at_call 14; (with_reducible refine (back_st S5 (l := b) (by simp)).mono ?_); rintro e w6 ⟨A6, b2, c6, rfl, hb2, S6⟩)
    | (go_at_call 15; (with_reducible refine (same_st S6 (l := b2) (m := t) (by simp) (by simp) (by rw [hb2.out, hb.out, List.reverse_reverse])).mono ?_); rintro e w7 ⟨rfl, hd⟩; have S7 := St.drawn S6 hd; clear hd)
    | (go_at_call 12; (with_reducible refine (refSimple_st S7 (l := t) (by simp) false (by rw [ht.out]; exact HN.out)).mono ?_); rintro e w8 ⟨rfl, hd⟩; have S8 := St.drawn S7 hd; clear hd)
    | (go_at_call 15; (with_reducible refine (same_st S8 (l := a) (m := t) (by simp) (by simp) (by rw [ha.out, ht.out]; exact er_same (of_decide_eq_true HN.out))).mono ?_); rintro e w9 ⟨rfl, hd⟩; have S9 := St.drawn S8 hd; clear hd))
  go_ret
  exact ⟨rfl, S8.old⟩
theorem trailStays_walk (A0 : Option Addr) (c0 : Nat) (l0 : List Int) (w : World) (hr0 : Kd.C (Kd.int .i64) w A0 l0.length l0) (hc0 : l0.length ≤ c0) :
    Calls Try.prog 5 #[.slice A0 l0.length c0] w fun e w' => e = .returned (.bool true) ∧ Below w.heap.size w w' := by
  cases hn : decide (l0.take 100).Nodup with
  | true => exact trailStays_true A0 c0 l0 w hr0 hc0 hn
  | false => exact trailStays_false A0 c0 l0 w hr0 hc0 hn
theorem trailStays_law (A : Option Addr) (len cap : Nat) (zs : List Int) (w : World) (h : (A = none ∧ len = 0 ∧ cap = 0 ∧ zs = []) ∨ ∃ x, A = some x ∧ len ≤ cap ∧ cap ≤ maxLen ∧ zs.length = cap ∧ (∀ i, i < zs.length → w.cell? (x.add i) = some (.int .i64 (zs.getD i 0))) ∧ ∀ n ∈ zs, (Lit.int .i64 n).wf = true) (hy : len * 8 ≤ 140737488351232) :
    Calls Try.prog 5 #[.slice A len cap] w fun e w' => e = .returned (.bool true) ∧ Below w.heap.size w w' := by
  obtain ⟨l, rfl, hr, hm, hw, hc⟩ := ReadsInt.ofRowC h
  exact trailStays_walk A cap l w (Kd.C_of_reads (d := (0 : Int)) (h1 := fun _ => rfl) hr) hc
end Go.Proofs.Ytemgfcpambbanaa.PT
