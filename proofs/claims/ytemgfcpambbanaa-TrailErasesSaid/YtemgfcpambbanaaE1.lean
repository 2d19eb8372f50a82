/- The walk of TrailErases. -/
import Derived.Test.YtemgfcpambbanaaC6
namespace Go.Proofs.Ytemgfcpambbanaa.PT
open Go.RowKit Go.Proofs.YtemgfcpambbanaaW.PrintWords Go.Proofs.YtemgfcpambbanaaW.PrintLast Go.Proofs.YtemgfcpambbanaaW.PrintMore
attribute [local go_sem] max2_int min2_int max_two min_two max_three min_three max_four min_four
set_option linter.unusedVariables false
set_option maxHeartbeats 400000 in
set_option maxRecDepth 100000 in
theorem trailErases_walk (A0 : Option Addr) (c0 : Nat) (l0 : List Int) (w : World) (hr0 : Kd.C (Kd.int .i64) w A0 l0.length l0) (hc0 : l0.length ≤ c0) :
    Calls Try.prog 4 #[.slice A0 l0.length c0] w fun e w' => e = .returned (.bool true) ∧ Below w.heap.size w w' := by
  have HR0 := Aside0.mk hr0
  have HC0 := Aside0.mk hc0
  clear hr0 hc0
  go_enter Try.func4, Try.ntmps4
  go_wp2_with (first
    | (go_at_call 9; refine (cut_st (St.start w) HR0.out HC0.out 100 (by decide)).mono ?_; rintro e w1 ⟨A, t, rfl, ht, rfl, S0⟩)
    | ((with_reducible refine gate_dst (N := 8) rfl ?_); (try (refine gate_guard (by rfl) ?_; dsimp only)); refine Kd.R_lit (Kd.int .i64) w.heap.size 3 ?hg (N := 8) ?hd (w0 := w) (xs := ([] : List Int)) (inner := []) (ok := fun _ => True) (okp := fun _ => True) ?hr ?hp (fun _ hk => hk) trivial (Below.refl _ _) (Nat.le_refl _) (by simp) ?_; (case hd => rfl); (case hg => rfl); (case hr => first | (go_simp; done) | (go_simp; rfl)); (case hp => exact Reps.none _ _); intro v1 w1 ho_ hb_ hg_ hnew_; have Ow1 := Aside0.mk ho_; have Bw1 := Aside0.mk hb_; have S1 := St.step S0 hb_; clear hg_ hnew_ ho_ hb_)
    | ((with_reducible refine gate_builtin (b := .append) (xs := #[.tmp 8, .tmp 9]) rfl ?_); at_builtin; refine Kd.R_append_rows (Kd.int .i64) (w0 := w) w.heap.size rfl (.tmp 8) (.tmp 9) 22 3 (.int .i64 0) 8 rfl Try.underlying22 info3 rfl (by decide) (by omega) v1 [] t _ _ _ (fun _ => True) (fun _ => False) rfl rfl Ow1.out (S1.rd _ _ _ (List.mem_cons_self ..)).1 (fun _ _ h => h) (fun _ h => h.elim) (fun _ _ => trivial) Bw1.out Bw1.out.size (by have := (S1.rd _ _ _ (List.mem_cons_self ..)).2.2; simp; omega) ?_; intro v2 w2 ho_ hb_ hg_ hat_; rw [List.nil_append] at ho_; obtain ⟨A2, c2, rfl, S2⟩ := (St.step S0 hb_).made ho_ (S0.rd _ _ _ (List.mem_cons_self ..)).2.2; clear ho_ hb_ hg_ hat_)
    | (go_at_call 10; (with_reducible refine (erase_st S2 (l := t) (by simp)).mono ?_); rintro e w3 ⟨A3, a, c3, rfl, ha, S3⟩)
    | (go_at_call 14; (with_reducible refine (back_st S3 (l := t) (by simp)).mono ?_); rintro e w4 ⟨A4, b, c4, rfl, hb, S4⟩)
    | (go_at_call 11; (with_reducible refine (fixed_st S4).mono ?_); rintro e w5 ⟨rfl, S5⟩)
    | (go_at_call 16; (with_reducible refine (refErase_st S5 (l := t) (c := c2) (by simp)).mono ?_); rintro e w6 ⟨A6, a2, c6, rfl, ha2, S6⟩)
    | (go_at_call 15; (with_reducible refine (same_st S6 (l := a) (m := a2) (by simp) (by simp) (ha.out.trans ha2.out.symm)).mono ?_); rintro e w7 ⟨rfl, hd⟩; have S7 := St.drawn S6 hd; clear hd)
    | (go_at_call 17; (with_reducible refine (refBack_st S7 (l := t) (c := c2) (by simp)).mono ?_); rintro e w8 ⟨A8, b2, c8, rfl, hb2, S8⟩)
    | (go_at_call 15; (with_reducible refine (same_st S8 (l := b) (m := b2) (by simp) (by simp) (hb.out.trans hb2.out.symm)).mono ?_); rintro e w9 ⟨rfl, hd⟩; have S9 := St.drawn S8 hd; clear hd)
    | (go_at_call 15; (with_reducible refine (same_st S9 (l := t) (m := t) (by simp) (by simp) rfl).mono ?_); rintro e w10 ⟨rfl, hd⟩; have S10 := St.drawn S9 hd; clear hd))
  go_ret
  exact ⟨rfl, S10.old⟩
theorem trailErases_law (A : Option Addr) (len cap : Nat) (zs : List Int) (w : World) (h : (A = none ∧ len = 0 ∧ cap = 0 ∧ zs = []) ∨ ∃ x, A = some x ∧ len ≤ cap ∧ cap ≤ maxLen ∧ zs.length = cap ∧ (∀ i, i < zs.length → w.cell? (x.add i) = some (.int .i64 (zs.getD i 0))) ∧ ∀ n ∈ zs, (Lit.int .i64 n).wf = true) (hy : len * 8 ≤ 140737488351232) :
    Calls Try.prog 4 #[.slice A len cap] w fun e w' => e = .returned (.bool true) ∧ Below w.heap.size w w' := by
  obtain ⟨l, rfl, hr, hm, hw, hc⟩ := ReadsInt.ofRowC h
  exact trailErases_walk A cap l w (Kd.C_of_reads (d := (0 : Int)) (h1 := fun _ => rfl) hr) hc
end Go.Proofs.Ytemgfcpambbanaa.PT
