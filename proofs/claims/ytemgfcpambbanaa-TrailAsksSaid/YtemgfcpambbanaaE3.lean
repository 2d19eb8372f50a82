/- The walk of TrailAsks. -/
import Derived.Test.YtemgfcpambbanaaC6
namespace Go.Proofs.Ytemgfcpambbanaa.PT
open Go.RowKit Go.Proofs.YtemgfcpambbanaaW.PrintWords Go.Proofs.YtemgfcpambbanaaW.PrintLast Go.Proofs.YtemgfcpambbanaaW.PrintMore
attribute [local go_sem] max2_int min2_int max_two min_two max_three min_three max_four min_four
set_option linter.unusedVariables false
theorem bool_of (p : Prop) : ∃ b : Bool, b = true ↔ p := by
  by_cases h : p
  · exact ⟨true, by simp [h]⟩
  · exact ⟨false, by simp [h]⟩
set_option maxHeartbeats 4000000 in
set_option maxRecDepth 100000 in
theorem trailAsks_walk (A0 : Option Addr) (c0 : Nat) (l0 : List Int) (A1 : Option Addr) (c1 : Nat) (l1 : List Int) (n : Int) (w : World) (hr0 : Kd.C (Kd.int .i64) w A0 l0.length l0) (hc0 : l0.length ≤ c0) (hr1 : Kd.C (Kd.int .i64) w A1 l1.length l1) (hc1 : l1.length ≤ c1) :
    Calls Try.prog 7 #[.slice A0 l0.length c0, .slice A1 l1.length c1, .int .i64 n] w fun e w' => e = .returned (.bool true) ∧ Below w.heap.size w w' := by
  have HR0 := Aside0.mk hr0
  have HC0 := Aside0.mk hc0
  have HR1 := Aside0.mk hr1
  have HC1 := Aside0.mk hc1
  clear hr0 hc0 hr1 hc1
  obtain ⟨bs, hs⟩ : ∃ b, decide (l0.take 60).Nodup = b := ⟨_, rfl⟩
  obtain ⟨pr, hp⟩ : ∃ r, pl n (l0.take 60) 0 = r := ⟨_, rfl⟩
  obtain ⟨bj, hj⟩ := bool_of (JoinFrom (l0.take 60) (l1.take 60) 0)
  have HS := Aside0.mk hs
  have HP := Aside0.mk hp
  have HJ := Aside0.mk hj
  clear hs hp hj
  go_enter Try.func7, Try.ntmps7
  go_wp2_with (first
    | (go_at_call 9; (with_reducible refine (cut_at (St.start w) HR0.out HC0.out 60 60 (by decide) (by decide)).mono ?_); rintro e w0 ⟨A, t, rfl, ht, rfl, S0⟩)
    | (go_at_call 9; (with_reducible refine (cut_at S0 HR1.out HC1.out 60 60 (by decide) (by decide)).mono ?_); rintro e w0 ⟨B, u, rfl, hu, rfl, S1⟩)
    | (go_at_call 11; (with_reducible refine (fixed_st S1).mono ?_); rintro e w2 ⟨rfl, S2⟩)
    | (go_at_call 18; (with_reducible refine (simple_st S2 (l := t) (by simp) bs (by rw [ht.out]; exact HS.out)).mono ?_); rintro e w3 ⟨rfl, hd⟩; have S3 := St.drawn S2 hd; clear hd)
    | (go_at_call 12; (with_reducible refine (refSimple_st S3 (l := t) (by simp) bs (by rw [ht.out]; exact HS.out)).mono ?_); rintro e w4 ⟨rfl, hd⟩; have S4 := St.drawn S3 hd; clear hd)
    | (go_at_call 19; (with_reducible refine (place_st S4 (l := t) (by simp) n pr (by rw [ht.out]; exact HP.out)).mono ?_); rintro e w5 ⟨rfl, hd⟩; have S5 := St.drawn S4 hd; clear hd)
    | (go_at_call 20; (with_reducible refine (refPlace_st S5 (l := t) (by simp) n pr (by rw [ht.out]; exact HP.out)).mono ?_); rintro e w6 ⟨rfl, hd⟩; have S6 := St.drawn S5 hd; clear hd)
    | (go_at_call 21; (with_reducible refine (joins_st S6 (l := t) (m := u) (by simp) (by simp) bj (by rw [ht.out, hu.out]; exact HJ.out)).mono ?_); rintro e w7 ⟨rfl, hd⟩; have S7 := St.drawn S6 hd; clear hd)
    | (go_at_call 13; (with_reducible refine (refJoins_st S7 (l := t) (m := u) (by simp) (by simp) bj (by rw [ht.out, hu.out]; exact HJ.out)).mono ?_); rintro e w8 ⟨rfl, hd⟩; have S8 := St.drawn S7 hd; clear hd))
  go_ret
  exact ⟨rfl, S8.old⟩
theorem trailAsks_law (A : Option Addr) (len cap : Nat) (zs : List Int) (A1 : Option Addr) (len1 cap1 : Nat) (zs1 : List Int) (n : Int) (w : World) (h : (A = none ∧ len = 0 ∧ cap = 0 ∧ zs = []) ∨ ∃ x, A = some x ∧ len ≤ cap ∧ cap ≤ maxLen ∧ zs.length = cap ∧ (∀ i, i < zs.length → w.cell? (x.add i) = some (.int .i64 (zs.getD i 0))) ∧ ∀ n ∈ zs, (Lit.int .i64 n).wf = true) (hy : len * 8 ≤ 140737488351232)
    (h1 : (A1 = none ∧ len1 = 0 ∧ cap1 = 0 ∧ zs1 = []) ∨ ∃ x, A1 = some x ∧ len1 ≤ cap1 ∧ cap1 ≤ maxLen ∧ zs1.length = cap1 ∧ (∀ i, i < zs1.length → w.cell? (x.add i) = some (.int .i64 (zs1.getD i 0))) ∧ ∀ n ∈ zs1, (Lit.int .i64 n).wf = true) (hy1 : len1 * 8 ≤ 140737488351232) (hn : (Lit.int .i64 n).wf = true) :
    Calls Try.prog 7 #[.slice A len cap, .slice A1 len1 cap1, .int .i64 n] w fun e w' => e = .returned (.bool true) ∧ Below w.heap.size w w' := by
  obtain ⟨l, rfl, hr, hm, hw, hc⟩ := ReadsInt.ofRowC h
  obtain ⟨l1, rfl, hr1, hm1, hw1, hc1⟩ := ReadsInt.ofRowC h1
  exact trailAsks_walk A cap l A1 cap1 l1 n w (Kd.C_of_reads (d := (0 : Int)) (h1 := fun _ => rfl) hr) hc (Kd.C_of_reads (d := (0 : Int)) (h1 := fun _ => rfl) hr1) hc1
end Go.Proofs.Ytemgfcpambbanaa.PT
