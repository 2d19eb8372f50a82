/- The walk of TrailSimple. -/
import Derived.Test.YtemgfcpambbanaaC6
namespace Go.Proofs.Ytemgfcpambbanaa.PT
open Go.RowKit Go.Proofs.YtemgfcpambbanaaW.PrintWords Go.Proofs.YtemgfcpambbanaaW.PrintLast Go.Proofs.YtemgfcpambbanaaW.PrintMore
attribute [local go_sem] max2_int min2_int max_two min_two max_three min_three max_four min_four
set_option linter.unusedVariables false
theorem St.held {w0 w : World} {L : List (Option Addr × List Int × Nat)} {A : Option Addr} {l : List Int} {c : Nat} (S : St w0 w L) (h : (A, l, c) ∈ L) (hl : 0 < l.length) : ∃ ad, A = some ad := by
  obtain ⟨ad, e, _⟩ := (S.rd _ _ _ h).1.2.2 hl
  exact ⟨ad, e⟩
theorem St.cell {w0 w : World} {L : List (Option Addr × List Int × Nat)} {ad : Addr} {l : List Int} {c i : Nat} (S : St w0 w L) (h : (some ad, l, c) ∈ L) (hi : i < l.length) : w.cell? (ad.add i) = some (.int .i64 l[i]) := by
  obtain ⟨ad', e, hx⟩ := Kd.at_int (S.rd _ _ _ h).1 (i : Int) (by omega) (by omega)
  injection e with e
  subst e
  rw [Int.toNat_natCast, rd_at hi] at hx
  exact hx
theorem ret_true {b : Bool} (h : b = true) : Ending.returned (.bool b) = .returned (.bool true) := by rw [h]
theorem er_pos {l : List Int} (h : 0 < l.length) : 0 < (er l).length := by
  rcases Nat.eq_zero_or_pos (er l).length with h1 | h1
  · exact absurd (List.eq_nil_of_length_eq_zero h1) (er_ne (List.ne_nil_of_length_pos h))
  · exact h1
set_option maxHeartbeats 4000000 in
set_option maxRecDepth 100000 in
theorem trailSimple_none (A0 : Option Addr) (c0 : Nat) (l0 : List Int) (w : World) (hr0 : Kd.C (Kd.int .i64) w A0 l0.length l0) (hc0 : l0.length ≤ c0) (h0 : l0.length = 0) :
    Calls Try.prog 3 #[.slice A0 l0.length c0] w fun e w' => e = .returned (.bool true) ∧ Below w.heap.size w w' := by
  have HR0 := Aside0.mk hr0
  have HC0 := Aside0.mk hc0
  have H0 := Aside0.mk h0
  clear hr0 hc0 h0
  go_enter Try.func3, Try.ntmps3
  go_wp2_with (first
    | (go_at_call 9; (with_reducible refine (cut_at (St.start w) HR0.out HC0.out 100 100 (by decide) (by decide)).mono ?_); rintro e w0 ⟨A, t, rfl, ht, rfl, S0⟩; have hz : t.length < 1 := (by rw [ht.out, List.length_take]; have := H0.out; omega))
    | (go_at_call 10; (with_reducible refine (erase_st S0 (l := t) (by simp)).mono ?_); rintro e w1 ⟨A1, a, c1, rfl, ha, S1⟩; have hz2 : a.length < 1 := (by rw [ha.out]; have := er_le t; omega))
    | (go_at_call 11; (with_reducible refine (fixed_st S1).mono ?_); rintro e w2 ⟨rfl, S2⟩))
  go_ret
  exact ⟨ret_true (beq_iff_eq.2 (by omega)), S2.old⟩
set_option maxHeartbeats 4000000 in
set_option maxRecDepth 100000 in
theorem trailSimple_some (A0 : Option Addr) (c0 : Nat) (l0 : List Int) (w : World) (hr0 : Kd.C (Kd.int .i64) w A0 l0.length l0) (hc0 : l0.length ≤ c0) (h0 : 0 < l0.length) :
    Calls Try.prog 3 #[.slice A0 l0.length c0] w fun e w' => e = .returned (.bool true) ∧ Below w.heap.size w w' := by
  have HR0 := Aside0.mk hr0
  have HC0 := Aside0.mk hc0
  have H0 := Aside0.mk h0
  clear hr0 hc0 h0
  go_enter Try.func3, Try.ntmps3
  go_wp2_with (first
    | (go_at_call 9; (with_reducible refine (cut_at (St.start w) HR0.out HC0.out 100 100 (by decide) (by decide)).mono ?_); rintro e w0 ⟨A, t, rfl, ht, rfl, S0⟩; have hz : 0 < t.length := (by rw [ht.out, List.length_take]; have := H0.out; omega); obtain ⟨ad, rfl⟩ := St.held S0 (A := A) (l := t) (c := t.length) List.mem_cons_self hz)
    | (go_at_call 10; (with_reducible refine (erase_st S0 (l := t) (by simp)).mono ?_); rintro e w1 ⟨A1, a, c1, rfl, ha, S1⟩; have hz2 : 0 < a.length := (by rw [ha.out]; exact er_pos hz); obtain ⟨ad1, rfl⟩ := St.held S1 (A := A1) (l := a) (c := c1) List.mem_cons_self hz2))
  have K4 : Aside0 (∃ x y : Int, ∀ w', St w w' [(some ad1, a, c1), (some ad, t, t.length)] → w'.cell? ad1 = some (.int .i64 x) ∧ w'.cell? ad = some (.int .i64 x) ∧ w'.cell? (ad1.add (a.length - 1)) = some (.int .i64 y) ∧ w'.cell? (ad.add (t.length - 1)) = some (.int .i64 y)) := ⟨by
    have h1 := er_head t
    have h2 := er_last _ t (Nat.le_refl _)
    rw [← ha.out] at h1 h2
    refine ⟨a[0], a[a.length - 1], fun w' S => ⟨(congrArg w'.cell? (add_nought ad1).symm).trans (S.cell (c := c1) (by simp) hz2), (congrArg w'.cell? (add_nought ad).symm).trans ?_, S.cell (c := c1) (by simp) (by omega), ?_⟩⟩
    · rw [List.getElem?_eq_getElem hz2, List.getElem?_eq_getElem hz] at h1
      rw [Option.some.inj h1]
      exact S.cell (c := t.length) (by simp) hz
    · rw [List.getLast?_eq_getElem?, List.getLast?_eq_getElem?, List.getElem?_eq_getElem (by omega), List.getElem?_eq_getElem (by omega)] at h2
      rw [Option.some.inj h2]
      exact S.cell (c := t.length) (by simp) (by omega)⟩
  obtain ⟨x, y, hK4⟩ := K4.out
  clear K4
  have K4 := Aside0.mk hK4
  clear hK4
  have ba := (S1.rd (some ad1) a c1 (by simp)).2.2
  have bt := (S1.rd (some ad) t t.length (by simp)).2.2
  have w1a : IntKind.i64.wrap ((a.length : Int) - 1) = (a.length : Int) - 1 := IntWalk.i64_in _ (by omega)
  have w1t : IntKind.i64.wrap ((t.length : Int) - 1) = (t.length : Int) - 1 := IntWalk.i64_in _ (by omega)
  have w2a : (1 : Int) ≤ (a.length : Int) := by omega
  have w2t : (1 : Int) ≤ (t.length : Int) := by omega
  have w3a : (a.length : Int) - 1 < (a.length : Int) := by omega
  have w3t : (t.length : Int) - 1 < (t.length : Int) := by omega
  have w4a : ((a.length : Int) - 1).toNat = a.length - 1 := by omega
  have w4t : ((t.length : Int) - 1).toNat = t.length - 1 := by omega
  have w5a : 0 ≤ (a.length : Int) - 1 := by omega
  have w5t : 0 ≤ (t.length : Int) - 1 := by omega
  go_region_held3 (fun w' => St w w' [(some ad1, a, c1), (some ad, t, t.length)] ∧ w'.cell? ad1 = some (.int .i64 x) ∧ w'.cell? ad = some (.int .i64 x) ∧ w'.cell? (ad1.add (a.length - 1)) = some (.int .i64 y) ∧ w'.cell? (ad.add (t.length - 1)) = some (.int .i64 y))
    (first
      | exact ⟨St.step S1 (below_drew (Below.refl _ _)), K4.out _ (St.step S1 (below_drew (Below.refl _ _)))⟩
      | exact ⟨by assumption, K4.out _ (by assumption)⟩)
    ((first
      | (go_at_call 11; (with_reducible refine (fixed_st (w0 := w) (L := [(some ad1, a, c1), (some ad, t, t.length)]) (And.left (by assumption))).mono ?_); rintro e w2 ⟨rfl, S2⟩)
      | (go_at_call 12; (with_reducible refine (refSimple_st (w0 := w) (L := [(some ad1, a, c1), (some ad, t, t.length)]) (And.left (by assumption)) (l := a) (by simp) true (by rw [ha.out]; exact decide_eq_true (er_nodup _ t (Nat.le_refl _)))).mono ?_); rintro e w3 ⟨rfl, hd⟩; have S3 : St w w3 [(some ad1, a, c1), (some ad, t, t.length)] := St.drawn (And.left (by assumption)) hd; clear hd)
      | (go_at_call 13; (with_reducible refine (refJoins_st (w0 := w) (L := [(some ad1, a, c1), (some ad, t, t.length)]) (And.left (by assumption)) (l := a) (m := t) (by simp) (by simp) true (by rw [ha.out]; exact ⟨fun _ => er_joins _ t (Nat.le_refl _), fun _ => rfl⟩)).mono ?_); rintro e w4 ⟨rfl, hd⟩; have S4 : St w w4 [(some ad1, a, c1), (some ad, t, t.length)] := St.drawn (And.left (by assumption)) hd; clear hd)))
  clear w1a w1t w2a w2t w3a w3t w4a w4t w5a w5t
  go_wp2
  go_ret
  exact ⟨rfl, S4.old⟩
theorem trailSimple_walk (A0 : Option Addr) (c0 : Nat) (l0 : List Int) (w : World) (hr0 : Kd.C (Kd.int .i64) w A0 l0.length l0) (hc0 : l0.length ≤ c0) :
    Calls Try.prog 3 #[.slice A0 l0.length c0] w fun e w' => e = .returned (.bool true) ∧ Below w.heap.size w w' := by
  rcases Nat.eq_zero_or_pos l0.length with h | h
  · exact trailSimple_none A0 c0 l0 w hr0 hc0 h
  · exact trailSimple_some A0 c0 l0 w hr0 hc0 h
theorem trailSimple_law (A : Option Addr) (len cap : Nat) (zs : List Int) (w : World) (h : (A = none ∧ len = 0 ∧ cap = 0 ∧ zs = []) ∨ ∃ x, A = some x ∧ len ≤ cap ∧ cap ≤ maxLen ∧ zs.length = cap ∧ (∀ i, i < zs.length → w.cell? (x.add i) = some (.int .i64 (zs.getD i 0))) ∧ ∀ n ∈ zs, (Lit.int .i64 n).wf = true) (hy : len * 8 ≤ 140737488351232) :
    Calls Try.prog 3 #[.slice A len cap] w fun e w' => e = .returned (.bool true) ∧ Below w.heap.size w w' := by
  obtain ⟨l, rfl, hr, hm, hw, hc⟩ := ReadsInt.ofRowC h
  exact trailSimple_walk A cap l w (Kd.C_of_reads (d := (0 : Int)) (h1 := fun _ => rfl) hr) hc
end Go.Proofs.Ytemgfcpambbanaa.PT
