/- The contracts of label.Fold, label.Same. -/
import Derived.Test.YtkeiiaedikicdaaL3
namespace Go.Proofs.Ytkeiiaedikicdaa.PL
open Go.RowKit Go.Proofs.YtkeiiaedikicdaaW.PrintWords Go.Proofs.YtkeiiaedikicdaaW.PrintLast Go.Proofs.YtkeiiaedikicdaaW.PrintMore
attribute [local go_sem] max2_int min2_int max_two min_two max_three min_three max_four min_four
set_option linter.unusedVariables false
set_option linter.unusedSimpArgs false
/-- The label as it counts. -/
def FS (s : ByteArray) : ByteArray := runesBytes (RU s).1
/-- Do two texts count as one? -/
def SM (a b : ByteArray) : Bool := decide ((RU a).2 = 0) && decide ((RU b).2 = 0) && (FS a == FS b)
theorem conv_runes {w : World} {A : Option Addr} {n c : Nat} {l : List Int} (h : Kd.C (Kd.int .i32) w A n l) : (convert 22 9 (.slice A n c)).run Try.prog w = .ok (.string (runesBytes l)) w := by
  have hn := Kd.C_len h
  cases A with
  | none =>
    have h0 : l = [] := by
      rcases Nat.eq_zero_or_pos n with h0 | h0
      · exact List.length_eq_zero_iff.1 (by omega)
      · obtain ⟨_, _, e, _⟩ := Kd.C_get h (0 : Int) 0 (by omega) (by omega)
        cases e
    subst h0
    exact run_convert_runes_nil w 22 9 21 n c Try.underlying22 Try.underlying21 Try.underlying9
  | some a =>
    have hc : ∀ j, j < l.length → w.cell? (a.add j) = some (.int .i32 (l.getD j 0)) := fun j hj => by
      obtain ⟨ad, cs, e, _, hK, hc0⟩ := Kd.C_get h (0 : Int) (j : Int) (by omega) (by omega)
      have hK' : cs = [.int .i32 (l.getD j 0)] := hK
      subst hK'
      injection e with e
      subst e
      have hc1 : ∀ i u, ([.int .i32 (l.getD j 0)] : List Value)[i]? = some u → w.cell? (a.add (j * 1 + i)) = some u := hc0
      have := hc1 0 _ rfl
      simpa using this
    have := run_convert_runes (P := Try.prog) w 22 9 21 a n c l (by omega) Try.underlying22 Try.underlying21 Try.underlying9 hc
    rw [List.take_of_length_le (by omega)] at this
    exact this
set_option maxHeartbeats 2000000 in
set_option maxRecDepth 100000 in
theorem foldS_c (s : ByteArray) (w : World) : Calls Try.prog 11 #[.string s] w fun e w' => e = .returned (.tuple #[.string (FS s), .int .i64 (RU s).2]) ∧ Below w.heap.size w w' := by
  go_enter Try.func11, Try.ntmps11
  go_wp2_with (first
    | (go_at_call 9; (with_reducible refine (runes_c s w).mono ?_); rintro e w1 ⟨A, c, rfl, _, hC, hb⟩; have HB := Aside0.mk hb; have hcv := conv_runes (c := c) hC; clear hC hb))
  go_ret2
  exact ⟨rfl, HB.out⟩
theorem bytes_eq_of (a b : ByteArray) (h : (a == b) = true) : a = b := (MapKept.bytes_beq a b).1 h
set_option maxHeartbeats 2000000 in
set_option maxRecDepth 100000 in
theorem same_c (a b : ByteArray) (w : World) : Calls Try.prog 15 #[.string a, .string b] w fun e w' => e = .returned (.bool (SM a b)) ∧ Below w.heap.size w w' := by
  obtain ⟨fa, hfa⟩ : ∃ x, x = FS a := ⟨_, rfl⟩
  obtain ⟨fb, hfb⟩ : ∃ x, x = FS b := ⟨_, rfl⟩
  obtain ⟨ea, hea⟩ : ∃ x, x = (RU a).2 := ⟨_, rfl⟩
  obtain ⟨eb, heb⟩ : ∃ x, x = (RU b).2 := ⟨_, rfl⟩
  have hA : ∀ w, Calls Try.prog 11 #[.string a] w fun e w' => e = .returned (.tuple #[.string fa, .int .i64 ea]) ∧ Below w.heap.size w w' := fun w => by rw [hfa, hea]; exact foldS_c a w
  have hB : ∀ w, Calls Try.prog 11 #[.string b] w fun e w' => e = .returned (.tuple #[.string fb, .int .i64 eb]) ∧ Below w.heap.size w w' := fun w => by rw [hfb, heb]; exact foldS_c b w
  have HA := Aside0.mk hA
  have HB := Aside0.mk hB
  have e0 : SM a b = (decide (ea = 0) && decide (eb = 0) && (fa == fb)) := by unfold SM; rw [← hfa, ← hfb, ← hea, ← heb]
  rw [e0]
  clear e0 hfa hfb hea heb hA hB
  cases h1 : decide (ea = 0) with
  | false =>
    have h1' : (ea == 0) = false := by rw [beq_eq_false_iff_ne]; exact of_decide_eq_false h1
    clear h1
    go_enter Try.func15, Try.ntmps15
    go_wp2_with (first
      | (go_at_call 11; (with_reducible refine (HA.out w).mono ?_); rintro e w1 ⟨rfl, hb⟩; have HB1 := Aside0.mk hb; clear hb)
      | (go_at_call 11; (with_reducible refine (HB.out w1).mono ?_); rintro e w2 ⟨rfl, hb⟩; have HB2 := Aside0.mk hb; clear hb))
    go_ret
    exact ⟨rfl, HB1.out.trans (HB2.out.mono HB1.out.size)⟩
  | true =>
    have h1' : (ea == 0) = true := by rw [beq_iff_eq]; exact of_decide_eq_true h1
    clear h1
    cases h2 : decide (eb = 0) with
    | false =>
      have h2' : (eb == 0) = false := by rw [beq_eq_false_iff_ne]; exact of_decide_eq_false h2
      clear h2
      go_enter Try.func15, Try.ntmps15
      go_wp2_with (first
        | (go_at_call 11; (with_reducible refine (HA.out w).mono ?_); rintro e w1 ⟨rfl, hb⟩; have HB1 := Aside0.mk hb; clear hb)
        | (go_at_call 11; (with_reducible refine (HB.out w1).mono ?_); rintro e w2 ⟨rfl, hb⟩; have HB2 := Aside0.mk hb; clear hb))
      go_ret
      exact ⟨rfl, HB1.out.trans (HB2.out.mono HB1.out.size)⟩
    | true =>
      have h2' : (eb == 0) = true := by rw [beq_iff_eq]; exact of_decide_eq_true h2
      clear h2
      go_enter Try.func15, Try.ntmps15
      go_wp2_with (first
        | (go_at_call 11; (with_reducible refine (HA.out w).mono ?_); rintro e w1 ⟨rfl, hb⟩; have HB1 := Aside0.mk hb; clear hb)
        | (go_at_call 11; (with_reducible refine (HB.out w1).mono ?_); rintro e w2 ⟨rfl, hb⟩; have HB2 := Aside0.mk hb; clear hb))
      go_ret
      exact ⟨by simp [beq_toListBytes], HB1.out.trans (HB2.out.mono HB1.out.size)⟩
end Go.Proofs.Ytkeiiaedikicdaa.PL
