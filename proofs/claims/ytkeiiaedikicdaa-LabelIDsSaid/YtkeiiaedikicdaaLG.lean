/- The contracts of annuletref02.Fold, annuletref02.SameRunes. -/
import Derived.Test.YtkeiiaedikicdaaLF
namespace Go.Proofs.Ytkeiiaedikicdaa.PL
open Go.RowKit Go.Proofs.YtkeiiaedikicdaaW.PrintWords Go.Proofs.YtkeiiaedikicdaaW.PrintLast Go.Proofs.YtkeiiaedikicdaaW.PrintMore
attribute [local go_sem] max2_int min2_int max_two min_two max_three min_three max_four min_four
set_option linter.unusedVariables false
set_option linter.unusedSimpArgs false
theorem rb_take {l : List Int} {k : Nat} (h : k < l.length) : runesBytes (l.take (k + 1)) = runesBytes (l.take k) ++ Utf8.encode l[k] := by
  unfold runesBytes
  rw [List.take_succ_eq_append_getElem h, List.foldl_append]
  rfl
theorem lg_short : ∀ (l out : List Int), out.length ≤ 24 → (lg l out).1.length ≤ 24
  | [], out, h => h
  | r :: t, out, h => by
    cases hr : okr r with
    | false => rw [lg_bad hr]; exact Nat.zero_le _
    | true =>
      by_cases h24 : out.length = 24
      · rw [lg_long hr t h24]; exact Nat.zero_le _
      · rw [lg_more hr t h24]
        exact lg_short t _ (by rw [List.length_append]; simp; omega)
theorem ru_short (s : ByteArray) : (RU s).1.length ≤ 24 := by
  unfold RU
  split
  · exact Nat.zero_le _
  · exact lg_short _ _ (Nat.zero_le _)
set_option maxHeartbeats 4000000 in
set_option maxRecDepth 100000 in
theorem refFold_c (s : ByteArray) (w : World) (h : s.size ≤ 140737488355328) : Calls Try.prog 12 #[.string s] w fun e w' => e = .returned (.tuple #[.string (FS s), .int .i64 (RU s).2]) ∧ Below w.heap.size w w' := by
  obtain ⟨l, hl⟩ : ∃ l, l = (RU s).1 := ⟨_, rfl⟩
  obtain ⟨ec, hec⟩ : ∃ e, e = (RU s).2 := ⟨_, rfl⟩
  obtain ⟨n, hn⟩ : ∃ n, n = l.length := ⟨_, rfl⟩
  have HF : Aside0 (FS s = runesBytes l) := ⟨by unfold FS; rw [hl]⟩
  have HS := Aside0.mk h
  rw [← hec, HF.out]
  have HL := Aside0.mk hl
  have HN := Aside0.mk hn
  have HE := Aside0.mk hec
  have HN24 : Aside0 (n ≤ 24) := ⟨by rw [hn, hl]; exact ru_short s⟩
  clear hl hn hec h
  go_enter Try.func12, Try.ntmps12
  go_wp2_with (first
    | (go_at_call 10; (with_reducible refine (refRunes_c s _ HS.out).mono ?_); rintro e w1 ⟨A, c, rfl, _, hC, hb⟩; rw [← HE.out, ← HL.out, ← HN.out]; rw [← HL.out, ← HN.out] at hC; have HB := Aside0.mk hb; have HC := Aside0.mk hC; have hn63 := Kd.C_max hC; clear hC hb))
  go_loopw [6, 7] (fun v6 v7 wr => ∃ (k : Nat) (o : ByteArray), v6 = .string o ∧ v7 = .int .i64 k ∧ k ≤ n ∧ wr = w1 ∧ Aside0 (runesBytes (l.take k) = o)) (fun _ i _ => n - (intOf i).toNat)
  case atStart => exact ⟨0, _, rfl, by go_num, Nat.zero_le _, rfl, ⟨rfl⟩⟩
  case round =>
    obtain ⟨k, o, rfl, rfl, hk, rfl, HO⟩ := hrel
    by_cases hlt : k < n
    · have q1 : (k : Int) < (n : Int) := by omega
      have q0 : (0 : Int) ≤ (k : Int) := by omega
      have hkl : k < l.length := by rw [← HN.out]; exact hlt
      obtain ⟨ad, eA, hcr⟩ := rune_at HC.out hkl
      subst eA
      obtain ⟨r, hr⟩ : ∃ r, r = l[k] := ⟨_, rfl⟩
      rw [← hr] at hcr
      have HO2 : Aside0 (runesBytes (l.take (k + 1)) = o ++ Utf8.encode r) := ⟨by rw [rb_take hkl, HO.out, hr]⟩
      have hsz : o.size + (Utf8.encode r).size ≤ 9223372036854775807 := by
        have h1 := runesBytes_size_le (l.take (k + 1))
        rw [HO2.out, ByteArray.size_append, List.length_take] at h1
        have := HN24.out
        omega
      clear hr
      go_wp2
      go_roundw
      case rel => exact ⟨k + 1, _, rfl, by go_num, by omega, by simp, HO2⟩
      case measure => simp [intOf]; omega
    · have q1 : (n : Int) ≤ (k : Int) := by omega
      have HO2 : Aside0 (runesBytes l = o) := ⟨by rw [← HO.out, List.take_of_length_le (by rw [← HN.out]; omega)]⟩
      go_wp2
      go_ret2
      rw [HO2.out]
      exact ⟨rfl, HB.out⟩
set_option maxHeartbeats 4000000 in
set_option maxRecDepth 100000 in
theorem sameRunes_c {w : World} {A B : Option Addr} {n c d : Nat} {l : List Int} (hA : Kd.C (Kd.int .i32) w A n l) (hB : Kd.C (Kd.int .i32) w B n l) : Calls Try.prog 14 #[.slice A n c, .slice B n d] w fun e w' => e = .returned (.bool true) ∧ Below w.heap.size w w' := by
  have HA := Aside0.mk hA
  have HB := Aside0.mk hB
  have HN := Aside0.mk (Kd.C_len hA)
  have hn63 := Kd.C_max hA
  clear hA hB
  go_enter Try.func14, Try.ntmps14
  go_wp2
  go_loopw [5] (fun v5 wr => ∃ (k : Nat), v5 = .int .i64 k ∧ k ≤ n ∧ Aside0 ((∀ a, wr.cell? a = w.cell? a) ∧ Below w.heap.size w wr)) (fun i _ => n - (intOf i).toNat)
  case atStart => exact ⟨0, by go_num, Nat.zero_le _, ⟨fun _ => rfl, Below.refl _ _⟩⟩
  case round =>
    obtain ⟨k, rfl, hk, HW⟩ := hrel
    by_cases hlt : k < n
    · have q1 : (k : Int) < (n : Int) := by omega
      have q0 : (0 : Int) ≤ (k : Int) := by omega
      have hkl : k < l.length := by rw [HN.out]; exact hlt
      obtain ⟨ad, eA, hca0⟩ := rune_at HA.out hkl
      obtain ⟨bd, eB, hcb0⟩ := rune_at HB.out hkl
      have hca := (HW.out.1 _).trans hca0
      have hcb := (HW.out.1 _).trans hcb0
      clear hca0 hcb0
      subst eA
      subst eB
      obtain ⟨r, hr⟩ : ∃ r, r = l[k] := ⟨_, rfl⟩
      rw [← hr] at hca hcb
      clear hr
      go_wp2
      go_quiet (fail)
      go_wp2
      go_roundw
      case rel => exact ⟨k + 1, by go_num, by omega, ⟨fun a => HW.out.1 a, pw_below_drewN HW.out.2 _⟩⟩
      case measure => simp [intOf]; omega
    · have q1 : (n : Int) ≤ (k : Int) := by omega
      go_wp2
      go_ret
      exact ⟨rfl, HW.out.2⟩
end Go.Proofs.Ytkeiiaedikicdaa.PL
