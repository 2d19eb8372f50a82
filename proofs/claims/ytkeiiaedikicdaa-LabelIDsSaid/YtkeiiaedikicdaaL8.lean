/- The contracts of annuletref02.first, annuletref02.Cut. -/
import Derived.Test.YtkeiiaedikicdaaL7
namespace Go.Proofs.Ytkeiiaedikicdaa.PL
open Go.RowKit Go.Proofs.YtkeiiaedikicdaaW.PrintWords Go.Proofs.YtkeiiaedikicdaaW.PrintLast Go.Proofs.YtkeiiaedikicdaaW.PrintMore
attribute [local go_sem] max2_int min2_int max_two min_two max_three min_three max_four min_four
set_option linter.unusedVariables false
set_option linter.unusedSimpArgs false
theorem decode_ext (s : ByteArray) (pos : Nat) : Utf8.decode (s.extract pos s.size) 0 = Utf8.decode s pos := by
  rw [← Lib.decodeL_drop, ← Lib.decodeL_drop]
  congr 1
  simp
  exact List.take_of_length_le (by rw [List.length_drop, Array.length_toList]; exact Nat.le_refl _)
theorem rl_head {s : ByteArray} (h : 0 < s.size) : 0 < (rl s 0).length ∧ (rl s 0).getD 0 0 = ((Utf8.decode s 0).1 : Int) := by
  rw [rl_step h]
  exact ⟨by simp, by simp⟩
theorem bytes_ne {a b : ByteArray} (h : a ≠ b) : (a.toList == b.toList) = false := by
  rw [← beq_toListBytes]
  cases h1 : (a == b) with
  | false => rfl
  | true => exact absurd ((MapKept.bytes_beq a b).1 h1) h
set_option maxHeartbeats 4000000 in
set_option maxRecDepth 100000 in
theorem first_c {s : ByteArray} (w : World) (h0 : 0 < s.size) (h1 : s.size ≤ 70368744177664) : Calls Try.prog 21 #[.string s] w fun e w' =>
    e = .returned (.tuple #[.int .i32 ((Utf8.decode s 0).1 : Int), .int .i64 ((Utf8.decode s 0).2 : Int)]) ∧ Below w.heap.size w w' := by
  obtain ⟨c, w1, hcv, hc, hcell, hb⟩ := conv_to_runes w s h1
  obtain ⟨hl, hh⟩ := rl_head h0
  have hc0 := hcell 0 hl
  rw [hh] at hc0
  obtain ⟨N, hN⟩ : ∃ N, N = (rl s 0).length := ⟨_, rfl⟩
  rw [← hN] at hcv hc hl
  have HB := Aside0.mk hb
  have HG := Aside0.mk (dec_good (s := s))
  have HD := Aside0.mk (dec_bad (s := s))
  obtain ⟨r, hr⟩ : ∃ r, r = (Utf8.decode s 0).1 := ⟨_, rfl⟩
  obtain ⟨d, hd⟩ : ∃ d, d = (Utf8.decode s 0).2 := ⟨_, rfl⟩
  rw [← hr, ← hd] at HG HD
  rw [← hr] at hc0
  rw [← hr, ← hd]
  have HDL : Aside0 (d ≤ s.size) := ⟨by rw [hd]; have := wd_le h0; omega⟩
  clear hcell hh hN hb hr hd
  by_cases hrr : r = 65533
  · subst hrr
    have q1 : (((65533 : Nat) : Int) == 65533) = true := rfl
    rcases HD.out rfl with ⟨e1, hno⟩ | ⟨e1, h3, hyes⟩
    · by_cases h3 : s.size < 3
      · have q2 : (s.size : Int) < 3 := by omega
        subst e1
        clear HG HD HDL hno
        go_enter Try.func21, Try.ntmps21
        go_wp2
        go_ret2
        exact ⟨by first | rfl | simp, HB.out⟩
      · have q2 : (3 : Int) ≤ (s.size : Int) := by omega
        have hne : ((s.extract 0 3).toList == [239, 191, 189]) = false := by
          have h := bytes_ne (a := s.extract 0 3) (b := ⟨#[239, 191, 189]⟩) (fun e => hno ⟨by omega, e⟩)
          rw [show (⟨#[239, 191, 189]⟩ : ByteArray).toList = [239, 191, 189] by kernel_rfl] at h
          exact h
        subst e1
        clear HG HD HDL hno
        go_enter Try.func21, Try.ntmps21
        go_wp2
        go_ret2
        exact ⟨by first | rfl | simp, HB.out⟩
    · have q2 : (3 : Int) ≤ (s.size : Int) := by omega
      have heq : ((s.extract 0 3).toList == [239, 191, 189]) = true := by rw [hyes]; kernel_rfl
      have q4 : (Utf8.encode 65533).size = 3 := by kernel_rfl
      subst e1
      clear HG HD HDL hyes
      go_enter Try.func21, Try.ntmps21
      go_wp2
      go_quiet (fail)
      go_wp2
      go_ret2
      exact ⟨by first | rfl | simp, pw_below_drewN HB.out _⟩
  · have q1 : ((r : Int) == 65533) = false := by rw [beq_eq_false_iff_ne]; omega
    have q4 := HG.out hrr
    clear HG HD HDL
    go_enter Try.func21, Try.ntmps21
    go_wp2
    go_quiet (fail)
    go_wp2
    go_ret2
    exact ⟨rfl, pw_below_drewN HB.out _⟩
set_option maxHeartbeats 4000000 in
set_option maxRecDepth 100000 in
theorem refCut_c (s : ByteArray) (n : Int) (w : World) (hn : n ≤ 9223372036854775807) (hs : s.size ≤ 70368744177664) : Calls Try.prog 17 #[.string s, .int .i64 n] w fun e w' => e = .returned (.tuple #[.string (C1 s n), .string (C2 s n)]) ∧ Below w.heap.size w w' := by
  obtain ⟨q, hq⟩ : ∃ q, q = adv s n.toNat 0 := ⟨_, rfl⟩
  have e1 : C1 s n = s.extract 0 q := by unfold C1; rw [hq]
  have e2 : C2 s n = s.extract q s.size := by unfold C2; rw [hq]
  rw [e1, e2]
  have HQ0 := Aside0.mk hq
  clear e1 e2 hq
  go_enter Try.func17, Try.ntmps17
  go_wp2
  go_loopw [1, 6, 7, 8] (fun v1 v6 _ _ wr => ∃ (pos : Nat) (k : Int), v1 = .int .i64 k ∧ v6 = .int .i64 pos ∧ k ≤ 9223372036854775807 ∧ (0 < n → 0 ≤ k) ∧ (n ≤ 0 → k = n) ∧ pos ≤ s.size ∧ Aside0 (q = adv s k.toNat pos) ∧ Aside0 (Below w.heap.size w wr)) (fun _ i _ _ _ => s.size - (intOf i).toNat)
  case atStart => exact ⟨0, n, rfl, by go_num, hn, fun h => by omega, fun _ => rfl, Nat.zero_le _, HQ0, ⟨Below.refl _ _⟩⟩
  case round =>
    obtain ⟨pos, k, rfl, rfl, hk, hk0, hk1, hps, HQ, HB⟩ := hrel
    obtain ⟨wo, rfl⟩ : ∃ wo : World, wo = wr := ⟨_, rfl⟩
    by_cases hp : pos < s.size
    · have q1 : (pos : Int) < (s.size : Int) := by omega
      by_cases hk2 : 0 < k
      · obtain ⟨m, rfl⟩ : ∃ m : Nat, k = (m : Int) := ⟨k.toNat, by omega⟩
        have HA : Aside0 (q = adv s (m - 1) (pos + (Utf8.decode s pos).2)) := ⟨by
          rw [HQ.out, Int.toNat_natCast]
          obtain ⟨j, rfl⟩ : ∃ j, m = j + 1 := ⟨m - 1, by omega⟩
          exact adv_step hp⟩
        have HF : Aside0 (∀ w, Calls Try.prog 21 #[.string (s.extract pos s.size)] w fun e w' => e = .returned (.tuple #[.int .i32 ((Utf8.decode s pos).1 : Int), .int .i64 ((Utf8.decode s pos).2 : Int)]) ∧ Below w.heap.size w w') := ⟨fun w => by
          have hz : (s.extract pos s.size).size = s.size - pos := by simp
          have h := first_c (s := s.extract pos s.size) w (by omega) (by omega)
          have e : Utf8.decode (s.extract pos s.size) 0 = Utf8.decode s pos := decode_ext s pos
          rw [e] at h
          exact h⟩
        obtain ⟨r, hr⟩ : ∃ r, r = (Utf8.decode s pos).1 := ⟨_, rfl⟩
        obtain ⟨d, hd⟩ : ∃ d, d = (Utf8.decode s pos).2 := ⟨_, rfl⟩
        have hw1 : 1 ≤ d := by rw [hd]; exact Lib.width_pos s pos
        have hw2 : pos + d ≤ s.size := by rw [hd]; exact wd_le hp
        rw [← hr, ← hd] at HF
        rw [← hd] at HA
        clear hr hd
        go_wp2_with (first
          | (go_at_call 21; (with_reducible refine (HF.out wo).mono ?_); rintro e w1 ⟨rfl, hb⟩; have HB1 := Aside0.mk (HB.out.trans (hb.mono HB.out.size)); clear hb))
        go_roundw
        case rel => exact ⟨pos + d, (m : Int) - 1, by go_num, by go_num, by omega, fun _ => by omega, fun h => by omega, hw2, ⟨by rw [HA.out]; congr 1; omega⟩, HB1⟩
        case measure => simp [intOf]; omega
      · have q2 : k ≤ 0 := by omega
        have HE : Aside0 (q = pos) := ⟨by
          rw [HQ.out]
          have : k.toNat = 0 := by omega
          rw [this]; rfl⟩
        go_wp2
        go_quiet (fail)
        go_wp2
        go_ret2
        rw [HE.out]
        exact ⟨rfl, pw_below_drewN HB.out _⟩
    · have q1 : (s.size : Int) ≤ (pos : Int) := by omega
      have HE : Aside0 (q = pos) := ⟨by rw [HQ.out, adv_end _ hp]⟩
      go_wp2
      go_quiet (fail)
      go_wp2
      go_ret2
      rw [HE.out]
      exact ⟨rfl, pw_below_drewN HB.out _⟩
end Go.Proofs.Ytkeiiaedikicdaa.PL
