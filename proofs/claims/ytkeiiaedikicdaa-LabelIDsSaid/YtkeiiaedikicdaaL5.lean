/- The contract of label.Cut. -/
import Derived.Test.YtkeiiaedikicdaaL4
namespace Go.Proofs.Ytkeiiaedikicdaa.PL
open Go.RowKit Go.Proofs.YtkeiiaedikicdaaW.PrintWords Go.Proofs.YtkeiiaedikicdaaW.PrintLast Go.Proofs.YtkeiiaedikicdaaW.PrintMore
attribute [local go_sem] max2_int min2_int max_two min_two max_three min_three max_four min_four
set_option linter.unusedVariables false
set_option linter.unusedSimpArgs false
theorem wd_le {s : ByteArray} {pos : Nat} (h : pos < s.size) : pos + (Utf8.decode s pos).2 ≤ s.size := by
  rw [Lib.decode_at]
  obtain ⟨m, hm⟩ : ∃ m, m = s.size - pos := ⟨_, rfl⟩
  rw [← hm]
  have h0 : pos + m = s.size := by omega
  suffices h : (Lib.decodeN m (s.get! pos).toNat (s.get! (pos + 1)).toNat (s.get! (pos + 2)).toNat (s.get! (pos + 3)).toNat).2 ≤ m by omega
  unfold Lib.decodeN
  repeat' split
  all_goals (simp only; omega)
/-- The place behind n runes from pos on. -/
def adv (s : ByteArray) : Nat → Nat → Nat
  | 0, pos => pos
  | n + 1, pos => if pos < s.size then adv s n (pos + (Utf8.decode s pos).2) else pos
theorem adv_end {s : ByteArray} : ∀ (n : Nat) {pos : Nat}, ¬ pos < s.size → adv s n pos = pos
  | 0, _, _ => rfl
  | n + 1, pos, h => by simp [adv, h]
theorem adv_step {s : ByteArray} {n pos : Nat} (h : pos < s.size) : adv s (n + 1) pos = adv s n (pos + (Utf8.decode s pos).2) := by simp [adv, h]
theorem adv_le {s : ByteArray} : ∀ (n : Nat) {pos : Nat}, pos ≤ s.size → adv s n pos ≤ s.size
  | 0, _, h => h
  | n + 1, pos, h => by
    by_cases hp : pos < s.size
    · rw [adv_step hp]
      exact adv_le n (wd_le hp)
    · rw [adv_end _ hp]
      exact h
theorem ext_all (s : ByteArray) : s.extract 0 s.size = s := by simp
theorem ext_none (s : ByteArray) (n : Nat) : s.extract n n = ⟨#[]⟩ := by
  apply ByteArray.ext
  simp
/-- The two parts. -/
def C1 (s : ByteArray) (n : Int) : ByteArray := s.extract 0 (adv s n.toNat 0)
def C2 (s : ByteArray) (n : Int) : ByteArray := s.extract (adv s n.toNat 0) s.size
set_option maxHeartbeats 2000000 in
set_option maxRecDepth 100000 in
theorem cut_none {s : ByteArray} {n : Int} (w : World) (h : n < 1) : Calls Try.prog 16 #[.string s, .int .i64 n] w fun e w' => e = .returned (.tuple #[.string (C1 s n), .string (C2 s n)]) ∧ Below w.heap.size w w' := by
  have h0 : n.toNat = 0 := by omega
  have e1 : C1 s n = ⟨#[]⟩ := by unfold C1; rw [h0]; exact ext_none s 0
  have e2 : C2 s n = s := by unfold C2; rw [h0]; exact ext_all s
  rw [e1, e2]
  clear e1 e2 h0
  go_enter Try.func16, Try.ntmps16
  go_wp2
  go_ret2
  exact ⟨rfl, Below.refl _ _⟩
set_option maxHeartbeats 4000000 in
set_option maxRecDepth 100000 in
theorem cut_some {s : ByteArray} {n : Int} (w : World) (h : ¬ n < 1) (hn : n ≤ 9223372036854775807) (hs : s.size ≤ 140737488355328) : Calls Try.prog 16 #[.string s, .int .i64 n] w fun e w' => e = .returned (.tuple #[.string (C1 s n), .string (C2 s n)]) ∧ Below w.heap.size w w' := by
  obtain ⟨m, hm⟩ : ∃ m : Nat, m = n.toNat := ⟨_, rfl⟩
  have hnm : n = (m : Int) := by omega
  subst hnm
  have hm1 : 1 ≤ m := by omega
  have hm2 : m ≤ 9223372036854775807 := by omega
  obtain ⟨q, hq⟩ : ∃ q, q = adv s m 0 := ⟨_, rfl⟩
  have e1 : C1 s (m : Int) = s.extract 0 q := by unfold C1; rw [Int.toNat_natCast, hq]
  have e2 : C2 s (m : Int) = s.extract q s.size := by unfold C2; rw [Int.toNat_natCast, hq]
  rw [e1, e2]
  have HQ0 := Aside0.mk hq
  clear e1 e2 hm h hn hq
  go_enter Try.func16, Try.ntmps16
  go_wp2
  have HB0 : Aside0 (Below w.heap.size w (w.iter s 0)) := ⟨below_alloc (Below.refl _ _) _⟩
  have HI0 := Aside0.mk (World.iter_heap w s 0)
  go_loopw [1, 6] (fun v1 _ wr => ∃ (pos k : Nat), v1 = .int .i64 k ∧ k ≤ m ∧ pos ≤ s.size ∧ wr.heap[w.heap.size]? = some (.stringIter s pos) ∧ Aside0 (q = adv s k pos) ∧ Aside0 (Below w.heap.size w wr)) (fun _ _ wr => s.size - wr.iterPos w.heap.size)
  case atStart => exact ⟨0, m, rfl, Nat.le_refl _, Nat.zero_le _, HI0.out, HQ0, HB0⟩
  case round =>
    obtain ⟨pos, k, rfl, hk, hps, hit, HQ, HB⟩ := hrel
    obtain ⟨wo, rfl⟩ : ∃ wo : World, wo = wr := ⟨_, rfl⟩
    have HIP := Aside0.mk (iterPos_of hit)
    have HIT := Aside0.mk hit
    by_cases hp : pos < s.size
    · have hnx := fun ty => Lib.run_next_any_at (P := Try.prog) wo w.heap.size s pos ty hit hp
      obtain ⟨p2, hp2⟩ : ∃ p2 : Nat, p2 = pos + (Utf8.decode s pos).2 := ⟨_, rfl⟩
      rw [← hp2] at hnx
      have HP2 : Aside0 (pos < p2 ∧ p2 ≤ s.size) := ⟨by have := Lib.width_pos s pos; have := wd_le hp; omega⟩
      have HBI : Aside0 (Below w.heap.size w (wo.iterAt w.heap.size s p2)) := ⟨Lib.below_iterAt HB.out (Nat.le_refl _) s p2⟩
      have HII : Aside0 ((wo.iterAt w.heap.size s p2).heap[w.heap.size]? = some (.stringIter s p2)) := ⟨Lib.iterAt_heap wo w.heap.size s pos p2 HIT.out⟩
      have HAS : Aside0 (∀ j, adv s (j + 1) pos = adv s j p2) := ⟨fun j => by rw [hp2]; exact adv_step hp⟩
      clear hp2 hit
      by_cases h0 : k = 0
      · subst h0
        have HQQ : Aside0 (q = pos) := ⟨HQ.out⟩
        go_wp2
        go_quiet (fail)
        go_wp2
        go_ret2
        rw [HQQ.out]
        exact ⟨rfl, pw_below_drewN HBI.out _⟩
      · have q0 : ((k : Int) == 0) = false := beq_eq_false_iff_ne.2 (by omega)
        go_wp2
        go_roundw
        case rel => exact ⟨p2, k - 1, by go_num, by omega, HP2.out.2, HII.out, ⟨by rw [← HAS.out]; rw [HQ.out]; congr 1; omega⟩, HBI⟩
        case measure => rw [iterPos_of HII.out, HIP.out]; have := HP2.out; omega
    · have hnx := fun ty => Lib.run_next_end_at (P := Try.prog) wo w.heap.size s pos ty hit hp
      have HE : Aside0 (q = s.size) := ⟨by rw [HQ.out, adv_end _ hp]; omega⟩
      go_wp2
      go_ret2
      rw [HE.out, ext_all, ext_none]
      exact ⟨rfl, HB.out⟩
theorem cut_c (s : ByteArray) (n : Int) (w : World) (hn : n ≤ 9223372036854775807) (hs : s.size ≤ 140737488355328) : Calls Try.prog 16 #[.string s, .int .i64 n] w fun e w' => e = .returned (.tuple #[.string (C1 s n), .string (C2 s n)]) ∧ Below w.heap.size w w' := by
  by_cases h : n < 1
  · exact cut_none w h
  · exact cut_some w h hn hs
end Go.Proofs.Ytkeiiaedikicdaa.PL
