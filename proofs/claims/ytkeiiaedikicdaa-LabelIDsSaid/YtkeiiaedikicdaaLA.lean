/- The parts of a text: plain. -/
import Derived.Test.YtkeiiaedikicdaaL8
namespace Go.Proofs.Ytkeiiaedikicdaa.PL
open Go.RowKit Go.Proofs.YtkeiiaedikicdaaW.PrintWords Go.Proofs.YtkeiiaedikicdaaW.PrintLast Go.Proofs.YtkeiiaedikicdaaW.PrintMore
attribute [local go_sem] max2_int min2_int max_two min_two max_three min_three max_four min_four
set_option linter.unusedVariables false
set_option linter.unusedSimpArgs false
/-- What is read behind place q of the part behind q is what is read in the text. -/
theorem dec_back (s : ByteArray) (q i : Nat) : Utf8.decode (s.extract q s.size) i = Utf8.decode s (q + i) := by
  rw [← Lib.decodeL_drop, ← Lib.decodeL_drop]
  congr 1
  simp
  rw [List.take_of_length_le (by rw [List.length_drop, Array.length_toList]; exact Nat.le_refl _), List.drop_drop]
set_option maxHeartbeats 4000000 in
set_option maxRecDepth 100000 in
theorem decN_front (n m b0 b1 b2 b3 : Nat) (c1 c2 c3 : Nat) (h1 : 1 < m → c1 = b1) (h2 : 2 < m → c2 = b2) (h3 : 3 < m → c3 = b3) (hm : m ≤ n) (hw : (Lib.decodeN n b0 b1 b2 b3).2 ≤ m) : Lib.decodeN m b0 c1 c2 c3 = Lib.decodeN n b0 b1 b2 b3 := by
  generalize hp : Lib.decodeN n b0 b1 b2 b3 = p at hw ⊢
  by_cases k1 : 1 < m
  · have e1 := h1 k1
    subst e1
    by_cases k2 : 2 < m
    · have e2 := h2 k2
      subst e2
      by_cases k3 : 3 < m
      · have e3 := h3 k3
        subst e3
        unfold Lib.decodeN at hp ⊢
        repeat' split at hp
        all_goals (subst hp; dsimp only at hw; repeat' split)
        all_goals first | (exfalso; omega) | rfl
      · clear h1 h2 h3
        unfold Lib.decodeN at hp ⊢
        repeat' split at hp
        all_goals (subst hp; dsimp only at hw; repeat' split)
        all_goals first | (exfalso; omega) | rfl
    · clear h1 h2 h3
      unfold Lib.decodeN at hp ⊢
      repeat' split at hp
      all_goals (subst hp; dsimp only at hw; repeat' split)
      all_goals first | (exfalso; omega) | rfl
  · clear h1 h2 h3
    unfold Lib.decodeN at hp ⊢
    repeat' split at hp
    all_goals (subst hp; dsimp only at hw; repeat' split)
    all_goals first | (exfalso; omega) | rfl
theorem get_front {s : ByteArray} {q i : Nat} (hq : q ≤ s.size) (hi : i < q) : (s.extract 0 q).get! i = s.get! i := by
  have h1 : i < (s.extract 0 q).data.size := by
    show i < (s.extract 0 q).size
    simp; omega
  have h2 : i < s.data.size := by
    have : s.data.size = s.size := rfl
    omega
  rw [← get_at h1, ← get_at h2]
  simp
/-- What is read ahead of place q is what is read in the text, where it ends ahead of q. -/
theorem dec_front {s : ByteArray} {q i : Nat} (hq : q ≤ s.size) (hi : i < q) (hw : i + (Utf8.decode s i).2 ≤ q) : Utf8.decode (s.extract 0 q) i = Utf8.decode s i := by
  have hz : (s.extract 0 q).size = q := by simp; omega
  rw [Lib.decode_at] at hw
  rw [Lib.decode_at, Lib.decode_at, hz, get_front hq hi]
  refine decN_front _ _ _ _ _ _ _ _ _ (fun h => ?_) (fun h => ?_) (fun h => ?_) (by omega) (by omega)
  · rw [get_front hq (by omega)]
  · rw [get_front hq (by omega)]
  · rw [get_front hq (by omega)]
/-- Each rune is one that is read. -/
theorem rlf_back (s : ByteArray) (q : Nat) (hq : q ≤ s.size) : ∀ (f i : Nat), rlf (s.extract q s.size) f i = rlf s f (q + i)
  | 0, _ => rfl
  | f + 1, i => by
    have hz : (s.extract q s.size).size = s.size - q := by simp
    have e : (i < s.size - q) = (q + i < s.size) := propext ⟨fun h => by omega, fun h => by omega⟩
    simp only [rlf, hz, dec_back, rlf_back s q hq f, e, Nat.add_assoc]
theorem rl_back {s : ByteArray} {q : Nat} (hq : q ≤ s.size) : rl (s.extract q s.size) 0 = rl s q := by
  have hz : (s.extract q s.size).size = s.size - q := by simp
  unfold rl
  rw [rlf_back s q hq, hz, Nat.add_zero, Nat.sub_zero]
theorem adv_ge (s : ByteArray) : ∀ (n pos : Nat), pos ≤ adv s n pos
  | 0, _ => Nat.le_refl _
  | n + 1, pos => by
    by_cases h : pos < s.size
    · rw [adv_step h]
      have := adv_ge s n (pos + (Utf8.decode s pos).2)
      omega
    · rw [adv_end _ h]
      exact Nat.le_refl _
/-- The runes of the part in front. -/
theorem rl_front {s : ByteArray} {q : Nat} (hq : q ≤ s.size) : ∀ (n pos : Nat), pos ≤ s.size → q = adv s n pos → (rl (s.extract 0 q) pos).length ≤ n ∧ rl s pos = rl (s.extract 0 q) pos ++ rl s q
  | 0, pos, hp, e => by
    have e' : q = pos := e
    subst e'
    have hz : (s.extract 0 q).size = q := by simp; omega
    rw [rl_end (s := s.extract 0 q) (by omega)]
    exact ⟨Nat.le_refl _, rfl⟩
  | n + 1, pos, hp, e => by
    by_cases h : pos < s.size
    · have hz : (s.extract 0 q).size = q := by simp; omega
      rw [adv_step h] at e
      have hw := Lib.width_pos s pos
      have hl := wd_le h
      have hge := adv_ge s n (pos + (Utf8.decode s pos).2)
      obtain ⟨h1, h2⟩ := rl_front hq n (pos + (Utf8.decode s pos).2) hl e
      have hd := dec_front hq (i := pos) (by omega) (by omega)
      rw [rl_step (s := s.extract 0 q) (by omega), rl_step h, hd, h2]
      exact ⟨by simp; exact h1, rfl⟩
    · rw [adv_end _ h] at e
      subst e
      have hz : (s.extract 0 q).size = q := by simp; omega
      rw [rl_end (s := s.extract 0 q) (by omega)]
      exact ⟨Nat.zero_le _, rfl⟩
theorem lg_ok : ∀ (l out : List Int), out.length ≤ 24 → ((lg l out).2 = 0 ↔ (∀ r ∈ l, okr r = true) ∧ out.length + l.length ≤ 24)
  | [], out, h => by simp [lg, h]
  | r :: t, out, h => by
    cases hr : okr r with
    | false => simp [lg, hr]
    | true =>
      by_cases h24 : out.length = 24
      · rw [lg_long hr t h24]
        simp
        intro _ _
        omega
      · rw [lg_more hr t h24, lg_ok t (out ++ [fr r]) (by simp; omega)]
        simp [hr]
        intro _
        omega
theorem ru_ok (s : ByteArray) : (RU s).2 = 0 ↔ s.size ≠ 0 ∧ (∀ r ∈ rl s 0, okr r = true) ∧ (rl s 0).length ≤ 24 := by
  unfold RU
  by_cases h : s.size = 0
  · simp [h]
  · rw [if_neg h, lg_ok _ _ (by simp)]
    simp [h]
/-- What LabelParts asks. -/
theorem parts_ok (s : ByteArray) (n : Int) : C1 s n ++ C2 s n = s ∧ (rl (C1 s n) 0).length ≤ n.toNat ∧ ((RU s).2 = 0 → ((C1 s n).size = 0 ∨ (RU (C1 s n)).2 = 0) ∧ ((C2 s n).size = 0 ∨ (RU (C2 s n)).2 = 0)) := by
  obtain ⟨q, hq⟩ : ∃ q, q = adv s n.toNat 0 := ⟨_, rfl⟩
  have hqs : q ≤ s.size := by rw [hq]; exact adv_le _ (Nat.zero_le _)
  have e1 : C1 s n = s.extract 0 q := by unfold C1; rw [hq]
  have e2 : C2 s n = s.extract q s.size := by unfold C2; rw [hq]
  rw [e1, e2]
  obtain ⟨h1, h2⟩ := rl_front hqs n.toNat 0 (Nat.zero_le _) hq
  refine ⟨?_, h1, fun h => ?_⟩
  · apply ByteArray.ext
    simp
  · obtain ⟨_, h3, h4⟩ := (ru_ok s).1 h
    rw [h2] at h3 h4
    rw [List.length_append] at h4
    constructor
    · by_cases hz : (s.extract 0 q).size = 0
      · exact .inl hz
      · exact .inr ((ru_ok _).2 ⟨hz, fun r hr => h3 r (List.mem_append_left _ hr), by omega⟩)
    · by_cases hz : (s.extract q s.size).size = 0
      · exact .inl hz
      · refine .inr ((ru_ok _).2 ⟨hz, fun r hr => ?_, ?_⟩)
        · rw [rl_back hqs] at hr
          exact h3 r (List.mem_append_right _ hr)
        · rw [rl_back hqs]
          omega
end Go.Proofs.Ytkeiiaedikicdaa.PL
