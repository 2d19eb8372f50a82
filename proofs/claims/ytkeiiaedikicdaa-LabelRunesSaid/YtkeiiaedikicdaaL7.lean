/- A rune and its bytes: plain; the contract of annuletref02.first. -/
import Derived.Test.YtkeiiaedikicdaaL6
import Derived.Laws.IdiomStrings
namespace Go.Proofs.Ytkeiiaedikicdaa.PL
open Go.RowKit Go.Proofs.YtkeiiaedikicdaaW.PrintWords Go.Proofs.YtkeiiaedikicdaaW.PrintLast Go.Proofs.YtkeiiaedikicdaaW.PrintMore
attribute [local go_sem] max2_int min2_int max_two min_two max_three min_three max_four min_four
set_option linter.unusedVariables false
set_option linter.unusedSimpArgs false
theorem b_lt (s : ByteArray) (i : Nat) : (s.get! i).toNat < 256 := UInt8.toNat_lt _
theorem valid_nat (c : Nat) : Utf8.valid (c : Int) = decide (c < 55296 ∨ (57344 ≤ c ∧ c ≤ 1114111)) := by
  rw [Bool.eq_iff_iff]
  simp [Utf8.valid]
  omega
theorem enc_size (c : Nat) (hv : c < 55296 ∨ (57344 ≤ c ∧ c ≤ 1114111)) : (Utf8.encode (c : Int)).size = if c < 128 then 1 else if c < 2048 then 2 else if c < 65536 then 3 else 4 := by
  unfold Utf8.encode
  rw [valid_nat, decide_eq_true hv]
  simp only [if_true, Int.toNat_natCast]
  repeat' split
  all_goals first | rfl | (exfalso; omega)
/-- What a rune's bytes are, by its first four and how many there are. -/
theorem decN (n b0 b1 b2 b3 : Nat) (h0 : b0 < 256) :
    ((Lib.decodeN n b0 b1 b2 b3).1 ≠ 65533 → ((Lib.decodeN n b0 b1 b2 b3).1 < 55296 ∨ (57344 ≤ (Lib.decodeN n b0 b1 b2 b3).1 ∧ (Lib.decodeN n b0 b1 b2 b3).1 ≤ 1114111)) ∧
      (((Lib.decodeN n b0 b1 b2 b3).1 < 128 ∧ (Lib.decodeN n b0 b1 b2 b3).2 = 1) ∨ (128 ≤ (Lib.decodeN n b0 b1 b2 b3).1 ∧ (Lib.decodeN n b0 b1 b2 b3).1 < 2048 ∧ (Lib.decodeN n b0 b1 b2 b3).2 = 2) ∨ (2048 ≤ (Lib.decodeN n b0 b1 b2 b3).1 ∧ (Lib.decodeN n b0 b1 b2 b3).1 < 65536 ∧ (Lib.decodeN n b0 b1 b2 b3).2 = 3) ∨ (65536 ≤ (Lib.decodeN n b0 b1 b2 b3).1 ∧ (Lib.decodeN n b0 b1 b2 b3).2 = 4))) ∧
    ((Lib.decodeN n b0 b1 b2 b3).1 = 65533 → ((Lib.decodeN n b0 b1 b2 b3).2 = 1 ∧ ¬ (3 ≤ n ∧ b0 = 239 ∧ b1 = 191 ∧ b2 = 189)) ∨ ((Lib.decodeN n b0 b1 b2 b3).2 = 3 ∧ 3 ≤ n ∧ b0 = 239 ∧ b1 % 64 = 63 ∧ b1 / 64 = 2 ∧ b2 % 64 = 61 ∧ b2 / 64 = 2)) := by
  unfold Lib.decodeN
  repeat' split
  all_goals (refine ⟨fun h => ⟨?_, ?_⟩, fun h => ?_⟩ <;> (first | omega | (dsimp only at *; omega) | (simp at *; omega)))
theorem get_at {s : ByteArray} {i : Nat} (h : i < s.data.size) : s.data[i] = s.get! i := by
  show _ = s.data[i]!
  rw [getElem!_pos s.data i h]
theorem ext3 {s : ByteArray} (h : 3 ≤ s.size) : s.extract 0 3 = ⟨#[s.get! 0, s.get! 1, s.get! 2]⟩ := by
  have hs : 3 ≤ s.data.size := h
  apply ByteArray.ext
  apply Array.ext
  · simp; omega
  · intro i h1 h2
    simp at h2
    have hi : i < s.data.size := by omega
    simp only [ByteArray.data_extract, Array.getElem_extract, Nat.zero_add]
    rw [get_at]
    rcases (show i = 0 ∨ i = 1 ∨ i = 2 by omega) with rfl | rfl | rfl <;> rfl
theorem u8_eq {a : UInt8} {n : Nat} (hn : n < 256) (h : a.toNat = n) : a = UInt8.ofNat n := by
  apply UInt8.toNat_inj.1
  rw [h]
  simp
  omega
theorem pre_iff {s : ByteArray} (h : 3 ≤ s.size) : s.extract 0 3 = (⟨#[239, 191, 189]⟩ : ByteArray) ↔ (s.get! 0).toNat = 239 ∧ (s.get! 1).toNat = 191 ∧ (s.get! 2).toNat = 189 := by
  rw [ext3 h]
  constructor
  · intro e
    injection e with e
    simp only [Array.mk.injEq, List.cons.injEq, and_true] at e
    rw [e.1, e.2.1, e.2.2]
    exact ⟨rfl, rfl, rfl⟩
  · rintro ⟨a, b, c⟩
    rw [u8_eq (by omega) a, u8_eq (by omega) b, u8_eq (by omega) c]
    rfl
theorem dec_good {s : ByteArray} (h : (Utf8.decode s 0).1 ≠ 65533) : (Utf8.encode ((Utf8.decode s 0).1 : Int)).size = (Utf8.decode s 0).2 := by
  have hd := (decN (s.size - 0) (s.get! 0).toNat (s.get! (0 + 1)).toNat (s.get! (0 + 2)).toNat (s.get! (0 + 3)).toNat (b_lt s 0)).1
  rw [← Lib.decode_at] at hd
  obtain ⟨hv, hw⟩ := hd h
  rw [enc_size _ hv]
  repeat' split
  all_goals omega
theorem dec_bad {s : ByteArray} (h : (Utf8.decode s 0).1 = 65533) : ((Utf8.decode s 0).2 = 1 ∧ ¬ (3 ≤ s.size ∧ s.extract 0 3 = (⟨#[239, 191, 189]⟩ : ByteArray))) ∨ ((Utf8.decode s 0).2 = 3 ∧ 3 ≤ s.size ∧ s.extract 0 3 = (⟨#[239, 191, 189]⟩ : ByteArray)) := by
  have hd := (decN (s.size - 0) (s.get! 0).toNat (s.get! (0 + 1)).toNat (s.get! (0 + 2)).toNat (s.get! (0 + 3)).toNat (b_lt s 0)).2
  rw [← Lib.decode_at] at hd
  simp only [Nat.zero_add, Nat.sub_zero] at hd
  rcases hd h with ⟨h1, h2⟩ | ⟨h1, h2, h3⟩
  · refine .inl ⟨h1, fun ⟨a, b⟩ => h2 ⟨a, ?_⟩⟩
    exact (pre_iff a).1 b
  · exact .inr ⟨h1, h2, (pre_iff h2).2 (by omega)⟩
theorem runes_acc (s : ByteArray) : ∀ (b i : Nat) (acc : Array Value), Conv.runesFrom s b i acc = acc ++ ((rlf s b i).map (Value.int .i32)).toArray
  | 0, i, acc => by simp [Conv.runesFrom, rlf]
  | b + 1, i, acc => by
    simp only [Conv.runesFrom, rlf]
    split
    · rw [runes_acc s b]
      apply Array.ext'
      simp
    · simp
theorem runes_all (s : ByteArray) : Conv.runesFrom s s.size 0 #[] = ((rl s 0).map (Value.int .i32)).toArray := by
  rw [runes_acc]
  simp [rl]
theorem rl_len (s : ByteArray) : ∀ (f pos : Nat), s.size ≤ pos + f → (rlf s f pos).length + pos ≤ s.size ∨ rlf s f pos = []
  | 0, pos, h => .inr rfl
  | f + 1, pos, h => by
    by_cases hp : pos < s.size
    · left
      simp only [rlf, if_pos hp, List.length_cons]
      have hw := Lib.width_pos s pos
      have hl := wd_le hp
      rcases rl_len s f (pos + (Utf8.decode s pos).2) (by omega) with h1 | h1
      · omega
      · rw [h1]; simp; omega
    · right
      simp [rlf, hp]
theorem rl_len0 (s : ByteArray) : (rl s 0).length ≤ s.size := by
  rcases rl_len s (s.size - 0) 0 (by omega) with h | h
  · unfold rl; omega
  · unfold rl; rw [h]; simp
/-- []rune(s). -/
theorem conv_to_runes (w : World) (s : ByteArray) (h : s.size ≤ 70368744177664) : ∃ c w1, (convert 9 22 (.string s)).run Try.prog w = .ok (.slice (some ⟨w.heap.size, 0, none⟩) (rl s 0).length c) w1 ∧ (rl s 0).length ≤ c ∧
    (∀ j, j < (rl s 0).length → w1.cell? ⟨w.heap.size, j, none⟩ = some (.int .i32 ((rl s 0).getD j 0))) ∧ Below w.heap.size w w1 := by
  have hsz : (Conv.runesFrom s s.size 0 #[]).size = (rl s 0).length := by rw [runes_all]; simp
  have h1 := run_runes_of_string (P := Try.prog) w 9 22 21 s Try.underlying9 Try.underlying22 Try.underlying21 (by rw [hsz]; have := rl_len0 s; omega)
  rw [hsz] at h1
  refine ⟨_, _, h1, grownCap_ge w (rl s 0).length 0 21, fun j hj => ?_, below_alloc (below_drew (Below.refl _ _)) _⟩
  have hb : (w.drew.alloc (.cells (Conv.runesFrom s s.size 0 #[] ++ Array.replicate (grownCap w (rl s 0).length 0 21 - (rl s 0).length) (.int .i32 0)) 21)).heap[w.heap.size]? = some (.cells (Conv.runesFrom s s.size 0 #[] ++ Array.replicate (grownCap w (rl s 0).length 0 21 - (rl s 0).length) (.int .i32 0)) 21 (0, 0)) := heap_alloc_new w.drew _
  rw [cell_of_row _ _ j _ 21 (0, 0) hb, runes_all]
  rw [Array.getElem?_append_left (by simpa using hj)]
  simp [List.getD, hj]
end Go.Proofs.Ytkeiiaedikicdaa.PL
