/- A text's runes, and what a label makes of them: plain. -/
import Derived.Test.YtkeiiaedikicdaaL0
import Derived.Lib.TrimUEq
import Derived.Lib.OthersKept
import Derived.Laws.Cover4
namespace Go.Proofs.Ytkeiiaedikicdaa.PL
open Go.RowKit Go.Proofs.YtkeiiaedikicdaaW.PrintWords Go.Proofs.YtkeiiaedikicdaaW.PrintLast Go.Proofs.YtkeiiaedikicdaaW.PrintMore
attribute [local go_sem] max2_int min2_int max_two min_two max_three min_three max_four min_four
set_option linter.unusedVariables false
set_option linter.unusedSimpArgs false
/-- Does a rune stand in a label? -/
def okr (r : Int) : Bool := decide ((65 ≤ r ∧ r ≤ 90) ∨ (97 ≤ r ∧ r ≤ 122) ∨ (48 ≤ r ∧ r ≤ 57) ∨ r = 45 ∨ (161 ≤ r ∧ r ≠ 65533))
/-- The rune as it counts. -/
def fr (r : Int) : Int := if 65 ≤ r ∧ r ≤ 90 then r + 32 else r
/-- The runes from byte pos on. -/
def rlf (s : ByteArray) : Nat → Nat → List Int
  | 0, _ => []
  | f + 1, pos => if pos < s.size then ((Utf8.decode s pos).1 : Int) :: rlf s f (pos + (Utf8.decode s pos).2) else []
def rl (s : ByteArray) (pos : Nat) : List Int := rlf s (s.size - pos) pos
theorem rlf_end (s : ByteArray) : ∀ (f pos : Nat), s.size ≤ pos → rlf s f pos = []
  | 0, _, _ => rfl
  | f + 1, pos, h => by simp [rlf, Nat.not_lt.2 h]
theorem rlf_same (s : ByteArray) : ∀ (f g pos : Nat), s.size ≤ pos + f → s.size ≤ pos + g → rlf s f pos = rlf s g pos
  | 0, g, pos, h, _ => by rw [rlf_end s g pos (by omega)]; rfl
  | f + 1, 0, pos, _, h => by rw [rlf_end s (f + 1) pos (by omega)]; rfl
  | f + 1, g + 1, pos, h1, h2 => by
    have hw := Lib.width_pos s pos
    simp only [rlf]
    split
    · rw [rlf_same s f g _ (by omega) (by omega)]
    · rfl
theorem rl_end {s : ByteArray} {pos : Nat} (h : s.size ≤ pos) : rl s pos = [] := rlf_end s _ pos h
theorem rl_step {s : ByteArray} {pos : Nat} (h : pos < s.size) : rl s pos = ((Utf8.decode s pos).1 : Int) :: rl s (pos + (Utf8.decode s pos).2) := by
  have hw := Lib.width_pos s pos
  unfold rl
  obtain ⟨f, hf⟩ : ∃ f, s.size - pos = f + 1 := ⟨s.size - pos - 1, by omega⟩
  rw [hf]
  simp only [rlf, if_pos h]
  rw [rlf_same s f (s.size - (pos + (Utf8.decode s pos).2)) _ (by omega) (by omega)]
/-- A label's runes as they count, with the answer. -/
def lg : List Int → List Int → List Int × Int
  | [], out => (out, 0)
  | r :: t, out => if okr r then (if out.length = 24 then ([], 4) else lg t (out ++ [fr r])) else ([], 2)
def RU (s : ByteArray) : List Int × Int := if s.size = 0 then ([], 3) else lg (rl s 0) []
theorem lg_bad {r : Int} (h : okr r = false) (t out : List Int) : lg (r :: t) out = ([], 2) := by simp [lg, h]
theorem lg_long {r : Int} (h : okr r = true) (t : List Int) {out : List Int} (hl : out.length = 24) : lg (r :: t) out = ([], 4) := by simp [lg, h, hl]
theorem lg_more {r : Int} (h : okr r = true) (t : List Int) {out : List Int} (hl : out.length ≠ 24) : lg (r :: t) out = lg t (out ++ [fr r]) := by simp [lg, h, hl]
end Go.Proofs.Ytkeiiaedikicdaa.PL
