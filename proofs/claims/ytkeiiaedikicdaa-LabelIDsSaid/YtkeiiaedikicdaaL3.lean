/- The contract of label.Runes. -/
import Derived.Test.YtkeiiaedikicdaaL2
import Derived.MapKept
import Derived.Laws.StructEq
import Derived.WalkSmall
namespace Go.Proofs.Ytkeiiaedikicdaa.PL
open Go.RowKit Go.Proofs.YtkeiiaedikicdaaW.PrintWords Go.Proofs.YtkeiiaedikicdaaW.PrintLast Go.Proofs.YtkeiiaedikicdaaW.PrintMore
attribute [local go_sem] max2_int min2_int max_two min_two max_three min_three max_four min_four
set_option linter.unusedVariables false
set_option linter.unusedSimpArgs false
theorem info21 : (Try.prog.info? 21).map (fun i => (i.zero, i.size, i.bytes)) = some (some (.int .i32 0), 1, 4) := by kernel_rfl
/-- What Runes and its like hand back: a row of runes and an answer. -/
def Rr (w w' : World) (p : List Int × Int) (e : Ending) : Prop :=
  ∃ A c, e = .returned (.tuple #[.slice A p.1.length c, .int .i64 p.2]) ∧ p.1.length ≤ c ∧ Kd.C (Kd.int .i32) w' A p.1.length p.1 ∧ Below w.heap.size w w'
theorem Rr.none {w w' : World} {c : Int} (hb : Below w.heap.size w w') : Rr w w' ([], c) (.returned (.tuple #[.slice none 0 0, .int .i64 c])) := ⟨Option.none, 0, rfl, Nat.le_refl _, Kd.C_nil _ _, hb⟩
theorem dec_rune (s : ByteArray) (pos : Nat) : (0 : Int) ≤ ((Utf8.decode s pos).1 : Int) ∧ ((Utf8.decode s pos).1 : Int) ≤ 1114111 := ⟨by omega, by have := Lib.rune_le s pos; omega⟩
theorem not_empty {s : ByteArray} (hs : s.size ≠ 0) : s.toList.isEmpty = false := by
  have h1 : (s == (⟨#[]⟩ : ByteArray)) = false := by
    cases h : (s == (⟨#[]⟩ : ByteArray)) with
    | false => rfl
    | true => exact absurd (show s.size = 0 from by rw [(MapKept.bytes_beq s ⟨#[]⟩).1 h]; rfl) hs
  rw [beq_toListBytes] at h1
  simpa using h1
set_option maxHeartbeats 4000000 in
set_option maxRecDepth 100000 in
theorem runes_empty {s : ByteArray} (w : World) (hs : s.size = 0) : Calls Try.prog 9 #[.string s] w fun e w' => Rr w w' (RU s) e := by
  have hse : s = ⟨#[]⟩ := by
    cases s with
    | mk d => 
      have : d.size = 0 := hs
      rw [Array.size_eq_zero_iff.1 this]
  have hr : RU s = ([], 3) := by unfold RU; rw [if_pos hs]
  rw [hr]
  subst hse
  go_enter Try.func9, Try.ntmps9
  go_wp2
  go_ret2
  exact Rr.none (Below.refl _ _)
set_option maxHeartbeats 8000000 in
set_option maxRecDepth 100000 in
theorem runes_some {s : ByteArray} (w : World) (hs : s.size ≠ 0) : Calls Try.prog 9 #[.string s] w fun e w' => Rr w w' (RU s) e := by
  have hne := not_empty hs
  obtain ⟨res, hres⟩ : ∃ r, r = RU s := ⟨_, rfl⟩
  have HRES : Aside0 (lg (rl s 0) [] = res) := ⟨by rw [hres]; unfold RU; rw [if_neg hs]⟩
  rw [← hres]
  clear hres
  go_enter Try.func9, Try.ntmps9
  go_wp2
  have HB0 : Aside0 (Below w.heap.size w (w.iter s 0)) := ⟨below_alloc (Below.refl _ _) _⟩
  have HI0 := Aside0.mk (World.iter_heap w s 0)
  go_loopw [4, 6, 7, 8] (fun v4 _ _ _ wr => ∃ (pos l : Nat) (out : List Int), wr.heap[w.heap.size]? = some (.stringIter s pos) ∧ l ≤ 24 ∧ Aside0 (out.length = l ∧ lg (rl s pos) out = res) ∧ Aside0 (Kd.R (Kd.int .i32) 21 wr w.heap.size (fun j => w.heap.size < j) v4 out) ∧ Aside0 (Below w.heap.size w wr)) (fun _ _ _ _ wr => s.size - wr.iterPos w.heap.size)
  case atStart => exact ⟨0, 0, [], HI0.out, Nat.zero_le _, ⟨rfl, HRES.out⟩, ⟨Kd.R_nil _ _ _ _ _⟩, HB0⟩
  case round =>
    obtain ⟨pos, l, out, hit, hl24, HL, HR, HB⟩ := hrel
    obtain ⟨wo, rfl⟩ : ∃ wo : World, wo = wr := ⟨_, rfl⟩
    obtain ⟨A4, c4, rfl⟩ := Kd.R_slice HR.out
    have HV := HR
    rw [HL.out.1] at HV
    have hip := iterPos_of hit
    have HIP := Aside0.mk hip
    have HIT := Aside0.mk hit
    have hkl : w.heap.size < wo.heap.size := (Array.getElem?_eq_some_iff.1 hit).1
    have HKL := Aside0.mk hkl
    rw [HL.out.1]
    by_cases hp : pos < s.size
    · have hnx := fun ty => Lib.run_next_any_at (P := Try.prog) wo w.heap.size s pos ty hit hp
      have HST := Aside0.mk (rl_step hp)
      have HW := Aside0.mk (Lib.width_pos s pos)
      obtain ⟨r, hr⟩ : ∃ r : Int, r = ((Utf8.decode s pos).1 : Int) := ⟨_, rfl⟩
      obtain ⟨p2, hp2⟩ : ∃ p2 : Nat, p2 = pos + (Utf8.decode s pos).2 := ⟨_, rfl⟩
      have HRN : Aside0 (0 ≤ r ∧ r ≤ 1114111) := ⟨by rw [hr]; exact dec_rune s pos⟩
      rw [← hr, ← hp2] at HST
      rw [← hp2] at hnx
      simp only [← hr] at hnx
      have HP2 : Aside0 (pos < p2) := ⟨by have := HW.out; omega⟩
      have HRI : Aside0 (Kd.R (Kd.int .i32) 21 (wo.iterAt w.heap.size s p2) w.heap.size (fun j => w.heap.size < j) (.slice A4 l c4) out) := ⟨Kd.R_step HV.out (fun j hj _ => Lib.iterAt_other wo w.heap.size j s p2 (by omega))⟩
      have HBI : Aside0 (Below w.heap.size w (wo.iterAt w.heap.size s p2)) := ⟨Lib.below_iterAt HB.out (Nat.le_refl _) s p2⟩
      have HII : Aside0 ((wo.iterAt w.heap.size s p2).heap[w.heap.size]? = some (.stringIter s p2)) := ⟨Lib.iterAt_heap wo w.heap.size s pos p2 HIT.out⟩
      have HSZ : Aside0 (w.heap.size < (wo.iterAt w.heap.size s p2).heap.size) := ⟨by rw [Lib.iterAt_size]; exact HKL.out⟩
      clear hr hp2 HW hit hkl hip
      cases hok : okr r with
      | false =>
        have HE : Aside0 (res = ([], 2)) := ⟨by rw [← HL.out.2, HST.out]; exact lg_bad hok _ _⟩
        have HOK := Aside0.mk hok
        clear hok
        go_wp2_with (first
          | (go_at_call 20; (with_reducible refine (fold_c r HRN.out.1 HRN.out.2).mono ?_); rintro e w1 ⟨rfl, rfl⟩; rw [HOK.out]))
        go_ret2
        rw [HE.out]
        exact Rr.none HBI.out
      | true =>
        have HOK := Aside0.mk hok
        clear hok
        by_cases h24 : l = 24
        · have HE : Aside0 (res = ([], 4)) := ⟨by rw [← HL.out.2, HST.out]; exact lg_long HOK.out _ (by rw [HL.out.1]; exact h24)⟩
          subst h24
          go_wp2_with (first
            | (go_at_call 20; (with_reducible refine (fold_c r HRN.out.1 HRN.out.2).mono ?_); rintro e w1 ⟨rfl, rfl⟩; rw [HOK.out]))
          go_ret2
          rw [HE.out]
          exact Rr.none HBI.out
        · have HE : Aside0 (lg (rl s p2) (out ++ [fr r]) = res) := ⟨by rw [← HL.out.2, HST.out]; exact (lg_more HOK.out _ (by rw [HL.out.1]; exact h24)).symm⟩
          have q24 : ((l : Int) == 24) = false := beq_eq_false_iff_ne.2 (by omega)
          have HLL : Aside0 ((out.length + 1) * 4 ≤ 140737488355328) := ⟨by rw [HL.out.1]; omega⟩
          go_wp2_with (first
            | (go_at_call 20; (with_reducible refine (fold_c r HRN.out.1 HRN.out.2).mono ?_); rintro e w1 ⟨rfl, rfl⟩; rw [HOK.out])
            | ((with_reducible refine gate_builtin (b := .append) (xs := #[.tmp 28, .tmp 30]) rfl ?_); at_builtin; refine Kd.R_append (Kd.int .i32) (w0 := w) (W := wo.iterAt w.heap.size s p2) w.heap.size rfl (.tmp 28) (.tmp 30) 22 21 (.int .i32 0) 4 rfl Try.underlying22 info21 rfl (by decide) (by omega) (.slice A4 l c4) out (fr r) [.int .i32 (fr r)] (fun j => w.heap.size < j) (fun _ => False) rfl rfl rfl (fun _ hk => hk.elim) (fun j hj => Nat.lt_of_lt_of_le HSZ.out hj) HRI.out HBI.out (Nat.le_of_lt HSZ.out) HLL.out ?_; intro v9 w9 ho hb hg hat; have HO9 := Aside0.mk ho; have HB9 := Aside0.mk hb; have HI9 : Aside0 (w9.heap[w.heap.size]? = some (.stringIter s p2)) := (by exact ⟨(hg.block w.heap.size HSZ.out (fun e => by have := HRI.out.1 w.heap.size e.symm; omega)).trans HII.out⟩); clear ho hb hg hat))
          go_roundw
          case rel => exact ⟨p2, l + 1, out ++ [fr r], HI9.out, by omega, ⟨by rw [List.length_append, HL.out.1]; rfl, HE.out⟩, HO9, HB9⟩
          case measure => rw [iterPos_of HI9.out, HIP.out]; have := HP2.out; omega
    · have hnx := fun ty => Lib.run_next_end_at (P := Try.prog) wo w.heap.size s pos ty hit hp
      have HE : Aside0 (res = (out, 0)) := ⟨by rw [← HL.out.2, rl_end (Nat.not_lt.1 hp)]; rfl⟩
      go_wp2
      go_ret2
      rw [HE.out]
      obtain ⟨_, h2, h3⟩ := Kd.R_reads' HV.out
      have hll : out.length = l := HL.out.1
      exact ⟨A4, c4, by rw [hll]; rfl, by rw [hll]; exact h2, h3, HB.out⟩
theorem runes_c (s : ByteArray) (w : World) : Calls Try.prog 9 #[.string s] w fun e w' => Rr w w' (RU s) e := by
  by_cases h : s.size = 0
  · exact runes_empty w h
  · exact runes_some w h
end Go.Proofs.Ytkeiiaedikicdaa.PL
