/- The contract of annuletref02.Runes, of any text. -/
import Derived.Test.YtkeiiaedikicdaaLC
namespace Go.Proofs.Ytkeiiaedikicdaa.PL
open Go.RowKit Go.Proofs.YtkeiiaedikicdaaW.PrintWords Go.Proofs.YtkeiiaedikicdaaW.PrintLast Go.Proofs.YtkeiiaedikicdaaW.PrintMore
attribute [local go_sem] max2_int min2_int max_two min_two max_three min_three max_four min_four
set_option linter.unusedVariables false
set_option linter.unusedSimpArgs false

/-- []rune(s), of any size. -/
theorem run_runes_any {P : Program} (w : World) (src dst e : TypeId) (s : ByteArray) (hs : P.underlying src = some .string) (hd : P.underlying dst = some (.slice e)) (he : P.underlying e = some (.int .i32)) :
    (convert src dst (.string s)).run P w = .ok (.slice (some ⟨w.heap.size, 0, none⟩) (Conv.runesFrom s s.size 0 #[]).size (grownCap w (Conv.runesFrom s s.size 0 #[]).size 0 e))
      (w.drew.alloc (.cells (Conv.runesFrom s s.size 0 #[] ++ Array.replicate (grownCap w (Conv.runesFrom s s.size 0 #[]).size 0 e - (Conv.runesFrom s s.size 0 #[]).size) (.int .i32 0)) e)) := by
  simp [convert, run_underlying hs, run_underlying hd, run_underlying he, Conv.stringToRunes, Question.forced, newRow, grownCap]
/-- []rune(s), by its block. -/
theorem conv_rows (w : World) (s : ByteArray) : ∃ (row : Array Value) (c : Nat) (w1 : World), (convert 9 22 (.string s)).run Try.prog w = .ok (.slice (some ⟨w.heap.size, 0, none⟩) (rl s 0).length c) w1 ∧
    w1.heap[w.heap.size]? = some (.cells row 21 (0, 0)) ∧ (∀ j, (hj : j < (rl s 0).length) → row[j]? = some (.int .i32 (rl s 0)[j])) ∧ Below w.heap.size w w1 := by
  have hsz : (Conv.runesFrom s s.size 0 #[]).size = (rl s 0).length := by rw [runes_all]; simp
  have h1 := run_runes_any (P := Try.prog) w 9 22 21 s Try.underlying9 Try.underlying22 Try.underlying21
  rw [hsz] at h1
  refine ⟨_, _, _, h1, heap_alloc_new w.drew _, fun j hj => ?_, below_alloc (below_drew (Below.refl _ _)) _⟩
  rw [runes_all, Array.getElem?_append_left (by simpa using hj)]
  simp [hj]
theorem rl_rune (s : ByteArray) : ∀ (f pos : Nat), ∀ r ∈ rlf s f pos, (0 : Int) ≤ r ∧ r ≤ 1114111
  | 0, pos, r, h => by cases h
  | f + 1, pos, r, h => by
    simp only [rlf] at h
    split at h
    · rcases List.mem_cons.1 h with rfl | h
      · exact dec_rune s pos
      · exact rl_rune s f _ r h
    · cases h
theorem addr_zero (b k : Nat) : (⟨b, 0, none⟩ : Addr).add k = ⟨b, k, none⟩ := by
  cases k with
  | zero => rfl
  | succ k => simp [Addr.add]
theorem lg_drop {l out : List Int} {k : Nat} (h : k < l.length) : lg (l.drop k) out = lg (l[k] :: l.drop (k + 1)) out := by rw [List.drop_eq_getElem_cons h]
set_option maxHeartbeats 4000000 in
set_option maxRecDepth 100000 in
theorem refRunes_empty {s : ByteArray} (w : World) (hs : s.size = 0) : Calls Try.prog 10 #[.string s] w fun e w' => Rr w w' (RU s) e := by
  have hse : s = ⟨#[]⟩ := by
    cases s with
    | mk d => 
      have : d.size = 0 := hs
      rw [Array.size_eq_zero_iff.1 this]
  have hr : RU s = ([], 3) := by unfold RU; rw [if_pos hs]
  have hl : (rl s 0).length = 0 := by have := rl_len0 s; omega
  rw [hr]
  obtain ⟨row, c, w1, hcv, hrow, hro, hb⟩ := conv_rows w s
  rw [hl] at hcv
  have HB := Aside0.mk hb
  clear hl hrow hro hr hb hs
  subst hse
  go_enter Try.func10, Try.ntmps10
  go_wp2
  go_ret2
  exact Rr.none HB.out
set_option maxHeartbeats 40000000 in
set_option maxRecDepth 100000 in
theorem refRunes_some {s : ByteArray} (w : World) (hs : s.size ≠ 0) (hs2 : s.size ≤ 140737488355328) : Calls Try.prog 10 #[.string s] w fun e w' => Rr w w' (RU s) e := by
  obtain ⟨res, hres⟩ : ∃ r, r = RU s := ⟨_, rfl⟩
  have HRES : Aside0 (lg (rl s 0) [] = res) := ⟨by rw [hres]; unfold RU; rw [if_neg hs]⟩
  rw [← hres]
  obtain ⟨row, c, w1, hcv, hrow, hro, hb⟩ := conv_rows w s
  have HRN := Aside0.mk (fun r h => rl_rune s (s.size - 0) 0 r h)
  have hlp : 0 < (rl s 0).length := (rl_head (by omega)).1
  have hlm := rl_len0 s
  have hwl : w.heap.size < w1.heap.size := (Array.getElem?_eq_some_iff.1 hrow).1
  obtain ⟨l, hl⟩ : ∃ l, l = rl s 0 := ⟨_, rfl⟩
  have HRN2 : Aside0 (∀ r ∈ l, (0 : Int) ≤ r ∧ r ≤ 1114111) := ⟨by rw [hl]; exact HRN.out⟩
  rw [← hl] at hcv hro hlp HRES hlm
  obtain ⟨n, hn⟩ : ∃ n, n = l.length := ⟨_, rfl⟩
  rw [← hn] at hcv hlp hlm
  have HN := Aside0.mk hn
  have HRO := Aside0.mk hro
  have HROW := Aside0.mk hrow
  have HB := Aside0.mk hb
  have HWL := Aside0.mk hwl
  have q0 : ((n : Int) == 0) = false := beq_eq_false_iff_ne.2 (by omega)
  obtain ⟨ad, had⟩ : ∃ ad : Addr, ad = ⟨w.heap.size, 0, none⟩ := ⟨_, rfl⟩
  rw [← had] at hcv
  have HAD := Aside0.mk had
  clear hres HRN hl hn hro hrow hb hwl had
  go_enter Try.func10, Try.ntmps10
  go_wp2
  go_loopw [5, 6, 7] (fun v5 v6 _ wr => ∃ (k : Nat) (out : List Int), v6 = .int .i64 k ∧ k ≤ n ∧ k ≤ 24 ∧ Aside0 (out.length = k ∧ lg (l.drop k) out = res) ∧ Aside0 (Kd.R (Kd.int .i32) 21 wr w.heap.size (fun j => w.heap.size < j) v5 out) ∧ Aside0 (wr.heap[w.heap.size]? = some (.cells row 21 (0, 0))) ∧ Aside0 (Below w.heap.size w wr)) (fun _ i _ _ => n - (intOf i).toNat)
  case atStart => exact ⟨0, [], by go_num, Nat.zero_le _, Nat.zero_le _, ⟨rfl, HRES.out⟩, ⟨Kd.R_nil _ _ _ _ _⟩, HROW, HB⟩
  case round =>
    obtain ⟨k, out, rfl, hkn, hk24, HL, HR, HW, HBB⟩ := hrel
    obtain ⟨wo, rfl⟩ : ∃ wo : World, wo = wr := ⟨_, rfl⟩
    obtain ⟨A5, c5, rfl⟩ := Kd.R_slice HR.out
    have HV := HR
    rw [HL.out.1] at HV
    rw [HL.out.1]
    by_cases hlt : k < n
    · have q1 : (k : Int) < (n : Int) := by omega
      have q2 : (0 : Int) ≤ (k : Int) := by omega
      have hkl : k < l.length := by rw [← HN.out]; exact hlt
      have hcr : wo.cell? (ad.add k) = some (.int .i32 l[k]) := by
        rw [HAD.out]
        rw [addr_zero, cell_of_row _ _ k _ 21 (0, 0) HW.out]
        exact HRO.out k hkl
      have HSZ : Aside0 (w.heap.size < wo.heap.size) := ⟨(Array.getElem?_eq_some_iff.1 HW.out).1⟩
      have HST : Aside0 (lg (l[k] :: l.drop (k + 1)) out = res) := ⟨by rw [← lg_drop hkl]; exact HL.out.2⟩
      obtain ⟨h0, h1⟩ := HRN2.out _ (List.getElem_mem hkl)
      obtain ⟨r, hr⟩ : ∃ r, r = l[k] := ⟨_, rfl⟩
      rw [← hr] at hcr HST h0 h1
      have HRB : Aside0 (0 ≤ r ∧ r ≤ 1114111) := ⟨h0, h1⟩
      clear hr
      by_cases d0 : r < 45
      · have c0 : r < 45 := by omega
        clear d0
        have b45 : (r == 45) = false := beq_eq_false_iff_ne.2 (by omega)
        have HOK : Aside0 (okr r = false) := ⟨by unfold okr; exact decide_eq_false (by omega)⟩
        have HE : Aside0 (res = ([], 2)) := ⟨by rw [← HST.out]; exact lg_bad HOK.out _ _⟩
        skip
        go_wp2
        go_ret2
        rw [HE.out]
        exact Rr.none HBB.out
      by_cases d1 : r = 45
      · have c0 : r = 45 := by omega
        clear d0 d1
        have HOK : Aside0 (okr r = true) := ⟨by unfold okr; exact decide_eq_true (by omega)⟩
        have HFR : Aside0 (fr r = 45) := ⟨by unfold fr; rw [if_neg (by omega)]; exact c0⟩
        by_cases h24 : k = 24
        · have HE : Aside0 (res = ([], 4)) := ⟨by rw [← HST.out]; exact lg_long HOK.out _ (by rw [HL.out.1]; exact h24)⟩
          subst c0
          have q24 : (24 : Int) ≤ (k : Int) := by omega
          clear h24
          go_wp2
          go_ret2
          rw [HE.out]
          exact Rr.none HBB.out
        · have HE : Aside0 (lg (l.drop (k + 1)) (out ++ [45]) = res) := ⟨by rw [← HFR.out, ← HST.out]; exact (lg_more HOK.out _ (by rw [HL.out.1]; exact h24)).symm⟩
          subst c0
          have q24 : (k : Int) < 24 := by omega
          have HLL : Aside0 ((out.length + 1) * 4 ≤ 140737488355328) := ⟨by rw [HL.out.1]; omega⟩
          go_wp2_with (first
            | ((with_reducible refine gate_builtin (b := .append) (xs := #[.tmp 60, .tmp 62]) rfl ?_); at_builtin; refine Kd.R_append (Kd.int .i32) (w0 := w) (W := wo) w.heap.size rfl (.tmp 60) (.tmp 62) 22 21 (.int .i32 0) 4 rfl Try.underlying22 info21 rfl (by decide) (by omega) (.slice A5 k c5) out 45 [.int .i32 45] (fun j => w.heap.size < j) (fun _ => False) rfl rfl rfl (fun _ hk => hk.elim) (fun j hj => Nat.lt_of_lt_of_le HSZ.out hj) HV.out HBB.out (Nat.le_of_lt HSZ.out) HLL.out ?_; intro v9 w9 ho hb hg hat; have HO9 := Aside0.mk ho; have HB9 := Aside0.mk hb; have HI9 : Aside0 (w9.heap[w.heap.size]? = some (.cells row 21 (0, 0))) := (by exact ⟨(hg.block w.heap.size HSZ.out (fun e => by have := HV.out.1 w.heap.size e.symm; omega)).trans HW.out⟩); clear ho hb hg hat))
          go_roundw
          case rel => exact ⟨k + 1, out ++ [45], by go_num, by omega, by omega, ⟨by rw [List.length_append, HL.out.1]; rfl, HE.out⟩, HO9, HI9, HB9⟩
          case measure => simp [intOf]; omega
      by_cases d2 : r < 48
      · have c0 : 46 ≤ r := by omega
        have c1 : r < 48 := by omega
        clear d0 d1 d2
        have b45 : (r == 45) = false := beq_eq_false_iff_ne.2 (by omega)
        have HOK : Aside0 (okr r = false) := ⟨by unfold okr; exact decide_eq_false (by omega)⟩
        have HE : Aside0 (res = ([], 2)) := ⟨by rw [← HST.out]; exact lg_bad HOK.out _ _⟩
        skip
        go_wp2
        go_ret2
        rw [HE.out]
        exact Rr.none HBB.out
      by_cases d3 : r ≤ 57
      · have c0 : 48 ≤ r := by omega
        have c1 : r ≤ 57 := by omega
        clear d0 d1 d2 d3
        have b45 : (r == 45) = false := beq_eq_false_iff_ne.2 (by omega)
        have HOK : Aside0 (okr r = true) := ⟨by unfold okr; exact decide_eq_true (by omega)⟩
        have HFR : Aside0 (fr r = r) := ⟨by unfold fr; rw [if_neg (by omega)]⟩
        by_cases h24 : k = 24
        · have HE : Aside0 (res = ([], 4)) := ⟨by rw [← HST.out]; exact lg_long HOK.out _ (by rw [HL.out.1]; exact h24)⟩
          have q24 : (24 : Int) ≤ (k : Int) := by omega
          clear h24
          go_wp2
          go_ret2
          rw [HE.out]
          exact Rr.none HBB.out
        · have HE : Aside0 (lg (l.drop (k + 1)) (out ++ [r]) = res) := ⟨by rw [← HFR.out, ← HST.out]; exact (lg_more HOK.out _ (by rw [HL.out.1]; exact h24)).symm⟩
          have q24 : (k : Int) < 24 := by omega
          have HLL : Aside0 ((out.length + 1) * 4 ≤ 140737488355328) := ⟨by rw [HL.out.1]; omega⟩
          go_wp2_with (first
            | ((with_reducible refine gate_builtin (b := .append) (xs := #[.tmp 60, .tmp 62]) rfl ?_); at_builtin; refine Kd.R_append (Kd.int .i32) (w0 := w) (W := wo) w.heap.size rfl (.tmp 60) (.tmp 62) 22 21 (.int .i32 0) 4 rfl Try.underlying22 info21 rfl (by decide) (by omega) (.slice A5 k c5) out r [.int .i32 r] (fun j => w.heap.size < j) (fun _ => False) rfl rfl rfl (fun _ hk => hk.elim) (fun j hj => Nat.lt_of_lt_of_le HSZ.out hj) HV.out HBB.out (Nat.le_of_lt HSZ.out) HLL.out ?_; intro v9 w9 ho hb hg hat; have HO9 := Aside0.mk ho; have HB9 := Aside0.mk hb; have HI9 : Aside0 (w9.heap[w.heap.size]? = some (.cells row 21 (0, 0))) := (by exact ⟨(hg.block w.heap.size HSZ.out (fun e => by have := HV.out.1 w.heap.size e.symm; omega)).trans HW.out⟩); clear ho hb hg hat))
          go_roundw
          case rel => exact ⟨k + 1, out ++ [r], by go_num, by omega, by omega, ⟨by rw [List.length_append, HL.out.1]; rfl, HE.out⟩, HO9, HI9, HB9⟩
          case measure => simp [intOf]; omega
      by_cases d4 : r < 65
      · have c0 : 57 < r := by omega
        have c1 : r < 65 := by omega
        clear d0 d1 d2 d3 d4
        have b45 : (r == 45) = false := beq_eq_false_iff_ne.2 (by omega)
        have e57 : decide (r ≤ 57) = false := decide_eq_false (by omega)
        have HOK : Aside0 (okr r = false) := ⟨by unfold okr; exact decide_eq_false (by omega)⟩
        have HE : Aside0 (res = ([], 2)) := ⟨by rw [← HST.out]; exact lg_bad HOK.out _ _⟩
        skip
        go_wp2
        go_ret2
        rw [HE.out]
        exact Rr.none HBB.out
      by_cases d5 : r ≤ 90
      · have c0 : 65 ≤ r := by omega
        have c1 : r ≤ 90 := by omega
        clear d0 d1 d2 d3 d4 d5
        have b45 : (r == 45) = false := beq_eq_false_iff_ne.2 (by omega)
        have HOK : Aside0 (okr r = true) := ⟨by unfold okr; exact decide_eq_true (by omega)⟩
        have HFR : Aside0 (fr r = (r + 32)) := ⟨by unfold fr; rw [if_pos (by omega)]⟩
        have g : IntKind.i32.wrap (r + 32) = r + 32 := by rw [IntKind.wrap_i32]; omega
        by_cases h24 : k = 24
        · have HE : Aside0 (res = ([], 4)) := ⟨by rw [← HST.out]; exact lg_long HOK.out _ (by rw [HL.out.1]; exact h24)⟩
          have q24 : (24 : Int) ≤ (k : Int) := by omega
          clear h24
          go_wp2
          go_ret2
          rw [HE.out]
          exact Rr.none HBB.out
        · have HE : Aside0 (lg (l.drop (k + 1)) (out ++ [(r + 32)]) = res) := ⟨by rw [← HFR.out, ← HST.out]; exact (lg_more HOK.out _ (by rw [HL.out.1]; exact h24)).symm⟩
          have q24 : (k : Int) < 24 := by omega
          have HLL : Aside0 ((out.length + 1) * 4 ≤ 140737488355328) := ⟨by rw [HL.out.1]; omega⟩
          go_wp2_with (first
            | ((with_reducible refine gate_builtin (b := .append) (xs := #[.tmp 60, .tmp 62]) rfl ?_); at_builtin; refine Kd.R_append (Kd.int .i32) (w0 := w) (W := wo) w.heap.size rfl (.tmp 60) (.tmp 62) 22 21 (.int .i32 0) 4 rfl Try.underlying22 info21 rfl (by decide) (by omega) (.slice A5 k c5) out (r + 32) [.int .i32 (r + 32)] (fun j => w.heap.size < j) (fun _ => False) rfl rfl rfl (fun _ hk => hk.elim) (fun j hj => Nat.lt_of_lt_of_le HSZ.out hj) HV.out HBB.out (Nat.le_of_lt HSZ.out) HLL.out ?_; intro v9 w9 ho hb hg hat; have HO9 := Aside0.mk ho; have HB9 := Aside0.mk hb; have HI9 : Aside0 (w9.heap[w.heap.size]? = some (.cells row 21 (0, 0))) := (by exact ⟨(hg.block w.heap.size HSZ.out (fun e => by have := HV.out.1 w.heap.size e.symm; omega)).trans HW.out⟩); clear ho hb hg hat))
          go_roundw
          case rel => exact ⟨k + 1, out ++ [(r + 32)], by go_num, by omega, by omega, ⟨by rw [List.length_append, HL.out.1]; rfl, HE.out⟩, HO9, HI9, HB9⟩
          case measure => simp [intOf]; omega
      by_cases d6 : r < 97
      · have c0 : 90 < r := by omega
        have c1 : r < 97 := by omega
        clear d0 d1 d2 d3 d4 d5 d6
        have b45 : (r == 45) = false := beq_eq_false_iff_ne.2 (by omega)
        have e57 : decide (r ≤ 57) = false := decide_eq_false (by omega)
        have HOK : Aside0 (okr r = false) := ⟨by unfold okr; exact decide_eq_false (by omega)⟩
        have HE : Aside0 (res = ([], 2)) := ⟨by rw [← HST.out]; exact lg_bad HOK.out _ _⟩
        skip
        go_wp2
        go_ret2
        rw [HE.out]
        exact Rr.none HBB.out
      by_cases d7 : r ≤ 122
      · have c0 : 97 ≤ r := by omega
        have c1 : r ≤ 122 := by omega
        clear d0 d1 d2 d3 d4 d5 d6 d7
        have b45 : (r == 45) = false := beq_eq_false_iff_ne.2 (by omega)
        have e57 : decide (r ≤ 57) = false := decide_eq_false (by omega)
        have HOK : Aside0 (okr r = true) := ⟨by unfold okr; exact decide_eq_true (by omega)⟩
        have HFR : Aside0 (fr r = r) := ⟨by unfold fr; rw [if_neg (by omega)]⟩
        by_cases h24 : k = 24
        · have HE : Aside0 (res = ([], 4)) := ⟨by rw [← HST.out]; exact lg_long HOK.out _ (by rw [HL.out.1]; exact h24)⟩
          have q24 : (24 : Int) ≤ (k : Int) := by omega
          clear h24
          go_wp2
          go_ret2
          rw [HE.out]
          exact Rr.none HBB.out
        · have HE : Aside0 (lg (l.drop (k + 1)) (out ++ [r]) = res) := ⟨by rw [← HFR.out, ← HST.out]; exact (lg_more HOK.out _ (by rw [HL.out.1]; exact h24)).symm⟩
          have q24 : (k : Int) < 24 := by omega
          have HLL : Aside0 ((out.length + 1) * 4 ≤ 140737488355328) := ⟨by rw [HL.out.1]; omega⟩
          go_wp2_with (first
            | ((with_reducible refine gate_builtin (b := .append) (xs := #[.tmp 60, .tmp 62]) rfl ?_); at_builtin; refine Kd.R_append (Kd.int .i32) (w0 := w) (W := wo) w.heap.size rfl (.tmp 60) (.tmp 62) 22 21 (.int .i32 0) 4 rfl Try.underlying22 info21 rfl (by decide) (by omega) (.slice A5 k c5) out r [.int .i32 r] (fun j => w.heap.size < j) (fun _ => False) rfl rfl rfl (fun _ hk => hk.elim) (fun j hj => Nat.lt_of_lt_of_le HSZ.out hj) HV.out HBB.out (Nat.le_of_lt HSZ.out) HLL.out ?_; intro v9 w9 ho hb hg hat; have HO9 := Aside0.mk ho; have HB9 := Aside0.mk hb; have HI9 : Aside0 (w9.heap[w.heap.size]? = some (.cells row 21 (0, 0))) := (by exact ⟨(hg.block w.heap.size HSZ.out (fun e => by have := HV.out.1 w.heap.size e.symm; omega)).trans HW.out⟩); clear ho hb hg hat))
          go_roundw
          case rel => exact ⟨k + 1, out ++ [r], by go_num, by omega, by omega, ⟨by rw [List.length_append, HL.out.1]; rfl, HE.out⟩, HO9, HI9, HB9⟩
          case measure => simp [intOf]; omega
      by_cases d8 : r < 161
      · have c0 : 122 < r := by omega
        have c1 : r < 161 := by omega
        clear d0 d1 d2 d3 d4 d5 d6 d7 d8
        have b45 : (r == 45) = false := beq_eq_false_iff_ne.2 (by omega)
        have e57 : decide (r ≤ 57) = false := decide_eq_false (by omega)
        have e122 : decide (r ≤ 122) = false := decide_eq_false (by omega)
        have HOK : Aside0 (okr r = false) := ⟨by unfold okr; exact decide_eq_false (by omega)⟩
        have HE : Aside0 (res = ([], 2)) := ⟨by rw [← HST.out]; exact lg_bad HOK.out _ _⟩
        skip
        go_wp2
        go_ret2
        rw [HE.out]
        exact Rr.none HBB.out
      by_cases d9 : r < 65533
      · have c0 : 161 ≤ r := by omega
        have c1 : r < 65533 := by omega
        clear d0 d1 d2 d3 d4 d5 d6 d7 d8 d9
        have b45 : (r == 45) = false := beq_eq_false_iff_ne.2 (by omega)
        have e57 : decide (r ≤ 57) = false := decide_eq_false (by omega)
        have e122 : decide (r ≤ 122) = false := decide_eq_false (by omega)
        have b65 : (r == 65533) = false := beq_eq_false_iff_ne.2 (by omega)
        have n65 : (r != 65533) = true := by simp only [bne, b65]; rfl
        have HOK : Aside0 (okr r = true) := ⟨by unfold okr; exact decide_eq_true (by omega)⟩
        have HFR : Aside0 (fr r = r) := ⟨by unfold fr; rw [if_neg (by omega)]⟩
        by_cases h24 : k = 24
        · have HE : Aside0 (res = ([], 4)) := ⟨by rw [← HST.out]; exact lg_long HOK.out _ (by rw [HL.out.1]; exact h24)⟩
          have q24 : (24 : Int) ≤ (k : Int) := by omega
          clear h24
          go_wp2
          go_ret2
          rw [HE.out]
          exact Rr.none HBB.out
        · have HE : Aside0 (lg (l.drop (k + 1)) (out ++ [r]) = res) := ⟨by rw [← HFR.out, ← HST.out]; exact (lg_more HOK.out _ (by rw [HL.out.1]; exact h24)).symm⟩
          have q24 : (k : Int) < 24 := by omega
          have HLL : Aside0 ((out.length + 1) * 4 ≤ 140737488355328) := ⟨by rw [HL.out.1]; omega⟩
          go_wp2_with (first
            | ((with_reducible refine gate_builtin (b := .append) (xs := #[.tmp 60, .tmp 62]) rfl ?_); at_builtin; refine Kd.R_append (Kd.int .i32) (w0 := w) (W := wo) w.heap.size rfl (.tmp 60) (.tmp 62) 22 21 (.int .i32 0) 4 rfl Try.underlying22 info21 rfl (by decide) (by omega) (.slice A5 k c5) out r [.int .i32 r] (fun j => w.heap.size < j) (fun _ => False) rfl rfl rfl (fun _ hk => hk.elim) (fun j hj => Nat.lt_of_lt_of_le HSZ.out hj) HV.out HBB.out (Nat.le_of_lt HSZ.out) HLL.out ?_; intro v9 w9 ho hb hg hat; have HO9 := Aside0.mk ho; have HB9 := Aside0.mk hb; have HI9 : Aside0 (w9.heap[w.heap.size]? = some (.cells row 21 (0, 0))) := (by exact ⟨(hg.block w.heap.size HSZ.out (fun e => by have := HV.out.1 w.heap.size e.symm; omega)).trans HW.out⟩); clear ho hb hg hat))
          go_roundw
          case rel => exact ⟨k + 1, out ++ [r], by go_num, by omega, by omega, ⟨by rw [List.length_append, HL.out.1]; rfl, HE.out⟩, HO9, HI9, HB9⟩
          case measure => simp [intOf]; omega
      by_cases d10 : r = 65533
      · have c0 : r = 65533 := by omega
        clear d0 d1 d2 d3 d4 d5 d6 d7 d8 d9 d10
        have b45 : (r == 45) = false := beq_eq_false_iff_ne.2 (by omega)
        have e57 : decide (r ≤ 57) = false := decide_eq_false (by omega)
        have e122 : decide (r ≤ 122) = false := decide_eq_false (by omega)
        have HOK : Aside0 (okr r = false) := ⟨by unfold okr; exact decide_eq_false (by omega)⟩
        have HE : Aside0 (res = ([], 2)) := ⟨by rw [← HST.out]; exact lg_bad HOK.out _ _⟩
        skip
        subst c0
        go_wp2
        go_ret2
        rw [HE.out]
        exact Rr.none HBB.out
      have c0 : 65533 < r := by omega
      clear d0 d1 d2 d3 d4 d5 d6 d7 d8 d9 d10
      have b45 : (r == 45) = false := beq_eq_false_iff_ne.2 (by omega)
      have e57 : decide (r ≤ 57) = false := decide_eq_false (by omega)
      have e122 : decide (r ≤ 122) = false := decide_eq_false (by omega)
      have b65 : (r == 65533) = false := beq_eq_false_iff_ne.2 (by omega)
      have n65 : (r != 65533) = true := by simp only [bne, b65]; rfl
      have HOK : Aside0 (okr r = true) := ⟨by unfold okr; exact decide_eq_true (by omega)⟩
      have HFR : Aside0 (fr r = r) := ⟨by unfold fr; rw [if_neg (by omega)]⟩
      by_cases h24 : k = 24
      · have HE : Aside0 (res = ([], 4)) := ⟨by rw [← HST.out]; exact lg_long HOK.out _ (by rw [HL.out.1]; exact h24)⟩
        have q24 : (24 : Int) ≤ (k : Int) := by omega
        clear h24
        go_wp2
        go_ret2
        rw [HE.out]
        exact Rr.none HBB.out
      · have HE : Aside0 (lg (l.drop (k + 1)) (out ++ [r]) = res) := ⟨by rw [← HFR.out, ← HST.out]; exact (lg_more HOK.out _ (by rw [HL.out.1]; exact h24)).symm⟩
        have q24 : (k : Int) < 24 := by omega
        have HLL : Aside0 ((out.length + 1) * 4 ≤ 140737488355328) := ⟨by rw [HL.out.1]; omega⟩
        go_wp2_with (first
          | ((with_reducible refine gate_builtin (b := .append) (xs := #[.tmp 60, .tmp 62]) rfl ?_); at_builtin; refine Kd.R_append (Kd.int .i32) (w0 := w) (W := wo) w.heap.size rfl (.tmp 60) (.tmp 62) 22 21 (.int .i32 0) 4 rfl Try.underlying22 info21 rfl (by decide) (by omega) (.slice A5 k c5) out r [.int .i32 r] (fun j => w.heap.size < j) (fun _ => False) rfl rfl rfl (fun _ hk => hk.elim) (fun j hj => Nat.lt_of_lt_of_le HSZ.out hj) HV.out HBB.out (Nat.le_of_lt HSZ.out) HLL.out ?_; intro v9 w9 ho hb hg hat; have HO9 := Aside0.mk ho; have HB9 := Aside0.mk hb; have HI9 : Aside0 (w9.heap[w.heap.size]? = some (.cells row 21 (0, 0))) := (by exact ⟨(hg.block w.heap.size HSZ.out (fun e => by have := HV.out.1 w.heap.size e.symm; omega)).trans HW.out⟩); clear ho hb hg hat))
        go_roundw
        case rel => exact ⟨k + 1, out ++ [r], by go_num, by omega, by omega, ⟨by rw [List.length_append, HL.out.1]; rfl, HE.out⟩, HO9, HI9, HB9⟩
        case measure => simp [intOf]; omega
    · have q1 : (n : Int) ≤ (k : Int) := by omega
      have HE : Aside0 (res = (out, 0)) := ⟨by rw [← HL.out.2, List.drop_of_length_le (by rw [← HN.out]; omega)]; rfl⟩
      go_wp2
      go_ret2
      rw [HE.out]
      obtain ⟨_, h2, h3⟩ := Kd.R_reads' HV.out
      have hll : out.length = k := HL.out.1
      exact ⟨A5, c5, by rw [hll]; rfl, by rw [hll]; exact h2, h3, HBB.out⟩
theorem refRunes_c (s : ByteArray) (w : World) (h : s.size ≤ 140737488355328) : Calls Try.prog 10 #[.string s] w fun e w' => Rr w w' (RU s) e := by
  by_cases h0 : s.size = 0
  · exact refRunes_empty w h0
  · exact refRunes_some w h0 h
end Go.Proofs.Ytkeiiaedikicdaa.PL
