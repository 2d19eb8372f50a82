/- The walk of LabelTwice. -/
import Derived.Test.YtkeiiaedikicdaaLD
namespace Go.Proofs.Ytkeiiaedikicdaa.PL
open Go.RowKit Go.Proofs.YtkeiiaedikicdaaW.PrintWords Go.Proofs.YtkeiiaedikicdaaW.PrintLast Go.Proofs.YtkeiiaedikicdaaW.PrintMore
attribute [local go_sem] max2_int min2_int max_two min_two max_three min_three max_four min_four
set_option linter.unusedVariables false
set_option linter.unusedSimpArgs false
theorem info5s : (Try.prog.info? 5).map (·.size) = some 1 := by kernel_rfl
theorem run_forIn_yield {P : Program} {w : World} {β : Type} (b : β) (f : Nat → β → Sem (ForInStep β)) : ∀ (l : List Nat), (∀ i ∈ l, (f i b).run P w = .ok (.yield b) w) → (forIn l b f).run P w = .ok b w
  | [], _ => by simp [Sem.run_pure]
  | i :: t, h => by
    simp only [List.forIn_cons, Sem.run_bind, h i List.mem_cons_self, Result.andThen]
    exact run_forIn_yield b f t (fun j hj => h j (List.mem_cons_of_mem _ hj))
theorem run_eq36 (w : World) (xs : Array Value) (hx : ∀ i, i < 16 → ∃ b : Int, xs[i]? = some (.int .u8 b)) (d : Nat) :
    (Op.equalIn (d + 1 + 1) 36 (.agg xs) (.agg xs)).run Try.prog w = .ok true w := by
  have hs := info5s
  cases hq : Try.prog.info? 5 with
  | none => rw [hq] at hs; cases hs
  | some i =>
    rw [hq] at hs
    have h2 : i.size = 1 := by simpa using hs
    unfold Op.equalIn
    simp only [Sem.run_bind, run_underlying Try.underlying36, Result.andThen_ok, sizeOf, typeInfo, run_program, hq, h2, Sem.run_pure]
    rw [Std.Legacy.Range.forIn_eq_forIn_range']
    rw [run_forIn_yield]
    · rfl
    · intro j hj
      have hj16 : j < 16 := by simp at hj; omega
      obtain ⟨b, hb⟩ := hx j hj16
      simp [part, isAgg, run_underlying Try.underlying5, hb, Op.equalIn]
theorem two_boxes {w w3 w5 w7 : World} {o o2 : Obj} (h3 : Below w.heap.size w w3) (h5 : Below (w3.alloc o).heap.size (w3.alloc o) w5) (h7 : Below (w5.alloc o2).heap.size (w5.alloc o2) w7) :
    Below w.heap.size w w7 ∧ w7.heap[w3.heap.size]? = some o ∧ w7.heap[w5.heap.size]? = some o2 := by
  have s3 : (w3.alloc o).heap.size = w3.heap.size + 1 := World.size_alloc _ _
  have s5 : (w5.alloc o2).heap.size = w5.heap.size + 1 := World.size_alloc _ _
  have z5 := h5.size
  have b4 : Below w.heap.size w (w3.alloc o) := below_alloc h3 _
  have b5 := b4.trans (h5.mono b4.size)
  have b6 : Below w.heap.size w (w5.alloc o2) := below_alloc b5 _
  refine ⟨b6.trans (h7.mono b6.size), ?_, ?_⟩
  · rw [h7.block w3.heap.size (by omega), (below_alloc (Below.refl w5.heap.size w5) o2).block w3.heap.size (by omega), h5.block w3.heap.size (by omega)]
    exact heap_alloc_new w3 o
  · rw [h7.block w5.heap.size (by omega)]
    exact heap_alloc_new w5 o2
theorem ids_lit (p : Int × Int) : ∃ b0 b1 b2 b3 b4 b5 b6 b7 b8 b9 b10 b11 b12 b13 b14 b15 : Int, ids p = #[.int .u8 b0, .int .u8 b1, .int .u8 b2, .int .u8 b3, .int .u8 b4, .int .u8 b5, .int .u8 b6, .int .u8 b7, .int .u8 b8, .int .u8 b9, .int .u8 b10, .int .u8 b11, .int .u8 b12, .int .u8 b13, .int .u8 b14, .int .u8 b15] := ⟨_, _, _, _, _, _, _, _, _, _, _, _, _, _, _, _, rfl⟩
theorem lg_none : ∀ (l out : List Int), (lg l out).2 ≠ 0 → (lg l out).1 = []
  | [], out, h => absurd rfl h
  | r :: t, out, h => by
    cases hr : okr r with
    | false => rw [lg_bad hr]
    | true =>
      by_cases h24 : out.length = 24
      · rw [lg_long hr t h24]
      · rw [lg_more hr t h24] at h ⊢
        exact lg_none t _ h
theorem ru_bad {s : ByteArray} (h : (RU s).2 ≠ 0) : (RU s).1 = [] := by
  unfold RU at h ⊢
  by_cases h0 : s.size = 0
  · rw [if_pos h0]
  · rw [if_neg h0] at h ⊢
    exact lg_none _ _ h
set_option maxHeartbeats 8000000 in
set_option maxRecDepth 100000 in
theorem labelTwice_bad (s : ByteArray) (w : World) (h : (RU s).2 ≠ 0) : Calls Try.prog 8 #[.string s] w fun e w' => e = .returned (.bool true) ∧ Below w.heap.size w w' := by
  have hf : FS s = ⟨#[]⟩ := by
    have h1 : (RU s).1 = [] := ru_bad h
    unfold FS
    rw [h1]
    rfl
  have hsm : SM s s = false := by unfold SM; rw [decide_eq_false h]; rfl
  obtain ⟨c, hc⟩ : ∃ c, c = (RU s).2 := ⟨_, rfl⟩
  have HC := Aside0.mk hc
  have HF := Aside0.mk hf
  have HS := Aside0.mk hsm
  rw [← hc] at h
  have q0 : (c != 0) = true := by simpa using h
  clear hc hf hsm h
  go_enter Try.func8, Try.ntmps8
  go_wp2_with (first
    | (go_at_call 11; (with_reducible refine (foldS_c s w).mono ?_); rintro e w1 ⟨rfl, hb⟩; rw [HF.out, ← HC.out]; have H1 := Aside0.mk hb; clear hb)
    | (go_at_call 13; (with_reducible refine (fixed_c w1).mono ?_); rintro e w2 ⟨rfl, hb⟩; have H2 := Aside0.mk (H1.out.trans (hb.mono H1.out.size)); clear hb)
    | (go_at_call 15; (with_reducible refine (same_c s s w2).mono ?_); rintro e w3 ⟨rfl, hb⟩; rw [HS.out]; have H3 := Aside0.mk (H2.out.trans (hb.mono H2.out.size)); clear hb))
  go_ret
  exact ⟨rfl, H3.out⟩
set_option maxHeartbeats 8000000 in
set_option maxRecDepth 100000 in
theorem labelTwice_good (s : ByteArray) (w : World) (h : (RU s).2 = 0) : Calls Try.prog 8 #[.string s] w fun e w' => e = .returned (.bool true) ∧ Below w.heap.size w w' := by
  have hr := ru_fold h
  have hff := fs_fold h
  obtain ⟨a, ha⟩ : ∃ a, a = FS s := ⟨_, rfl⟩
  rw [← ha] at hr hff
  have hsm : SM s a = true := by unfold SM; rw [h, hr, ← ha, hff]; simp [MapKept.bytes_beq]
  have hi : ids (xy (RU a).1) = ids (xy (RU s).1) := by rw [hr]
  have ha2 : (RU a).2 = 0 := by rw [hr]
  obtain ⟨b0, b1, b2, b3, b4, b5, b6, b7, b8, b9, b10, b11, b12, b13, b14, b15, hids⟩ := ids_lit (xy (RU s).1)
  rw [hids] at hi
  have HA := Aside0.mk ha
  have HFF := Aside0.mk hff
  have HSM := Aside0.mk hsm
  have HI := Aside0.mk hi
  have HID := Aside0.mk hids
  have H0 := Aside0.mk h
  have HA2 := Aside0.mk ha2
  have heq : (a.toList == a.toList) = true := by simp
  have hq36 : ∀ W, (Op.equalIn 10000 36 (.agg #[.int .u8 b0, .int .u8 b1, .int .u8 b2, .int .u8 b3, .int .u8 b4, .int .u8 b5, .int .u8 b6, .int .u8 b7, .int .u8 b8, .int .u8 b9, .int .u8 b10, .int .u8 b11, .int .u8 b12, .int .u8 b13, .int .u8 b14, .int .u8 b15]) (.agg #[.int .u8 b0, .int .u8 b1, .int .u8 b2, .int .u8 b3, .int .u8 b4, .int .u8 b5, .int .u8 b6, .int .u8 b7, .int .u8 b8, .int .u8 b9, .int .u8 b10, .int .u8 b11, .int .u8 b12, .int .u8 b13, .int .u8 b14, .int .u8 b15])).run Try.prog W = .ok true W := fun W => run_eq36 W _ (fun i hi => by
    match i, hi with
    | 0, _ => exact ⟨_, rfl⟩
    | 1, _ => exact ⟨_, rfl⟩
    | 2, _ => exact ⟨_, rfl⟩
    | 3, _ => exact ⟨_, rfl⟩
    | 4, _ => exact ⟨_, rfl⟩
    | 5, _ => exact ⟨_, rfl⟩
    | 6, _ => exact ⟨_, rfl⟩
    | 7, _ => exact ⟨_, rfl⟩
    | 8, _ => exact ⟨_, rfl⟩
    | 9, _ => exact ⟨_, rfl⟩
    | 10, _ => exact ⟨_, rfl⟩
    | 11, _ => exact ⟨_, rfl⟩
    | 12, _ => exact ⟨_, rfl⟩
    | 13, _ => exact ⟨_, rfl⟩
    | 14, _ => exact ⟨_, rfl⟩
    | 15, _ => exact ⟨_, rfl⟩
    | n + 16, h => omega) 9998
  clear hr hff ha hsm hi ha2 hids h
  go_enter Try.func8, Try.ntmps8
  go_wp2_with (first
    | (go_at_call 11; (with_reducible refine (foldS_c s w).mono ?_); rintro e w1 ⟨rfl, hb⟩; rw [← HA.out, H0.out]; have H1 := Aside0.mk hb; clear hb)
    | (go_at_call 11; (with_reducible refine (foldS_c a w1).mono ?_); rintro e w2 ⟨rfl, hb⟩; rw [HFF.out, HA2.out]; have H2 := Aside0.mk (H1.out.trans (hb.mono H1.out.size)); clear hb)
    | (go_at_call 18; (with_reducible refine (id_some s w2 H0.out).mono ?_); rintro e w3 ⟨rfl, hb⟩; rw [HID.out]; have H3 := Aside0.mk (H2.out.trans (hb.mono H2.out.size)); clear hb)
    | (go_at_call 18; (with_reducible refine (id_some a _ HA2.out).mono ?_); rintro e w5 ⟨rfl, hb⟩; rw [HI.out]; have H5 := Aside0.mk hb; clear hb)
    | (go_at_call 13; (with_reducible refine (fixed_c _).mono ?_); rintro e w7 ⟨rfl, hb⟩; have HQ := Aside0.mk (two_boxes H3.out H5.out hb); clear hb)
    | ((with_reducible refine gate_dst (N := 55) rfl ?_); (try (refine gate_guard (by rfl) ?_; dsimp only)); refine wpList_load_row rfl 36 (.tmp 7) rfl w3.heap.size rfl 36 #[.int .u8 b0, .int .u8 b1, .int .u8 b2, .int .u8 b3, .int .u8 b4, .int .u8 b5, .int .u8 b6, .int .u8 b7, .int .u8 b8, .int .u8 b9, .int .u8 b10, .int .u8 b11, .int .u8 b12, .int .u8 b13, .int .u8 b14, .int .u8 b15] (0, 0) (.array 16 5) HQ.out.2.1 Try.underlying36 rfl (by kernel_rfl) ?_)
    | ((with_reducible refine gate_dst (N := 56) rfl ?_); (try (refine gate_guard (by rfl) ?_; dsimp only)); refine wpList_load_row rfl 36 (.tmp 9) rfl w5.heap.size rfl 36 #[.int .u8 b0, .int .u8 b1, .int .u8 b2, .int .u8 b3, .int .u8 b4, .int .u8 b5, .int .u8 b6, .int .u8 b7, .int .u8 b8, .int .u8 b9, .int .u8 b10, .int .u8 b11, .int .u8 b12, .int .u8 b13, .int .u8 b14, .int .u8 b15] (0, 0) (.array 16 5) HQ.out.2.2 Try.underlying36 rfl (by kernel_rfl) ?_)
    | (go_at_call 15; (with_reducible refine (same_c s a w7).mono ?_); rintro e w8 ⟨rfl, hb⟩; rw [HSM.out]; have H8 := Aside0.mk (HQ.out.1.trans (hb.mono HQ.out.1.size)); clear hb))
  go_ret
  exact ⟨rfl, H8.out⟩
theorem labelTwice_law (s : ByteArray) (w : World) (_ : s.size ≤ 140737488351232) : Calls Try.prog 8 #[.string s] w fun e w' => e = .returned (.bool true) ∧ Below w.heap.size w w' := by
  by_cases h : (RU s).2 = 0
  · exact labelTwice_good s w h
  · exact labelTwice_bad s w h
end Go.Proofs.Ytkeiiaedikicdaa.PL
