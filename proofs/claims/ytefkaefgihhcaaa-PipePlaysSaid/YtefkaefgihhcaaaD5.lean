/- Contracts of pipe.Put and of the document's Put. -/
import Derived.Test.YtefkaefgihhcaaaD4
namespace Go.Proofs.Ytefkaefgihhcaaa.PP
open Go.RowKit Go.Proofs.YtefkaefgihhcaaaW.PrintWords Go.Proofs.YtefkaefgihhcaaaW.PrintLast Go.Proofs.YtefkaefgihhcaaaW.PrintMore
attribute [local go_sem] max2_int min2_int max_two min_two max_three min_three max_four min_four
set_option linter.unusedVariables false
set_option linter.unusedSimpArgs false
set_option maxHeartbeats 2000000 in
set_option maxRecDepth 100000 in
theorem put_c {w : World} {F : Nat → Prop} {xs : List (List Int)} {g : Nat} {A1 : Option Addr} {c1 : Nat} {bs : List Int} (h : Pip 25 w F g xs) (hr : Kd.C (Kd.int .u8) w A1 bs.length bs) (hb1 : bs.length ≤ 140737488351232) (hx : xs.length < 256) :
    Calls Try.prog 8 #[.pointer (some ⟨g, 0, none⟩), .slice A1 bs.length c1] w fun e w' => e = .returned (.bool true) ∧ Pip 25 w' (fun k => F k ∨ w.heap.size ≤ k) g (xs ++ [bs]) ∧ Mv F w w' := by
  obtain ⟨hg, hl, lv, us, hb, ho, hf⟩ := h
  obtain ⟨A, c, rfl, hlc⟩ := ho.form
  have HN : Aside0 (us.length ≤ 256) := ⟨by rw [hf.1]; exact hl⟩
  have hn : us.length < 256 := by rw [hf.1]; exact hx
  obtain ⟨n, hnn⟩ : ∃ n, n = us.length := ⟨_, rfl⟩
  have hc : w.cell? ⟨g, 0, none⟩ = some (.slice A us.length c) := cell_of_row w g 0 _ 25 (0, 0) hb
  rw [← hnn] at hc hn hlc hb ho
  have HG := Aside0.mk hg
  have HL := Aside0.mk (lt_blk hb)
  have HB := Aside0.mk hb
  have HO := Aside0.mk ho
  have HF := Aside0.mk hf
  have HX := Aside0.mk hx
  have HR := Aside0.mk hr
  have HBL := Aside0.mk hb1
  clear hg hb ho hf hx hr hb1 hl hnn
  go_enter Try.func8, Try.ntmps8
  go_wp2
  refine start_ (n := 13) (S := fun w' => w'.cell? ⟨g, 0, none⟩ = some (.slice A n c)) (ds := [12]) #[false, false, false, false, false, false, false, false, false, false, false, false, false] (by kernel_rfl) rfl rfl (hc) (fun hHeld => ?_)
  refine pure_ (i := 0) (N := some 15) (v := ?_) (a' := ?_) #[true, false, false, false, false, false, false, false, false, false, false, false, false] rfl rfl (by kernel_rfl) (fun _ _ _ h => h) (Or.inl ⟨by rfl, ?_⟩) ?_ ?_
  rotate_left
  · intro w'
    go_simp
    with_reducible rfl
  rotate_left
  · simp only [Act.put, List.setIfInBounds_toArray, List.set_cons_zero, List.set_cons_succ, i64_w, i32_w]
    rfl
  refine pure_ (i := 1) (N := some 16) (v := ?_) (a' := ?_) #[true, true, false, false, false, false, false, false, false, false, false, false, false] rfl rfl (by kernel_rfl) (fun _ _ _ h => h) (Or.inl ⟨by rfl, ?_⟩) ?_ ?_
  rotate_left
  · intro w'
    go_simp
    with_reducible rfl
  rotate_left
  · simp only [Act.put, List.setIfInBounds_toArray, List.set_cons_zero, List.set_cons_succ, i64_w, i32_w]
    rfl
  refine pure_ (i := 2) (N := some 17) (v := ?_) (a' := ?_) #[true, true, true, false, false, false, false, false, false, false, false, false, false] rfl rfl (by kernel_rfl) (fun _ _ _ h => h) (Or.inl ⟨by rfl, ?_⟩) ?_ ?_
  rotate_left
  · intro w'
    go_simp
    with_reducible rfl
  rotate_left
  · simp only [Act.put, List.setIfInBounds_toArray, List.set_cons_zero, List.set_cons_succ, i64_w, i32_w]
    rfl
  refine pure_ (i := 3) (N := some 18) (v := ?_) (a' := ?_) #[true, true, true, true, false, false, false, false, false, false, false, false, false] rfl rfl (by kernel_rfl) (fun _ _ _ h => h) (Or.inl ⟨by rfl, ?_⟩) ?_ ?_
  rotate_left
  · intro w'
    go_simp
    with_reducible rfl
  rotate_left
  · simp only [Act.put, List.setIfInBounds_toArray, List.set_cons_zero, List.set_cons_succ, i64_w, i32_w]
    rfl
  refine pure_ (i := 6) (N := some 21) (v := ?_) (a' := ?_) #[true, true, true, true, false, false, true, false, false, false, false, false, false] rfl rfl (by kernel_rfl) (fun _ _ _ h => h) (Or.inl ⟨by rfl, ?_⟩) ?_ ?_
  rotate_left
  · intro w'
    go_simp
    with_reducible rfl
  rotate_left
  · simp only [Act.put, List.setIfInBounds_toArray, List.set_cons_zero, List.set_cons_succ, i64_w, i32_w]
    rfl
  refine take_ (i := 4) (N := some 19) (v := ?_) (a' := ?_) #[true, true, true, true, true, false, true, false, false, false, false, false, false] rfl rfl (by kernel_rfl) (fun _ _ _ h => h) (Or.inl ⟨by rfl, ?_⟩) hHeld ?_ ?_
  rotate_left
  · intro w' s0
    go_simp
    with_reducible rfl
  rotate_left
  · simp only [Act.put, List.setIfInBounds_toArray, List.set_cons_zero, List.set_cons_succ, i64_w, i32_w]
    rfl
  refine one_ (i := 5) (N := some 20) #[true, true, true, true, true, true, true, false, false, false, false, false, false] rfl rfl (by kernel_rfl) (by decide) (fun K hK => ?_)
  refine Kd.R_lit_step (Kd.int .u8) (w0 := w.drew) w.drew.heap.size 5 (by rfl) (N := 20) rfl (xs := ([] : List Int)) (inner := []) (ok := fun _ => True) (okp := fun _ => True) ?hr5 ?hp5 (fun _ hk => hk) trivial (Below.refl _ _) (Nat.le_refl _) (by simp) ?_
  case hr5 => first | (go_simp; done) | (go_simp; rfl)
  case hp5 => exact Reps.none _ _
  intro v5 w5 ho5_ hb5_ hg5_ hn5_
  have O5 := Aside0.mk ho5_
  have B5 := Aside0.mk hb5_
  clear ho5_ hb5_ hg5_ hn5_
  refine hK.out _ _ (((B5.out.cell HL.out).trans hc)) (fun hHeld => ?_)
  clear hK K
  refine norm_ (a' := ?_) ?_ ?_
  rotate_left
  · show Act.put _ (some 20) _ = _
    simp only [Act.put, List.setIfInBounds_toArray, List.set_cons_zero, List.set_cons_succ, i64_w, i32_w]
    rfl
  refine one_ (i := 7) (N := some 22) #[true, true, true, true, true, true, true, true, false, false, false, false, false] rfl rfl (by kernel_rfl) (by decide) (fun K hK => ?_)
  refine Kd.R_append_rows_step (Kd.int .u8) (w0 := w.drew) w.drew.heap.size (by rfl) (.tmp 20) (.tmp 21) 26 5 (.int .u8 0) 1 rfl Try.underlying26 info5 rfl (by decide) (by omega) v5 [] bs _ _ _ (fun _ => True) (fun _ => False) rfl rfl O5.out (Kd.C_below HR.out ((below_drew (Below.refl _ _)).trans B5.out)) (fun _ _ h => h) (fun _ h => h.elim) (fun _ _ => trivial) B5.out B5.out.size (by have := HBL.out; simp; omega) ?_
  intro v7 w7 ho7_ hb7_ hg7_ hat7_
  rw [List.nil_append] at ho7_
  have F7 := Aside0.mk (fr_of_R ho7_ HBL.out)
  have B7 : Aside0 (Below w.heap.size w w7) := ⟨(below_drew (Below.refl _ _)).trans hb7_⟩
  clear ho7_ hb7_ hg7_ hat7_
  obtain ⟨A7, c7, e7, _⟩ := id F7.out
  subst e7
  refine hK.out _ _ (((B7.out.cell HL.out).trans hc)) (fun hHeld => ?_)
  clear hK K
  refine norm_ (a' := ?_) ?_ ?_
  rotate_left
  · show Act.put _ (some 22) _ = _
    simp only [Act.put, List.setIfInBounds_toArray, List.set_cons_zero, List.set_cons_succ, i64_w, i32_w]
    rfl
  refine one_ (i := 8) (N := some 23) #[true, true, true, true, true, true, true, true, true, false, false, false, false] rfl rfl (by kernel_rfl) (by decide) (fun K hK => ?_)
  refine value_ (w1 := ?_) (v := ?_) (by rfl) rfl ?_ ?_
  rotate_left 2
  · go_simp
    constructor
    · rfl
    · rfl
  have B8 : Aside0 (Below w.heap.size w (w7.alloc (.cells #[.slice A7 bs.length c7] 26))) := ⟨below_alloc B7.out _⟩
  refine hK.out _ _ (((B8.out.cell HL.out).trans hc)) (fun hHeld => ?_)
  clear hK K
  refine norm_ (a' := ?_) ?_ ?_
  rotate_left
  · show Act.put _ (some 23) _ = _
    simp only [Act.put, List.setIfInBounds_toArray, List.set_cons_zero, List.set_cons_succ, i64_w, i32_w]
    rfl
  refine one_ (i := 9) (N := some 24) #[true, true, true, true, true, true, true, true, true, true, false, false, false] rfl rfl (by kernel_rfl) (by decide) (fun K hK => ?_)
  obtain ⟨v9, w9, hrun9, ho9, hm9⟩ := run_append_out (w := w7.alloc (.cells #[.slice A7 bs.length c7] 26)) (HO.out.mv (Mv.of_below B8.out (fun _ => False)) (fun _ _ h => h)) 22 ⟨w7.heap.size, 0, none⟩ 1 (u := .slice A7 bs.length c7) (cell_of_row _ _ 0 _ 26 (0, 0) (heap_alloc_new w7 _)) (Fr.one F7.out) (by have := HN.out; omega)
  obtain ⟨A9, m9, c9, e9⟩ : ∃ A m c, v9 = .slice A m c := by obtain ⟨A, c, e, _⟩ := ho9.form; exact ⟨_, _, _, e⟩
  subst e9
  have E9 := Aside0.mk (put_end (T := 25) (by decide) (by decide) HG.out HB.out HO.out HF.out HX.out B7.out F7.out ho9 hm9)
  refine append_step (by rfl) (.tmp 19) (.tmp 23) 22 rfl rfl rfl hrun9 ?_
  clear hrun9 ho9 hm9
  have cc9 := E9.out.1
  have ff9 := E9.out.2.1
  refine hK.out _ _ (cc9) (fun hHeld => ?_)
  clear hK K
  refine norm_ (a' := ?_) ?_ ?_
  rotate_left
  · show Act.put _ (some 24) _ = _
    simp only [Act.put, List.setIfInBounds_toArray, List.set_cons_zero, List.set_cons_succ, i64_w, i32_w]
    rfl
  refine pure_ (i := 10) (N := some 25) (v := ?_) (a' := ?_) #[true, true, true, true, true, true, true, true, true, true, true, false, false] rfl rfl (by kernel_rfl) (fun _ _ _ h => h) (Or.inl ⟨by rfl, ?_⟩) ?_ ?_
  rotate_left
  · intro w'
    go_simp
    with_reducible rfl
  rotate_left
  · simp only [Act.put, List.setIfInBounds_toArray, List.set_cons_zero, List.set_cons_succ, i64_w, i32_w]
    rfl
  refine pure_ (i := 11) (N := some 26) (v := ?_) (a' := ?_) #[true, true, true, true, true, true, true, true, true, true, true, true, false] rfl rfl (by kernel_rfl) (fun _ _ _ h => h) (Or.inl ⟨by rfl, ?_⟩) ?_ ?_
  rotate_left
  · intro w'
    go_simp
    with_reducible rfl
  rotate_left
  · simp only [Act.put, List.setIfInBounds_toArray, List.set_cons_zero, List.set_cons_succ, i64_w, i32_w]
    rfl
  refine last_ (i := 12) (N := none) #[true, true, true, true, true, true, true, true, true, true, true, true, true] rfl rfl (by kernel_rfl) (by decide) (fun K hK => ?_)
  refine skip_ (w1 := ?_) (by rfl) rfl ?_ ?_
  rotate_left
  · go_simp
    rfl
  refine hK.out _ _ ?_
  clear hK K
  refine done_ (by kernel_rfl) ?_
  
  go_wp2
  go_ret
  exact ⟨rfl, E9.out.2.2⟩
set_option maxHeartbeats 1000000 in
set_option maxRecDepth 100000 in
theorem put_full {w : World} {F : Nat → Prop} {xs : List (List Int)} {g : Nat} {u : Value} (h : Pip 25 w F g xs) (hx : ¬ xs.length < 256) :
    Calls Try.prog 8 #[.pointer (some ⟨g, 0, none⟩), u] w fun e w' => e = .returned (.bool false) ∧ w = w' := by
  obtain ⟨A, c, hc, hl⟩ := h.cell
  clear h
  go_enter Try.func8, Try.ntmps8
  go_wp2
  go_ret
  exact ⟨rfl, rfl⟩
set_option maxHeartbeats 1000000 in
theorem put_nil {w : World} (u : Value) : Calls Try.prog 8 #[.pointer none, u] w fun e w' => e = .returned (.bool false) ∧ w = w' := by
  go_enter Try.func8, Try.ntmps8
  go_wp2
  go_ret
  exact ⟨rfl, rfl⟩
set_option maxHeartbeats 2000000 in
set_option maxRecDepth 100000 in
theorem refPut_c {w : World} {F : Nat → Prop} {xs : List (List Int)} {g : Nat} {A1 : Option Addr} {c1 : Nat} {bs : List Int} (h : Pip 38 w F g xs) (hr : Kd.C (Kd.int .u8) w A1 bs.length bs) (hb1 : bs.length ≤ 140737488351232) (hx : xs.length < 256) :
    Calls Try.prog 13 #[.pointer (some ⟨g, 0, none⟩), .slice A1 bs.length c1] w fun e w' => e = .returned (.bool true) ∧ Pip 38 w' (fun k => F k ∨ w.heap.size ≤ k) g (xs ++ [bs]) ∧ Mv F w w' := by
  obtain ⟨hg, hl, lv, us, hb, ho, hf⟩ := h
  obtain ⟨A, c, rfl, hlc⟩ := ho.form
  have HN : Aside0 (us.length ≤ 256) := ⟨by rw [hf.1]; exact hl⟩
  have hn : us.length < 256 := by rw [hf.1]; exact hx
  obtain ⟨n, hnn⟩ : ∃ n, n = us.length := ⟨_, rfl⟩
  have hc : w.cell? ⟨g, 0, none⟩ = some (.slice A us.length c) := cell_of_row w g 0 _ 38 (0, 0) hb
  rw [← hnn] at hc hn hlc hb ho
  have HG := Aside0.mk hg
  have HL := Aside0.mk (lt_blk hb)
  have HB := Aside0.mk hb
  have HO := Aside0.mk ho
  have HF := Aside0.mk hf
  have HX := Aside0.mk hx
  have HR := Aside0.mk hr
  have HBL := Aside0.mk hb1
  clear hg hb ho hf hx hr hb1 hl hnn
  go_enter Try.func13, Try.ntmps13
  go_wp2
  refine start_ (n := 13) (S := fun w' => w'.cell? ⟨g, 0, none⟩ = some (.slice A n c)) (ds := [12]) #[false, false, false, false, false, false, false, false, false, false, false, false, false] (by kernel_rfl) rfl rfl (hc) (fun hHeld => ?_)
  refine pure_ (i := 0) (N := some 11) (v := ?_) (a' := ?_) #[true, false, false, false, false, false, false, false, false, false, false, false, false] rfl rfl (by kernel_rfl) (fun _ _ _ h => h) (Or.inl ⟨by rfl, ?_⟩) ?_ ?_
  rotate_left
  · intro w'
    go_simp
    with_reducible rfl
  rotate_left
  · simp only [Act.put, List.setIfInBounds_toArray, List.set_cons_zero, List.set_cons_succ, i64_w, i32_w]
    rfl
  refine pure_ (i := 1) (N := some 12) (v := ?_) (a' := ?_) #[true, true, false, false, false, false, false, false, false, false, false, false, false] rfl rfl (by kernel_rfl) (fun _ _ _ h => h) (Or.inl ⟨by rfl, ?_⟩) ?_ ?_
  rotate_left
  · intro w'
    go_simp
    with_reducible rfl
  rotate_left
  · simp only [Act.put, List.setIfInBounds_toArray, List.set_cons_zero, List.set_cons_succ, i64_w, i32_w]
    rfl
  refine pure_ (i := 2) (N := some 13) (v := ?_) (a' := ?_) #[true, true, true, false, false, false, false, false, false, false, false, false, false] rfl rfl (by kernel_rfl) (fun _ _ _ h => h) (Or.inl ⟨by rfl, ?_⟩) ?_ ?_
  rotate_left
  · intro w'
    go_simp
    with_reducible rfl
  rotate_left
  · simp only [Act.put, List.setIfInBounds_toArray, List.set_cons_zero, List.set_cons_succ, i64_w, i32_w]
    rfl
  refine pure_ (i := 3) (N := some 14) (v := ?_) (a' := ?_) #[true, true, true, true, false, false, false, false, false, false, false, false, false] rfl rfl (by kernel_rfl) (fun _ _ _ h => h) (Or.inl ⟨by rfl, ?_⟩) ?_ ?_
  rotate_left
  · intro w'
    go_simp
    with_reducible rfl
  rotate_left
  · simp only [Act.put, List.setIfInBounds_toArray, List.set_cons_zero, List.set_cons_succ, i64_w, i32_w]
    rfl
  refine pure_ (i := 6) (N := some 17) (v := ?_) (a' := ?_) #[true, true, true, true, false, false, true, false, false, false, false, false, false] rfl rfl (by kernel_rfl) (fun _ _ _ h => h) (Or.inl ⟨by rfl, ?_⟩) ?_ ?_
  rotate_left
  · intro w'
    go_simp
    with_reducible rfl
  rotate_left
  · simp only [Act.put, List.setIfInBounds_toArray, List.set_cons_zero, List.set_cons_succ, i64_w, i32_w]
    rfl
  refine take_ (i := 4) (N := some 15) (v := ?_) (a' := ?_) #[true, true, true, true, true, false, true, false, false, false, false, false, false] rfl rfl (by kernel_rfl) (fun _ _ _ h => h) (Or.inl ⟨by rfl, ?_⟩) hHeld ?_ ?_
  rotate_left
  · intro w' s0
    go_simp
    with_reducible rfl
  rotate_left
  · simp only [Act.put, List.setIfInBounds_toArray, List.set_cons_zero, List.set_cons_succ, i64_w, i32_w]
    rfl
  refine one_ (i := 5) (N := some 16) #[true, true, true, true, true, true, true, false, false, false, false, false, false] rfl rfl (by kernel_rfl) (by decide) (fun K hK => ?_)
  refine Kd.R_lit_step (Kd.int .u8) (w0 := w.drew) w.drew.heap.size 5 (by rfl) (N := 16) rfl (xs := ([] : List Int)) (inner := []) (ok := fun _ => True) (okp := fun _ => True) ?hr5 ?hp5 (fun _ hk => hk) trivial (Below.refl _ _) (Nat.le_refl _) (by simp) ?_
  case hr5 => first | (go_simp; done) | (go_simp; rfl)
  case hp5 => exact Reps.none _ _
  intro v5 w5 ho5_ hb5_ hg5_ hn5_
  have O5 := Aside0.mk ho5_
  have B5 := Aside0.mk hb5_
  clear ho5_ hb5_ hg5_ hn5_
  refine hK.out _ _ (((B5.out.cell HL.out).trans hc)) (fun hHeld => ?_)
  clear hK K
  refine norm_ (a' := ?_) ?_ ?_
  rotate_left
  · show Act.put _ (some 16) _ = _
    simp only [Act.put, List.setIfInBounds_toArray, List.set_cons_zero, List.set_cons_succ, i64_w, i32_w]
    rfl
  refine one_ (i := 7) (N := some 18) #[true, true, true, true, true, true, true, true, false, false, false, false, false] rfl rfl (by kernel_rfl) (by decide) (fun K hK => ?_)
  refine Kd.R_append_rows_step (Kd.int .u8) (w0 := w.drew) w.drew.heap.size (by rfl) (.tmp 16) (.tmp 17) 26 5 (.int .u8 0) 1 rfl Try.underlying26 info5 rfl (by decide) (by omega) v5 [] bs _ _ _ (fun _ => True) (fun _ => False) rfl rfl O5.out (Kd.C_below HR.out ((below_drew (Below.refl _ _)).trans B5.out)) (fun _ _ h => h) (fun _ h => h.elim) (fun _ _ => trivial) B5.out B5.out.size (by have := HBL.out; simp; omega) ?_
  intro v7 w7 ho7_ hb7_ hg7_ hat7_
  rw [List.nil_append] at ho7_
  have F7 := Aside0.mk (fr_of_R ho7_ HBL.out)
  have B7 : Aside0 (Below w.heap.size w w7) := ⟨(below_drew (Below.refl _ _)).trans hb7_⟩
  clear ho7_ hb7_ hg7_ hat7_
  obtain ⟨A7, c7, e7, _⟩ := id F7.out
  subst e7
  refine hK.out _ _ (((B7.out.cell HL.out).trans hc)) (fun hHeld => ?_)
  clear hK K
  refine norm_ (a' := ?_) ?_ ?_
  rotate_left
  · show Act.put _ (some 18) _ = _
    simp only [Act.put, List.setIfInBounds_toArray, List.set_cons_zero, List.set_cons_succ, i64_w, i32_w]
    rfl
  refine one_ (i := 8) (N := some 19) #[true, true, true, true, true, true, true, true, true, false, false, false, false] rfl rfl (by kernel_rfl) (by decide) (fun K hK => ?_)
  refine value_ (w1 := ?_) (v := ?_) (by rfl) rfl ?_ ?_
  rotate_left 2
  · go_simp
    constructor
    · rfl
    · rfl
  have B8 : Aside0 (Below w.heap.size w (w7.alloc (.cells #[.slice A7 bs.length c7] 26))) := ⟨below_alloc B7.out _⟩
  refine hK.out _ _ (((B8.out.cell HL.out).trans hc)) (fun hHeld => ?_)
  clear hK K
  refine norm_ (a' := ?_) ?_ ?_
  rotate_left
  · show Act.put _ (some 19) _ = _
    simp only [Act.put, List.setIfInBounds_toArray, List.set_cons_zero, List.set_cons_succ, i64_w, i32_w]
    rfl
  refine one_ (i := 9) (N := some 20) #[true, true, true, true, true, true, true, true, true, true, false, false, false] rfl rfl (by kernel_rfl) (by decide) (fun K hK => ?_)
  obtain ⟨v9, w9, hrun9, ho9, hm9⟩ := run_append_out (w := w7.alloc (.cells #[.slice A7 bs.length c7] 26)) (HO.out.mv (Mv.of_below B8.out (fun _ => False)) (fun _ _ h => h)) 22 ⟨w7.heap.size, 0, none⟩ 1 (u := .slice A7 bs.length c7) (cell_of_row _ _ 0 _ 26 (0, 0) (heap_alloc_new w7 _)) (Fr.one F7.out) (by have := HN.out; omega)
  obtain ⟨A9, m9, c9, e9⟩ : ∃ A m c, v9 = .slice A m c := by obtain ⟨A, c, e, _⟩ := ho9.form; exact ⟨_, _, _, e⟩
  subst e9
  have E9 := Aside0.mk (put_end (T := 38) (by decide) (by decide) HG.out HB.out HO.out HF.out HX.out B7.out F7.out ho9 hm9)
  refine append_step (by rfl) (.tmp 15) (.tmp 19) 22 rfl rfl rfl hrun9 ?_
  clear hrun9 ho9 hm9
  have cc9 := E9.out.1
  have ff9 := E9.out.2.1
  refine hK.out _ _ (cc9) (fun hHeld => ?_)
  clear hK K
  refine norm_ (a' := ?_) ?_ ?_
  rotate_left
  · show Act.put _ (some 20) _ = _
    simp only [Act.put, List.setIfInBounds_toArray, List.set_cons_zero, List.set_cons_succ, i64_w, i32_w]
    rfl
  refine pure_ (i := 10) (N := some 21) (v := ?_) (a' := ?_) #[true, true, true, true, true, true, true, true, true, true, true, false, false] rfl rfl (by kernel_rfl) (fun _ _ _ h => h) (Or.inl ⟨by rfl, ?_⟩) ?_ ?_
  rotate_left
  · intro w'
    go_simp
    with_reducible rfl
  rotate_left
  · simp only [Act.put, List.setIfInBounds_toArray, List.set_cons_zero, List.set_cons_succ, i64_w, i32_w]
    rfl
  refine pure_ (i := 11) (N := some 22) (v := ?_) (a' := ?_) #[true, true, true, true, true, true, true, true, true, true, true, true, false] rfl rfl (by kernel_rfl) (fun _ _ _ h => h) (Or.inl ⟨by rfl, ?_⟩) ?_ ?_
  rotate_left
  · intro w'
    go_simp
    with_reducible rfl
  rotate_left
  · simp only [Act.put, List.setIfInBounds_toArray, List.set_cons_zero, List.set_cons_succ, i64_w, i32_w]
    rfl
  refine last_ (i := 12) (N := none) #[true, true, true, true, true, true, true, true, true, true, true, true, true] rfl rfl (by kernel_rfl) (by decide) (fun K hK => ?_)
  refine skip_ (w1 := ?_) (by rfl) rfl ?_ ?_
  rotate_left
  · go_simp
    rfl
  refine hK.out _ _ ?_
  clear hK K
  refine done_ (by kernel_rfl) ?_
  
  go_wp2
  go_ret
  exact ⟨rfl, E9.out.2.2⟩
set_option maxHeartbeats 1000000 in
set_option maxRecDepth 100000 in
theorem refPut_full {w : World} {F : Nat → Prop} {xs : List (List Int)} {g : Nat} {u : Value} (h : Pip 38 w F g xs) (hx : ¬ xs.length < 256) :
    Calls Try.prog 13 #[.pointer (some ⟨g, 0, none⟩), u] w fun e w' => e = .returned (.bool false) ∧ w = w' := by
  obtain ⟨A, c, hc, hl⟩ := h.cell
  clear h
  go_enter Try.func13, Try.ntmps13
  go_wp2
  go_ret
  exact ⟨rfl, rfl⟩
end Go.Proofs.Ytefkaefgihhcaaa.PP
