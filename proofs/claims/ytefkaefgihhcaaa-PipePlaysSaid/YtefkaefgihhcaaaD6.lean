/- Contracts of pipe.Take. -/
import Derived.Test.YtefkaefgihhcaaaD5
namespace Go.Proofs.Ytefkaefgihhcaaa.PP
open Go.RowKit Go.Proofs.YtefkaefgihhcaaaW.PrintWords Go.Proofs.YtefkaefgihhcaaaW.PrintLast Go.Proofs.YtefkaefgihhcaaaW.PrintMore
attribute [local go_sem] max2_int min2_int max_two min_two max_three min_three max_four min_four
set_option linter.unusedVariables false
set_option linter.unusedSimpArgs false
section
variable {w w' w9 : World} {F S : Nat → Prop} {xs : List (List Int)} {us : List Value} {bs : List Int} {g : Nat} {T : TypeId} {lv u v9 : Value}
theorem take_end (hT : T ≠ 26) (hT5 : T ≠ 5) (hg : F g) (hb : w.heap[g]? = some (.cells #[lv] T (0, 0))) (hr : Frs w F us xs) (hl : xs.length ≤ 256) {k : Nat}
    (ho9 : Out w9 (fun i => F i ∨ w.drew.heap.size ≤ i) v9 (us.eraseIdx k)) (hb9 : Below w.drew.heap.size w.drew w9) :
    w9.cell? ⟨g, 0, none⟩ = some lv ∧ w9.frozen? ⟨g, 0, none⟩ = false ∧ Pip T (w9.setCell ⟨g, 0, none⟩ v9) (fun i => F i ∨ w.heap.size ≤ i) g (xs.eraseIdx k) ∧ Mv F w (w9.setCell ⟨g, 0, none⟩ v9) ∧
      ∀ u bs, Fr w F u bs → Fr (w9.setCell ⟨g, 0, none⟩ v9) F u bs := by
  have b9 : Below w.heap.size w w9 := (below_drew (Below.refl _ _)).trans hb9
  have h9 : w9.heap[g]? = some (.cells #[lv] T (0, 0)) := (b9.block g (lt_blk hb)).trans hb
  refine ⟨by rw [cell_of_row w9 g 0 _ T (0, 0) h9]; rfl, by simp [World.frozen?, h9], ⟨.inl hg, by rw [List.length_eraseIdx]; split <;> omega, v9, _, blk_set h9 0 v9, ho9.other (set_other h9 (Ne.symm hT) 0 v9), ?_⟩, ?_, ?_⟩
  · exact (((hr.mv (Mv.of_below b9 (fun _ => False)) (fun _ _ h => h)).erase k).other (set_other h9 (Ne.symm hT5) 0 v9)).mono (fun i hi => .inl hi)
  · exact (Mv.of_below b9 F).trans (Mv.set_ w9 g 0 v9) (fun i hi => by subst hi; exact .inl hg)
  · exact fun u bs hu => (hu.mv (Mv.of_below b9 (fun _ => False)) (fun _ _ h => h)).other (set_other h9 (Ne.symm hT5) 0 v9)
theorem run_tail (G n cap k : Nat) (hk : k < n) (hc : n ≤ cap) (W : World) : (Instr.slice 22 (.slice (some ⟨G, 0, none⟩) n cap) (some (.int .i64 ((k : Int) + 1))) none none).run Try.prog W = .ok (.slice (if cap = k + 1 then some ⟨G, 0, none⟩ else some ⟨G, k + 1, none⟩) (n - (k + 1)) (cap - (k + 1))) W := by
  obtain ⟨i, hi, hz, hs, hb⟩ := info_parts info26
  have hel : Try.prog.elem 22 = 26 := by simp [Program.elem, Try.underlying22]
  have hu : Try.prog.underlying 22 = some (.slice (Try.prog.elem 22)) := by rw [hel]; exact Try.underlying22
  rw [run_slice_l W 22 (some ⟨G, 0, none⟩) n cap hu .i64 ((k : Int) + 1) (by omega) (by omega), hel]
  have e : ((k : Int) + 1).toNat = k + 1 := by omega
  simp [sizeOf, typeInfo, hi, hs, sliced, Result.andThen, e, add_at]
set_option maxHeartbeats 1000000 in
theorem take_none (h : Pip 25 w F g []) (i : Int) : Calls Try.prog 10 #[.pointer (some ⟨g, 0, none⟩), .int .i64 i] w fun e w' => e = .returned (.tuple #[.slice none 0 0, .bool false]) ∧ w = w' := by
  have H := Aside0.mk h
  clear h
  go_enter Try.func10, Try.ntmps10
  go_wp2_with (go_at_call 19; (with_reducible refine (place_none H.out i).mono ?_); rintro e w' ⟨rfl, rfl⟩)
  go_ret2
  exact ⟨rfl, rfl⟩
set_option maxHeartbeats 1000000 in
theorem take_nil (i : Int) : Calls Try.prog 10 #[.pointer none, .int .i64 i] w fun e w' => e = .returned (.tuple #[.slice none 0 0, .bool false]) ∧ w = w' := by
  go_enter Try.func10, Try.ntmps10
  go_wp2_with (go_at_call 19; (with_reducible refine (place_nil i).mono ?_); rintro e w' ⟨rfl, rfl⟩)
  go_ret2
  exact ⟨rfl, rfl⟩
set_option maxHeartbeats 2000000 in
set_option maxRecDepth 100000 in
theorem take_c (h : Pip 25 w F g xs) (i : Int) (hx : 0 < xs.length) : Calls Try.prog 10 #[.pointer (some ⟨g, 0, none⟩), .int .i64 i] w fun e w' =>
    ∃ u, e = .returned (.tuple #[u, .bool true]) ∧ (∀ bs, xs[pk i xs.length]? = some bs → Fr w' F u bs) ∧ Pip 25 w' (fun j => F j ∨ w.heap.size ≤ j) g (xs.eraseIdx (pk i xs.length)) ∧ Mv F w w' := by
  have H := Aside0.mk h
  have HI := Aside0.mk hx
  obtain ⟨hg, hl, lv, us, hb, ho, hf⟩ := h
  have hn : us.length = xs.length := hf.1
  have hkx : pk i xs.length < xs.length := Nat.mod_lt _ hx
  obtain ⟨k, hk⟩ : ∃ k, k = pk i xs.length := ⟨_, rfl⟩
  have hku : k < us.length := by rw [hk, hn]; exact hkx
  obtain ⟨G, cap, rfl, hcap, hGF, hcell⟩ := ho.at_ hku
  obtain ⟨x, hx2⟩ : ∃ x, xs[k]? = some x := ⟨_, List.getElem?_eq_getElem (by rw [hk]; exact hkx)⟩
  have hfr : Fr w F us[k] x := hf.2 k _ _ (List.getElem?_eq_getElem hku) hx2
  obtain ⟨Au, cu, eu, _⟩ := id hfr
  rw [eu] at hcell hfr
  have HFR := Aside0.mk hfr
  have hc : w.cell? ⟨g, 0, none⟩ = some (.slice (some ⟨G, 0, none⟩) us.length cap) := cell_of_row w g 0 _ 25 (0, 0) hb
  have HDEL : Aside0 (∀ ty c2, _) := ⟨fun ty c2 => run_append_del (w := w.drew) (ho.mv (w' := w.drew) (Mv.of_below (below_drew (Below.refl _ _)) (fun _ => False)) (fun _ _ h => h)) ty hku (if cap = k + 1 then some ⟨G, 0, none⟩ else some ⟨G, k + 1, none⟩) rfl c2 (by omega)⟩
  obtain ⟨n, hnn⟩ : ∃ n, n = us.length := ⟨_, rfl⟩
  have hsl := run_tail G n cap k (by omega) (by omega)
  rw [← hnn] at hc hku hcap hb HDEL
  have hk256 : n ≤ 256 := by omega
  have HX := Aside0.mk hx2
  have HK := Aside0.mk hk
  have HG := Aside0.mk hg
  have HL := Aside0.mk hl
  have HB := Aside0.mk hb
  have HF := Aside0.mk hf
  clear hg hl hb ho hf hn hkx hk hx2 hfr eu hx hnn hGF
  generalize (if cap = k + 1 then (some ⟨G, 0, none⟩ : Option Addr) else some ⟨G, k + 1, none⟩) = A2 at hsl HDEL
  have q1 : IntKind.i64.wrap ((k : Int) + 1) = (k : Int) + 1 := IntWalk.i64_in _ (by omega)
  have q2 : (k : Int) < (n : Int) := by omega
  have q4 : k ≤ cap := by omega
  have q3 : (0 : Int) ≤ (k : Int) := by omega
  go_enter Try.func10, Try.ntmps10
  go_wp2_with (go_at_call 19; (with_reducible refine (place_c H.out i HI.out).mono ?_); rintro e w' ⟨rfl, rfl⟩; rw [← HK.out])
  refine start_ (n := 19) (S := fun w' => w'.cell? ⟨g, 0, none⟩ = some (.slice (some ⟨G, 0, none⟩) n cap)) (ds := [18]) #[false, false, false, false, false, false, false, false, false, false, false, false, false, false, false, false, false, false, false] (by kernel_rfl) rfl rfl (hc) (fun hHeld => ?_)
  refine pure_ (i := 0) (N := some 20) (v := ?_) (a' := ?_) #[true, false, false, false, false, false, false, false, false, false, false, false, false, false, false, false, false, false, false] rfl rfl (by kernel_rfl) (fun _ _ _ h => h) (Or.inl ⟨by rfl, ?_⟩) ?_ ?_
  rotate_left
  · intro w'
    go_simp
    with_reducible rfl
  rotate_left
  · simp only [Act.put, List.setIfInBounds_toArray, List.set_cons_zero, List.set_cons_succ, i64_w, i32_w]
    rfl
  refine pure_ (i := 1) (N := some 21) (v := ?_) (a' := ?_) #[true, true, false, false, false, false, false, false, false, false, false, false, false, false, false, false, false, false, false] rfl rfl (by kernel_rfl) (fun _ _ _ h => h) (Or.inl ⟨by rfl, ?_⟩) ?_ ?_
  rotate_left
  · intro w'
    go_simp
    with_reducible rfl
  rotate_left
  · simp only [Act.put, List.setIfInBounds_toArray, List.set_cons_zero, List.set_cons_succ, i64_w, i32_w]
    rfl
  refine pure_ (i := 2) (N := some 22) (v := ?_) (a' := ?_) #[true, true, true, false, false, false, false, false, false, false, false, false, false, false, false, false, false, false, false] rfl rfl (by kernel_rfl) (fun _ _ _ h => h) (Or.inl ⟨by rfl, ?_⟩) ?_ ?_
  rotate_left
  · intro w'
    go_simp
    with_reducible rfl
  rotate_left
  · simp only [Act.put, List.setIfInBounds_toArray, List.set_cons_zero, List.set_cons_succ, i64_w, i32_w]
    rfl
  refine pure_ (i := 3) (N := some 23) (v := ?_) (a' := ?_) #[true, true, true, true, false, false, false, false, false, false, false, false, false, false, false, false, false, false, false] rfl rfl (by kernel_rfl) (fun _ _ _ h => h) (Or.inl ⟨by rfl, ?_⟩) ?_ ?_
  rotate_left
  · intro w'
    go_simp
    with_reducible rfl
  rotate_left
  · simp only [Act.put, List.setIfInBounds_toArray, List.set_cons_zero, List.set_cons_succ, i64_w, i32_w]
    rfl
  refine pure_ (i := 5) (N := some 25) (v := ?_) (a' := ?_) #[true, true, true, true, false, true, false, false, false, false, false, false, false, false, false, false, false, false, false] rfl rfl (by kernel_rfl) (fun _ _ _ h => h) (Or.inl ⟨by rfl, ?_⟩) ?_ ?_
  rotate_left
  · intro w'
    go_simp
    with_reducible rfl
  rotate_left
  · simp only [Act.put, List.setIfInBounds_toArray, List.set_cons_zero, List.set_cons_succ, i64_w, i32_w]
    rfl
  refine pure_ (i := 6) (N := some 26) (v := ?_) (a' := ?_) #[true, true, true, true, false, true, true, false, false, false, false, false, false, false, false, false, false, false, false] rfl rfl (by kernel_rfl) (fun _ _ _ h => h) (Or.inl ⟨by rfl, ?_⟩) ?_ ?_
  rotate_left
  · intro w'
    go_simp
    with_reducible rfl
  rotate_left
  · simp only [Act.put, List.setIfInBounds_toArray, List.set_cons_zero, List.set_cons_succ, i64_w, i32_w]
    rfl
  refine pure_ (i := 8) (N := some 28) (v := ?_) (a' := ?_) #[true, true, true, true, false, true, true, false, true, false, false, false, false, false, false, false, false, false, false] rfl rfl (by kernel_rfl) (fun _ _ _ h => h) (Or.inl ⟨by rfl, ?_⟩) ?_ ?_
  rotate_left
  · intro w'
    go_simp
    with_reducible rfl
  rotate_left
  · simp only [Act.put, List.setIfInBounds_toArray, List.set_cons_zero, List.set_cons_succ, i64_w, i32_w]
    rfl
  refine pure_ (i := 9) (N := some 29) (v := ?_) (a' := ?_) #[true, true, true, true, false, true, true, false, true, true, false, false, false, false, false, false, false, false, false] rfl rfl (by kernel_rfl) (fun _ _ _ h => h) (Or.inl ⟨by rfl, ?_⟩) ?_ ?_
  rotate_left
  · intro w'
    go_simp
    with_reducible rfl
  rotate_left
  · simp only [Act.put, List.setIfInBounds_toArray, List.set_cons_zero, List.set_cons_succ, i64_w, i32_w]
    rfl
  refine pure_ (i := 10) (N := some 30) (v := ?_) (a' := ?_) #[true, true, true, true, false, true, true, false, true, true, true, false, false, false, false, false, false, false, false] rfl rfl (by kernel_rfl) (fun _ _ _ h => h) (Or.inl ⟨by rfl, ?_⟩) ?_ ?_
  rotate_left
  · intro w'
    go_simp
    with_reducible rfl
  rotate_left
  · simp only [Act.put, List.setIfInBounds_toArray, List.set_cons_zero, List.set_cons_succ, i64_w, i32_w]
    rfl
  refine pure_ (i := 12) (N := some 32) (v := ?_) (a' := ?_) #[true, true, true, true, false, true, true, false, true, true, true, false, true, false, false, false, false, false, false] rfl rfl (by kernel_rfl) (fun _ _ _ h => h) (Or.inl ⟨by rfl, ?_⟩) ?_ ?_
  rotate_left
  · intro w'
    go_simp
    with_reducible rfl
  rotate_left
  · simp only [Act.put, List.setIfInBounds_toArray, List.set_cons_zero, List.set_cons_succ, i64_w, i32_w]
    rfl
  refine pure_ (i := 13) (N := some 33) (v := ?_) (a' := ?_) #[true, true, true, true, false, true, true, false, true, true, true, false, true, true, false, false, false, false, false] rfl rfl (by kernel_rfl) (fun _ _ _ h => h) (Or.inl ⟨by rfl, ?_⟩) ?_ ?_
  rotate_left
  · intro w'
    go_simp
    with_reducible rfl
  rotate_left
  · simp only [Act.put, List.setIfInBounds_toArray, List.set_cons_zero, List.set_cons_succ, i64_w, i32_w]
    rfl
  refine take_ (i := 4) (N := some 24) (v := ?_) (a' := ?_) #[true, true, true, true, true, true, true, false, true, true, true, false, true, true, false, false, false, false, false] rfl rfl (by kernel_rfl) (fun _ _ _ h => h) (Or.inl ⟨by rfl, ?_⟩) hHeld ?_ ?_
  rotate_left
  · intro w' s0
    go_simp
    with_reducible rfl
  rotate_left
  · simp only [Act.put, List.setIfInBounds_toArray, List.set_cons_zero, List.set_cons_succ, i64_w, i32_w]
    rfl
  refine pure_ (i := 7) (N := some 27) (v := ?_) (a' := ?_) #[true, true, true, true, true, true, true, true, true, true, true, false, true, true, false, false, false, false, false] rfl rfl (by kernel_rfl) (fun _ _ _ h => h) (Or.inl ⟨by rfl, ?_⟩) ?_ ?_
  rotate_left
  · intro w'
    go_simp
    with_reducible rfl
  rotate_left
  · simp only [Act.put, List.setIfInBounds_toArray, List.set_cons_zero, List.set_cons_succ, i64_w, i32_w]
    rfl
  refine take_ (i := 11) (N := some 31) (v := ?_) (a' := ?_) #[true, true, true, true, true, true, true, true, true, true, true, true, true, true, false, false, false, false, false] rfl rfl (by kernel_rfl) (fun _ _ _ h => h) (Or.inl ⟨by rfl, ?_⟩) hHeld ?_ ?_
  rotate_left
  · intro w' s0
    go_simp
    with_reducible rfl
  rotate_left
  · simp only [Act.put, List.setIfInBounds_toArray, List.set_cons_zero, List.set_cons_succ, i64_w, i32_w]
    rfl
  refine pure_ (i := 14) (N := some 34) (v := ?_) (a' := ?_) #[true, true, true, true, true, true, true, true, true, true, true, true, true, true, true, false, false, false, false] rfl rfl (by kernel_rfl) (fun _ _ _ h => h) (Or.inl ⟨by rfl, ?_⟩) ?_ ?_
  rotate_left
  · intro w'
    go_simp
    with_reducible rfl
  rotate_left
  · simp only [Act.put, List.setIfInBounds_toArray, List.set_cons_zero, List.set_cons_succ, i64_w, i32_w]
    rfl
  refine one_ (i := 15) (N := some 35) #[true, true, true, true, true, true, true, true, true, true, true, true, true, true, true, true, false, false, false] rfl rfl (by kernel_rfl) (by decide) (fun K hK => ?_)
  obtain ⟨v9, w9, hrun9, ho9, hb9⟩ := HDEL.out 22 (cap - (k + 1))
  obtain ⟨A9, m9, c9, e9⟩ : ∃ A m c, v9 = .slice A m c := by obtain ⟨A, c, e, _⟩ := ho9.form; exact ⟨_, _, _, e⟩
  subst e9
  have E9 := Aside0.mk (take_end (T := 25) (by decide) (by decide) HG.out HB.out HF.out HL.out ho9 hb9)
  refine append_step (by rfl) (.tmp 27) (.tmp 34) 22 rfl rfl rfl hrun9 ?_
  clear hrun9 ho9 hb9
  have cc9 := E9.out.1
  have ff9 := E9.out.2.1
  refine hK.out _ _ (cc9) (fun hHeld => ?_)
  clear hK K
  refine norm_ (a' := ?_) ?_ ?_
  rotate_left
  · show Act.put _ (some 35) _ = _
    simp only [Act.put, List.setIfInBounds_toArray, List.set_cons_zero, List.set_cons_succ, i64_w, i32_w]
    rfl
  refine pure_ (i := 16) (N := some 36) (v := ?_) (a' := ?_) #[true, true, true, true, true, true, true, true, true, true, true, true, true, true, true, true, true, false, false] rfl rfl (by kernel_rfl) (fun _ _ _ h => h) (Or.inl ⟨by rfl, ?_⟩) ?_ ?_
  rotate_left
  · intro w'
    go_simp
    with_reducible rfl
  rotate_left
  · simp only [Act.put, List.setIfInBounds_toArray, List.set_cons_zero, List.set_cons_succ, i64_w, i32_w]
    rfl
  refine pure_ (i := 17) (N := some 37) (v := ?_) (a' := ?_) #[true, true, true, true, true, true, true, true, true, true, true, true, true, true, true, true, true, true, false] rfl rfl (by kernel_rfl) (fun _ _ _ h => h) (Or.inl ⟨by rfl, ?_⟩) ?_ ?_
  rotate_left
  · intro w'
    go_simp
    with_reducible rfl
  rotate_left
  · simp only [Act.put, List.setIfInBounds_toArray, List.set_cons_zero, List.set_cons_succ, i64_w, i32_w]
    rfl
  refine last_ (i := 18) (N := none) #[true, true, true, true, true, true, true, true, true, true, true, true, true, true, true, true, true, true, true] rfl rfl (by kernel_rfl) (by decide) (fun K hK => ?_)
  refine skip_ (w1 := ?_) (by rfl) rfl ?_ ?_
  rotate_left
  · go_simp
    rfl
  refine hK.out _ _ ?_
  clear hK K
  refine done_ (by kernel_rfl) ?_
  
  go_wp2
  go_ret2
  rw [← HK.out]
  exact ⟨_, rfl, fun bs hbs => by rw [HX.out] at hbs; injection hbs with hbs; subst hbs; exact E9.out.2.2.2.2 _ _ HFR.out, E9.out.2.2.1, E9.out.2.2.2.1⟩
end
end Go.Proofs.Ytefkaefgihhcaaa.PP
