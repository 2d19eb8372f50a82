/- The contract of pipe.All. -/
import Derived.Test.YtefkaefgihhcaaaD7
namespace Go.Proofs.Ytefkaefgihhcaaa.PP
open Go.RowKit Go.Proofs.YtefkaefgihhcaaaW.PrintWords Go.Proofs.YtefkaefgihhcaaaW.PrintLast Go.Proofs.YtefkaefgihhcaaaW.PrintMore
attribute [local go_sem] max2_int min2_int max_two min_two max_three min_three max_four min_four
set_option linter.unusedVariables false
set_option linter.unusedSimpArgs false
section
variable {w w' w6 w7 : World} {F S : Nat → Prop} {xs ys : List (List Int)} {us : List Value} {bs : List Int} {g : Nat} {lv u v : Value}
/-- One frame more, copied: what a row of the call's own and its frames are then. (w: at the begin of the round; w6: the copy is made; w7: it is appended.) -/
theorem snoc_end {B : Nat} (hB : B ≤ w.heap.size) (ho : Out w (fun k => B ≤ k) lv us) (hr : Frs w (fun k => B ≤ k) us xs) (b6 : Below w.heap.size w w6) (f6 : Fr w6 (fun k => w.heap.size ≤ k) u bs)
    (ho7 : Out w7 (fun k => B ≤ k ∨ (w6.alloc (.cells #[u] 26)).heap.size ≤ k) v (us ++ [u])) (hm7 : Mv (fun k => some k = lv.ownBlock) (w6.alloc (.cells #[u] 26)) w7) :
    Out w7 (fun k => B ≤ k) v (us ++ [u]) ∧ Frs w7 (fun k => B ≤ k) (us ++ [u]) (xs ++ [bs]) ∧ Mv (fun k => B ≤ k) w w7 := by
  have b8 : Below w6.heap.size w6 (w6.alloc (.cells #[u] 26)) := below_alloc (Below.refl _ _) _
  have b68 : Below w.heap.size w (w6.alloc (.cells #[u] 26)) := b6.trans (b8.mono b6.size)
  have o8 : Out (w6.alloc (.cells #[u] 26)) (fun k => B ≤ k) lv us := ho.mv (Mv.of_below b68 (fun _ => False)) (fun _ _ h => h)
  have r8 : Frs (w6.alloc (.cells #[u] 26)) (fun k => B ≤ k) us xs := hr.mv (Mv.of_below b68 (fun _ => False)) (fun _ _ h => h)
  have f8 : Fr (w6.alloc (.cells #[u] 26)) (fun k => w.heap.size ≤ k) u bs := f6.mv (Mv.of_below b8 (fun _ => False)) (fun _ _ h => h)
  have hs := b68.size
  refine ⟨ho7.mono (fun k hk => by rcases hk with hk | hk; exact hk; exact Nat.le_trans hB (Nat.le_trans hs hk)), ?_, ?_⟩
  · exact Frs.other (r8.snoc (f8.mono (fun k hk => Nat.le_trans hB hk))) (fun k cells hk => mv_other o8 hm7 (by decide) k cells hk)
  · exact (Mv.of_below b68 (fun k => B ≤ k)).trans (hm7.mono (S' := fun k => B ≤ k) (fun k hk => (o8.own k hk).1)) (fun k hk => .inl hk)
set_option maxHeartbeats 2000000 in
theorem all_nil : Calls Try.prog 17 #[.pointer none] w fun e w' => e = .returned (.slice none 0 0) ∧ w = w' := by
  go_enter Try.func17, Try.ntmps17
  go_wp2
  go_ret
  exact ⟨rfl, rfl⟩
set_option maxHeartbeats 4000000 in
set_option maxRecDepth 100000 in
theorem all_c (h : Pip 25 w F g xs) : Calls Try.prog 17 #[.pointer (some ⟨g, 0, none⟩)] w fun e w' => ∃ v us, e = .returned v ∧ Out w' (fun k => w.heap.size ≤ k) v us ∧ Frs w' (fun k => w.heap.size ≤ k) us xs ∧ Below w.heap.size w w' := by
  obtain ⟨A, c, hc, hlc⟩ := h.cell
  have H := Aside0.mk h
  have h256 := h.2.1
  obtain ⟨n, hn⟩ : ∃ n, n = xs.length := ⟨_, rfl⟩
  rw [← hn] at hc hlc h256
  have HN := Aside0.mk hn
  clear h hn
  go_enter Try.func17, Try.ntmps17
  go_wp2
  go_loopw [3, 13] (fun v3 v13 wr => ∃ (k : Nat) (us : List Value), v13 = .int .i64 k ∧ k ≤ n ∧ Aside0 (Out wr (fun j => w.heap.size ≤ j) v3 us) ∧ Aside0 (Frs wr (fun j => w.heap.size ≤ j) us (xs.take k)) ∧ Aside0 (Below w.heap.size w wr)) (fun _ i _ => n - (intOf i).toNat)
  case atStart => exact ⟨0, [], by go_num, Nat.zero_le _, ⟨out_nil⟩, ⟨by simpa using Frs.nil⟩, ⟨Below.refl _ _⟩⟩
  case round =>
    obtain ⟨k, us, rfl, hk, HO, HF, HB⟩ := hrel
    obtain ⟨wo, rfl⟩ : ∃ wo : World, wo = wr := ⟨_, rfl⟩
    by_cases hlt : k < n
    · have hkx : k < xs.length := by rw [← HN.out]; exact hlt
      obtain ⟨G, cap, Au, cu, hc2, hcap, hcell, hfr⟩ := H.out.frame hkx
      rw [hc] at hc2
      injection hc2 with hc2
      injection hc2 with e1 e2 e3
      subst e1 e3
      obtain ⟨x, hx⟩ : ∃ x, x = xs[k] := ⟨_, rfl⟩
      rw [← hx] at hcell hfr
      have hcell' : wo.cell? ⟨G, k, none⟩ = some (.slice Au x.length cu) := (HB.out.cell (World.block_lt_of_cell? w _ hcell)).trans hcell
      have HFR := Aside0.mk (hfr.mv (Mv.of_below HB.out (fun _ => False)) (fun _ _ h => h))
      have HC : Aside0 (Kd.C (Kd.int .u8) wo Au x.length x) := ⟨by obtain ⟨A, c, e, _, hC⟩ := HFR.out.reads; injection e with e1 _ _; subst e1; exact hC⟩
      have HL : Aside0 (x.length ≤ 140737488351232) := ⟨by obtain ⟨_, _, _, _, h, _⟩ := hfr; exact h⟩

      have HU : Aside0 (us.length ≤ 100000) := ⟨by rw [HF.out.1, List.length_take]; omega⟩
      have HT : Aside0 (xs.take (k + 1) = xs.take k ++ [x]) := ⟨by rw [List.take_succ_eq_append_getElem hkx, hx]⟩
      have q1 : (k : Int) < (n : Int) := by omega
      have q0 : (0 : Int) ≤ (k : Int) := by omega
      clear hcell hfr hx hcap e2
      go_wp2_with (first
        | ((with_reducible refine gate_dst (N := 18) rfl ?_); (try (refine gate_guard (by rfl) ?_; dsimp only)); refine Kd.R_lit (Kd.int .u8) wo.heap.size 5 ?hg (N := 18) ?hd (w0 := wo) (xs := ([] : List Int)) (inner := []) (ok := fun _ => True) (okp := fun _ => True) ?hr ?hp (fun _ hk => hk) trivial (Below.refl _ _) (Nat.le_refl _) (by simp) ?_; (case hd => rfl); (case hg => rfl); (case hr => first | (go_simp; done) | (go_simp; rfl)); (case hp => exact Reps.none _ _); intro v5 w5 ho_ hb_ hg_ hnew_; have Ov5 := Aside0.mk ho_; have Bv5 := Aside0.mk hb_; clear hg_ hnew_ ho_ hb_)
        | ((with_reducible refine gate_builtin (b := .append) (xs := #[.tmp 18, .tmp 19]) rfl ?_); at_builtin; refine Kd.R_append_rows (Kd.int .u8) (w0 := wo) wo.heap.size rfl (.tmp 18) (.tmp 19) 26 5 (.int .u8 0) 1 rfl Try.underlying26 info5 rfl (by decide) (by omega) v5 [] x _ _ _ (fun _ => True) (fun _ => False) rfl rfl Ov5.out (Kd.C_below HC.out Bv5.out) (fun _ _ h => h) (fun _ h => h.elim) (fun _ _ => trivial) Bv5.out Bv5.out.size (by have := HL.out; simp; omega) ?_; intro v_ w6 ho_ hb_ hg_ hat_; rw [List.nil_append] at ho_; have Fw6 := Aside0.mk (fr_of_R ho_ HL.out); have Bw6 := Aside0.mk hb_; clear ho_ hb_ hg_ hat_; obtain ⟨A6, c6, e_, _⟩ := id Fw6.out; subst e_)
        | ((with_reducible refine gate_builtin (b := .append) (xs := #[.tmp 17, .tmp 21]) rfl ?_); at_builtin; obtain ⟨v7, w7, hr_, ho_, hm_⟩ := run_append_out (w := w6.alloc (.cells #[.slice A6 x.length c6] 26)) (HO.out.mv (Mv.of_below (below_alloc Bw6.out _) (fun _ => False)) (fun _ _ h => h)) 22 ⟨w6.heap.size, 0, none⟩ 1 (u := .slice A6 x.length c6) (cell_of_row _ _ 0 _ 26 (0, 0) (heap_alloc_new w6 _)) (by rfl) (HU.out); refine append_go rfl (.tmp 17) (.tmp 21) 22 rfl rfl rfl hr_ ?_; have Ow7 := Aside0.mk ho_; have Mw7 := Aside0.mk hm_; clear hr_ ho_ hm_))
      have E := Aside0.mk (snoc_end HB.out.size HO.out HF.out Bw6.out Fw6.out Ow7.out Mw7.out)
      go_roundw
      case rel => exact ⟨k + 1, _, by go_num, by omega, ⟨E.out.1⟩, ⟨by rw [HT.out]; exact E.out.2.1⟩, ⟨HB.out.trans (E.out.2.2.below (Nat.le_trans (Nat.le_refl _) HB.out.size) (fun _ h => h))⟩⟩
      case measure => simp [intOf]; omega
    · go_wp2
      go_ret
      exact ⟨_, us, rfl, HO.out, by have := HF.out; rw [List.take_of_length_le (by rw [← HN.out]; omega)] at this; exact this, HB.out⟩
end
end Go.Proofs.Ytefkaefgihhcaaa.PP
