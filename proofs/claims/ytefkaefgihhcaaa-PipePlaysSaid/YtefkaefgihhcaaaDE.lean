/- The walk of PipeOrder. -/
import Derived.Test.YtefkaefgihhcaaaDB
namespace Go.Proofs.Ytefkaefgihhcaaa.PP
open Go.RowKit Go.Proofs.YtefkaefgihhcaaaW.PrintWords Go.Proofs.YtefkaefgihhcaaaW.PrintLast Go.Proofs.YtefkaefgihhcaaaW.PrintMore
attribute [local go_sem] max2_int min2_int max_two min_two max_three min_three max_four min_four
set_option linter.unusedVariables false
set_option linter.unusedSimpArgs false
section
variable {X Y : World → (Nat → Prop) → Prop} {w0 w w' w6 : World} {g : Nat} {xs ys : List (List Int)} {u v : Value} {x : List Int}
/-- A frame is made beside a thing. -/
theorem hp_beside (GX : Good X) (GY : Good Y) (H : Hp w0 w (Star X Y)) (hb : Below w.heap.size w w6) (hf : Fr w6 (fun k => w.heap.size ≤ k) u x) : Hp w0 w6 (Star (And2 X u x) Y) := by
  obtain ⟨b0, F1, F2, h1, h2, hd, hx, hy⟩ := H
  exact Hp.op GY b0 h1 h2 hd hy ⟨GX.mono (GX.mv hx (Mv.of_below hb (fun _ => False)) (fun _ _ h => h)) (fun k hk => .inl hk), hf.mono (fun k hk => .inr hk)⟩ (Mv.of_below hb F1)
/-- The frame at place k of a list of frames: its cell, and itself beside the list. -/
theorem hp_at (H : Hp w0 w (Star (LLt v ys) Y)) {k : Nat} (hk : k < ys.length) : ∃ (G cap : Nat) (Au : Option Addr) (cu : Nat), v = .slice (some ⟨G, 0, none⟩) ys.length cap ∧ ys.length ≤ cap ∧
    w.cell? ⟨G, k, none⟩ = some (.slice Au ys[k].length cu) ∧ Hp w0 w (Star (And2 (LLt v ys) (.slice Au ys[k].length cu) ys[k]) Y) := by
  obtain ⟨b0, F1, F2, h1, h2, hd, ⟨us, ho, hf⟩, hy⟩ := H
  have hku : k < us.length := by rw [hf.1]; exact hk
  obtain ⟨G, cap, e, hcap, hGF, hcell⟩ := ho.at_ hku
  have hfr : Fr w F1 us[k] ys[k] := hf.2 k _ _ (List.getElem?_eq_getElem hku) (List.getElem?_eq_getElem hk)
  obtain ⟨Au, cu, eu, _⟩ := id hfr
  rw [eu] at hcell hfr
  rw [hf.1] at e hcap
  exact ⟨G, cap, Au, cu, e, hcap, hcell, b0, F1, F2, h1, h2, hd, ⟨⟨us, ho, hf⟩, hfr⟩, hy⟩
/-- append(list, frame): the frame that lies beside the list goes into it. -/
theorem hp_snoc (GY : Good Y) (H : Hp w0 w (Star (And2 (LLt v ys) u x) Y)) (ty : TypeId) (hl : ys.length ≤ 100000) :
    ∃ v' w', (Builtin.append_ #[22, 22] ty #[v, .slice (some ⟨w.heap.size, 0, none⟩) 1 1]).run Try.prog (w.alloc (.cells #[u] 26)) = .ok v' w' ∧ Hp w0 w' (Star (LLt v' (ys ++ [x])) Y) := by
  obtain ⟨b0, F1, F2, h1, h2, hd, ⟨⟨us, ho, hf⟩, hu⟩, hy⟩ := H
  have b8 : Below w.heap.size w (w.alloc (.cells #[u] 26)) := below_alloc (Below.refl _ _) _
  have o8 : Out (w.alloc (.cells #[u] 26)) F1 v us := ho.mv (Mv.of_below b8 (fun _ => False)) (fun _ _ h => h)
  have r8 : Frs (w.alloc (.cells #[u] 26)) F1 us ys := hf.mv (Mv.of_below b8 (fun _ => False)) (fun _ _ h => h)
  have f8 : Fr (w.alloc (.cells #[u] 26)) F1 u x := hu.mv (Mv.of_below b8 (fun _ => False)) (fun _ _ h => h)
  obtain ⟨v', w', hrun, ho', hm'⟩ := run_append_out o8 ty ⟨w.heap.size, 0, none⟩ 1 (cell_of_row _ _ 0 _ 26 (0, 0) (heap_alloc_new w _)) hu.one (by rw [hf.1]; exact hl)
  refine ⟨v', w', hrun, Hp.op GY b0 h1 h2 hd hy ⟨us ++ [u], ho'.mono (fun k hk => ?_), ((r8.snoc f8).other (fun k cells hk => mv_other o8 hm' (by decide) k cells hk)).mono (fun k hk => .inl hk)⟩ ?_⟩
  · rcases hk with hk | hk
    · exact .inl hk
    · exact .inr (Nat.le_trans b8.size hk)
  · exact (Mv.of_below b8 F1).trans (hm'.mono (S' := F1) (fun k hk => (o8.own k hk).1)) (fun k hk => .inl hk)
theorem pk_small {k n : Nat} (h : k < n) (h2 : n ≤ 256) : pk (k : Int) n = k := by
  unfold pk
  rw [IntKind.wrap_u64]
  have e : (((k : Int) % 18446744073709551616)).toNat = k := by omega
  rw [e]
  exact Nat.mod_eq_of_lt h
theorem pk_zero (n : Nat) : pk 0 n = 0 := by
  unfold pk
  rw [IntKind.wrap_u64]
  simp
theorem len_n {w : World} {F : Nat → Prop} {g n : Nat} {xs : List (List Int)} (h : Pip 25 w F g xs) (hn : xs.length = n) : Calls Try.prog 12 #[.pointer (some ⟨g, 0, none⟩)] w fun e w' => e = .returned (.int .i64 (n : Int)) ∧ w = w' := by
  subst hn
  exact len_c h
theorem Hp.str2 (h : Hp w0 w (Star (And2 X u x) Y)) : ∃ A c, u = .slice A x.length c ∧ (convert 26 9 (.slice A x.length c)).run Try.prog w = .ok (.string (strOfNums x)) w := by
  obtain ⟨A, c, e, _, hC⟩ := h.frame2
  exact ⟨A, c, e, Kd.C_string Try.underlying26 Try.underlying5 Try.underlying9 hC⟩
end
set_option maxHeartbeats 8000000 in
set_option maxRecDepth 100000 in
theorem pipeOrder_none {A : Option Addr} {c : Nat} {xs : List (List Int)} (i : Int) (w : World) (hr : Kd.C (Kd.slice 5 (Kd.int .u8)) w A xs.length xs) (hb : ∀ x ∈ xs, x.length ≤ 140737488351232) (h0 : xs.length < 1) (h1 : xs.length < 1) :
    Calls Try.prog 3 #[.slice A xs.length c, .int .i64 i] w fun e w' => e = .returned (.bool true) ∧ Below w.heap.size w w' := by
  have HN : Aside0 (Hp w (w.alloc (.cells #[.slice none 0 0] 25)) (Star (PPt w.heap.size []) (LLt (.slice none 0 0) []))) := ⟨(Hp.more good_LL (Z := PPt w.heap.size []) (X := LLt (.slice none 0 0) []) ⟨Below.refl _ _, [], out_nil, Frs.nil⟩ (below_alloc (Below.refl _ _) _) (hp_new w).2)⟩
  have HR := Aside0.mk hr
  have HL := Aside0.mk hb
  obtain ⟨n, hn⟩ : ∃ n, n = xs.length := ⟨_, rfl⟩
  rw [← hn] at HR h0 h1 ⊢
  have HNN := Aside0.mk hn
  clear hr hb hn
  go_enter Try.func3, Try.ntmps3
  go_wp2
  go_loopw [6, 7, 8, 18] (fun v6 _ _ v18 wr => ∃ k : Nat, v18 = .int .i64 k ∧ k ≤ n ∧ k ≤ 200 ∧ Aside0 (Hp w wr (Star (PPt w.heap.size (xs.take k)) (LLt v6 (xs.take k))))) (fun _ _ _ i _ => n - (intOf i).toNat)
  case atStart => exact ⟨0, by go_num, Nat.zero_le _, Nat.zero_le _, HN⟩
  case round =>
    obtain ⟨k, rfl, hk, hk2, HP⟩ := hrel
    obtain ⟨wo, rfl⟩ : ∃ wo : World, wo = wr := ⟨_, rfl⟩
    by_cases hlt : k < n
    · have hkx : k < xs.length := by rw [← HNN.out]; omega
      have q1 : (k : Int) < (n : Int) := by omega
      have q0 : (0 : Int) ≤ (k : Int) := by omega
      have q2 : ((k : Int) == 200) = false := beq_eq_false_iff_ne.2 (by omega)
      obtain ⟨ad, Au, cu, ea, hcell, hcu, hC⟩ := at_L1 HR.out (k : Int) q0 q1
      subst ea
      have ex : rd_L1 xs (k : Int) = xs[k] := by simp [rd_L1, hkx]
      rw [ex, Int.toNat_natCast] at hcell
      rw [ex] at hcu hC
      obtain ⟨x, hx⟩ : ∃ x, x = xs[k] := ⟨_, rfl⟩
      rw [← hx] at hcell hcu hC
      have hcell' : wo.cell? (ad.add k) = some (.slice Au x.length cu) := (HP.out.old.cell (World.block_lt_of_cell? w _ hcell)).trans hcell
      have HC := Aside0.mk hC
      have HBX : Aside0 (x.length ≤ 140737488351232) := ⟨by rw [hx]; exact HL.out _ (List.getElem_mem hkx)⟩
      have HT : Aside0 (xs.take (k + 1) = xs.take k ++ [x]) := ⟨by rw [List.take_succ_eq_append_getElem hkx, hx]⟩
      have HLK : Aside0 ((xs.take k).length < 256) := ⟨by rw [List.length_take]; omega⟩
      clear hcell hcu hC hx ex
      go_wp2_with (first
        | (go_at_call 8; (with_reducible refine (hp_put good_LL HP.out rfl (Kd.C_below HC.out HP.out.old) HBX.out HLK.out).mono ?_); rintro e w1 ⟨rfl, H1⟩; have HC1 := Aside0.mk (Kd.C_below HC.out (Hp.old H1)))
        | ((with_reducible refine gate_dst (N := 30) rfl ?_); (try (refine gate_guard (by rfl) ?_; dsimp only)); refine Kd.R_lit (Kd.int .u8) w1.heap.size 5 ?hg (N := 30) ?hd (w0 := w1) (xs := ([] : List Int)) (inner := []) (ok := fun _ => True) (okp := fun _ => True) ?hr ?hp (fun _ hk => hk) trivial (Below.refl _ _) (Nat.le_refl _) (by simp) ?_; (case hd => rfl); (case hg => rfl); (case hr => first | (go_simp; done) | (go_simp; rfl)); (case hp => exact Reps.none _ _); intro v5 w5 ho_ hb_ hg_ hnew_; have Ov5 := Aside0.mk ho_; have Bv5 := Aside0.mk hb_; clear hg_ hnew_ ho_ hb_)
        | ((with_reducible refine gate_builtin (b := .append) (xs := #[.tmp 30, .tmp 31]) rfl ?_); at_builtin; refine Kd.R_append_rows (Kd.int .u8) (w0 := w1) w1.heap.size rfl (.tmp 30) (.tmp 31) 26 5 (.int .u8 0) 1 rfl Try.underlying26 info5 rfl (by decide) (by omega) v5 [] x _ _ _ (fun _ => True) (fun _ => False) rfl rfl Ov5.out (Kd.C_below HC1.out Bv5.out) (fun _ _ h => h) (fun _ h => h.elim) (fun _ _ => trivial) Bv5.out Bv5.out.size (by have := HBX.out; simp; omega) ?_; intro v_ w6 ho_ hb_ hg_ hat_; rw [List.nil_append] at ho_; have Fw6 := Aside0.mk (fr_of_R ho_ HBX.out); have Bw6 := Aside0.mk hb_; clear ho_ hb_ hg_ hat_; obtain ⟨A6, c6, e_, _⟩ := id Fw6.out; subst e_)
        | ((with_reducible refine gate_builtin (b := .append) (xs := #[.tmp 29, .tmp 33]) rfl ?_); at_builtin; obtain ⟨v7, w7, hr_, H7⟩ := hp_snoc good_PP (hp_beside good_LL good_PP (Hp.swap H1) Bw6.out Fw6.out) 22 (by have := HLK.out; omega); refine append_go rfl (.tmp 29) (.tmp 33) 22 rfl rfl rfl hr_ ?_; clear hr_))
      go_roundw
      case rel => exact ⟨k + 1, by go_num, by omega, by omega, ⟨by rw [HT.out]; exact Hp.swap H7⟩⟩
      case measure => simp [intOf]; omega
    · have q1 : (n : Int) ≤ (k : Int) := by omega
      have HK : Aside0 (k ≤ 200 ∧ k < 1 ∧ (xs.take k).length = k) := ⟨by rw [List.length_take, ← HNN.out]; omega⟩
      obtain ⟨A6, c6, e6, hc6, _⟩ := Hp.rows (HP.out.snd good_LL) (by have := HK.out.2.2; omega)
      rw [HK.out.2.2] at e6 hc6
      subst e6
      obtain ⟨ys, hys⟩ : ∃ ys, ys = xs.take k := ⟨_, rfl⟩
      rw [← hys] at HP HK
      clear hys
      obtain ⟨zs, hzs⟩ : ∃ zs, zs = ys := ⟨_, rfl⟩
      rw [← hzs] at HP HK
      clear hzs
      have HM : Aside0 (zs.length = k) := ⟨HK.out.2.2⟩
      have qk : (k : Int) < 1 := by have := HK.out.2.1; omega
      go_wp2
      have MB : Aside0 (zs.length = k) := HM
      go_loopw [11, 12, 13, 59] (fun _ _ _ v59 wr => ∃ j : Nat, v59 = .int .i64 j ∧ j ≤ k ∧ Aside0 (Hp w wr (Star (PPt w.heap.size (zs.drop j)) (LLt (.slice A6 k c6) zs)))) (fun _ _ _ i _ => k - (intOf i).toNat)
      case atStart => exact ⟨0, by go_num, Nat.zero_le _, ⟨by rw [List.drop_zero]; exact HP.out⟩⟩
      case round =>
        obtain ⟨j, rfl, hj, HQ⟩ := hrel
        obtain ⟨wp, rfl⟩ : ∃ wp : World, wp = wr := ⟨_, rfl⟩
        by_cases hjlt : j < k
        · exfalso; omega
        · have q3 : (k : Int) ≤ (j : Int) := by omega
          have HE : Aside0 ((zs.drop j).length = 0) := ⟨by rw [List.length_drop, MB.out]; omega⟩
          go_wp2_with (first
            | (go_at_call 11; (with_reducible refine (fixed_c wp).mono ?_); rintro e w1 ⟨rfl, hb⟩; have H1 := Hp.below (good_Star good_PP good_LL) HQ.out hb; clear hb)
            | (go_at_call 12; (with_reducible refine (len_n H1.pip2 (n := 0) HE.out).mono ?_); rintro e w2 ⟨rfl, rfl⟩))
          go_ret
          exact ⟨rfl, H1.old⟩
set_option maxHeartbeats 8000000 in
set_option maxRecDepth 100000 in
theorem pipeOrder_some {A : Option Addr} {c : Nat} {xs : List (List Int)} (i : Int) (w : World) (hr : Kd.C (Kd.slice 5 (Kd.int .u8)) w A xs.length xs) (hb : ∀ x ∈ xs, x.length ≤ 140737488351232) (h0 : 0 < xs.length) (h1 : xs.length ≤ 200) :
    Calls Try.prog 3 #[.slice A xs.length c, .int .i64 i] w fun e w' => e = .returned (.bool true) ∧ Below w.heap.size w w' := by
  have HN : Aside0 (Hp w (w.alloc (.cells #[.slice none 0 0] 25)) (Star (PPt w.heap.size []) (LLt (.slice none 0 0) []))) := ⟨(Hp.more good_LL (Z := PPt w.heap.size []) (X := LLt (.slice none 0 0) []) ⟨Below.refl _ _, [], out_nil, Frs.nil⟩ (below_alloc (Below.refl _ _) _) (hp_new w).2)⟩
  have HR := Aside0.mk hr
  have HL := Aside0.mk hb
  obtain ⟨n, hn⟩ : ∃ n, n = xs.length := ⟨_, rfl⟩
  rw [← hn] at HR h0 h1 ⊢
  have HNN := Aside0.mk hn
  clear hr hb hn
  go_enter Try.func3, Try.ntmps3
  go_wp2
  go_loopw [6, 7, 8, 18] (fun v6 _ _ v18 wr => ∃ k : Nat, v18 = .int .i64 k ∧ k ≤ n ∧ k ≤ 200 ∧ Aside0 (Hp w wr (Star (PPt w.heap.size (xs.take k)) (LLt v6 (xs.take k))))) (fun _ _ _ i _ => n - (intOf i).toNat)
  case atStart => exact ⟨0, by go_num, Nat.zero_le _, Nat.zero_le _, HN⟩
  case round =>
    obtain ⟨k, rfl, hk, hk2, HP⟩ := hrel
    obtain ⟨wo, rfl⟩ : ∃ wo : World, wo = wr := ⟨_, rfl⟩
    by_cases hlt : k < n
    · have hkx : k < xs.length := by rw [← HNN.out]; omega
      have q1 : (k : Int) < (n : Int) := by omega
      have q0 : (0 : Int) ≤ (k : Int) := by omega
      have q2 : ((k : Int) == 200) = false := beq_eq_false_iff_ne.2 (by omega)
      obtain ⟨ad, Au, cu, ea, hcell, hcu, hC⟩ := at_L1 HR.out (k : Int) q0 q1
      subst ea
      have ex : rd_L1 xs (k : Int) = xs[k] := by simp [rd_L1, hkx]
      rw [ex, Int.toNat_natCast] at hcell
      rw [ex] at hcu hC
      obtain ⟨x, hx⟩ : ∃ x, x = xs[k] := ⟨_, rfl⟩
      rw [← hx] at hcell hcu hC
      have hcell' : wo.cell? (ad.add k) = some (.slice Au x.length cu) := (HP.out.old.cell (World.block_lt_of_cell? w _ hcell)).trans hcell
      have HC := Aside0.mk hC
      have HBX : Aside0 (x.length ≤ 140737488351232) := ⟨by rw [hx]; exact HL.out _ (List.getElem_mem hkx)⟩
      have HT : Aside0 (xs.take (k + 1) = xs.take k ++ [x]) := ⟨by rw [List.take_succ_eq_append_getElem hkx, hx]⟩
      have HLK : Aside0 ((xs.take k).length < 256) := ⟨by rw [List.length_take]; omega⟩
      clear hcell hcu hC hx ex
      go_wp2_with (first
        | (go_at_call 8; (with_reducible refine (hp_put good_LL HP.out rfl (Kd.C_below HC.out HP.out.old) HBX.out HLK.out).mono ?_); rintro e w1 ⟨rfl, H1⟩; have HC1 := Aside0.mk (Kd.C_below HC.out (Hp.old H1)))
        | ((with_reducible refine gate_dst (N := 30) rfl ?_); (try (refine gate_guard (by rfl) ?_; dsimp only)); refine Kd.R_lit (Kd.int .u8) w1.heap.size 5 ?hg (N := 30) ?hd (w0 := w1) (xs := ([] : List Int)) (inner := []) (ok := fun _ => True) (okp := fun _ => True) ?hr ?hp (fun _ hk => hk) trivial (Below.refl _ _) (Nat.le_refl _) (by simp) ?_; (case hd => rfl); (case hg => rfl); (case hr => first | (go_simp; done) | (go_simp; rfl)); (case hp => exact Reps.none _ _); intro v5 w5 ho_ hb_ hg_ hnew_; have Ov5 := Aside0.mk ho_; have Bv5 := Aside0.mk hb_; clear hg_ hnew_ ho_ hb_)
        | ((with_reducible refine gate_builtin (b := .append) (xs := #[.tmp 30, .tmp 31]) rfl ?_); at_builtin; refine Kd.R_append_rows (Kd.int .u8) (w0 := w1) w1.heap.size rfl (.tmp 30) (.tmp 31) 26 5 (.int .u8 0) 1 rfl Try.underlying26 info5 rfl (by decide) (by omega) v5 [] x _ _ _ (fun _ => True) (fun _ => False) rfl rfl Ov5.out (Kd.C_below HC1.out Bv5.out) (fun _ _ h => h) (fun _ h => h.elim) (fun _ _ => trivial) Bv5.out Bv5.out.size (by have := HBX.out; simp; omega) ?_; intro v_ w6 ho_ hb_ hg_ hat_; rw [List.nil_append] at ho_; have Fw6 := Aside0.mk (fr_of_R ho_ HBX.out); have Bw6 := Aside0.mk hb_; clear ho_ hb_ hg_ hat_; obtain ⟨A6, c6, e_, _⟩ := id Fw6.out; subst e_)
        | ((with_reducible refine gate_builtin (b := .append) (xs := #[.tmp 29, .tmp 33]) rfl ?_); at_builtin; obtain ⟨v7, w7, hr_, H7⟩ := hp_snoc good_PP (hp_beside good_LL good_PP (Hp.swap H1) Bw6.out Fw6.out) 22 (by have := HLK.out; omega); refine append_go rfl (.tmp 29) (.tmp 33) 22 rfl rfl rfl hr_ ?_; clear hr_))
      go_roundw
      case rel => exact ⟨k + 1, by go_num, by omega, by omega, ⟨by rw [HT.out]; exact Hp.swap H7⟩⟩
      case measure => simp [intOf]; omega
    · have q1 : (n : Int) ≤ (k : Int) := by omega
      have HK : Aside0 (k ≤ 200 ∧ 0 < k ∧ (xs.take k).length = k) := ⟨by rw [List.length_take, ← HNN.out]; omega⟩
      obtain ⟨A6, c6, e6, hc6, _⟩ := Hp.rows (HP.out.snd good_LL) (by have := HK.out.2.2; omega)
      rw [HK.out.2.2] at e6 hc6
      subst e6
      obtain ⟨ys, hys⟩ : ∃ ys, ys = xs.take k := ⟨_, rfl⟩
      rw [← hys] at HP HK
      clear hys
      have hk0 : 0 < k := HK.out.2.1
      have hk200 : k ≤ 200 := HK.out.1
      have hpk := pk_eq i hk0 (by omega)
      obtain ⟨kk, hkk⟩ : ∃ kk, kk = pk i k := ⟨_, rfl⟩
      have hkkl : kk < k := by rw [hkk]; exact Nat.mod_lt _ hk0
      rw [← hkk] at hpk
      clear hkk
      have hky : kk < ys.length := by rw [HK.out.2.2]; exact hkkl
      obtain ⟨x, hx⟩ : ∃ x, x = ys[kk] := ⟨_, rfl⟩
      have HXP : Aside0 (ys[pk (kk : Int) ys.length]? = some x) := ⟨by rw [pk_small hky (by have := HK.out; omega), List.getElem?_eq_getElem hky, hx]⟩
      obtain ⟨zs, hzs⟩ : ∃ zs, zs = ys ++ [x] := ⟨_, rfl⟩
      obtain ⟨m, hm⟩ : ∃ m, m = k + 1 := ⟨_, rfl⟩
      have HM : Aside0 (zs.length = m) := ⟨by rw [hzs, List.length_append, HK.out.2.2, hm]; rfl⟩
      have HZS := Aside0.mk hzs
      have HX := Aside0.mk hx
      have HKY := Aside0.mk hky
      have hm201 : m ≤ 201 := by omega
      have qk : (0 : Int) < (k : Int) := by omega
      have qk1 : (kk : Int) < (k : Int) := by omega
      have qk2 : (0 : Int) ≤ (kk : Int) := by omega
      clear hzs hx hm
      go_wp2_with (first
        | (go_at_call 9; (with_reducible refine (hp_twice good_LL HP.out (kk : Int) (by have := HK.out; omega) HXP.out).mono ?_); rintro e w2 ⟨rfl, H2⟩; obtain ⟨G, cap, Aw, cw, ew, _, hcw, haw⟩ := hp_at (Hp.swap H2) HKY.out; rw [← HX.out] at hcw haw; injection ew with ew1 ew2 ew3; subst ew1; have HAW := Aside0.mk haw; clear haw ew2 ew3)
        | ((with_reducible refine gate_builtin (b := .append) (xs := #[.tmp 50, .tmp 55]) rfl ?_); at_builtin; obtain ⟨v7, w7, hr_, H7⟩ := hp_snoc good_PP HAW.out 22 (by have := HK.out; omega); refine append_go rfl (.tmp 50) (.tmp 55) 22 rfl rfl rfl hr_ ?_; clear hr_; rw [← HZS.out] at H7; obtain ⟨A7, c7, e7, hc7, _⟩ := Hp.rows (Hp.fst good_LL H7) (by rw [HM.out]; omega); rw [HM.out] at e7 hc7; subst e7))
      have MB : Aside0 (zs.length = m) := HM
      go_loopw [11, 12, 13, 59] (fun _ _ _ v59 wr => ∃ j : Nat, v59 = .int .i64 j ∧ j ≤ m ∧ Aside0 (Hp w wr (Star (PPt w.heap.size (zs.drop j)) (LLt (.slice A7 m c7) zs)))) (fun _ _ _ i _ => m - (intOf i).toNat)
      case atStart => exact ⟨0, by go_num, Nat.zero_le _, ⟨by rw [List.drop_zero]; exact (Hp.swap H7)⟩⟩
      case round =>
        obtain ⟨j, rfl, hj, HQ⟩ := hrel
        obtain ⟨wp, rfl⟩ : ∃ wp : World, wp = wr := ⟨_, rfl⟩
        by_cases hjlt : j < m
        · have hjz : j < zs.length := by rw [MB.out]; exact hjlt
          obtain ⟨G, cap, Av, cv, ev, hcap, hcellv, hav⟩ := hp_at (Hp.swap HQ.out) hjz
          injection ev with ev1 ev2 ev3
          subst ev1
          clear ev2 ev3
          obtain ⟨z, hz⟩ : ∃ z, z = zs[j] := ⟨_, rfl⟩
          rw [← hz] at hcellv hav
          have HZ0 : Aside0 ((zs.drop j)[pk 0 (zs.drop j).length]? = some z) := ⟨by rw [pk_zero, List.getElem?_drop, Nat.add_zero, List.getElem?_eq_getElem hjz, hz]⟩
          have HZ1 : Aside0 ((zs.drop j).eraseIdx (pk 0 (zs.drop j).length) = zs.drop (j + 1)) := ⟨by rw [pk_zero, List.drop_eq_getElem_cons hjz]; rfl⟩
          have HAV := Aside0.mk hav
          have q3 : (j : Int) < (m : Int) := by omega
          have q4 : (0 : Int) ≤ (j : Int) := by omega
          clear hz hav hcap
          go_wp2_with (go_at_call 10; (with_reducible refine (hp_take (good_And good_LL) (Hp.swap HAV.out) 0 HZ0.out).mono ?_); rintro e w8 ⟨u8, rfl, H8⟩; obtain ⟨Au8, cu8, eu8, hs8⟩ := Hp.str2 H8; subst eu8; obtain ⟨Av9, cv9, ev9, hs9⟩ := Hp.str2 (Hp.swap H8); injection ev9 with ev1 ev2 ev3; subst ev1 ev3; clear ev2; rw [HZ1.out] at H8; have H9 := Hp.swap (Hp.unand2 (Hp.swap (Hp.unand2 H8))); clear H8)
          go_roundw
          case rel => exact ⟨j + 1, by go_num, by omega, ⟨H9⟩⟩
          case measure => simp [intOf]; omega
        · have q3 : (m : Int) ≤ (j : Int) := by omega
          have HE : Aside0 ((zs.drop j).length = 0) := ⟨by rw [List.length_drop, MB.out]; omega⟩
          go_wp2_with (first
            | (go_at_call 11; (with_reducible refine (fixed_c wp).mono ?_); rintro e w1 ⟨rfl, hb⟩; have H1 := Hp.below (good_Star good_PP good_LL) HQ.out hb; clear hb)
            | (go_at_call 12; (with_reducible refine (len_n H1.pip2 (n := 0) HE.out).mono ?_); rintro e w2 ⟨rfl, rfl⟩))
          go_ret
          exact ⟨rfl, H1.old⟩
set_option maxHeartbeats 8000000 in
set_option maxRecDepth 100000 in
theorem pipeOrder_many {A : Option Addr} {c : Nat} {xs : List (List Int)} (i : Int) (w : World) (hr : Kd.C (Kd.slice 5 (Kd.int .u8)) w A xs.length xs) (hb : ∀ x ∈ xs, x.length ≤ 140737488351232) (h0 : 200 < xs.length) (h1 : 200 < xs.length) :
    Calls Try.prog 3 #[.slice A xs.length c, .int .i64 i] w fun e w' => e = .returned (.bool true) ∧ Below w.heap.size w w' := by
  have HN : Aside0 (Hp w (w.alloc (.cells #[.slice none 0 0] 25)) (Star (PPt w.heap.size []) (LLt (.slice none 0 0) []))) := ⟨(Hp.more good_LL (Z := PPt w.heap.size []) (X := LLt (.slice none 0 0) []) ⟨Below.refl _ _, [], out_nil, Frs.nil⟩ (below_alloc (Below.refl _ _) _) (hp_new w).2)⟩
  have HR := Aside0.mk hr
  have HL := Aside0.mk hb
  obtain ⟨n, hn⟩ : ∃ n, n = xs.length := ⟨_, rfl⟩
  rw [← hn] at HR h0 h1 ⊢
  have HNN := Aside0.mk hn
  clear hr hb hn
  go_enter Try.func3, Try.ntmps3
  go_wp2
  go_loopw [6, 7, 8, 18] (fun v6 _ _ v18 wr => ∃ k : Nat, v18 = .int .i64 k ∧ k ≤ n ∧ k ≤ 200 ∧ Aside0 (Hp w wr (Star (PPt w.heap.size (xs.take k)) (LLt v6 (xs.take k))))) (fun _ _ _ i _ => n - (intOf i).toNat)
  case atStart => exact ⟨0, by go_num, Nat.zero_le _, Nat.zero_le _, HN⟩
  case round =>
    obtain ⟨k, rfl, hk, hk2, HP⟩ := hrel
    obtain ⟨wo, rfl⟩ : ∃ wo : World, wo = wr := ⟨_, rfl⟩
    by_cases hlt : k < 200
    · have hkx : k < xs.length := by rw [← HNN.out]; omega
      have q1 : (k : Int) < (n : Int) := by omega
      have q0 : (0 : Int) ≤ (k : Int) := by omega
      have q2 : ((k : Int) == 200) = false := beq_eq_false_iff_ne.2 (by omega)
      obtain ⟨ad, Au, cu, ea, hcell, hcu, hC⟩ := at_L1 HR.out (k : Int) q0 q1
      subst ea
      have ex : rd_L1 xs (k : Int) = xs[k] := by simp [rd_L1, hkx]
      rw [ex, Int.toNat_natCast] at hcell
      rw [ex] at hcu hC
      obtain ⟨x, hx⟩ : ∃ x, x = xs[k] := ⟨_, rfl⟩
      rw [← hx] at hcell hcu hC
      have hcell' : wo.cell? (ad.add k) = some (.slice Au x.length cu) := (HP.out.old.cell (World.block_lt_of_cell? w _ hcell)).trans hcell
      have HC := Aside0.mk hC
      have HBX : Aside0 (x.length ≤ 140737488351232) := ⟨by rw [hx]; exact HL.out _ (List.getElem_mem hkx)⟩
      have HT : Aside0 (xs.take (k + 1) = xs.take k ++ [x]) := ⟨by rw [List.take_succ_eq_append_getElem hkx, hx]⟩
      have HLK : Aside0 ((xs.take k).length < 256) := ⟨by rw [List.length_take]; omega⟩
      clear hcell hcu hC hx ex
      go_wp2_with (first
        | (go_at_call 8; (with_reducible refine (hp_put good_LL HP.out rfl (Kd.C_below HC.out HP.out.old) HBX.out HLK.out).mono ?_); rintro e w1 ⟨rfl, H1⟩; have HC1 := Aside0.mk (Kd.C_below HC.out (Hp.old H1)))
        | ((with_reducible refine gate_dst (N := 30) rfl ?_); (try (refine gate_guard (by rfl) ?_; dsimp only)); refine Kd.R_lit (Kd.int .u8) w1.heap.size 5 ?hg (N := 30) ?hd (w0 := w1) (xs := ([] : List Int)) (inner := []) (ok := fun _ => True) (okp := fun _ => True) ?hr ?hp (fun _ hk => hk) trivial (Below.refl _ _) (Nat.le_refl _) (by simp) ?_; (case hd => rfl); (case hg => rfl); (case hr => first | (go_simp; done) | (go_simp; rfl)); (case hp => exact Reps.none _ _); intro v5 w5 ho_ hb_ hg_ hnew_; have Ov5 := Aside0.mk ho_; have Bv5 := Aside0.mk hb_; clear hg_ hnew_ ho_ hb_)
        | ((with_reducible refine gate_builtin (b := .append) (xs := #[.tmp 30, .tmp 31]) rfl ?_); at_builtin; refine Kd.R_append_rows (Kd.int .u8) (w0 := w1) w1.heap.size rfl (.tmp 30) (.tmp 31) 26 5 (.int .u8 0) 1 rfl Try.underlying26 info5 rfl (by decide) (by omega) v5 [] x _ _ _ (fun _ => True) (fun _ => False) rfl rfl Ov5.out (Kd.C_below HC1.out Bv5.out) (fun _ _ h => h) (fun _ h => h.elim) (fun _ _ => trivial) Bv5.out Bv5.out.size (by have := HBX.out; simp; omega) ?_; intro v_ w6 ho_ hb_ hg_ hat_; rw [List.nil_append] at ho_; have Fw6 := Aside0.mk (fr_of_R ho_ HBX.out); have Bw6 := Aside0.mk hb_; clear ho_ hb_ hg_ hat_; obtain ⟨A6, c6, e_, _⟩ := id Fw6.out; subst e_)
        | ((with_reducible refine gate_builtin (b := .append) (xs := #[.tmp 29, .tmp 33]) rfl ?_); at_builtin; obtain ⟨v7, w7, hr_, H7⟩ := hp_snoc good_PP (hp_beside good_LL good_PP (Hp.swap H1) Bw6.out Fw6.out) 22 (by have := HLK.out; omega); refine append_go rfl (.tmp 29) (.tmp 33) 22 rfl rfl rfl hr_ ?_; clear hr_))
      go_roundw
      case rel => exact ⟨k + 1, by go_num, by omega, by omega, ⟨by rw [HT.out]; exact Hp.swap H7⟩⟩
      case measure => simp [intOf]; omega
    · have q2 : ((k : Int) == 200) = true := beq_iff_eq.2 (by omega)
      have q1 : (k : Int) < (n : Int) := by omega
      have q0 : (0 : Int) ≤ (k : Int) := by omega
      obtain ⟨ad, Ab, cb, ea, hcellb, _, _⟩ := at_L1 HR.out (k : Int) q0 q1
      subst ea
      rw [Int.toNat_natCast] at hcellb
      have hcellb' : wo.cell? (ad.add k) = some (.slice Ab (rd_L1 xs (k : Int)).length cb) := (HP.out.old.cell (World.block_lt_of_cell? w _ hcellb)).trans hcellb
      obtain ⟨mb, hmb⟩ : ∃ mb, mb = (rd_L1 xs (k : Int)).length := ⟨_, rfl⟩
      rw [← hmb] at hcellb'
      clear hcellb hmb
      have HK : Aside0 (k ≤ 200 ∧ 0 < k ∧ (xs.take k).length = k) := ⟨by rw [List.length_take, ← HNN.out]; omega⟩
      obtain ⟨A6, c6, e6, hc6, _⟩ := Hp.rows (HP.out.snd good_LL) (by have := HK.out.2.2; omega)
      rw [HK.out.2.2] at e6 hc6
      subst e6
      obtain ⟨ys, hys⟩ : ∃ ys, ys = xs.take k := ⟨_, rfl⟩
      rw [← hys] at HP HK
      clear hys
      have hk0 : 0 < k := HK.out.2.1
      have hk200 : k ≤ 200 := HK.out.1
      have hpk := pk_eq i hk0 (by omega)
      obtain ⟨kk, hkk⟩ : ∃ kk, kk = pk i k := ⟨_, rfl⟩
      have hkkl : kk < k := by rw [hkk]; exact Nat.mod_lt _ hk0
      rw [← hkk] at hpk
      clear hkk
      have hky : kk < ys.length := by rw [HK.out.2.2]; exact hkkl
      obtain ⟨x, hx⟩ : ∃ x, x = ys[kk] := ⟨_, rfl⟩
      have HXP : Aside0 (ys[pk (kk : Int) ys.length]? = some x) := ⟨by rw [pk_small hky (by have := HK.out; omega), List.getElem?_eq_getElem hky, hx]⟩
      obtain ⟨zs, hzs⟩ : ∃ zs, zs = ys ++ [x] := ⟨_, rfl⟩
      obtain ⟨m, hm⟩ : ∃ m, m = k + 1 := ⟨_, rfl⟩
      have HM : Aside0 (zs.length = m) := ⟨by rw [hzs, List.length_append, HK.out.2.2, hm]; rfl⟩
      have HZS := Aside0.mk hzs
      have HX := Aside0.mk hx
      have HKY := Aside0.mk hky
      have hm201 : m ≤ 201 := by omega
      have qk : (0 : Int) < (k : Int) := by omega
      have qk1 : (kk : Int) < (k : Int) := by omega
      have qk2 : (0 : Int) ≤ (kk : Int) := by omega
      clear hzs hx hm
      go_wp2_with (first
        | (go_at_call 9; (with_reducible refine (hp_twice good_LL HP.out (kk : Int) (by have := HK.out; omega) HXP.out).mono ?_); rintro e w2 ⟨rfl, H2⟩; obtain ⟨G, cap, Aw, cw, ew, _, hcw, haw⟩ := hp_at (Hp.swap H2) HKY.out; rw [← HX.out] at hcw haw; injection ew with ew1 ew2 ew3; subst ew1; have HAW := Aside0.mk haw; clear haw ew2 ew3)
        | ((with_reducible refine gate_builtin (b := .append) (xs := #[.tmp 50, .tmp 55]) rfl ?_); at_builtin; obtain ⟨v7, w7, hr_, H7⟩ := hp_snoc good_PP HAW.out 22 (by have := HK.out; omega); refine append_go rfl (.tmp 50) (.tmp 55) 22 rfl rfl rfl hr_ ?_; clear hr_; rw [← HZS.out] at H7; obtain ⟨A7, c7, e7, hc7, _⟩ := Hp.rows (Hp.fst good_LL H7) (by rw [HM.out]; omega); rw [HM.out] at e7 hc7; subst e7))
      have MB : Aside0 (zs.length = m) := HM
      go_loopw [11, 12, 13, 59] (fun _ _ _ v59 wr => ∃ j : Nat, v59 = .int .i64 j ∧ j ≤ m ∧ Aside0 (Hp w wr (Star (PPt w.heap.size (zs.drop j)) (LLt (.slice A7 m c7) zs)))) (fun _ _ _ i _ => m - (intOf i).toNat)
      case atStart => exact ⟨0, by go_num, Nat.zero_le _, ⟨by rw [List.drop_zero]; exact (Hp.swap H7)⟩⟩
      case round =>
        obtain ⟨j, rfl, hj, HQ⟩ := hrel
        obtain ⟨wp, rfl⟩ : ∃ wp : World, wp = wr := ⟨_, rfl⟩
        by_cases hjlt : j < m
        · have hjz : j < zs.length := by rw [MB.out]; exact hjlt
          obtain ⟨G, cap, Av, cv, ev, hcap, hcellv, hav⟩ := hp_at (Hp.swap HQ.out) hjz
          injection ev with ev1 ev2 ev3
          subst ev1
          clear ev2 ev3
          obtain ⟨z, hz⟩ : ∃ z, z = zs[j] := ⟨_, rfl⟩
          rw [← hz] at hcellv hav
          have HZ0 : Aside0 ((zs.drop j)[pk 0 (zs.drop j).length]? = some z) := ⟨by rw [pk_zero, List.getElem?_drop, Nat.add_zero, List.getElem?_eq_getElem hjz, hz]⟩
          have HZ1 : Aside0 ((zs.drop j).eraseIdx (pk 0 (zs.drop j).length) = zs.drop (j + 1)) := ⟨by rw [pk_zero, List.drop_eq_getElem_cons hjz]; rfl⟩
          have HAV := Aside0.mk hav
          have q3 : (j : Int) < (m : Int) := by omega
          have q4 : (0 : Int) ≤ (j : Int) := by omega
          clear hz hav hcap
          go_wp2_with (go_at_call 10; (with_reducible refine (hp_take (good_And good_LL) (Hp.swap HAV.out) 0 HZ0.out).mono ?_); rintro e w8 ⟨u8, rfl, H8⟩; obtain ⟨Au8, cu8, eu8, hs8⟩ := Hp.str2 H8; subst eu8; obtain ⟨Av9, cv9, ev9, hs9⟩ := Hp.str2 (Hp.swap H8); injection ev9 with ev1 ev2 ev3; subst ev1 ev3; clear ev2; rw [HZ1.out] at H8; have H9 := Hp.swap (Hp.unand2 (Hp.swap (Hp.unand2 H8))); clear H8)
          go_roundw
          case rel => exact ⟨j + 1, by go_num, by omega, ⟨H9⟩⟩
          case measure => simp [intOf]; omega
        · have q3 : (m : Int) ≤ (j : Int) := by omega
          have HE : Aside0 ((zs.drop j).length = 0) := ⟨by rw [List.length_drop, MB.out]; omega⟩
          go_wp2_with (first
            | (go_at_call 11; (with_reducible refine (fixed_c wp).mono ?_); rintro e w1 ⟨rfl, hb⟩; have H1 := Hp.below (good_Star good_PP good_LL) HQ.out hb; clear hb)
            | (go_at_call 12; (with_reducible refine (len_n H1.pip2 (n := 0) HE.out).mono ?_); rintro e w2 ⟨rfl, rfl⟩))
          go_ret
          exact ⟨rfl, H1.old⟩
end Go.Proofs.Ytefkaefgihhcaaa.PP
