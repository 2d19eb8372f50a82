/- The walk of PipePlays. -/
import Derived.Test.YtefkaefgihhcaaaDL
import Derived.Test.YtefkaefgihhcaaaDK
namespace Go.Proofs.Ytefkaefgihhcaaa.PP
open Go.RowKit Go.Proofs.YtefkaefgihhcaaaW.PrintWords Go.Proofs.YtefkaefgihhcaaaW.PrintLast Go.Proofs.YtefkaefgihhcaaaW.PrintMore
attribute [local go_sem] max2_int min2_int max_two min_two max_three min_three max_four min_four
set_option linter.unusedVariables false
set_option linter.unusedSimpArgs false
theorem add_1 (b : Addr) : b.add 1 = ⟨b.block, b.off + 1, none⟩ := by simp [Addr.add]
theorem add_2 (b : Addr) : b.add 2 = ⟨b.block, b.off + 2, none⟩ := by simp [Addr.add]
set_option maxHeartbeats 16000000 in
set_option maxRecDepth 100000 in
theorem pipePlays_walk {A : Option Addr} {n c : Nat} (w : World) (hn63 : n ≤ 9223372036854775807) (ha : 0 < n → ∃ x, A = some x) (ho : ∀ x, A = some x → ∀ i, i < n → OpAt w (x.add (i * 3))) :
    Calls Try.prog 4 #[.slice A n c] w fun e w' => e = .returned (.bool true) ∧ Below w.heap.size w w' := by
  have HN : Aside0 (Hp w ((w.alloc (.cells #[.slice none 0 0] 25)).alloc (.cells #[.slice none 0 0] 38)) (Star (PPt w.heap.size []) (RPt (w.heap.size + 1) []))) := ⟨by
    have h0 := hp_new w
    have e : (w.alloc (.cells #[.slice none 0 0] 25)).heap.size = w.heap.size + 1 := World.size_alloc _ _
    have h := Hp.more (Z := RPt (w.heap.size + 1) []) good_PP h0 (below_alloc (Below.refl _ _) (.cells #[.slice none 0 0] 38)) (by
      rw [← e]
      exact pip_new (Nat.le_refl _) (heap_alloc_new _ _))
    exact h.swap⟩
  have HO := Aside0.mk ho
  have HA := Aside0.mk ha
  clear ha ho
  go_enter Try.func4, Try.ntmps4
  go_wp2
  go_loopw [5, 6, 23] (fun _ _ v23 wr => ∃ k : Nat, v23 = .int .i64 k ∧ k ≤ n ∧ ∃ xs : List (List Int), Aside0 (Hp w wr (Star (PPt w.heap.size xs) (RPt (w.heap.size + 1) xs)))) (fun _ _ i _ => n - (intOf i).toNat)
  case atStart => exact ⟨0, by go_num, Nat.zero_le _, [], HN⟩
  case round =>
    obtain ⟨k, rfl, hk, xs, HP⟩ := hrel
    obtain ⟨wo, rfl⟩ : ∃ wo : World, wo = wr := ⟨_, rfl⟩
    by_cases hlt : k < n
    · have q1 : (k : Int) < (n : Int) := by omega
      have q0 : (0 : Int) ≤ (k : Int) := by omega
      obtain ⟨ax, eax⟩ := HA.out (by omega)
      subst eax
      obtain ⟨kd, ix, B, L, C, zs, h0, h1, h2, hLC, hzl, hLb, hC, hwf⟩ := HO.out ax rfl k hlt
      have hc0 : wo.cell? (ax.add (k * 3)) = some (.int .i64 kd) := (HP.out.old.cell (World.block_lt_of_cell? w _ h0)).trans h0
      have hc1 : wo.cell? ((ax.add (k * 3)).add 1) = some (.int .i64 ix) := (HP.out.old.cell (World.block_lt_of_cell? w _ h1)).trans h1
      have hc2 : wo.cell? ((ax.add (k * 3)).add 2) = some (.slice B L C) := (HP.out.old.cell (World.block_lt_of_cell? w _ h2)).trans h2
      rw [add_1] at hc1
      rw [add_2] at hc2
      clear h0 h1 h2
      by_cases h6 : k ≤ 600
      · obtain ⟨m, hm⟩ : ∃ m : Nat, (if (64 : Int) < (L : Int) then (64 : Int) else (L : Int)) = (m : Int) := ⟨min L 64, by split <;> omega⟩
        have hm1 : m ≤ L ∧ m ≤ 64 := by split at hm <;> omega
        have hm2 := hm1.2
        have hm3 := hm1.1
        have q6 : (k : Int) ≤ 600 := by omega
        have HZM : Aside0 ((zs.take m).length = m) := ⟨by rw [List.length_take]; omega⟩
        have HC : Aside0 (Kd.C (Kd.int .u8) w B m (zs.take m)) := ⟨by
          subst hzl
          have h := Kd.C_take hC (m := m) hm3
          rw [List.length_take, Nat.min_eq_left hm3] at h
          exact h⟩
        have HBM : Aside0 ((zs.take m).length ≤ 140737488351232) := ⟨by rw [HZM.out]; omega⟩
        clear hC hwf hm1
        go_upto_region 8 with (fail)
        have HPO : Aside0 (Hp w (wo.alloc (.cells #[.int .i64 kd, .int .i64 ix, .slice B m C] 40)) (Star (PPt w.heap.size xs) (Star (RPt (w.heap.size + 1) xs) (OBt wo.heap.size kd ix B m C)))) := ⟨by
          have h := Hp.more (Z := OBt wo.heap.size kd ix B m C) (good_Star good_PP good_RP) HP.out (below_alloc (Below.refl _ _) (.cells #[.int .i64 kd, .int .i64 ix, .slice B m C] 40)) ⟨Nat.le_refl _, heap_alloc_new _ _⟩
          exact h.left.third⟩
        obtain ⟨W, hW⟩ : ∃ W : World, W = wo.alloc (.cells #[.int .i64 kd, .int .i64 ix, .slice B m C] 40) := ⟨_, rfl⟩
        obtain ⟨go, hgo⟩ : ∃ g : Nat, g = wo.heap.size := ⟨_, rfl⟩
        rw [← hW, ← hgo] at HPO
        rw [← hW]
        try rw [← hgo]
        have HCM : Aside0 (Kd.C (Kd.int .u8) W B m (zs.take m)) := ⟨Kd.C_below HC.out HPO.out.old⟩
        obtain ⟨c0, c1, c2, cf2⟩ := ob_cells ((HPO.out.snd (good_Star good_RP good_OB)).snd good_OB)
        clear hW hgo hc0 hc1 hc2 hm HP
        have hx256 : xs.length ≤ 256 := HPO.out.pip2.2.1
        by_cases hk0 : kd = 0
        · subst hk0
          by_cases hxl : xs.length < 256
          · have HXL := Aside0.mk hxl
            clear hxl
            go_wp2_with (first
              | ((with_reducible refine gate_dst (N := 70) rfl ?_); (try (refine gate_guard (by rfl) ?_; dsimp only)); refine Kd.R_lit (Kd.int .u8) W.heap.size 5 ?hg (N := 70) ?hd (w0 := W) (xs := ([] : List Int)) (inner := []) (ok := fun _ => True) (okp := fun _ => True) ?hr ?hp (fun _ hk => hk) trivial (Below.refl _ _) (Nat.le_refl _) (by simp) ?_; (case hd => rfl); (case hg => rfl); (case hr => first | (go_simp; done) | (go_simp; rfl)); (case hp => exact Reps.none _ _); intro v5 w5 ho_ hb_ hg_ hnew_; have Ov5 := Aside0.mk ho_; have Bv5 := Aside0.mk hb_; clear hg_ hnew_ ho_ hb_; have c25 := (Bv5.out.cell (World.block_lt_of_cell? W _ c2)).trans c2)
              | ((with_reducible refine gate_builtin (b := .append) (xs := #[.tmp 70, .tmp 72]) rfl ?_); at_builtin; refine Kd.R_append_rows (Kd.int .u8) (w0 := W) W.heap.size rfl (.tmp 70) (.tmp 72) 26 5 (.int .u8 0) 1 rfl Try.underlying26 info5 rfl (by decide) (by omega) v5 [] (zs.take m) _ _ _ (fun _ => True) (fun _ => False) rfl rfl Ov5.out (Kd.C_below HCM.out Bv5.out) (fun _ _ h => h) (fun _ h => h.elim) (fun _ _ => trivial) Bv5.out Bv5.out.size (by have := HBM.out; simp; omega) ?_; intro v_ w6 ho_ hb_ hg_ hat_; rw [List.nil_append] at ho_; have Fw6 := Aside0.mk (fr_of_R ho_ HBM.out); have Bw6 := Aside0.mk hb_; clear ho_ hb_ hg_ hat_; obtain ⟨A6, c6, e_, _⟩ := id Fw6.out; subst e_))
            have H6_ := Hp.copied (good_Star good_PP (good_Star good_RP good_OB)) HPO.out Bw6.out Fw6.out
            obtain ⟨A6_, c6_, e6_, hc6, HC6_⟩ := Fw6.out.reads
            injection e6_ with e1 e2 e3
            subst e1 e3
            rw [HZM.out] at H6_ HC6_ hc6
            have H6 : Aside0 (Hp w w6.drew (Star (FRt (.slice A6 m c6) m) (Star (PPt w.heap.size xs) (Star (RPt (w.heap.size + 1) xs) (OBt go 0 ix B m C))))) := ⟨Hp.below (good_Star good_FR (good_Star good_PP (good_Star good_RP good_OB))) H6_ (below_drew (Below.refl _ _))⟩
            have HC6 := Aside0.mk (Kd.C_drew HC6_)
            have c26 : w6.cell? ⟨go, 2, none⟩ = some (.slice B m C) := (ob_cells (((H6_.snd (good_Star good_PP (good_Star good_RP good_OB))).snd (good_Star good_RP good_OB)).snd good_OB)).2.2.1
            clear H6_ HC6_ e2
            try rw [HZM.out]
            go_region_held3 (fun w' => w'.cell? ⟨go, 2, none⟩ = some (.slice B m C)) (first | exact c26 | assumption)
              ((first
                | (go_at_call 8; (with_reducible refine (hp_put (good_Star good_FR (good_Star good_RP good_OB)) H6.out.left HZM.out.symm HC6.out HBM.out HXL.out).mono ?_); rintro e w7 ⟨rfl, H7_⟩; have H7 := Aside0.mk ((H7_.imp (fun _ _ h => h.left)).left); have c27 := (ob_cells (((H7.out.snd (good_Star good_PP (good_Star good_FR good_OB))).snd (good_Star good_FR good_OB)).snd good_OB)).2.2.1; clear H7_)
                | (go_at_call 13; (with_reducible refine (hp_rput (good_Star good_PP (good_Star good_FR good_OB)) H7.out HZM.out.symm (Kd.C_below HC.out H7.out.old) HBM.out HXL.out).mono ?_); rintro e w8 ⟨rfl, H8_⟩; have H8 := Aside0.mk ((H8_.imp (fun _ _ h => h.left)).left); have c28 := (ob_cells (((H8.out.snd (good_Star good_RP (good_Star good_PP good_OB))).snd (good_Star good_PP good_OB)).snd good_OB)).2.2.1; clear H8_)))
            clear c26 c2 c1 c0
            try clear c27
            try clear c28
            go_wp2
            go_loopw [8, 84] (fun _ v84 wr => ∃ j : Nat, v84 = .int .i64 j ∧ j ≤ m ∧ Aside0 (Hp w wr (Star (FRt (.slice A6 m c6) m) (Star (RPt (w.heap.size + 1) (xs ++ [zs.take m])) (Star (PPt w.heap.size (xs ++ [zs.take m])) (OBt go 0 ix B m C)))))) (fun _ i _ => m - (intOf i).toNat)
            case atStart => exact ⟨0, by go_num, Nat.zero_le _, H8⟩
            case round =>
              obtain ⟨j, rfl, hj, HQ⟩ := hrel
              obtain ⟨wq, rfl⟩ : ∃ wq : World, wq = wr := ⟨_, rfl⟩
              by_cases hlt2 : j < m
              · obtain ⟨gq, cq, xq, eq_, hcq, hcl, hfz, HY⟩ := hp_fr_at (good_Star good_RP (good_Star good_PP good_OB)) HQ.out hlt2
                injection eq_ with e1 e2 e3
                subst e1
                clear e2 e3
                have HYA := Aside0.mk HY
                clear HY
                have q1 : (j : Int) < (m : Int) := by omega
                have q0 : (0 : Int) ≤ (j : Int) := by omega
                go_wp2
                go_roundw
                case rel => exact ⟨j + 1, by go_num, by omega, ⟨HYA.out _⟩⟩
                case measure => simp [intOf]; omega
              · have q1 : (m : Int) ≤ (j : Int) := by omega
                have HF_ := HQ.out.snd (good_Star good_RP (good_Star good_PP good_OB))
                obtain ⟨Ar, cr, hcr, HV_⟩ := Hp.rv HF_
                obtain ⟨ny, hny⟩ : ∃ n, n = ((xs ++ [zs.take m])).length := ⟨_, rfl⟩
                rw [← hny] at HV_
                have HVD : Aside0 (Hp w wq.drew (Star (RVt (w.heap.size + 1) (.slice Ar ny cr) ((xs ++ [zs.take m]))) (Star (PPt w.heap.size ((xs ++ [zs.take m]))) (OBt go 0 ix B m C)))) := ⟨Hp.below (good_Star good_RV (good_Star good_PP good_OB)) HV_ (below_drew (Below.refl _ _))⟩
                have rc1 : wq.cell? ⟨w.heap.size + 1, 0, none⟩ = some (.slice Ar ny cr) := (rv_cell (HV_.fst good_RV)).1
                have HNY := Aside0.mk hny
                have HV := Aside0.mk HV_
                clear hny HV_ hcr
                go_wp2
                go_region_held3 (fun w' => w'.cell? ⟨w.heap.size + 1, 0, none⟩ = some (.slice Ar ny cr)) (first | exact rc1 | assumption)
                  ((go_at_call 12; (with_reducible refine (len_n (HVD.out.snd (good_Star good_PP good_OB)).pip2 HNY.out.symm).mono ?_); rintro e w99 ⟨rfl, rfl⟩))
                clear rc1
                go_wp2
                go_roundw
                case rel => exact ⟨k + 1, by go_num, by omega, (xs ++ [zs.take m]), ⟨Hp.two good_PP (Hp.imp1 (fun _ _ h => h.rp) HVD.out)⟩⟩
                case measure => simp [intOf]; omega
          · have HXF := Aside0.mk hxl
            clear hxl
            go_wp2_with (first
              | ((with_reducible refine gate_dst (N := 70) rfl ?_); (try (refine gate_guard (by rfl) ?_; dsimp only)); refine Kd.R_lit (Kd.int .u8) W.heap.size 5 ?hg (N := 70) ?hd (w0 := W) (xs := ([] : List Int)) (inner := []) (ok := fun _ => True) (okp := fun _ => True) ?hr ?hp (fun _ hk => hk) trivial (Below.refl _ _) (Nat.le_refl _) (by simp) ?_; (case hd => rfl); (case hg => rfl); (case hr => first | (go_simp; done) | (go_simp; rfl)); (case hp => exact Reps.none _ _); intro v5 w5 ho_ hb_ hg_ hnew_; have Ov5 := Aside0.mk ho_; have Bv5 := Aside0.mk hb_; clear hg_ hnew_ ho_ hb_; have c25 := (Bv5.out.cell (World.block_lt_of_cell? W _ c2)).trans c2)
              | ((with_reducible refine gate_builtin (b := .append) (xs := #[.tmp 70, .tmp 72]) rfl ?_); at_builtin; refine Kd.R_append_rows (Kd.int .u8) (w0 := W) W.heap.size rfl (.tmp 70) (.tmp 72) 26 5 (.int .u8 0) 1 rfl Try.underlying26 info5 rfl (by decide) (by omega) v5 [] (zs.take m) _ _ _ (fun _ => True) (fun _ => False) rfl rfl Ov5.out (Kd.C_below HCM.out Bv5.out) (fun _ _ h => h) (fun _ h => h.elim) (fun _ _ => trivial) Bv5.out Bv5.out.size (by have := HBM.out; simp; omega) ?_; intro v_ w6 ho_ hb_ hg_ hat_; rw [List.nil_append] at ho_; have Fw6 := Aside0.mk (fr_of_R ho_ HBM.out); have Bw6 := Aside0.mk hb_; clear ho_ hb_ hg_ hat_; obtain ⟨A6, c6, e_, _⟩ := id Fw6.out; subst e_))
            have H6_ := Hp.copied (good_Star good_PP (good_Star good_RP good_OB)) HPO.out Bw6.out Fw6.out
            obtain ⟨A6_, c6_, e6_, hc6, HC6_⟩ := Fw6.out.reads
            injection e6_ with e1 e2 e3
            subst e1 e3
            rw [HZM.out] at H6_ HC6_ hc6
            have H6 : Aside0 (Hp w w6.drew (Star (FRt (.slice A6 m c6) m) (Star (PPt w.heap.size xs) (Star (RPt (w.heap.size + 1) xs) (OBt go 0 ix B m C))))) := ⟨Hp.below (good_Star good_FR (good_Star good_PP (good_Star good_RP good_OB))) H6_ (below_drew (Below.refl _ _))⟩
            have HC6 := Aside0.mk (Kd.C_drew HC6_)
            have c26 : w6.cell? ⟨go, 2, none⟩ = some (.slice B m C) := (ob_cells (((H6_.snd (good_Star good_PP (good_Star good_RP good_OB))).snd (good_Star good_RP good_OB)).snd good_OB)).2.2.1
            clear H6_ HC6_ e2
            try rw [HZM.out]
            go_region_held3 (fun w' => w'.cell? ⟨go, 2, none⟩ = some (.slice B m C)) (first | exact c26 | assumption)
              ((first
                | (go_at_call 8; (with_reducible refine (put_full H6.out.left.pip2 HXF.out).mono ?_); rintro e w7 ⟨rfl, rfl⟩)
                | (go_at_call 13; (with_reducible refine (refPut_full ((H6.out.snd (good_Star good_PP (good_Star good_RP good_OB))).left.rpip2) HXF.out).mono ?_); rintro e w8 ⟨rfl, rfl⟩; have H8 : Aside0 (Hp w w6.drew (Star (FRt (.slice A6 m c6) m) (Star (RPt (w.heap.size + 1) xs) (Star (PPt w.heap.size xs) (OBt go 0 ix B m C))))) := Aside0.mk (H6.out.imp (fun _ _ h => h.left)))))
            clear c26 c2 c1 c0
            try clear c27
            try clear c28
            go_wp2
            go_loopw [8, 84] (fun _ v84 wr => ∃ j : Nat, v84 = .int .i64 j ∧ j ≤ m ∧ Aside0 (Hp w wr (Star (FRt (.slice A6 m c6) m) (Star (RPt (w.heap.size + 1) xs) (Star (PPt w.heap.size xs) (OBt go 0 ix B m C)))))) (fun _ i _ => m - (intOf i).toNat)
            case atStart => exact ⟨0, by go_num, Nat.zero_le _, H8⟩
            case round =>
              obtain ⟨j, rfl, hj, HQ⟩ := hrel
              obtain ⟨wq, rfl⟩ : ∃ wq : World, wq = wr := ⟨_, rfl⟩
              by_cases hlt2 : j < m
              · obtain ⟨gq, cq, xq, eq_, hcq, hcl, hfz, HY⟩ := hp_fr_at (good_Star good_RP (good_Star good_PP good_OB)) HQ.out hlt2
                injection eq_ with e1 e2 e3
                subst e1
                clear e2 e3
                have HYA := Aside0.mk HY
                clear HY
                have q1 : (j : Int) < (m : Int) := by omega
                have q0 : (0 : Int) ≤ (j : Int) := by omega
                go_wp2
                go_roundw
                case rel => exact ⟨j + 1, by go_num, by omega, ⟨HYA.out _⟩⟩
                case measure => simp [intOf]; omega
              · have q1 : (m : Int) ≤ (j : Int) := by omega
                have HF_ := HQ.out.snd (good_Star good_RP (good_Star good_PP good_OB))
                obtain ⟨Ar, cr, hcr, HV_⟩ := Hp.rv HF_
                obtain ⟨ny, hny⟩ : ∃ n, n = (xs).length := ⟨_, rfl⟩
                rw [← hny] at HV_
                have HVD : Aside0 (Hp w wq.drew (Star (RVt (w.heap.size + 1) (.slice Ar ny cr) (xs)) (Star (PPt w.heap.size (xs)) (OBt go 0 ix B m C)))) := ⟨Hp.below (good_Star good_RV (good_Star good_PP good_OB)) HV_ (below_drew (Below.refl _ _))⟩
                have rc1 : wq.cell? ⟨w.heap.size + 1, 0, none⟩ = some (.slice Ar ny cr) := (rv_cell (HV_.fst good_RV)).1
                have HNY := Aside0.mk hny
                have HV := Aside0.mk HV_
                clear hny HV_ hcr
                go_wp2
                go_region_held3 (fun w' => w'.cell? ⟨w.heap.size + 1, 0, none⟩ = some (.slice Ar ny cr)) (first | exact rc1 | assumption)
                  ((go_at_call 12; (with_reducible refine (len_n (HVD.out.snd (good_Star good_PP good_OB)).pip2 HNY.out.symm).mono ?_); rintro e w99 ⟨rfl, rfl⟩))
                clear rc1
                go_wp2
                go_roundw
                case rel => exact ⟨k + 1, by go_num, by omega, xs, ⟨Hp.two good_PP (Hp.imp1 (fun _ _ h => h.rp) HVD.out)⟩⟩
                case measure => simp [intOf]; omega
        · by_cases hk1 : kd = 1
          · subst hk1
            rcases Nat.eq_zero_or_pos xs.length with hxe | hxe
            · have hxe := List.length_eq_zero_iff.1 hxe
              subst hxe
              have HE := HPO
              have hs0 : (convert 26 9 (.slice none 0 0)).run Try.prog W = .ok (.string (strOfNums [])) W := Kd.C_string Try.underlying26 Try.underlying5 Try.underlying9 (Kd.C_nil _ _)
              go_wp2_with (first
                | (go_at_call 10; (with_reducible refine (take_none HPO.out.pip2 ix).mono ?_); rintro e w7 ⟨rfl, rfl⟩)
                | (go_at_call 14; (with_reducible refine (refTake_none ((HPO.out.left).rpip2) ix).mono ?_); rintro e w8 ⟨rfl, rfl⟩))
              have HF_ := HPO.out.left
              obtain ⟨Ar, cr, hcr, HV_⟩ := Hp.rv HF_
              obtain ⟨ny, hny⟩ : ∃ n, n = (([] : List (List Int))).length := ⟨_, rfl⟩
              rw [← hny] at HV_
              have HVD : Aside0 (Hp w W.drew (Star (RVt (w.heap.size + 1) (.slice Ar ny cr) (([] : List (List Int)))) (Star (PPt w.heap.size (([] : List (List Int)))) (OBt go 1 ix B m C)))) := ⟨Hp.below (good_Star good_RV (good_Star good_PP good_OB)) HV_ (below_drew (Below.refl _ _))⟩
              have rc1 : W.cell? ⟨w.heap.size + 1, 0, none⟩ = some (.slice Ar ny cr) := (rv_cell (HV_.fst good_RV)).1
              have HNY := Aside0.mk hny
              have HV := Aside0.mk HV_
              clear hny HV_ hcr
              go_wp2
              go_region_held3 (fun w' => w'.cell? ⟨w.heap.size + 1, 0, none⟩ = some (.slice Ar ny cr)) (first | exact rc1 | assumption)
                ((go_at_call 12; (with_reducible refine (len_n (HVD.out.snd (good_Star good_PP good_OB)).pip2 HNY.out.symm).mono ?_); rintro e w99 ⟨rfl, rfl⟩))
              clear rc1
              go_wp2
              go_roundw
              case rel => exact ⟨k + 1, by go_num, by omega, ([] : List (List Int)), ⟨Hp.two good_PP (Hp.imp1 (fun _ _ h => h.rp) HVD.out)⟩⟩
              case measure => simp [intOf]; omega
            · skip
              obtain ⟨x, hx⟩ : ∃ x, xs[pk ix xs.length]? = some x := ⟨_, List.getElem?_eq_getElem (Nat.mod_lt _ hxe)⟩
              have HX := Aside0.mk hx
              clear hx
              go_wp2_with (first
                | (go_at_call 10; (with_reducible refine (hp_take (good_Star good_RP good_OB) HPO.out ix HX.out).mono ?_); rintro e w7 ⟨u, rfl, H7_⟩; have H7 := Aside0.mk H7_.left; have c17 := (ob_cells ((H7.out.snd (good_Star (good_And good_PP) good_OB)).snd good_OB)).2.1; clear H7_)
                | (go_at_call 14; (with_reducible refine (hp_rtake (good_Star (good_And good_PP) good_OB) H7.out ix HX.out).mono ?_); rintro e w8 ⟨v, rfl, H8_⟩; obtain ⟨Av, cv, ev, hsv⟩ := Hp.str2 H8_; subst ev; obtain ⟨Au, cu, eu, hsu⟩ := Hp.str2 H8_.left; subst eu; have H8 := Aside0.mk ((Hp.unand2 H8_).left.unand2.left); clear H8_))
              have HF_ := H8.out
              obtain ⟨Ar, cr, hcr, HV_⟩ := Hp.rv HF_
              obtain ⟨ny, hny⟩ : ∃ n, n = ((xs.eraseIdx (pk ix xs.length))).length := ⟨_, rfl⟩
              rw [← hny] at HV_
              have HVD : Aside0 (Hp w w8.drew (Star (RVt (w.heap.size + 1) (.slice Ar ny cr) ((xs.eraseIdx (pk ix xs.length)))) (Star (PPt w.heap.size ((xs.eraseIdx (pk ix xs.length)))) (OBt go 1 ix B m C)))) := ⟨Hp.below (good_Star good_RV (good_Star good_PP good_OB)) HV_ (below_drew (Below.refl _ _))⟩
              have rc1 : w8.cell? ⟨w.heap.size + 1, 0, none⟩ = some (.slice Ar ny cr) := (rv_cell (HV_.fst good_RV)).1
              have HNY := Aside0.mk hny
              have HV := Aside0.mk HV_
              clear hny HV_ hcr
              go_wp2
              go_region_held3 (fun w' => w'.cell? ⟨w.heap.size + 1, 0, none⟩ = some (.slice Ar ny cr)) (first | exact rc1 | assumption)
                ((go_at_call 12; (with_reducible refine (len_n (HVD.out.snd (good_Star good_PP good_OB)).pip2 HNY.out.symm).mono ?_); rintro e w99 ⟨rfl, rfl⟩))
              clear rc1
              go_wp2
              go_roundw
              case rel => exact ⟨k + 1, by go_num, by omega, (xs.eraseIdx (pk ix xs.length)), ⟨Hp.two good_PP (Hp.imp1 (fun _ _ h => h.rp) HVD.out)⟩⟩
              case measure => simp [intOf]; omega
          · by_cases hk2 : kd = 2
            · subst hk2
              rcases Nat.eq_zero_or_pos xs.length with hxe | hxe
              · have hxe := List.length_eq_zero_iff.1 hxe
                subst hxe
                have HD : Aside0 (Hp w W.drew (Star (PPt w.heap.size []) (Star (RPt (w.heap.size + 1) []) (OBt go 2 ix B m C)))) := ⟨Hp.below (good_Star good_PP (good_Star good_RP good_OB)) HPO.out (below_drew (Below.refl _ _))⟩
                go_wp2
                go_region_held3 (fun w' => w'.cell? ⟨go, 1, none⟩ = some (.int .i64 ix)) (first | exact c1 | assumption)
                  ((first
                    | (go_at_call 9; (with_reducible refine (twice_none HD.out.pip2 ix).mono ?_); rintro e w7 ⟨rfl, rfl⟩)
                    | (go_at_call 15; (with_reducible refine (refTwice_none (HD.out.left.rpip2) ix).mono ?_); rintro e w8 ⟨rfl, rfl⟩; have H8 := Aside0.mk HD.out.left)))
                clear c0 c1 c2
                try clear c17
                try clear c18
                have HF_ := H8.out
                obtain ⟨Ar, cr, hcr, HV_⟩ := Hp.rv HF_
                obtain ⟨ny, hny⟩ : ∃ n, n = (([] : List (List Int))).length := ⟨_, rfl⟩
                rw [← hny] at HV_
                have HVD : Aside0 (Hp w W.drew.drew (Star (RVt (w.heap.size + 1) (.slice Ar ny cr) (([] : List (List Int)))) (Star (PPt w.heap.size (([] : List (List Int)))) (OBt go 2 ix B m C)))) := ⟨Hp.below (good_Star good_RV (good_Star good_PP good_OB)) HV_ (below_drew (Below.refl _ _))⟩
                have rc1 : W.drew.cell? ⟨w.heap.size + 1, 0, none⟩ = some (.slice Ar ny cr) := (rv_cell (HV_.fst good_RV)).1
                have HNY := Aside0.mk hny
                have HV := Aside0.mk HV_
                clear hny HV_ hcr
                go_wp2
                go_region_held3 (fun w' => w'.cell? ⟨w.heap.size + 1, 0, none⟩ = some (.slice Ar ny cr)) (first | exact rc1 | assumption)
                  ((go_at_call 12; (with_reducible refine (len_n (HVD.out.snd (good_Star good_PP good_OB)).pip2 HNY.out.symm).mono ?_); rintro e w99 ⟨rfl, rfl⟩))
                clear rc1
                go_wp2
                go_roundw
                case rel => exact ⟨k + 1, by go_num, by omega, ([] : List (List Int)), ⟨Hp.two good_PP (Hp.imp1 (fun _ _ h => h.rp) HVD.out)⟩⟩
                case measure => simp [intOf]; omega
              · by_cases hxl : xs.length < 256
                · have HXL := Aside0.mk hxl
                  clear hxl
                  obtain ⟨x, hx⟩ : ∃ x, xs[pk ix xs.length]? = some x := ⟨_, List.getElem?_eq_getElem (Nat.mod_lt _ hxe)⟩
                  have HX := Aside0.mk hx
                  clear hx
                  have HD : Aside0 (Hp w W.drew (Star (PPt w.heap.size xs) (Star (RPt (w.heap.size + 1) xs) (OBt go 2 ix B m C)))) := ⟨Hp.below (good_Star good_PP (good_Star good_RP good_OB)) HPO.out (below_drew (Below.refl _ _))⟩
                  go_wp2
                  skip
                  go_region_held3 (fun w' => w'.cell? ⟨go, 1, none⟩ = some (.int .i64 ix)) (first | exact c1 | assumption)
                    ((first
                      | (go_at_call 9; (with_reducible refine (hp_twice (good_Star good_RP good_OB) HD.out ix HXL.out HX.out).mono ?_); rintro e w7 ⟨rfl, H7_⟩; have H7 := Aside0.mk H7_.left; have c17 := (ob_cells ((H7.out.snd (good_Star good_PP good_OB)).snd good_OB)).2.1; clear H7_)
                      | (go_at_call 15; (with_reducible refine (hp_rtwice (good_Star good_PP good_OB) H7.out ix HXL.out HX.out).mono ?_); rintro e w8 ⟨rfl, H8_⟩; have H8 := Aside0.mk H8_; have c18 := (ob_cells ((H8.out.snd (good_Star good_PP good_OB)).snd good_OB)).2.1; clear H8_)))
                  clear c0 c1 c2
                  try clear c17
                  try clear c18
                  have HF_ := H8.out
                  obtain ⟨Ar, cr, hcr, HV_⟩ := Hp.rv HF_
                  obtain ⟨ny, hny⟩ : ∃ n, n = ((xs ++ [x])).length := ⟨_, rfl⟩
                  rw [← hny] at HV_
                  have HVD : Aside0 (Hp w w8.drew (Star (RVt (w.heap.size + 1) (.slice Ar ny cr) ((xs ++ [x]))) (Star (PPt w.heap.size ((xs ++ [x]))) (OBt go 2 ix B m C)))) := ⟨Hp.below (good_Star good_RV (good_Star good_PP good_OB)) HV_ (below_drew (Below.refl _ _))⟩
                  have rc1 : w8.cell? ⟨w.heap.size + 1, 0, none⟩ = some (.slice Ar ny cr) := (rv_cell (HV_.fst good_RV)).1
                  have HNY := Aside0.mk hny
                  have HV := Aside0.mk HV_
                  clear hny HV_ hcr
                  go_wp2
                  go_region_held3 (fun w' => w'.cell? ⟨w.heap.size + 1, 0, none⟩ = some (.slice Ar ny cr)) (first | exact rc1 | assumption)
                    ((go_at_call 12; (with_reducible refine (len_n (HVD.out.snd (good_Star good_PP good_OB)).pip2 HNY.out.symm).mono ?_); rintro e w99 ⟨rfl, rfl⟩))
                  clear rc1
                  go_wp2
                  go_roundw
                  case rel => exact ⟨k + 1, by go_num, by omega, (xs ++ [x]), ⟨Hp.two good_PP (Hp.imp1 (fun _ _ h => h.rp) HVD.out)⟩⟩
                  case measure => simp [intOf]; omega
                · have HXF := Aside0.mk hxl
                  clear hxl
                  have HD : Aside0 (Hp w W.drew (Star (PPt w.heap.size xs) (Star (RPt (w.heap.size + 1) xs) (OBt go 2 ix B m C)))) := ⟨Hp.below (good_Star good_PP (good_Star good_RP good_OB)) HPO.out (below_drew (Below.refl _ _))⟩
                  go_wp2
                  go_region_held3 (fun w' => w'.cell? ⟨go, 1, none⟩ = some (.int .i64 ix)) (first | exact c1 | assumption)
                    ((first
                      | (go_at_call 9; (with_reducible refine (twice_full HD.out.pip2 ix HXF.out).mono ?_); rintro e w7 ⟨rfl, rfl⟩)
                      | (go_at_call 15; (with_reducible refine (refTwice_full (HD.out.left.rpip2) ix HXF.out).mono ?_); rintro e w8 ⟨rfl, rfl⟩; have H8 := Aside0.mk HD.out.left)))
                  clear c0 c1 c2
                  try clear c17
                  try clear c18
                  have HF_ := H8.out
                  obtain ⟨Ar, cr, hcr, HV_⟩ := Hp.rv HF_
                  obtain ⟨ny, hny⟩ : ∃ n, n = (xs).length := ⟨_, rfl⟩
                  rw [← hny] at HV_
                  have HVD : Aside0 (Hp w W.drew.drew (Star (RVt (w.heap.size + 1) (.slice Ar ny cr) (xs)) (Star (PPt w.heap.size (xs)) (OBt go 2 ix B m C)))) := ⟨Hp.below (good_Star good_RV (good_Star good_PP good_OB)) HV_ (below_drew (Below.refl _ _))⟩
                  have rc1 : W.drew.cell? ⟨w.heap.size + 1, 0, none⟩ = some (.slice Ar ny cr) := (rv_cell (HV_.fst good_RV)).1
                  have HNY := Aside0.mk hny
                  have HV := Aside0.mk HV_
                  clear hny HV_ hcr
                  go_wp2
                  go_region_held3 (fun w' => w'.cell? ⟨w.heap.size + 1, 0, none⟩ = some (.slice Ar ny cr)) (first | exact rc1 | assumption)
                    ((go_at_call 12; (with_reducible refine (len_n (HVD.out.snd (good_Star good_PP good_OB)).pip2 HNY.out.symm).mono ?_); rintro e w99 ⟨rfl, rfl⟩))
                  clear rc1
                  go_wp2
                  go_roundw
                  case rel => exact ⟨k + 1, by go_num, by omega, xs, ⟨Hp.two good_PP (Hp.imp1 (fun _ _ h => h.rp) HVD.out)⟩⟩
                  case measure => simp [intOf]; omega
            · by_cases hk3 : kd = 3
              · subst hk3
                obtain ⟨Aq, cq, hcq, HV0_⟩ := Hp.rv HPO.out.left
                obtain ⟨nq, hnq⟩ : ∃ n, n = xs.length := ⟨_, rfl⟩
                rw [← hnq] at HV0_
                have HD : Aside0 (Hp w W.drew (Star (PPt w.heap.size xs) (Star (RVt (w.heap.size + 1) (.slice Aq nq cq) xs) (OBt go 3 ix B m C)))) := ⟨Hp.below (good_Star good_PP (good_Star good_RV good_OB)) HV0_.left (below_drew (Below.refl _ _))⟩
                have rq1 : W.cell? ⟨w.heap.size + 1, 0, none⟩ = some (.slice Aq nq cq) := (rv_cell (HV0_.fst good_RV)).1
                have HNQ := Aside0.mk hnq
                clear hnq HV0_
                go_wp2
                go_region_held3 (fun w' => w'.cell? ⟨w.heap.size + 1, 0, none⟩ = some (.slice Aq nq cq)) (first | exact rq1 | assumption)
                  ((first
                    | (go_at_call 16; (with_reducible refine (hp_fall (good_Star good_RV good_OB) HD.out).mono ?_); rintro e w7 ⟨rfl, H7_⟩; rw [← HNQ.out]; have H7 := Aside0.mk H7_.left; have rq7 := (rv_cell (H7.out.fst good_RV)).1; have rf7 := (rv_cell (H7.out.fst good_RV)).2; clear H7_)))
                clear c0 c1 c2 rq1
                go_upto_region 42 with (fail)
                have H8 : Aside0 (Hp w (w7.setCell ⟨w.heap.size + 1, 0, none⟩ (.slice none 0 0)) (Star (RPt (w.heap.size + 1) []) (Star (PPt w.heap.size []) (OBt go 3 ix B m C)))) := ⟨Hp.rdrop (good_Star good_PP good_OB) (Hp.imp1 (fun _ _ h => h.rp) H7.out)⟩
                obtain ⟨W8, hW8⟩ : ∃ W : World, W = w7.setCell ⟨w.heap.size + 1, 0, none⟩ (.slice none 0 0) := ⟨_, rfl⟩
                rw [← hW8] at H8 ⊢
                clear hW8 rq7 rf7
                have HF_ := H8.out
                obtain ⟨Ar, cr, hcr, HV_⟩ := Hp.rv HF_
                obtain ⟨ny, hny⟩ : ∃ n, n = (([] : List (List Int))).length := ⟨_, rfl⟩
                rw [← hny] at HV_
                have HVD : Aside0 (Hp w W8.drew (Star (RVt (w.heap.size + 1) (.slice Ar ny cr) (([] : List (List Int)))) (Star (PPt w.heap.size (([] : List (List Int)))) (OBt go 3 ix B m C)))) := ⟨Hp.below (good_Star good_RV (good_Star good_PP good_OB)) HV_ (below_drew (Below.refl _ _))⟩
                have rc1 : W8.cell? ⟨w.heap.size + 1, 0, none⟩ = some (.slice Ar ny cr) := (rv_cell (HV_.fst good_RV)).1
                have HNY := Aside0.mk hny
                have HV := Aside0.mk HV_
                clear hny HV_ hcr
                go_wp2
                go_region_held3 (fun w' => w'.cell? ⟨w.heap.size + 1, 0, none⟩ = some (.slice Ar ny cr)) (first | exact rc1 | assumption)
                  ((go_at_call 12; (with_reducible refine (len_n (HVD.out.snd (good_Star good_PP good_OB)).pip2 HNY.out.symm).mono ?_); rintro e w99 ⟨rfl, rfl⟩))
                clear rc1
                go_wp2
                go_roundw
                case rel => exact ⟨k + 1, by go_num, by omega, ([] : List (List Int)), ⟨Hp.two good_PP (Hp.imp1 (fun _ _ h => h.rp) HVD.out)⟩⟩
                case measure => simp [intOf]; omega
              · skip
                obtain ⟨Aq, cq, hcq, HV0_⟩ := Hp.rv HPO.out.left
                obtain ⟨nq, hnq⟩ : ∃ n, n = xs.length := ⟨_, rfl⟩
                rw [← hnq] at HV0_
                have HD : Aside0 (Hp w W (Star (PPt w.heap.size xs) (Star (RVt (w.heap.size + 1) (.slice Aq nq cq) xs) (OBt go kd ix B m C)))) := ⟨HV0_.left⟩
                have HNQ := Aside0.mk hnq
                have HCQ := Aside0.mk hcq
                have hq256 : nq ≤ 256 := by rw [hnq]; exact HPO.out.pip2.2.1
                clear hnq HV0_ hcq
                go_wp2_with (first
                  | (go_at_call 17; (with_reducible refine (hp_all (good_Star good_PP (good_Star good_RV good_OB)) HD.out HD.out.pip2).mono ?_); rintro e w7 ⟨u7, rfl, H7_⟩; obtain ⟨A7, c7, e7, hc7, HC7_⟩ := Hp.rows (Hp.fst good_LL H7_) (by rw [← HNQ.out]; omega); have HC7 := Aside0.mk HC7_; have HC7L := Aside0.mk hc7; rw [← HNQ.out] at e7; subst e7; have H7 := Aside0.mk H7_; have HRV := Aside0.mk (((H7_.snd (good_Star good_PP (good_Star good_RV good_OB))).snd (good_Star good_RV good_OB)).fst good_RV); have rq7 := (rv_cell HRV.out).1; clear H7_ HC7_ hc7)
                  | (go_at_call 18; (with_reducible refine (sameAll_n HNQ.out.symm HC7.out HC7L.out (rv_C HRV.out).2 HCQ.out (by rw [← HNQ.out]; omega)).mono ?_); rintro e w8 ⟨rfl, hd_⟩; have H8_ := Hp.drawn (good_Star good_LL (good_Star good_PP (good_Star good_RV good_OB))) H7.out hd_; obtain ⟨us, H8u⟩ := Hp.loose H8_; clear hd_ H8_))
                have HNS : Aside0 ((xs.map List.length).length = nq) := ⟨by rw [List.length_map]; exact HNQ.out.symm⟩
                obtain ⟨ns, hns⟩ : ∃ ns, ns = xs.map List.length := ⟨_, rfl⟩
                rw [← hns] at H8u HNS
                have HB256 : Aside0 (∀ t ∈ ns, t ≤ 9223372036854775807) := ⟨fun t ht => by
                  rw [hns] at ht
                  obtain ⟨x, hx, rfl⟩ := List.mem_map.1 ht
                  have := HPO.out.pip2.short x hx
                  omega⟩
                clear hns
                have H8 := Aside0.mk H8u
                clear H8u c0 c1 c2 rq7
                go_loopw [15, 16, 51] (fun _ _ v51 wr => ∃ j : Nat, v51 = .int .i64 j ∧ j ≤ nq ∧ Aside0 (Hp w wr (Star (LUs (.slice A7 nq c7) us ns) (Star (PPt w.heap.size xs) (Star (RVt (w.heap.size + 1) (.slice Aq nq cq) xs) (OBt go kd ix B m C)))))) (fun _ _ i _ => nq - (intOf i).toNat)
                case atStart => exact ⟨0, by go_num, Nat.zero_le _, H8⟩
                case round =>
                  obtain ⟨j, rfl, hj, HQ⟩ := hrel
                  obtain ⟨wq, rfl⟩ : ∃ wq : World, wq = wr := ⟨_, rfl⟩
                  by_cases hlt2 : j < nq
                  · have hjn : j < ns.length := by rw [HNS.out]; exact hlt2
                    obtain ⟨G, cap, A9, c9, ev, _, hcl, hc9, hus⟩ := hp_lu_at HQ.out hjn
                    injection ev with e1 e2 e3
                    subst e1
                    clear e2 e3
                    obtain ⟨n9, hn9⟩ : ∃ n, n = ns[j] := ⟨_, rfl⟩
                    rw [← hn9] at hcl hc9 hus
                    have HN9 : Aside0 (ns[j]? = some n9) := ⟨by rw [hn9]; exact List.getElem?_eq_getElem hjn⟩
                    have h963 : n9 ≤ 9223372036854775807 := HB256.out n9 (by rw [hn9]; exact List.getElem_mem hjn)
                    have HUS := Aside0.mk hus
                    clear hn9 hus
                    have q1 : (j : Int) < (nq : Int) := by omega
                    have q0 : (0 : Int) ≤ (j : Int) := by omega
                    go_wp2
                    have HQ0 := HQ
                    go_loopw [16, 57] (fun _ v57 wr => ∃ i : Nat, v57 = .int .i64 i ∧ i ≤ n9 ∧ Aside0 (Hp w wr (Star (LUs (.slice (some ⟨G, 0, none⟩) nq c7) us ns) (Star (PPt w.heap.size xs) (Star (RVt (w.heap.size + 1) (.slice Aq nq cq) xs) (OBt go kd ix B m C)))))) (fun _ i _ => n9 - (intOf i).toNat)
                    case atStart => exact ⟨0, by go_num, Nat.zero_le _, HQ⟩
                    case round =>
                      clear hcl HQ
                      obtain ⟨i, rfl, hi, HQ⟩ := hrel
                      obtain ⟨wx, rfl⟩ : ∃ wq : World, wq = wr := ⟨_, rfl⟩
                      by_cases hlt3 : i < n9
                      · obtain ⟨gx, xx, eA, hcx, hfx, HY⟩ := hp_lu_touch (good_Star good_PP (good_Star good_RV good_OB)) HQ.out HUS.out HN9.out hlt3
                        subst eA
                        have HYA := Aside0.mk HY
                        clear HY
                        have q1 : (i : Int) < (n9 : Int) := by omega
                        have q0 : (0 : Int) ≤ (i : Int) := by omega
                        go_wp2
                        go_roundw
                        case rel => exact ⟨i + 1, by go_num, by omega, ⟨HYA.out _⟩⟩
                        case measure => simp [intOf]; omega
                      · have q1 : (n9 : Int) ≤ (i : Int) := by omega
                        go_wp2
                        go_roundw
                        case rel => exact ⟨j + 1, by go_num, by omega, HQ⟩
                        case measure => simp [intOf]; omega
                  · have q1 : (nq : Int) ≤ (j : Int) := by omega
                    have HF_ := Hp.imp1 (fun _ _ h => h.rp) ((HQ.out.snd (good_Star good_PP (good_Star good_RV good_OB))).left)
                    obtain ⟨Ar, cr, hcr, HV_⟩ := Hp.rv HF_
                    obtain ⟨ny, hny⟩ : ∃ n, n = (xs).length := ⟨_, rfl⟩
                    rw [← hny] at HV_
                    have HVD : Aside0 (Hp w wq.drew (Star (RVt (w.heap.size + 1) (.slice Ar ny cr) (xs)) (Star (PPt w.heap.size (xs)) (OBt go kd ix B m C)))) := ⟨Hp.below (good_Star good_RV (good_Star good_PP good_OB)) HV_ (below_drew (Below.refl _ _))⟩
                    have rc1 : wq.cell? ⟨w.heap.size + 1, 0, none⟩ = some (.slice Ar ny cr) := (rv_cell (HV_.fst good_RV)).1
                    have HNY := Aside0.mk hny
                    have HV := Aside0.mk HV_
                    clear hny HV_ hcr
                    go_wp2
                    go_region_held3 (fun w' => w'.cell? ⟨w.heap.size + 1, 0, none⟩ = some (.slice Ar ny cr)) (first | exact rc1 | assumption)
                      ((go_at_call 12; (with_reducible refine (len_n (HVD.out.snd (good_Star good_PP good_OB)).pip2 HNY.out.symm).mono ?_); rintro e w99 ⟨rfl, rfl⟩))
                    clear rc1
                    go_wp2
                    go_roundw
                    case rel => exact ⟨k + 1, by go_num, by omega, xs, ⟨Hp.two good_PP (Hp.imp1 (fun _ _ h => h.rp) HVD.out)⟩⟩
                    case measure => simp [intOf]; omega
      · have q6 : (600 : Int) < (k : Int) := by omega
        have HB1 : Aside0 (Hp w (wo.alloc (.cells #[.int .i64 kd, .int .i64 ix, .slice B L C] 40)) (Star (PPt w.heap.size xs) (RPt (w.heap.size + 1) xs))) := ⟨Hp.below (good_Star good_PP good_RP) HP.out (below_alloc (Below.refl _ _) _)⟩
        go_upto_region 45 with (fail)
        obtain ⟨W, hW⟩ : ∃ W : World, W = wo.alloc (.cells #[.int .i64 kd, .int .i64 ix, .slice B L C] 40) := ⟨_, rfl⟩
        rw [← hW] at HB1 ⊢
        clear hW
        obtain ⟨Aq, cq, hcq, HV0_⟩ := Hp.rv HB1.out.swap
        obtain ⟨nq, hnq⟩ : ∃ n, n = xs.length := ⟨_, rfl⟩
        rw [← hnq] at HV0_
        have HD : Aside0 (Hp w W.drew (Star (RVt (w.heap.size + 1) (.slice Aq nq cq) xs) (PPt w.heap.size xs))) := ⟨Hp.below (good_Star good_RV good_PP) HV0_ (below_drew (Below.refl _ _))⟩
        have rq1 : W.cell? ⟨w.heap.size + 1, 0, none⟩ = some (.slice Aq nq cq) := (rv_cell (HV0_.fst good_RV)).1
        have HNQ := Aside0.mk hnq
        have HCQ := Aside0.mk hcq
        have hq256 : nq ≤ 256 := by rw [hnq]; exact HD.out.swap.pip2.2.1
        clear hnq HV0_ hcq
        go_wp2
        go_region_held3 (fun w' => w'.cell? ⟨w.heap.size + 1, 0, none⟩ = some (.slice Aq nq cq)) (first | exact rq1 | assumption)
          ((first
            | (go_at_call 11; (with_reducible refine (fixed_c _).mono ?_); rintro e w6 ⟨rfl, hb_⟩; have H6 := Aside0.mk (Hp.below (good_Star good_RV good_PP) HD.out hb_); have rq6 := (rv_cell (H6.out.fst good_RV)).1; clear hb_)
            | (go_at_call 17; (with_reducible refine (hp_all (good_Star good_RV good_PP) H6.out H6.out.swap.pip2).mono ?_); rintro e w7 ⟨u7, rfl, H7_⟩; obtain ⟨A7, c7, e7, hc7, HC7_⟩ := Hp.rows (Hp.fst good_LL H7_) (by rw [← HNQ.out]; omega); have HC7 := Aside0.mk HC7_; have HC7L := Aside0.mk hc7; rw [← HNQ.out] at e7; subst e7; have H7 := Aside0.mk H7_; have HRV := Aside0.mk ((H7_.snd (good_Star good_RV good_PP)).fst good_RV); have rq7 := (rv_cell HRV.out).1; clear H7_ HC7_ hc7)
            | (go_at_call 18; (with_reducible refine (sameAll_n HNQ.out.symm HC7.out HC7L.out (rv_C HRV.out).2 HCQ.out (by rw [← HNQ.out]; omega)).mono ?_); rintro e w8 ⟨rfl, hd_⟩; have H8 := Aside0.mk (Hp.drawn (good_Star good_LL (good_Star good_RV good_PP)) H7.out hd_); have rq8 := (rv_cell ((H8.out.snd (good_Star good_RV good_PP)).fst good_RV)).1; clear hd_)))
        go_wp2
        go_ret
        exact ⟨rfl, H8.out.old⟩
    · have q1 : (n : Int) ≤ (k : Int) := by omega
      obtain ⟨Aq, cq, hcq, HV0_⟩ := Hp.rv HP.out.swap
      obtain ⟨nq, hnq⟩ : ∃ n, n = xs.length := ⟨_, rfl⟩
      rw [← hnq] at HV0_
      have HD : Aside0 (Hp w wo.drew (Star (RVt (w.heap.size + 1) (.slice Aq nq cq) xs) (PPt w.heap.size xs))) := ⟨Hp.below (good_Star good_RV good_PP) HV0_ (below_drew (Below.refl _ _))⟩
      have rq1 : wo.cell? ⟨w.heap.size + 1, 0, none⟩ = some (.slice Aq nq cq) := (rv_cell (HV0_.fst good_RV)).1
      have HNQ := Aside0.mk hnq
      have HCQ := Aside0.mk hcq
      have hq256 : nq ≤ 256 := by rw [hnq]; exact HD.out.swap.pip2.2.1
      clear hnq HV0_ hcq
      go_wp2
      go_region_held3 (fun w' => w'.cell? ⟨w.heap.size + 1, 0, none⟩ = some (.slice Aq nq cq)) (first | exact rq1 | assumption)
        ((first
          | (go_at_call 11; (with_reducible refine (fixed_c _).mono ?_); rintro e w6 ⟨rfl, hb_⟩; have H6 := Aside0.mk (Hp.below (good_Star good_RV good_PP) HD.out hb_); have rq6 := (rv_cell (H6.out.fst good_RV)).1; clear hb_)
          | (go_at_call 17; (with_reducible refine (hp_all (good_Star good_RV good_PP) H6.out H6.out.swap.pip2).mono ?_); rintro e w7 ⟨u7, rfl, H7_⟩; obtain ⟨A7, c7, e7, hc7, HC7_⟩ := Hp.rows (Hp.fst good_LL H7_) (by rw [← HNQ.out]; omega); have HC7 := Aside0.mk HC7_; have HC7L := Aside0.mk hc7; rw [← HNQ.out] at e7; subst e7; have H7 := Aside0.mk H7_; have HRV := Aside0.mk ((H7_.snd (good_Star good_RV good_PP)).fst good_RV); have rq7 := (rv_cell HRV.out).1; clear H7_ HC7_ hc7)
          | (go_at_call 18; (with_reducible refine (sameAll_n HNQ.out.symm HC7.out HC7L.out (rv_C HRV.out).2 HCQ.out (by rw [← HNQ.out]; omega)).mono ?_); rintro e w8 ⟨rfl, hd_⟩; have H8 := Aside0.mk (Hp.drawn (good_Star good_LL (good_Star good_RV good_PP)) H7.out hd_); have rq8 := (rv_cell ((H8.out.snd (good_Star good_RV good_PP)).fst good_RV)).1; clear hd_)))
      go_wp2
      go_ret
      exact ⟨rfl, H8.out.old⟩
theorem pipePlays_law (A : Option Addr) (n c : Nat) (w : World) (hn63 : n ≤ 9223372036854775807) (ha : 0 < n → ∃ x, A = some x) (ho : ∀ x, A = some x → ∀ i, i < n → OpAt w (x.add (i * 3))) :
    Calls Try.prog 4 #[.slice A n c] w fun e w' => e = .returned (.bool true) ∧ Below w.heap.size w w' := pipePlays_walk w hn63 ha ho
end Go.Proofs.Ytefkaefgihhcaaa.PP
