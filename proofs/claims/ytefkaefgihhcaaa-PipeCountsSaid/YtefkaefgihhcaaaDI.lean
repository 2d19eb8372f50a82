/- The walk of PipeCounts. -/
import Derived.Test.YtefkaefgihhcaaaDH
namespace Go.Proofs.Ytefkaefgihhcaaa.PP
open Go.RowKit Go.Proofs.YtefkaefgihhcaaaW.PrintWords Go.Proofs.YtefkaefgihhcaaaW.PrintLast Go.Proofs.YtefkaefgihhcaaaW.PrintMore
attribute [local go_sem] max2_int min2_int max_two min_two max_three min_three max_four min_four
set_option linter.unusedVariables false
set_option linter.unusedSimpArgs false
set_option maxHeartbeats 8000000 in
set_option maxRecDepth 100000 in
theorem pipeCounts_walk {A B : Option Addr} {c d : Nat} {xs : List (List Int)} {ps : List Int} (w : World) (hr : Kd.C (Kd.slice 5 (Kd.int .u8)) w A xs.length xs) (hb : ∀ x ∈ xs, x.length ≤ 140737488351232) (hf : ∀ x ∈ xs, ∀ n ∈ x, (Lit.int .u8 n).wf = true) (hp : Kd.C (Kd.int .i64) w B ps.length ps) :
    Calls Try.prog 6 #[.slice A xs.length c, .slice B ps.length d] w fun e w' => e = .returned (.bool true) ∧ Below w.heap.size w w' := by
  have HN : Aside0 (Hp w ((w.alloc (.cells #[.slice none 0 0] 25)).alloc (.cells (tb []) 46)) (Star (ARt (w.heap.size + 1) []) (PPt w.heap.size []))) := ⟨by
    have h := ar_new good_PP (hp_new w)
    have e : (w.alloc (.cells #[.slice none 0 0] 25)).heap.size = w.heap.size + 1 := World.size_alloc _ _
    rw [e] at h
    exact h⟩
  have hz := run_zero46
  have hn63 : xs.length ≤ 9223372036854775807 := Kd.C_max hr
  have hm63 : ps.length ≤ 9223372036854775807 := Kd.C_max hp
  have HR := Aside0.mk hr
  have HL := Aside0.mk hb
  have HF := Aside0.mk hf
  have HPS := Aside0.mk hp
  obtain ⟨n, hn⟩ : ∃ n, n = xs.length := ⟨_, rfl⟩
  rw [← hn] at HR hn63 ⊢
  have HNN := Aside0.mk hn
  obtain ⟨m, hm⟩ : ∃ n, n = ps.length := ⟨_, rfl⟩
  rw [← hm] at HPS hm63 ⊢
  have HMM := Aside0.mk hm
  clear hr hb hn hf hp hm
  go_enter Try.func6, Try.ntmps6
  go_wp2
  clear hz
  go_loopw [7, 9, 22] (fun v7 _ v22 wr => ∃ k : Nat, v22 = .int .i64 k ∧ k ≤ n ∧ ∃ (bs : List Int) (s : Nat), v7 = .int .i64 s ∧ s ≤ k ∧ s ≤ 256 ∧ Aside0 (bs.length = s ∧ ∀ b ∈ bs, 0 ≤ b ∧ b < 256) ∧ Aside0 (Hp w wr (Star (ARt (w.heap.size + 1) bs) (PPt w.heap.size (bs.map one))))) (fun _ _ i _ => n - (intOf i).toNat)
  case atStart => exact ⟨0, by go_num, Nat.zero_le _, [], 0, rfl, Nat.zero_le _, by omega, ⟨rfl, by simp⟩, HN⟩
  case round =>
    obtain ⟨k, rfl, hk, bs, s, rfl, hsk, hs2, HS, HP⟩ := hrel
    obtain ⟨wo, rfl⟩ : ∃ wo : World, wo = wr := ⟨_, rfl⟩
    by_cases hlt : k < n
    · have hkx : k < xs.length := by rw [← HNN.out]; omega
      have q1 : (k : Int) < (n : Int) := by omega
      have q0 : (0 : Int) ≤ (k : Int) := by omega
      obtain ⟨ad, Au, cu, ea, hcell, hcu, hC⟩ := at_L1 HR.out (k : Int) q0 q1
      subst ea
      have ex : rd_L1 xs (k : Int) = xs[k] := by simp [rd_L1, hkx]
      rw [ex, Int.toNat_natCast] at hcell
      rw [ex] at hcu hC
      have hwf := HF.out _ (List.getElem_mem hkx)
      cases hx : xs[k] with
      | nil =>
        rw [hx] at hcell
        have hcell' : wo.cell? (ad.add k) = some (.slice Au 0 cu) := (HP.out.old.cell (World.block_lt_of_cell? w _ hcell)).trans hcell
        clear hx hcell hcu hC ex hwf
        go_wp2
        go_roundw
        case rel => exact ⟨k + 1, by go_num, by omega, bs, s, rfl, by omega, hs2, HS, HP⟩
        case measure => simp [intOf]; omega
      | cons b r =>
        rw [hx] at hcell hcu hC hwf
        obtain ⟨lx, hlx⟩ : ∃ n, n = (b :: r).length := ⟨_, rfl⟩
        have hlx0 : 0 < lx := by rw [hlx]; simp
        have hb2 : 0 ≤ b ∧ b < 256 := by have := bounds_u8 (hwf b List.mem_cons_self); omega
        obtain ⟨bm, rfl⟩ : ∃ m : Nat, b = (m : Int) := ⟨b.toNat, by omega⟩
        have hbm : bm < 256 := by omega
        obtain ⟨ax, eax, hbx⟩ := byte_at hC
        subst eax
        have HC1 : Aside0 (Kd.C (Kd.int .u8) wo (some ax) 1 [(bm : Int)]) := ⟨Kd.C_below (Kd.C_take hC (m := 1) (by simp)) HP.out.old⟩
        rw [← hlx] at hcell hcu
        have hcell' : wo.cell? (ad.add k) = some (.slice (some ax) lx cu) := (HP.out.old.cell (World.block_lt_of_cell? w _ hcell)).trans hcell
        have HBX : Aside0 (w.cell? ax = some (.int .u8 bm)) := ⟨hbx⟩
        clear hx hcell hC ex hwf hlx hb2 hbx
        obtain ⟨cn, hcn⟩ : ∃ n, n = bs.count (bm : Int) := ⟨_, rfl⟩
        have hcnl : cn ≤ 256 := by have := List.count_le_length (a := (bm : Int)) (l := bs); have := HS.out.1; omega
        have HCN := Aside0.mk hcn
        clear hcn
        by_cases hs : s < 256
        · have HLS : Aside0 ((bs.map one).length < 256) := ⟨by rw [List.length_map, HS.out.1]; exact hs⟩
          go_wp2_with (first
            | (go_at_call 8; (with_reducible refine (hp_put good_AR HP.out.swap (by simp) HC1.out (by simp) HLS.out).mono ?_); rintro e w1 ⟨rfl, H1⟩; have cb1 : w1.cell? ax = some (.int .u8 bm) := (H1.old.cell (World.block_lt_of_cell? w _ HBX.out)).trans HBX.out; have cc1 := ar_cell (H1.snd good_AR) hbm; have cf1 := ar_frozen (H1.snd good_AR) bm; rw [← HCN.out] at cc1; have HI1 := Aside0.mk (ar_inc good_PP H1.swap hbm)))
          have HI2 := HI1.out
          rw [← HCN.out] at HI2
          have e1 : bs.map one ++ [[(bm : Int)]] = (bs ++ [(bm : Int)]).map one := by simp [one]
          rw [e1] at HI2
          go_roundw
          case rel => exact ⟨k + 1, by go_num, by omega, bs ++ [(bm : Int)], s + 1, by go_num, by omega, by omega, ⟨by simp [HS.out.1], fun b hb => by
            rcases List.mem_append.1 hb with hb | hb
            · exact HS.out.2 b hb
            · rw [List.mem_singleton.1 hb]; omega⟩, ⟨HI2⟩⟩
          case measure => simp [intOf]; omega
        · have HLS : Aside0 (¬ (bs.map one).length < 256) := ⟨by rw [List.length_map, HS.out.1]; exact hs⟩
          go_wp2_with (first
            | (go_at_call 8; (with_reducible refine (put_full HP.out.swap.pip2 HLS.out).mono ?_); rintro e w1 ⟨rfl, rfl⟩))
          go_roundw
          case rel => exact ⟨k + 1, by go_num, by omega, bs, s, rfl, by omega, hs2, HS, HP⟩
          case measure => simp [intOf]; omega
    · have q1 : (n : Int) ≤ (k : Int) := by omega
      clear HR HL HF HNN hsk
      go_wp2
      have HS0 := HS
      clear HN
      go_loopw [7, 11, 12, 13, 47] (fun v7 _ _ _ v47 wr => ∃ k : Nat, v47 = .int .i64 k ∧ k ≤ m ∧ ∃ (bs : List Int) (s : Nat), v7 = .int .i64 s ∧ s ≤ 256 ∧ Aside0 (bs.length = s ∧ ∀ b ∈ bs, 0 ≤ b ∧ b < 256) ∧ Aside0 (Hp w wr (Star (ARt (w.heap.size + 1) bs) (PPt w.heap.size (bs.map one))))) (fun _ _ _ _ i _ => m - (intOf i).toNat)
      case atStart => exact ⟨0, by go_num, Nat.zero_le _, bs, s, rfl, hs2, HS, HP⟩
      case round =>
        clear HS HS0 HP hs2
        obtain ⟨j, rfl, hj, cs, t, rfl, ht2, HS, HP⟩ := hrel
        obtain ⟨wo, rfl⟩ : ∃ wo : World, wo = wr := ⟨_, rfl⟩
        by_cases hlt : j < m
        · have q1 : (j : Int) < (m : Int) := by omega
          have q0 : (0 : Int) ≤ (j : Int) := by omega
          obtain ⟨ap, eap, hcp⟩ := int_at HPS.out hlt
          subst eap
          obtain ⟨pi, hpi⟩ : ∃ v, v = ps.getD j 0 := ⟨_, rfl⟩
          rw [← hpi] at hcp
          have hcp' : wo.cell? (ap.add j) = some (.int .i64 pi) := (HP.out.old.cell (World.block_lt_of_cell? w _ hcp)).trans hcp
          clear hpi hcp
          by_cases h0 : t < 1
          · have hcs : cs = [] := List.length_eq_zero_iff.1 (by rw [HS.out.1]; omega)
            have HT : Aside0 (Hp w wo (Star (PPt w.heap.size []) (ARt (w.heap.size + 1) []))) := ⟨by have h := HP.out.swap; rw [hcs] at h; exact h⟩
            have HC := Aside0.mk hcs
            clear hcs
            go_wp2_with (first
              | (go_at_call 10; (with_reducible refine (take_none HT.out.pip2 pi).mono ?_); rintro e w1 ⟨rfl, rfl⟩))
            go_roundw
            case rel => exact ⟨j + 1, by go_num, by omega, cs, t, rfl, ht2, HS, HP⟩
            case measure => simp [intOf]; omega
          · obtain ⟨k0, hk0⟩ : ∃ k, k = pk pi t := ⟨_, rfl⟩
            have hkl : k0 < t := by rw [hk0]; exact Nat.mod_lt _ (by omega)
            have hkc : k0 < cs.length := by rw [HS.out.1]; exact hkl
            obtain ⟨b, hb⟩ : ∃ b, cs[k0]? = some b := ⟨_, List.getElem?_eq_getElem hkc⟩
            have hb2 := HS.out.2 b (List.mem_of_getElem? hb)
            obtain ⟨bm, rfl⟩ : ∃ m : Nat, b = (m : Int) := ⟨b.toNat, by omega⟩
            have hbm : bm < 256 := by omega
            have HPM : Aside0 (cs.Perm ((bm : Int) :: cs.eraseIdx k0)) := ⟨erase_perm hb⟩
            have HKK : Aside0 (pk pi (cs.map one).length = k0) := ⟨by rw [List.length_map, HS.out.1, hk0]⟩
            have HX : Aside0 ((cs.map one)[pk pi (cs.map one).length]? = some [(bm : Int)]) := ⟨by rw [HKK.out, List.getElem?_map, hb]; rfl⟩
            obtain ⟨cn, hcn⟩ : ∃ n, n = cs.count (bm : Int) := ⟨_, rfl⟩
            have hcnl : cn ≤ 256 := by have := List.count_le_length (a := (bm : Int)) (l := cs); have := HS.out.1; omega
            have HCN := Aside0.mk hcn
            have HLL : Aside0 ((cs.eraseIdx k0).length = t - 1) := ⟨by rw [List.length_eraseIdx, if_pos hkc, HS.out.1]⟩
            clear hcn hb hb2 hk0 hkc hkl
            have ht0 : (1 : Int) ≤ (t : Int) := by omega
            have ht1 : 0 < t := by omega
            go_wp2_with (first
              | (go_at_call 10; (with_reducible refine (hp_take good_AR HP.out.swap pi HX.out).mono ?_); rintro e w1 ⟨u, rfl, H1⟩; obtain ⟨ax, cu, eu, hcu, cb1⟩ := fr_one H1; subst eu; have H2 := Hp.unand2 H1; have cc1 := ar_cell (H2.snd good_AR) hbm; have cf1 := ar_frozen (H2.snd good_AR) bm; rw [← HCN.out] at cc1; have HI1 := Aside0.mk (ar_dec good_PP H2.swap hbm HPM.out); clear H1 H2))
            have HI2 := HI1.out
            rw [← HCN.out, HKK.out, one_erase] at HI2
            go_roundw
            case rel => exact ⟨j + 1, by go_num, by omega, cs.eraseIdx k0, t - 1, by go_num, by omega, ⟨HLL.out, fun b hb => HS.out.2 b (List.mem_of_mem_eraseIdx hb)⟩, ⟨HI2⟩⟩
            case measure => simp [intOf]; omega
        · have q1 : (m : Int) ≤ (j : Int) := by omega
          clear HPS HMM
          have HT : Aside0 ((cs.map one).length = t) := ⟨by rw [List.length_map]; exact HS.out.1⟩
          go_wp2_with (first
            | (go_at_call 17; (with_reducible refine (hp_all (good_Star good_AR good_PP) HP.out HP.out.swap.pip2).mono ?_); rintro e w1 ⟨u, rfl, H1⟩; obtain ⟨A7, c7, e7, hc7, _⟩ := Hp.rows (Hp.fst good_LL H1) (by rw [HT.out]; omega); rw [HT.out] at e7 hc7; subst e7))
          have HS1 := HS
          go_loopw [15, 81] (fun _ v81 wr => ∃ k : Nat, v81 = .int .i64 k ∧ k ≤ t ∧ Aside0 (Hp w wr (Star (ARt (w.heap.size + 1) (cs.drop k)) (Star (PPt w.heap.size (cs.map one)) (LLt (.slice A7 t c7) (cs.map one)))))) (fun _ i _ => t - (intOf i).toNat)
          case atStart => exact ⟨0, by go_num, Nat.zero_le _, ⟨by rw [List.drop_zero]; exact H1.rot⟩⟩
          case round =>
            clear HP H1
            obtain ⟨k, rfl, hk, HQ⟩ := hrel
            obtain ⟨wp, rfl⟩ : ∃ wp : World, wp = wr := ⟨_, rfl⟩
            by_cases hlt : k < t
            · have hkc : k < cs.length := by rw [HS1.out.1]; exact hlt
              obtain ⟨G, cap, ax, cu, ev, hcell, hcu, hbx⟩ := row_at HQ.out.rot.rot hkc
              injection ev with ev1 ev2 ev3
              subst ev1
              clear ev2 ev3
              obtain ⟨b, hb⟩ : ∃ b, b = cs[k] := ⟨_, rfl⟩
              rw [← hb] at hbx
              have hb2 := HS1.out.2 b (by rw [hb]; exact List.getElem_mem hkc)
              obtain ⟨bm, hbb⟩ : ∃ m : Nat, b = (m : Int) := ⟨b.toNat, by omega⟩
              subst hbb
              have hbm : bm < 256 := by omega
              have HD : Aside0 (cs.drop k = (bm : Int) :: cs.drop (k + 1)) := ⟨by rw [List.drop_eq_getElem_cons hkc, hb]⟩
              clear hb hb2
              have cc1 := ar_cell (HQ.out.fst good_AR) hbm
              have cf1 := ar_frozen (HQ.out.fst good_AR) bm
              obtain ⟨cn, hcn⟩ : ∃ n, n = (cs.drop k).count (bm : Int) := ⟨_, rfl⟩
              have hcnl : cn ≤ 256 := by have h3 := List.count_le_length (a := (bm : Int)) (l := cs.drop k); have := HS1.out.1; rw [List.length_drop] at h3; omega
              have HI1 := Aside0.mk (ar_dec (good_Star good_PP good_LL) HQ.out hbm (by rw [HD.out]))
              rw [← hcn] at cc1 HI1
              clear hcn
              have q1 : (k : Int) < (t : Int) := by omega
              have q0 : (0 : Int) ≤ (k : Int) := by omega
              go_wp2
              go_roundw
              case rel => exact ⟨k + 1, by go_num, by omega, HI1⟩
              case measure => simp [intOf]; omega
            · have q1 : (t : Int) ≤ (k : Int) := by omega
              have HZ : Aside0 (Hp w wp (Star (ARt (w.heap.size + 1) []) (Star (PPt w.heap.size (cs.map one)) (LLt (.slice A7 t c7) (cs.map one))))) := ⟨by
                have h := HQ.out
                rw [List.drop_eq_nil_of_le (by rw [HS1.out.1]; omega)] at h
                exact h⟩
              have HBL := Aside0.mk (ar_block (HZ.out.fst good_AR))
              clear HQ
              go_wp2
              refine wp_load_row 46 (.tmp 6) rfl (w.heap.size + 1) rfl 46 (tb []) (0, 0) (.array 256 3) HBL.out Try.underlying46 rfl (tb_info []) ?_
              clear HBL
              go_wp2
              have HT1 := HT
              go_loopw [17, 97] (fun _ v97 wr => ∃ k : Nat, v97 = .int .i64 k ∧ k ≤ 256 ∧ wr = wp) (fun _ i _ => 256 - (intOf i).toNat)
              case atStart => exact ⟨0, by go_num, Nat.zero_le _, rfl⟩
              case round =>
                clear hk
                obtain ⟨k, rfl, hk, rfl⟩ := hrel
                by_cases hlt : k < 256
                · have q1 : (k : Int) < 256 := by omega
                  have q0 : (0 : Int) ≤ (k : Int) := by omega
                  have hget : ∀ W, (Instr.index 46 (.agg (tb [])) (.int .i64 (k : Int))).run Try.prog W = .ok (.int .i64 0) W := fun W => run_index46 W hlt
                  go_wp2
                  go_roundw
                  case rel => exact ⟨k + 1, by go_num, by omega, by simp⟩
                  case measure => simp [intOf]; omega
                · have q1 : (256 : Int) ≤ (k : Int) := by omega
                  go_wp2_with (first
                    | (go_at_call 11; (with_reducible refine (fixed_c wr).mono ?_); rintro e w1 ⟨rfl, hb⟩; have H1 := Hp.rot (Hp.below (good_Star good_AR (good_Star good_PP good_LL)) HZ.out hb); clear hb)
                    | (go_at_call 12; (with_reducible refine (len_n H1.pip2 HT1.out).mono ?_); rintro e w2 ⟨rfl, rfl⟩)
                    | (go_at_call 16; (with_reducible refine (hp_fall (good_Star good_LL good_AR) H1).mono ?_); rintro e w3 ⟨rfl, H3⟩; rw [HT1.out]))
                  go_ret
                  exact ⟨rfl, H3.old⟩
theorem pipeCounts_law (A : Option Addr) (len c : Nat) (xs : List (List Int)) (B : Option Addr) (len1 cap1 : Nat) (zs1 : List Int) (w : World) (hn : xs.length = len) (hr : Kd.C (Kd.slice 5 (Kd.int .u8)) w A len xs) (hb : ∀ x ∈ xs, x.length ≤ 140737488351232) (hf : ∀ x ∈ xs, ∀ n ∈ x, (Lit.int .u8 n).wf = true)
    (h1 : (B = none ∧ len1 = 0 ∧ cap1 = 0 ∧ zs1 = []) ∨ ∃ x, B = some x ∧ len1 ≤ cap1 ∧ cap1 ≤ maxLen ∧ zs1.length = cap1 ∧ (∀ i, i < zs1.length → w.cell? (x.add i) = some (.int .i64 (zs1.getD i 0))) ∧ ∀ n ∈ zs1, (Lit.int .i64 n).wf = true) (hy1 : len1 * 8 ≤ 140737488351232) :
    Calls Try.prog 6 #[.slice A len c, .slice B len1 cap1] w fun e w' => e = .returned (.bool true) ∧ Below w.heap.size w w' := by
  subst hn
  obtain ⟨l1, rfl, hr1, hm1, hw1, hc1⟩ := ReadsInt.ofRowC h1
  exact pipeCounts_walk w hr hb hf (Kd.C_of_reads (d := (0 : Int)) (h1 := fun _ => rfl) hr1)
end Go.Proofs.Ytefkaefgihhcaaa.PP
