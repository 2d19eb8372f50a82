/- The walk of PipeFills. -/
import Derived.Test.YtefkaefgihhcaaaDB
namespace Go.Proofs.Ytefkaefgihhcaaa.PP
open Go.RowKit Go.Proofs.YtefkaefgihhcaaaW.PrintWords Go.Proofs.YtefkaefgihhcaaaW.PrintLast Go.Proofs.YtefkaefgihhcaaaW.PrintMore
attribute [local go_sem] max2_int min2_int max_two min_two max_three min_three max_four min_four
set_option linter.unusedVariables false
set_option linter.unusedSimpArgs false
theorem pk_zero (n : Nat) : pk 0 n = 0 := by
  unfold pk
  rw [IntKind.wrap_u64]
  simp
theorem ret_true {b : Bool} (h : b = true) : Ending.returned (.bool b) = .returned (.bool true) := by rw [h]
theorem len_n {w : World} {F : Nat → Prop} {g n : Nat} {xs : List (List Int)} (h : Pip 25 w F g xs) (hn : xs.length = n) : Calls Try.prog 12 #[.pointer (some ⟨g, 0, none⟩)] w fun e w' => e = .returned (.int .i64 (n : Int)) ∧ w = w' := by
  subst hn
  exact len_c h
theorem hp_fall_n {w0 w : World} {g n : Nat} {xs : List (List Int)} (H : Hp w0 w (PPt g xs)) (hn : xs.length = n) : Calls Try.prog 16 #[.pointer (some ⟨g, 0, none⟩)] w fun e w' => e = .returned (.int .i64 (n : Int)) ∧ Hp w0 w' (PPt g []) := by
  subst hn
  exact hp_fall1 H
set_option maxHeartbeats 8000000 in
set_option maxRecDepth 100000 in
theorem pipeFills_none {A : Option Addr} {c : Nat} {bs : List Int} (more : Int) (w : World) (hr : Kd.C (Kd.int .u8) w A bs.length bs) (hl : bs.length ≤ 140737488351232) (m : Nat) (hm : (IntKind.u64.wrap more).tmod 300 = (m : Int)) (h0 : m < 1) :
    Calls Try.prog 5 #[.slice A bs.length c, .int .i64 more] w fun e w' => e = .returned (.bool true) ∧ Below w.heap.size w w' := by
  have HN := Aside0.mk (hp_new w)
  have HR := Aside0.mk hr
  have HL := Aside0.mk hl
  obtain ⟨n, hn⟩ : ∃ n, n = bs.length := ⟨_, rfl⟩
  rw [← hn] at HR ⊢
  have HNN := Aside0.mk hn
  clear hr hl hn
  go_enter Try.func5, Try.ntmps5
  go_wp2
  go_loopw [7, 17] (fun _ v17 wr => ∃ k : Nat, v17 = .int .i64 k ∧ k ≤ m ∧ Aside0 (Hp w wr (PPt w.heap.size (List.replicate (min k 256) bs)))) (fun _ i _ => m - (intOf i).toNat)
  case atStart => exact ⟨0, by go_num, Nat.zero_le _, HN⟩
  case round =>
    obtain ⟨k, rfl, hk, HP⟩ := hrel
    obtain ⟨wo, rfl⟩ : ∃ wo : World, wo = wr := ⟨_, rfl⟩
    by_cases hlt : k < m
    · exfalso; omega
    · obtain rfl : k = m := by omega
      have HP' : Aside0 (Hp w wo (PPt w.heap.size [])) := ⟨by have h := HP.out; rw [show min k 256 = 0 from by omega] at h; exact h⟩
      go_wp2_with (first
        | (go_at_call 11; (with_reducible refine (fixed_c wo).mono ?_); rintro e w1 ⟨rfl, hb⟩; have H1 := Hp.below good_PP HP'.out hb; clear hb)
        | (go_at_call 12; (with_reducible refine (len_n H1.pip (n := 0) (by simp)).mono ?_); rintro e w2 ⟨rfl, rfl⟩)
        | (go_at_call 9; (with_reducible refine (twice_none H1.pip 0).mono ?_); rintro e w3 ⟨rfl, rfl⟩; have H2 := H1)
        | (go_at_call 16; (with_reducible refine (hp_fall_n H2 (n := 0) (by simp)).mono ?_); rintro e w4 ⟨rfl, H4⟩)
        | (go_at_call 12; (with_reducible refine (len_n H4.pip (n := 0) rfl).mono ?_); rintro e w5 ⟨rfl, rfl⟩))
      go_ret
      exact ⟨rfl, H4.old⟩
set_option maxHeartbeats 8000000 in
set_option maxRecDepth 100000 in
theorem pipeFills_some {A : Option Addr} {c : Nat} {bs : List Int} (more : Int) (w : World) (hr : Kd.C (Kd.int .u8) w A bs.length bs) (hl : bs.length ≤ 140737488351232) (m : Nat) (hm : (IntKind.u64.wrap more).tmod 300 = (m : Int)) (h0 : 1 ≤ m) (h1 : m < 256) :
    Calls Try.prog 5 #[.slice A bs.length c, .int .i64 more] w fun e w' => e = .returned (.bool true) ∧ Below w.heap.size w w' := by
  have HN := Aside0.mk (hp_new w)
  have HR := Aside0.mk hr
  have HL := Aside0.mk hl
  obtain ⟨n, hn⟩ : ∃ n, n = bs.length := ⟨_, rfl⟩
  rw [← hn] at HR ⊢
  have HNN := Aside0.mk hn
  clear hr hl hn
  go_enter Try.func5, Try.ntmps5
  go_wp2
  go_loopw [7, 17] (fun _ v17 wr => ∃ k : Nat, v17 = .int .i64 k ∧ k ≤ m ∧ Aside0 (Hp w wr (PPt w.heap.size (List.replicate (min k 256) bs)))) (fun _ i _ => m - (intOf i).toNat)
  case atStart => exact ⟨0, by go_num, Nat.zero_le _, HN⟩
  case round =>
    obtain ⟨k, rfl, hk, HP⟩ := hrel
    obtain ⟨wo, rfl⟩ : ∃ wo : World, wo = wr := ⟨_, rfl⟩
    by_cases hlt : k < m
    · have q1 : (k : Int) < (m : Int) := by omega
      by_cases h256 : k < 256
      · have q2 : (k : Int) < 256 := by omega
        have HK := Aside0.mk h256
        go_wp2_with (go_at_call 8; (with_reducible refine (hp_put1 HP.out HNN.out (Kd.C_below HR.out HP.out.old) HL.out (by rw [List.length_replicate]; omega)).mono ?_); rintro e w1 ⟨rfl, H1⟩)
        go_roundw
        case rel => exact ⟨k + 1, by go_num, by omega, ⟨by have h := HK.out; rw [show min (k + 1) 256 = min k 256 + 1 from by omega, List.replicate_succ']; exact H1⟩⟩
        case measure => simp [intOf]; omega
      · exfalso; omega
    · obtain rfl : k = m := by omega
      have HP' : Aside0 (Hp w wo (PPt w.heap.size (List.replicate k bs))) := ⟨by have h := HP.out; rw [show min k 256 = k from by omega] at h; exact h⟩
      go_wp2_with (first
        | (go_at_call 11; (with_reducible refine (fixed_c wo).mono ?_); rintro e w1 ⟨rfl, hb⟩; have H1 := Hp.below good_PP HP'.out hb; clear hb)
        | (go_at_call 12; (with_reducible refine (len_n H1.pip (n := k) (by simp)).mono ?_); rintro e w2 ⟨rfl, rfl⟩)
        | (go_at_call 9; (with_reducible refine (hp_twice1 H1 0 (by rw [List.length_replicate]; omega) (x := bs) (by rw [pk_zero, List.getElem?_replicate]; exact if_pos (by omega))).mono ?_); rintro e w3 ⟨rfl, H2⟩)
        | (go_at_call 16; (with_reducible refine (hp_fall_n H2 (n := k + 1) (by simp)).mono ?_); rintro e w4 ⟨rfl, H4⟩)
        | (go_at_call 12; (with_reducible refine (len_n H4.pip (n := 0) rfl).mono ?_); rintro e w5 ⟨rfl, rfl⟩))
      go_ret
      exact ⟨rfl, H4.old⟩
set_option maxHeartbeats 8000000 in
set_option maxRecDepth 100000 in
theorem pipeFills_full {A : Option Addr} {c : Nat} {bs : List Int} (more : Int) (w : World) (hr : Kd.C (Kd.int .u8) w A bs.length bs) (hl : bs.length ≤ 140737488351232) (m : Nat) (hm : (IntKind.u64.wrap more).tmod 300 = (m : Int)) (h0 : 256 < m) (h1 : m < 300) :
    Calls Try.prog 5 #[.slice A bs.length c, .int .i64 more] w fun e w' => e = .returned (.bool true) ∧ Below w.heap.size w w' := by
  have HN := Aside0.mk (hp_new w)
  have HR := Aside0.mk hr
  have HL := Aside0.mk hl
  obtain ⟨n, hn⟩ : ∃ n, n = bs.length := ⟨_, rfl⟩
  rw [← hn] at HR ⊢
  have HNN := Aside0.mk hn
  clear hr hl hn
  go_enter Try.func5, Try.ntmps5
  go_wp2
  go_loopw [7, 17] (fun _ v17 wr => ∃ k : Nat, v17 = .int .i64 k ∧ k ≤ m ∧ Aside0 (Hp w wr (PPt w.heap.size (List.replicate (min k 256) bs)))) (fun _ i _ => m - (intOf i).toNat)
  case atStart => exact ⟨0, by go_num, Nat.zero_le _, HN⟩
  case round =>
    obtain ⟨k, rfl, hk, HP⟩ := hrel
    obtain ⟨wo, rfl⟩ : ∃ wo : World, wo = wr := ⟨_, rfl⟩
    by_cases hlt : k < m
    · have q1 : (k : Int) < (m : Int) := by omega
      by_cases h256 : k < 256
      · have q2 : (k : Int) < 256 := by omega
        have HK := Aside0.mk h256
        go_wp2_with (go_at_call 8; (with_reducible refine (hp_put1 HP.out HNN.out (Kd.C_below HR.out HP.out.old) HL.out (by rw [List.length_replicate]; omega)).mono ?_); rintro e w1 ⟨rfl, H1⟩)
        go_roundw
        case rel => exact ⟨k + 1, by go_num, by omega, ⟨by have h := HK.out; rw [show min (k + 1) 256 = min k 256 + 1 from by omega, List.replicate_succ']; exact H1⟩⟩
        case measure => simp [intOf]; omega
      · have q2 : (256 : Int) ≤ (k : Int) := by omega
        have HK := Aside0.mk h256
        go_wp2_with (go_at_call 8; (with_reducible refine (put_full HP.out.pip (by rw [List.length_replicate]; omega)).mono ?_); rintro e w1 ⟨rfl, rfl⟩)
        go_roundw
        case rel => exact ⟨k + 1, by go_num, by omega, ⟨by have h := HK.out; rw [show min (k + 1) 256 = min k 256 from by omega]; exact HP.out⟩⟩
        case measure => simp [intOf]; omega
    · obtain rfl : k = m := by omega
      have HP' : Aside0 (Hp w wo (PPt w.heap.size (List.replicate 256 bs))) := ⟨by have h := HP.out; rw [show min k 256 = 256 from by omega] at h; exact h⟩
      go_wp2_with (first
        | (go_at_call 11; (with_reducible refine (fixed_c wo).mono ?_); rintro e w1 ⟨rfl, hb⟩; have H1 := Hp.below good_PP HP'.out hb; clear hb)
        | (go_at_call 12; (with_reducible refine (len_n H1.pip (n := 256) (by simp)).mono ?_); rintro e w2 ⟨rfl, rfl⟩)
        | (go_at_call 9; (with_reducible refine (twice_full H1.pip 0 (by rw [List.length_replicate]; omega)).mono ?_); rintro e w3 ⟨rfl, rfl⟩; have H2 := H1)
        | (go_at_call 16; (with_reducible refine (hp_fall_n H2 (n := 256) (by simp)).mono ?_); rintro e w4 ⟨rfl, H4⟩)
        | (go_at_call 12; (with_reducible refine (len_n H4.pip (n := 0) rfl).mono ?_); rintro e w5 ⟨rfl, rfl⟩))
      go_ret
      exact ⟨ret_true (by simp; omega), H4.old⟩
set_option maxHeartbeats 8000000 in
set_option maxRecDepth 100000 in
theorem pipeFills_edge {A : Option Addr} {c : Nat} {bs : List Int} (more : Int) (w : World) (hr : Kd.C (Kd.int .u8) w A bs.length bs) (hl : bs.length ≤ 140737488351232) (m : Nat) (hm : (IntKind.u64.wrap more).tmod 300 = (m : Int)) (h0 : 256 ≤ m) (h1 : m < 257) :
    Calls Try.prog 5 #[.slice A bs.length c, .int .i64 more] w fun e w' => e = .returned (.bool true) ∧ Below w.heap.size w w' := by
  have HN := Aside0.mk (hp_new w)
  have HR := Aside0.mk hr
  have HL := Aside0.mk hl
  obtain ⟨n, hn⟩ : ∃ n, n = bs.length := ⟨_, rfl⟩
  rw [← hn] at HR ⊢
  have HNN := Aside0.mk hn
  clear hr hl hn
  go_enter Try.func5, Try.ntmps5
  go_wp2
  go_loopw [7, 17] (fun _ v17 wr => ∃ k : Nat, v17 = .int .i64 k ∧ k ≤ m ∧ Aside0 (Hp w wr (PPt w.heap.size (List.replicate (min k 256) bs)))) (fun _ i _ => m - (intOf i).toNat)
  case atStart => exact ⟨0, by go_num, Nat.zero_le _, HN⟩
  case round =>
    obtain ⟨k, rfl, hk, HP⟩ := hrel
    obtain ⟨wo, rfl⟩ : ∃ wo : World, wo = wr := ⟨_, rfl⟩
    by_cases hlt : k < m
    · have q1 : (k : Int) < (m : Int) := by omega
      by_cases h256 : k < 256
      · have q2 : (k : Int) < 256 := by omega
        have HK := Aside0.mk h256
        go_wp2_with (go_at_call 8; (with_reducible refine (hp_put1 HP.out HNN.out (Kd.C_below HR.out HP.out.old) HL.out (by rw [List.length_replicate]; omega)).mono ?_); rintro e w1 ⟨rfl, H1⟩)
        go_roundw
        case rel => exact ⟨k + 1, by go_num, by omega, ⟨by have h := HK.out; rw [show min (k + 1) 256 = min k 256 + 1 from by omega, List.replicate_succ']; exact H1⟩⟩
        case measure => simp [intOf]; omega
      · exfalso; omega
    · obtain rfl : k = m := by omega
      have HP' : Aside0 (Hp w wo (PPt w.heap.size (List.replicate 256 bs))) := ⟨by have h := HP.out; rw [show min k 256 = 256 from by omega] at h; exact h⟩
      go_wp2_with (first
        | (go_at_call 11; (with_reducible refine (fixed_c wo).mono ?_); rintro e w1 ⟨rfl, hb⟩; have H1 := Hp.below good_PP HP'.out hb; clear hb)
        | (go_at_call 12; (with_reducible refine (len_n H1.pip (n := 256) (by simp)).mono ?_); rintro e w2 ⟨rfl, rfl⟩)
        | (go_at_call 9; (with_reducible refine (twice_full H1.pip 0 (by rw [List.length_replicate]; omega)).mono ?_); rintro e w3 ⟨rfl, rfl⟩; have H2 := H1)
        | (go_at_call 16; (with_reducible refine (hp_fall_n H2 (n := 256) (by simp)).mono ?_); rintro e w4 ⟨rfl, H4⟩)
        | (go_at_call 12; (with_reducible refine (len_n H4.pip (n := 0) rfl).mono ?_); rintro e w5 ⟨rfl, rfl⟩))
      go_ret
      exact ⟨ret_true (by first | (simp; done) | (simp; omega)), H4.old⟩
theorem pipeFills_law (A : Option Addr) (len cap : Nat) (zs : List Int) (more : Int) (w : World) (h : (A = none ∧ len = 0 ∧ cap = 0 ∧ zs = []) ∨ ∃ x, A = some x ∧ len ≤ cap ∧ cap ≤ maxLen ∧ zs.length = cap ∧ (∀ i, i < zs.length → w.cell? (x.add i) = some (.int .u8 (zs.getD i 0))) ∧ ∀ n ∈ zs, (Lit.int .u8 n).wf = true) (hy : len * 1 ≤ 140737488351232) (hi : (Lit.int .i64 more).wf = true) :
    Calls Try.prog 5 #[.slice A len cap, .int .i64 more] w fun e w' => e = .returned (.bool true) ∧ Below w.heap.size w w' := by
  obtain ⟨l, rfl, hr, hm, hw, hc⟩ := ReadsInt.ofRowC h
  have hC : Kd.C (Kd.int .u8) w A l.length l := Kd.C_of_reads (d := (0 : Int)) (h1 := fun _ => rfl) hr
  have hu : 0 ≤ IntKind.u64.wrap more := by rw [IntKind.wrap_u64]; omega
  obtain ⟨q, hq⟩ := Int.eq_ofNat_of_zero_le hu
  have hm : (IntKind.u64.wrap more).tmod 300 = ((q % 300 : Nat) : Int) := by rw [hq]; rfl
  have h3 := Nat.mod_lt q (show 0 < 300 by decide)
  rcases Nat.lt_or_ge (q % 300) 1 with h0 | h0
  · exact pipeFills_none more w hC (by omega) _ hm h0
  · rcases Nat.lt_or_ge (q % 300) 256 with h1 | h1
    · exact pipeFills_some more w hC (by omega) _ hm h0 h1
    · rcases Nat.lt_or_ge (q % 300) 257 with h2 | h2
      · exact pipeFills_edge more w hC (by omega) _ hm h1 h2
      · exact pipeFills_full more w hC (by omega) _ hm h2 h3
end Go.Proofs.Ytefkaefgihhcaaa.PP
