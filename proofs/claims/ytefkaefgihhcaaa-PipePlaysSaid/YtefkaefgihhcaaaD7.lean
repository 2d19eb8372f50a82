/- Contracts of annuletref06.SameAll, pipe.Twice, pipe.All. -/
import Derived.Test.YtefkaefgihhcaaaD6
namespace Go.Proofs.Ytefkaefgihhcaaa.PP
open Go.RowKit Go.Proofs.YtefkaefgihhcaaaW.PrintWords Go.Proofs.YtefkaefgihhcaaaW.PrintLast Go.Proofs.YtefkaefgihhcaaaW.PrintMore
attribute [local go_sem] max2_int min2_int max_two min_two max_three min_three max_four min_four
set_option linter.unusedVariables false
set_option linter.unusedSimpArgs false

section
variable {w w' : World} {F S : Nat → Prop} {xs ys : List (List Int)} {us : List Value} {bs : List Int} {g : Nat} {lv u : Value}
theorem out_reads (ho : Out w F lv us) (hr : Frs w F us xs) (hl : xs.length ≤ 9223372036854775807) : ∃ A c, lv = .slice A xs.length c ∧ xs.length ≤ c ∧ Kd.C (Kd.slice 5 (Kd.int .u8)) w A xs.length xs := by
  have hn := hr.1
  obtain ⟨A, c, rfl, hc⟩ := ho.form
  refine ⟨A, c, by rw [hn], by omega, rfl, hl, fun hp => ?_⟩
  obtain ⟨G, cap, e, _, _, _⟩ := ho.at_ (i := 0) (by omega)
  injection e with e1 _ _
  subst e1
  refine ⟨_, rfl, fun j bs hj => ?_⟩
  have hjl : j < us.length := by rw [hn]; exact (List.getElem?_eq_some_iff.1 hj).1
  obtain ⟨G', cap', e', _, _, hcell⟩ := ho.at_ hjl
  injection e' with e1 _ _
  injection e1 with e1
  injection e1 with e1
  subst e1
  obtain ⟨Au, cu, eu, hcu, hC⟩ := (hr.2 j _ bs (List.getElem?_eq_getElem hjl) hj).reads
  refine ⟨[us[j]], rfl, ⟨Au, cu, by rw [eu], hcu, hC⟩, fun i x hx => ?_⟩
  have hi0 : i = 0 := by
    rcases i with _ | i
    · rfl
    · simp at hx
  subst hi0
  simp only [List.getElem?_cons_zero, Option.some.injEq] at hx
  subst hx
  have e : (⟨G, 0, none⟩ : Addr).add (j * (Kd.slice 5 (Kd.int .u8)).sz + 0) = ⟨G, j, none⟩ := by
    show (⟨G, 0, none⟩ : Addr).add (j * 1 + 0) = ⟨G, j, none⟩
    rw [Nat.mul_one, Nat.add_zero, add_at, Nat.zero_add]
  rw [e]
  exact hcell
set_option maxHeartbeats 2000000 in
set_option maxRecDepth 100000 in
theorem sameAll_c {A0 A1 : Option Addr} {c0 c1 : Nat} (h0 : Kd.C (Kd.slice 5 (Kd.int .u8)) w A0 xs.length xs) (hc0 : xs.length ≤ c0) (h1 : Kd.C (Kd.slice 5 (Kd.int .u8)) w A1 xs.length xs) (hc1 : xs.length ≤ c1) (hl : xs.length ≤ 100000) :
    Calls Try.prog 18 #[.slice A0 xs.length c0, .slice A1 xs.length c1] w fun e w' => e = .returned (.bool true) ∧ Drawn0 w w' := by
  have H0 := Aside0.mk h0
  have H1 := Aside0.mk h1
  have C0 := Aside0.mk hc0
  have C1 := Aside0.mk hc1
  clear h0 h1 hc0 hc1
  go_enter Try.func18, Try.ntmps18
  go_wp2
  go_loopw [5] (fun v5 wr => ∃ k : Nat, v5 = .int .i64 k ∧ k ≤ xs.length ∧ Drawn0 w wr) (fun i _ => xs.length - (intOf i).toNat)
  case atStart => exact ⟨0, by go_num, Nat.zero_le _, Drawn0.refl _⟩
  case round =>
    obtain ⟨k, rfl, hk, ⟨m, rfl⟩⟩ := hrel
    by_cases hlt : k < xs.length
    · obtain ⟨a0, Au, cu, e0, hx0, hcu, hC0⟩ := at_L1 H0.out (k : Int) (by omega) (by omega)
      obtain ⟨a1, Av, cv, e1, hx1, hcv, hC1⟩ := at_L1 H1.out (k : Int) (by omega) (by omega)
      subst e0 e1
      obtain ⟨x, hx⟩ : ∃ x, x = rd_L1 xs (k : Int) := ⟨_, rfl⟩
      rw [← hx] at hx0 hx1 hcu hcv hC0 hC1
      rw [Int.toNat_natCast] at hx0 hx1
      have k0 := fun j => Kd.C_string (P := Try.prog) (c := cu) Try.underlying26 Try.underlying5 Try.underlying9 (Kd.C_drewN hC0 j)
      have k1 := fun j => Kd.C_string (P := Try.prog) (c := cv) Try.underlying26 Try.underlying5 Try.underlying9 (Kd.C_drewN hC1 j)
      have q : (k : Int) < (xs.length : Int) := by omega
      have q0 : (0 : Int) ≤ (k : Int) := by omega
      clear hx hcu hcv hC0 hC1
      go_wp2
      go_quiet (fail)
      go_wp2
      go_roundw
      case rel => exact ⟨k + 1, by go_num, by omega, ⟨⟨_, by first | rfl | (simp; rfl)⟩⟩⟩
      case measure => simp [intOf]; omega
    · go_wp2
      go_ret
      exact ⟨rfl, ⟨m, rfl⟩⟩

/-! ### Twice -/
set_option maxHeartbeats 1000000 in
theorem twice_none (h : Pip 25 w F g []) (i : Int) : Calls Try.prog 9 #[.pointer (some ⟨g, 0, none⟩), .int .i64 i] w fun e w' => e = .returned (.bool false) ∧ w = w' := by
  have H := Aside0.mk h
  clear h
  go_enter Try.func9, Try.ntmps9
  go_wp2_with (go_at_call 19; (with_reducible refine (place_none H.out i).mono ?_); rintro e w' ⟨rfl, rfl⟩)
  go_ret
  exact ⟨rfl, rfl⟩
set_option maxHeartbeats 1000000 in
theorem twice_nil (i : Int) : Calls Try.prog 9 #[.pointer none, .int .i64 i] w fun e w' => e = .returned (.bool false) ∧ w = w' := by
  go_enter Try.func9, Try.ntmps9
  go_wp2_with (go_at_call 19; (with_reducible refine (place_nil i).mono ?_); rintro e w' ⟨rfl, rfl⟩)
  go_ret
  exact ⟨rfl, rfl⟩
/-- What a call reads of a pipe that has frames: its own cell, and the cell of the frame at place k. -/
theorem Pip.frame {T : TypeId} (h : Pip T w F g xs) {k : Nat} (hk : k < xs.length) : ∃ (G cap : Nat) (Au : Option Addr) (cu : Nat), w.cell? ⟨g, 0, none⟩ = some (.slice (some ⟨G, 0, none⟩) xs.length cap) ∧ xs.length ≤ cap ∧ w.cell? ⟨G, k, none⟩ = some (.slice Au xs[k].length cu) ∧ Fr w F (.slice Au xs[k].length cu) xs[k] := by
  obtain ⟨hg, hl, lv, us, hb, ho, hf⟩ := h
  have hku : k < us.length := by rw [hf.1]; exact hk
  obtain ⟨G, cap, rfl, hcap, hGF, hcell⟩ := ho.at_ hku
  have hfr : Fr w F us[k] xs[k] := hf.2 k _ _ (List.getElem?_eq_getElem hku) (List.getElem?_eq_getElem hk)
  obtain ⟨Au, cu, eu, _⟩ := id hfr
  rw [eu] at hcell hfr
  rw [hf.1] at hb hcap
  exact ⟨G, cap, Au, cu, cell_of_row w g 0 _ T (0, 0) hb, hcap, hcell, hfr⟩
set_option maxHeartbeats 2000000 in
set_option maxRecDepth 100000 in
theorem twice_c (h : Pip 25 w F g xs) (i : Int) (hx : 0 < xs.length) (hl : xs.length < 256) {x : List Int} (hxk : xs[pk i xs.length]? = some x) : Calls Try.prog 9 #[.pointer (some ⟨g, 0, none⟩), .int .i64 i] w fun e w' =>
    e = .returned (.bool true) ∧ Pip 25 w' (fun j => F j ∨ w.heap.size ≤ j) g (xs ++ [x]) ∧ Mv F w w' := by
  have hkx : pk i xs.length < xs.length := Nat.mod_lt _ hx
  obtain ⟨G, cap, Au, cu, hc, hcap, hcell, hfr⟩ := h.frame hkx
  rw [List.getElem?_eq_getElem hkx] at hxk
  injection hxk with hxk
  rw [hxk] at hcell hfr
  have H := Aside0.mk h
  have HI := Aside0.mk hx
  have HL := Aside0.mk hl
  have HF := Aside0.mk hfr
  obtain ⟨k, hk⟩ : ∃ k, k = pk i xs.length := ⟨_, rfl⟩
  obtain ⟨n, hn⟩ : ∃ n, n = xs.length := ⟨_, rfl⟩
  rw [← hk] at hkx hcell
  rw [← hn] at hkx hcap hc
  have HK := Aside0.mk hk
  have q2 : (k : Int) < (n : Int) := by omega
  have q3 : (0 : Int) ≤ (k : Int) := by omega
  obtain ⟨hbl⟩ : Aside0 (x.length ≤ 140737488351232) := ⟨by obtain ⟨_, _, _, _, h, _⟩ := hfr; exact h⟩
  have HBL := Aside0.mk hbl
  have HR : Aside0 (Kd.C (Kd.int .u8) w Au x.length x) := ⟨by obtain ⟨A, c, e, _, hC⟩ := hfr.reads; injection e with e1 _ _; subst e1; exact hC⟩
  clear h hx hl hxk hfr hk hn hbl
  go_enter Try.func9, Try.ntmps9
  go_wp2_with (first
    | (go_at_call 19; (with_reducible refine (place_c H.out i HI.out).mono ?_); rintro e w' ⟨rfl, rfl⟩; rw [← HK.out])
    | (go_at_call 8; (with_reducible refine (put_c H.out HR.out HBL.out HL.out).mono ?_); rintro e w2 ⟨rfl, hp, hm⟩; have HP := Aside0.mk hp; have HM := Aside0.mk hm; clear hp hm))
  go_ret
  exact ⟨rfl, HP.out, HM.out⟩
set_option maxHeartbeats 2000000 in
set_option maxRecDepth 100000 in
theorem twice_full (h : Pip 25 w F g xs) (i : Int) (hl : ¬ xs.length < 256) : Calls Try.prog 9 #[.pointer (some ⟨g, 0, none⟩), .int .i64 i] w fun e w' => e = .returned (.bool false) ∧ w = w' := by
  have hx : 0 < xs.length := by omega
  have hkx : pk i xs.length < xs.length := Nat.mod_lt _ hx
  obtain ⟨G, cap, Au, cu, hc, hcap, hcell, hfr⟩ := h.frame hkx
  have H := Aside0.mk h
  have HI := Aside0.mk hx
  have HL := Aside0.mk hl
  obtain ⟨m, hm⟩ : ∃ m, m = xs[pk i xs.length].length := ⟨_, rfl⟩
  rw [← hm] at hcell
  clear hfr hm
  obtain ⟨k, hk⟩ : ∃ k, k = pk i xs.length := ⟨_, rfl⟩
  obtain ⟨n, hn⟩ : ∃ n, n = xs.length := ⟨_, rfl⟩
  rw [← hk] at hkx hcell
  rw [← hn] at hkx hcap hc
  have HK := Aside0.mk hk
  have q2 : (k : Int) < (n : Int) := by omega
  have q3 : (0 : Int) ≤ (k : Int) := by omega
  clear h hx hl hk hn
  go_enter Try.func9, Try.ntmps9
  go_wp2_with (first
    | (go_at_call 19; (with_reducible refine (place_c H.out i HI.out).mono ?_); rintro e w' ⟨rfl, rfl⟩; rw [← HK.out])
    | (go_at_call 8; (with_reducible refine (put_full H.out HL.out).mono ?_); rintro e w2 ⟨rfl, rfl⟩))
  go_ret
  exact ⟨rfl, rfl⟩
end
end Go.Proofs.Ytefkaefgihhcaaa.PP
