/- The document's Twice; contracts over things apart: what fails leaves the world, the document's functions beside others. -/
import Derived.Test.YtefkaefgihhcaaaDH
namespace Go.Proofs.Ytefkaefgihhcaaa.PP
open Go.RowKit Go.Proofs.YtefkaefgihhcaaaW.PrintWords Go.Proofs.YtefkaefgihhcaaaW.PrintLast Go.Proofs.YtefkaefgihhcaaaW.PrintMore
attribute [local go_sem] max2_int min2_int max_two min_two max_three min_three max_four min_four
set_option linter.unusedVariables false
set_option linter.unusedSimpArgs false
section
variable {w w' : World} {F S : Nat → Prop} {xs ys : List (List Int)} {us : List Value} {bs : List Int} {g : Nat} {lv u : Value}
set_option maxHeartbeats 1000000 in
theorem refTwice_none (h : Pip 38 w F g []) (i : Int) : Calls Try.prog 15 #[.pointer (some ⟨g, 0, none⟩), .int .i64 i] w fun e w' => e = .returned (.bool false) ∧ w = w' := by
  have H := Aside0.mk h
  clear h
  go_enter Try.func15, Try.ntmps15
  go_wp2_with (go_at_call 20; (with_reducible refine (refPlace_none H.out i).mono ?_); rintro e w' ⟨rfl, rfl⟩)
  go_ret
  exact ⟨rfl, rfl⟩
set_option maxHeartbeats 2000000 in
set_option maxRecDepth 100000 in
theorem refTwice_c (h : Pip 38 w F g xs) (i : Int) (hx : 0 < xs.length) (hl : xs.length < 256) {x : List Int} (hxk : xs[pk i xs.length]? = some x) : Calls Try.prog 15 #[.pointer (some ⟨g, 0, none⟩), .int .i64 i] w fun e w' =>
    e = .returned (.bool true) ∧ Pip 38 w' (fun j => F j ∨ w.heap.size ≤ j) g (xs ++ [x]) ∧ Mv F w w' := by
  have hkx : pk i xs.length < xs.length := Nat.mod_lt _ hx
  obtain ⟨G, cap, Au, cu, hc, hcap, hcell, hfr⟩ := h.frame hkx
  rw [List.getElem?_eq_getElem hkx] at hxk
  injection hxk with hxk
  rw [hxk] at hcell hfr
  have H := Aside0.mk h
  have HI := Aside0.mk hx
  have HL := Aside0.mk hl
  have HF := Aside0.mk hfr
  obtain ⟨k, hk⟩ : ∃ k, k = pk i xs.length := ⟨_, rfl⟩
  obtain ⟨n, hn⟩ : ∃ n, n = xs.length := ⟨_, rfl⟩
  rw [← hk] at hkx hcell
  rw [← hn] at hkx hcap hc
  have HK := Aside0.mk hk
  have q2 : (k : Int) < (n : Int) := by omega
  have q3 : (0 : Int) ≤ (k : Int) := by omega
  obtain ⟨hbl⟩ : Aside0 (x.length ≤ 140737488351232) := ⟨by obtain ⟨_, _, _, _, h, _⟩ := hfr; exact h⟩
  have HBL := Aside0.mk hbl
  have HR : Aside0 (Kd.C (Kd.int .u8) w Au x.length x) := ⟨by obtain ⟨A, c, e, _, hC⟩ := hfr.reads; injection e with e1 _ _; subst e1; exact hC⟩
  clear h hx hl hxk hfr hk hn hbl
  go_enter Try.func15, Try.ntmps15
  go_wp2_with (first
    | (go_at_call 20; (with_reducible refine (refPlace_c H.out i HI.out).mono ?_); rintro e w' ⟨rfl, rfl⟩; rw [← HK.out])
    | (go_at_call 13; (with_reducible refine (refPut_c H.out HR.out HBL.out HL.out).mono ?_); rintro e w2 ⟨rfl, hp, hm⟩; have HP := Aside0.mk hp; have HM := Aside0.mk hm; clear hp hm))
  go_ret
  exact ⟨rfl, HP.out, HM.out⟩
set_option maxHeartbeats 2000000 in
set_option maxRecDepth 100000 in
theorem refTwice_full (h : Pip 38 w F g xs) (i : Int) (hl : ¬ xs.length < 256) : Calls Try.prog 15 #[.pointer (some ⟨g, 0, none⟩), .int .i64 i] w fun e w' => e = .returned (.bool false) ∧ w = w' := by
  have hx : 0 < xs.length := by omega
  have hkx : pk i xs.length < xs.length := Nat.mod_lt _ hx
  obtain ⟨G, cap, Au, cu, hc, hcap, hcell, hfr⟩ := h.frame hkx
  have H := Aside0.mk h
  have HI := Aside0.mk hx
  have HL := Aside0.mk hl
  obtain ⟨m, hm⟩ : ∃ m, m = xs[pk i xs.length].length := ⟨_, rfl⟩
  rw [← hm] at hcell
  clear hfr hm
  obtain ⟨k, hk⟩ : ∃ k, k = pk i xs.length := ⟨_, rfl⟩
  obtain ⟨n, hn⟩ : ∃ n, n = xs.length := ⟨_, rfl⟩
  rw [← hk] at hkx hcell
  rw [← hn] at hkx hcap hc
  have HK := Aside0.mk hk
  have q2 : (k : Int) < (n : Int) := by omega
  have q3 : (0 : Int) ≤ (k : Int) := by omega
  clear h hx hl hk hn
  go_enter Try.func15, Try.ntmps15
  go_wp2_with (first
    | (go_at_call 20; (with_reducible refine (refPlace_c H.out i HI.out).mono ?_); rintro e w' ⟨rfl, rfl⟩; rw [← HK.out])
    | (go_at_call 13; (with_reducible refine (refPut_full H.out HL.out).mono ?_); rintro e w2 ⟨rfl, rfl⟩))
  go_ret
  exact ⟨rfl, rfl⟩
end
section
variable {X Y : World → (Nat → Prop) → Prop} {w0 w w' : World} {xs : List (List Int)} {bs : List Int} {g : Nat} {u : Value}
theorem refTwice_n {F : Nat → Prop} (h : Pip 38 w F g xs) (i : Int) (hl : xs.length < 256) {x : List Int} (hxk : xs[pk i xs.length]? = some x) : Calls Try.prog 15 #[.pointer (some ⟨g, 0, none⟩), .int .i64 i] w fun e w' =>
    e = .returned (.bool true) ∧ Pip 38 w' (fun j => F j ∨ w.heap.size ≤ j) g (xs ++ [x]) ∧ Mv F w w' :=
  refTwice_c h i (by have := (List.getElem?_eq_some_iff.1 hxk).1; omega) hl hxk
theorem hp_rtwice (G : Good Y) (H : Hp w0 w (Star (RPt g xs) Y)) (i : Int) (hl : xs.length < 256) {x : List Int} (hx : xs[pk i xs.length]? = some x) :
    Calls Try.prog 15 #[.pointer (some ⟨g, 0, none⟩), .int .i64 i] w fun e w' => e = .returned (.bool true) ∧ Hp w0 w' (Star (RPt g (xs ++ [x])) Y) :=
  hp_call (X' := RPt g (xs ++ [x])) (E := fun e => e = .returned (.bool true)) G H (fun F h => refTwice_n h i hl hx)
theorem Hp.rpip2 (h : Hp w0 w (Star (RPt g xs) Y)) : Pip 38 w (fun k => w0.heap.size ≤ k) g xs := (h.fst good_RP).2
/-- The document's row, as the law reads it. -/
theorem Hp.rcell (h : Hp w0 w (Star (RPt g xs) Y)) : ∃ A c, w.cell? ⟨g, 0, none⟩ = some (.slice A xs.length c) ∧ xs.length ≤ c ∧ w.frozen? ⟨g, 0, none⟩ = false ∧ xs.length ≤ 256 ∧ Kd.C (Kd.slice 5 (Kd.int .u8)) w A xs.length xs := by
  obtain ⟨hg, hl, lv, us, hb, ho, hf⟩ := h.rpip2
  obtain ⟨A, c, rfl, hc, hC⟩ := out_reads ho hf (by omega)
  exact ⟨A, c, cell_of_row w g 0 _ 38 (0, 0) hb, hc, by simp [World.frozen?, hb], hl, hC⟩
/-- The document's row is dropped. -/
theorem Hp.rdrop (G : Good Y) (h : Hp w0 w (Star (RPt g xs) Y)) : Hp w0 (w.setCell ⟨g, 0, none⟩ (.slice none 0 0)) (Star (RPt g []) Y) := by
  obtain ⟨b0, F1, F2, h1, h2, hd, ⟨hg, hl, lv, us, hb, ho, hf⟩, hy⟩ := h
  exact Hp.op G b0 h1 h2 hd hy (pip_new (.inl hg) (blk_set hb 0 _)) ((Mv.set_ w g 0 _).mono (fun k hk => by subst hk; exact hg))
end
end Go.Proofs.Ytefkaefgihhcaaa.PP
