/- The contract of annuletlaw07.fixed. -/
import Derived.Lib.SmallJoins
import Derived.Test.YtefkaefgihhcaaaDA
namespace Go.Proofs.Ytefkaefgihhcaaa.PP
open Go.RowKit Go.Proofs.YtefkaefgihhcaaaW.PrintWords Go.Proofs.YtefkaefgihhcaaaW.PrintLast Go.Proofs.YtefkaefgihhcaaaW.PrintMore
attribute [local go_sem] max2_int min2_int max_two min_two max_three min_three max_four min_four
set_option linter.unusedVariables false
set_option linter.unusedSimpArgs false
theorem lit_reads (W : World) (x : Int) (fr : Nat × Nat) (g : Nat) (hg : g = W.heap.size) : Kd.C (Kd.int .u8) (W.alloc (.cells #[.int .u8 x] 5 fr)) (some ⟨g, 0, none⟩) 1 [x] := by
  subst hg
  refine ⟨rfl, by decide, fun _ => ⟨_, rfl, fun j p hj => ⟨[.int .u8 p], rfl, rfl, fun i u hu => ?_⟩⟩⟩
  have hj0 : j = 0 := by
    rcases j with _ | j
    · rfl
    · simp at hj
  have hi0 : i = 0 := by
    rcases i with _ | i
    · rfl
    · simp at hu
  subst hj0 hi0
  simp only [List.getElem?_cons_zero, Option.some.injEq] at hj hu
  subst hj hu
  show World.cell? _ _ = _
  rw [show (⟨W.heap.size, 0, none⟩ : Addr).add (0 * (Kd.int .u8).sz + 0) = ⟨W.heap.size, 0, none⟩ from rfl]
  exact Joins.cell_alloc_mark_at W _ 5 fr _ 0 rfl
theorem lit3_reads (W : World) (a b c : Int) (fr : Nat × Nat) : Kd.C (Kd.slice 5 (Kd.int .u8)) ((((W.alloc (.cells #[.int .u8 a] 5 fr)).alloc (.cells #[.int .u8 b] 5 fr)).alloc (.cells #[.int .u8 c] 5 fr)).alloc (.cells #[.slice (some ⟨W.heap.size, 0, none⟩) 1 1, .slice (some ⟨W.heap.size + 1, 0, none⟩) 1 1, .slice (some ⟨W.heap.size + 1 + 1, 0, none⟩) 1 1] 26))
    (some ⟨W.heap.size + 1 + 1 + 1, 0, none⟩) 3 [[a], [b], [c]] := by
  have ra := Kd.C_alloc (Kd.C_alloc (Kd.C_alloc (lit_reads W a fr W.heap.size rfl) (.cells #[.int .u8 b] 5 fr)) (.cells #[.int .u8 c] 5 fr)) (.cells #[.slice (some ⟨W.heap.size, 0, none⟩) 1 1, .slice (some ⟨W.heap.size + 1, 0, none⟩) 1 1, .slice (some ⟨W.heap.size + 1 + 1, 0, none⟩) 1 1] 26)
  have rb := Kd.C_alloc (Kd.C_alloc (lit_reads (W.alloc (.cells #[.int .u8 a] 5 fr)) b fr (W.heap.size + 1) (by simp)) (.cells #[.int .u8 c] 5 fr)) (.cells #[.slice (some ⟨W.heap.size, 0, none⟩) 1 1, .slice (some ⟨W.heap.size + 1, 0, none⟩) 1 1, .slice (some ⟨W.heap.size + 1 + 1, 0, none⟩) 1 1] 26)
  have rc := Kd.C_alloc (lit_reads ((W.alloc (.cells #[.int .u8 a] 5 fr)).alloc (.cells #[.int .u8 b] 5 fr)) c fr (W.heap.size + 1 + 1) (by simp)) (.cells #[.slice (some ⟨W.heap.size, 0, none⟩) 1 1, .slice (some ⟨W.heap.size + 1, 0, none⟩) 1 1, .slice (some ⟨W.heap.size + 1 + 1, 0, none⟩) 1 1] 26)
  have hc := fun j => Joins.cell_alloc_mark_at (((W.alloc (.cells #[.int .u8 a] 5 fr)).alloc (.cells #[.int .u8 b] 5 fr)).alloc (.cells #[.int .u8 c] 5 fr)) #[.slice (some ⟨W.heap.size, 0, none⟩) 1 1, .slice (some ⟨W.heap.size + 1, 0, none⟩) 1 1, .slice (some ⟨W.heap.size + 1 + 1, 0, none⟩) 1 1] 26 (0, 0) (W.heap.size + 1 + 1 + 1) j (by simp)
  refine ⟨rfl, by decide, fun _ => ⟨_, rfl, fun j p hj => ?_⟩⟩
  have e : ∀ i, (⟨W.heap.size + 1 + 1 + 1, 0, none⟩ : Addr).add (j * (Kd.slice 5 (Kd.int .u8)).sz + i) = ⟨W.heap.size + 1 + 1 + 1, j + i, none⟩ := fun i => by
    show (⟨W.heap.size + 1 + 1 + 1, 0, none⟩ : Addr).add (j * 1 + i) = _
    rw [add_at, Nat.mul_one, Nat.zero_add]
  match j, hj with
  | 0, hj =>
    simp only [List.getElem?_cons_zero, Option.some.injEq] at hj
    subst hj
    refine ⟨[.slice (some ⟨W.heap.size, 0, none⟩) 1 1], rfl, ⟨_, 1, rfl, Nat.le_refl 1, ra⟩, fun i u hu => ?_⟩
    rw [e, hc]
    match i, hu with
    | 0, hu => simpa using hu
  | 1, hj =>
    simp only [List.getElem?_cons_succ, List.getElem?_cons_zero, Option.some.injEq] at hj
    subst hj
    refine ⟨[.slice (some ⟨W.heap.size + 1, 0, none⟩) 1 1], rfl, ⟨_, 1, rfl, Nat.le_refl 1, rb⟩, fun i u hu => ?_⟩
    rw [e, hc]
    match i, hu with
    | 0, hu => simpa using hu
  | 2, hj =>
    simp only [List.getElem?_cons_succ, List.getElem?_cons_zero, Option.some.injEq] at hj
    subst hj
    refine ⟨[.slice (some ⟨W.heap.size + 1 + 1, 0, none⟩) 1 1], rfl, ⟨_, 1, rfl, Nat.le_refl 1, rc⟩, fun i u hu => ?_⟩
    rw [e, hc]
    match i, hu with
    | 0, hu => simpa using hu
theorem lit3_below (W : World) (a b c : Int) (fr : Nat × Nat) : Below W.heap.size W ((((W.alloc (.cells #[.int .u8 a] 5 fr)).alloc (.cells #[.int .u8 b] 5 fr)).alloc (.cells #[.int .u8 c] 5 fr)).alloc (.cells #[.slice (some ⟨W.heap.size, 0, none⟩) 1 1, .slice (some ⟨W.heap.size + 1, 0, none⟩) 1 1, .slice (some ⟨W.heap.size + 1 + 1, 0, none⟩) 1 1] 26)) :=
  below_alloc (below_alloc (below_alloc (below_alloc (Below.refl _ _) _) _) _) _
set_option maxHeartbeats 4000000 in
set_option maxRecDepth 100000 in
theorem fixed_c (w : World) : Calls Try.prog 11 #[] w fun e w' => e = .returned (.bool true) ∧ Below w.heap.size w w' := by
  have HN := Aside0.mk (hp_new w)
  have kc := fun (W : World) (C : Array Value) (n c g : Nat) (hg : g = W.heap.size) => Joins.run_convert_bytes_const_at (P := Try.prog) W 26 5 C n c g hg Try.underlying26 Try.underlying5
  go_enter Try.func11, Try.ntmps11
  go_wp2_with (first
    | (go_at_call 8; have q_ := hp_put1 (Hp.below good_PP HN.out (below_alloc (Below.refl _ (w.alloc (.cells #[.slice none 0 0] 25))) (.cells #[.int .u8 97] 5 (1, 2)))) (A1 := some ⟨w.heap.size + 1, 0, none⟩) (c1 := 1) (n := 1) (bs := [97]) rfl (lit_reads (w.alloc (.cells #[.slice none 0 0] 25)) 97 (1, 2) _ (by simp)) (by decide) (by decide); (with_reducible refine q_.mono ?_); clear q_; rintro e w3 ⟨rfl, H2⟩)
    | (go_at_call 8; have q_ := hp_put1 (Hp.below good_PP H2 (below_alloc (Below.refl _ w3) (.cells #[.int .u8 98] 5 (1, 2)))) (A1 := some ⟨w3.heap.size, 0, none⟩) (c1 := 1) (n := 1) (bs := [98]) rfl (lit_reads w3 98 (1, 2) _ (by simp)) (by decide) (by decide); (with_reducible refine q_.mono ?_); clear q_; rintro e w5 ⟨rfl, H4⟩)
    | (go_at_call 8; have q_ := hp_put1 (Hp.below good_PP H4 (below_alloc (Below.refl _ w5) (.cells #[.int .u8 99] 5 (1, 2)))) (A1 := some ⟨w5.heap.size, 0, none⟩) (c1 := 1) (n := 1) (bs := [99]) rfl (lit_reads w5 99 (1, 2) _ (by simp)) (by decide) (by decide); (with_reducible refine q_.mono ?_); clear q_; rintro e w7 ⟨rfl, H6⟩)
    | (go_at_call 10; (with_reducible refine (hp_take1 H6 4 (x := [98]) (by decide)).mono ?_); rintro e w8 ⟨u8, rfl, H7⟩; obtain ⟨A8, c8, e8, _, C8⟩ := And2.reads H7.2; subst e8; have hcv8 : (convert 26 9 (.slice A8 1 c8)).run Try.prog w8 = .ok (.string ⟨#[98]⟩) w8 := (by rw [show (⟨#[98]⟩ : ByteArray) = strOfNums [98] from by decide]; exact Kd.C_string (P := Try.prog) (c := c8) Try.underlying26 Try.underlying5 Try.underlying9 C8); have H8 := Hp.unand H7; rw [show (([] ++ [[97]] ++ [[98]] ++ [[99]] : List (List Int)).eraseIdx (pk 4 (([] ++ [[97]] ++ [[98]] ++ [[99]] : List (List Int)).length))) = [[97], [99]] from by decide] at H8; clear C8)
    | (go_at_call 9; (with_reducible refine (hp_twice1 H8 (-1) (by decide) (x := [99]) (by decide)).mono ?_); rintro e w9 ⟨rfl, H9⟩)
    | (go_at_call 17; (with_reducible refine (hp_all good_PP H9 H9.pip).mono ?_); rintro e w10 ⟨v10, rfl, H10⟩; obtain ⟨A10, c10, e10, l10, C10⟩ := Hp.rows (H10.fst good_LL) (by decide); subst e10; have K10 := Aside0.mk C10; clear C10)
    | (go_at_call 18; (have q_ : Calls Try.prog 18 #[.slice A10 3 c10, .slice (some ⟨w10.heap.size + 1 + 1 + 1, 0, none⟩) 3 3] _ _ := sameAll_c (xs := [[97], [99], [99]]) (c0 := c10) (c1 := 3) (Kd.C_below K10.out (lit3_below w10 97 99 99 (1, 2))) l10 (lit3_reads w10 97 99 99 (1, 2)) (by decide) (by decide); (with_reducible refine q_.mono ?_); clear q_); rintro e w11 ⟨rfl, hd⟩; have H11 := Hp.drawn good_PP (Hp.below good_PP (Hp.snd good_PP H10) (lit3_below w10 97 99 99 (1, 2))) hd; clear hd)
    | (go_at_call 12; (with_reducible refine (len_c H11.pip).mono ?_); rintro e w12 ⟨rfl, rfl⟩))
  go_ret
  exact ⟨rfl, H11.old⟩
end Go.Proofs.Ytefkaefgihhcaaa.PP
