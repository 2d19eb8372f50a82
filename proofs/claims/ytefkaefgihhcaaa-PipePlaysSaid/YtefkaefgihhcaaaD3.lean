/- Contracts of pipe.Len, pipe.Fall, pipe.place, and of the document's Place. -/
import Derived.Test.YtefkaefgihhcaaaD2
namespace Go.Proofs.Ytefkaefgihhcaaa.PP
open Go.RowKit Go.Proofs.YtefkaefgihhcaaaW.PrintWords Go.Proofs.YtefkaefgihhcaaaW.PrintLast Go.Proofs.YtefkaefgihhcaaaW.PrintMore
attribute [local go_sem] max2_int min2_int max_two min_two max_three min_three max_four min_four
section
variable {w w' : World} {F S : Nat → Prop} {xs : List (List Int)} {g : Nat}
theorem ret_int {k : IntKind} {a b : Int} (h : a = b) : Ending.returned (.int k a) = .returned (.int k b) := by rw [h]
/-- What a pipe's own cell holds. -/
theorem Pip.cell {T : TypeId} (h : Pip T w F g xs) : ∃ A c, w.cell? ⟨g, 0, none⟩ = some (.slice A xs.length c) ∧ xs.length ≤ c := by
  obtain ⟨hg, hl, lv, us, hb, ho, hr⟩ := h
  obtain ⟨A, c, rfl, hc⟩ := ho.form
  rw [← hr.1]
  exact ⟨A, c, cell_of_row w g 0 _ T (0, 0) hb, hc⟩
set_option maxHeartbeats 1000000 in
theorem len_c (h : Pip 25 w F g xs) : Calls Try.prog 12 #[.pointer (some ⟨g, 0, none⟩)] w fun e w' => e = .returned (.int .i64 (xs.length : Int)) ∧ w = w' := by
  obtain ⟨A, c, hc, hl⟩ := h.cell
  clear h
  go_enter Try.func12, Try.ntmps12
  go_wp2
  go_ret
  exact ⟨rfl, rfl⟩
set_option maxHeartbeats 1000000 in
theorem len_nil : Calls Try.prog 12 #[.pointer none] w fun e w' => e = .returned (.int .i64 0) ∧ w = w' := by
  go_enter Try.func12, Try.ntmps12
  go_wp2
  go_ret
  exact ⟨rfl, rfl⟩
set_option maxHeartbeats 1000000 in
theorem fall_c (h : Pip 25 w F g xs) : Calls Try.prog 16 #[.pointer (some ⟨g, 0, none⟩)] w fun e w' => e = .returned (.int .i64 (xs.length : Int)) ∧ Pip 25 w' F g [] ∧ Mv F w w' := by
  obtain ⟨A, c, hc, hl⟩ := h.cell
  obtain ⟨hg, _, lv, us, hb, _, _⟩ := h
  have hf : w.frozen? ⟨g, 0, none⟩ = false := by simp [World.frozen?, hb]
  have HB := Aside0.mk hb
  clear hb
  go_enter Try.func16, Try.ntmps16
  go_wp2
  go_ret
  exact ⟨rfl, pip_new hg (blk_set HB.out 0 _), (Mv.set_ w g 0 _).mono (fun k hk => by subst hk; exact hg)⟩
set_option maxHeartbeats 1000000 in
theorem fall_nil : Calls Try.prog 16 #[.pointer none] w fun e w' => e = .returned (.int .i64 0) ∧ w = w' := by
  go_enter Try.func16, Try.ntmps16
  go_wp2
  go_ret
  exact ⟨rfl, rfl⟩
/-- The place of a number among n. -/
def pk (i : Int) (n : Nat) : Nat := ((IntKind.u64.wrap i).toNat) % n
theorem place_none (h : Pip 25 w F g []) (i : Int) : Calls Try.prog 19 #[.pointer (some ⟨g, 0, none⟩), .int .i64 i] w fun e w' => e = .returned (.int .i64 (-1)) ∧ w = w' := by
  obtain ⟨A, c, hc, hl⟩ := h.cell
  clear h
  go_enter Try.func19, Try.ntmps19
  go_wp2
  go_ret
  exact ⟨rfl, rfl⟩
theorem place_nil (i : Int) : Calls Try.prog 19 #[.pointer none, .int .i64 i] w fun e w' => e = .returned (.int .i64 (-1)) ∧ w = w' := by
  go_enter Try.func19, Try.ntmps19
  go_wp2
  go_ret
  exact ⟨rfl, rfl⟩
theorem pk_eq (i : Int) {n : Nat} (h0 : 0 < n) (h1 : n ≤ 256) : wrap64 ((IntKind.u64.wrap i).tmod (n : Int)) = (pk i n : Int) := by
  have hw : 0 ≤ IntKind.u64.wrap i := by rw [IntKind.wrap_u64]; omega
  unfold pk
  obtain ⟨m, hm⟩ := Int.eq_ofNat_of_zero_le hw
  rw [hm, Int.toNat_natCast]
  have e : ((m : Int)).tmod (n : Int) = ((m % n : Nat) : Int) := rfl
  rw [e]
  have := Nat.mod_lt m h0
  unfold wrap64
  omega
set_option maxHeartbeats 1000000 in
theorem place_c (h : Pip 25 w F g xs) (i : Int) (hx : 0 < xs.length) : Calls Try.prog 19 #[.pointer (some ⟨g, 0, none⟩), .int .i64 i] w fun e w' => e = .returned (.int .i64 (pk i xs.length : Int)) ∧ w = w' := by
  obtain ⟨A, c, hc, hl⟩ := h.cell
  have h256 := h.2.1
  obtain ⟨n, hn⟩ : ∃ n, n = xs.length := ⟨_, rfl⟩
  rw [← hn] at hc hl hx h256 ⊢
  clear h hn
  go_enter Try.func19, Try.ntmps19
  go_wp2
  go_ret
  exact ⟨ret_int (pk_eq i hx h256), rfl⟩
set_option maxHeartbeats 1000000 in
theorem refPlace_none (h : Pip 38 w F g []) (i : Int) : Calls Try.prog 20 #[.pointer (some ⟨g, 0, none⟩), .int .i64 i] w fun e w' => e = .returned (.int .i64 (-1)) ∧ w = w' := by
  obtain ⟨A, c, hc, hl⟩ := h.cell
  clear h
  go_enter Try.func20, Try.ntmps20
  go_wp2
  go_ret
  exact ⟨rfl, rfl⟩
set_option maxHeartbeats 1000000 in
theorem refPlace_c (h : Pip 38 w F g xs) (i : Int) (hx : 0 < xs.length) : Calls Try.prog 20 #[.pointer (some ⟨g, 0, none⟩), .int .i64 i] w fun e w' => e = .returned (.int .i64 (pk i xs.length : Int)) ∧ w = w' := by
  obtain ⟨A, c, hc, hl⟩ := h.cell
  have h256 := h.2.1
  obtain ⟨n, hn⟩ : ∃ n, n = xs.length := ⟨_, rfl⟩
  rw [← hn] at hc hl hx h256 ⊢
  clear h hn
  go_enter Try.func20, Try.ntmps20
  go_wp2
  go_ret
  exact ⟨ret_int (pk_eq i hx h256), rfl⟩
end
end Go.Proofs.Ytefkaefgihhcaaa.PP
