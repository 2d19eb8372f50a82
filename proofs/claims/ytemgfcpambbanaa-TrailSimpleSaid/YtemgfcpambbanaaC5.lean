/- Contracts of annuletlaw11.cut and trail.Back. -/
import Derived.Test.YtemgfcpambbanaaPm
namespace Go.Proofs.Ytemgfcpambbanaa.PT
open Go.RowKit Go.Proofs.YtemgfcpambbanaaW.PrintWords Go.Proofs.YtemgfcpambbanaaW.PrintLast Go.Proofs.YtemgfcpambbanaaW.PrintMore
attribute [local go_sem] max2_int min2_int max_two min_two max_three min_three max_four min_four
theorem add_nought (a : Addr) : a.add 0 = a := by simp [Addr.add]
theorem map_nought (A : Option Addr) (j : Nat) : A.map (fun x => x.add (0 * j)) = A := by
  cases A with
  | none => rfl
  | some a => simp [add_nought]
theorem sl_eq {A B : Option Addr} {n n' c c' : Nat} (h : A = B) (hn : n = n') (hc : c = c') : Ending.returned (.slice A n c) = .returned (.slice B n' c') := by rw [h, hn, hc]
set_option maxHeartbeats 1000000 in
theorem annuletlaw11_cut.calls (A0 : Option Addr) (c0 : Nat) (l0 : List Int) (m : Nat) (w : World) (hc0 : l0.length ≤ c0) (hm : m ≤ 1000) :
    Calls Try.prog 9 #[.slice A0 l0.length c0, .int .i64 (m : Int)] w fun e w' => e = .returned (.slice A0 (l0.take m).length (l0.take m).length) ∧ w = w' := by
  have hk : (l0.take m).length = min m l0.length := List.length_take
  obtain ⟨n, hn⟩ : ∃ n, n = l0.length := ⟨_, rfl⟩
  rw [← hn] at hc0 hk ⊢
  rw [hk]
  clear hk hn
  by_cases h : m < n
  · go_enter Try.func9, Try.ntmps9
    go_wp2
    go_ret
    exact ⟨sl_eq rfl (by omega) (by omega), rfl⟩
  · go_enter Try.func9, Try.ntmps9
    go_wp2
    go_ret
    exact ⟨sl_eq rfl (by omega) (by omega), rfl⟩
set_option maxHeartbeats 1000000 in
theorem trail_Back.calls (A0 : Option Addr) (c0 : Nat) (l0 : List Int) (w : World) (hr0 : Kd.C (Kd.int .i64) w A0 l0.length l0) (hl : l0.length ≤ 1000) :
    Calls Try.prog 14 #[.slice A0 l0.length c0] w fun e w' => ∃ v0_ : Value, e = .returned v0_ ∧ Kd.R (Kd.int .i64) 3 w' w.heap.size (fun _ => True) v0_ l0.reverse ∧ Below w.heap.size w w' := by
  obtain ⟨k, hk⟩ := (reverse_ev hl).rounds
  have HK := Aside0.mk hk
  clear hk
  have HR0 := Aside0.mk hr0
  clear hr0
  go_enter Try.func14, Try.ntmps14
  go_wp2_with (first | ((with_reducible refine gate_builtin (b := .append) (xs := #[.const (.slice none 0 0), .tmp 4]) rfl ?_); at_builtin; refine Kd.R_append_rows (Kd.int .i64) (w0 := w) w.heap.size rfl (.const (.slice none 0 0)) (.tmp 4) 22 3 (.int .i64 0) 8 rfl Try.underlying22 info3 rfl (by decide) (by omega) (.slice none 0 0) [] l0 _ _ _ (fun _ => True) (fun _ => False) rfl rfl (Kd.R_nil _ _ _ _ _) HR0.out (fun _ _ h => h) (fun _ h => h.elim) (fun _ _ => trivial) (Below.refl _ _) (Nat.le_refl _) (by simp; omega) ?_; intro v1 w1 ho hb hg hat; rw [List.nil_append] at ho; have HO := Aside0.mk ho; have HB := Aside0.mk hb; clear ho hb hg hat) | (go_at_call 22; refine (slices_Reverse_int_int.calls k (fun _ => True) v1 l0 l0.reverse w w1 HB.out HO.out HK.out).mono ?_; rintro e w2 ⟨rfl, hR, hB, hK⟩; have HR := Aside0.mk (Kd.R_mono hR (fun _ _ => trivial)); have HB2 := Aside0.mk hB; clear hR hB hK))
  go_ret
  exact ⟨_, rfl, HR.out, HB2.out⟩
end Go.Proofs.Ytemgfcpambbanaa.PT
