/- A frame put behind the others, a frame taken out: what append does to a row of frames. What a pipe is in memory. -/
import Derived.Test.YtefkaefgihhcaaaD1
namespace Go.Proofs.Ytefkaefgihhcaaa.PP
open Go.RowKit Go.Proofs.YtefkaefgihhcaaaW.PrintWords

theorem info26 : (Try.prog.info? 26).map (fun i => (i.zero, i.size, i.bytes)) = some (some (.slice none 0 0), 1, 24) := by kernel_rfl
theorem info5 : (Try.prog.info? 5).map (fun i => (i.zero, i.size, i.bytes)) = some (some (.int .u8 0), 1, 1) := by kernel_rfl
section
variable {w w' : World} {F S : Nat → Prop} {lv u : Value} {us : List Value}
/-- append(lv, u): the row, one longer. -/
theorem run_append_out (h : Out w F lv us) (ty : TypeId) (a : Addr) (c : Nat) (hu : w.cell? a = some u) (h1 : u.oneCell' = true) (hl : us.length ≤ 100000) :
    ∃ v' w', (Builtin.append_ #[22, 22] ty #[lv, .slice (some a) 1 c]).run Try.prog w = .ok v' w' ∧ Out w' (fun k => F k ∨ w.heap.size ≤ k) v' (us ++ [u]) ∧ Mv (fun k => some k = lv.ownBlock) w w' := by
  obtain ⟨i, hi, hz, hs, hb⟩ := info_parts info26
  have ht := Try.underlying22
  have hnews : ∀ (j : Nat) (x : Value), [u][j]? = some x → w.cell? (a.add j) = some x := by
    intro j x hj
    cases j with
    | zero =>
      simp only [List.getElem?_cons_zero, Option.some.injEq] at hj
      subst hj
      rw [show a.add 0 = a from by simp [Addr.add]]
      exact hu
    | succ j => simp at hj
  have hone : ∀ x ∈ [u], x.oneCell' = true := fun x hx => by simp at hx; subst hx; exact h1
  obtain ⟨A, cap, rfl, hc, hn, ho, hr⟩ := h
  have hall : ∀ x ∈ us ++ [u], x.oneCell' = true := fun x hx => by
    rcases List.mem_append.1 hx with hx | hx
    · exact ho x hx
    · exact hone x hx
  cases A with
  | none =>
    have h0 := hn rfl
    subst h0
    have hu0 : us = [] := List.eq_nil_of_length_eq_zero (by omega)
    subst hu0
    obtain ⟨v', w', hrun, hown, hg, _⟩ := run_append_own_at (P := Try.prog) w w.heap.size 22 ty 26 i (.slice none 0 0) 1 24 ht hi hz hs hb rfl (by decide) (.slice none 0 0) 0 [] (World.ownsRow_nil _ _ _ _) a 1 c [u] rfl hnews hone (by simp [maxLen]) (by simp) (Nat.le_refl _)
    exact ⟨v', w', hrun, (out_of_own hown hall).mono (fun k hk => .inr hk), Mv.of_grown hg⟩
  | some a0 =>
    obtain ⟨G, cs, rfl, hG, hh, hcs, htk⟩ := hr a0 rfl
    by_cases hroom : us.length + 1 ≤ cap
    · have hlt : us.length < cs.size := by omega
      have hrun := run_append_room_cells (P := Try.prog) w 22 ty 26 i ht hi G 0 us.length cap a 1 c [u] (by rw [hs]; rfl) hnews hone hroom (fun j hj => by
        have hj0 : j = 0 := by simp at hj; exact hj
        subst hj0
        rw [hs, cell_of_row w G _ cs 26 (0, 0) hh]
        simp [hlt]) (fun j hj => by simp [World.frozen?, hh])
      have e : w.setCells G (0 + us.length * i.size) [u] = w.setCell ⟨G, us.length, none⟩ u := by rw [hs, Nat.mul_one, Nat.zero_add]; rfl
      rw [e] at hrun
      refine ⟨_, _, hrun, ⟨some ⟨G, 0, none⟩, cap, by rw [List.length_append]; rfl, by rw [List.length_append]; exact hroom, (fun h => by cases h), hall, fun b hb' => ?_⟩, (Mv.set_ w G us.length u).mono (fun k hk => by subst hk; simp [Value.ownBlock])⟩
      injection hb' with hb'
      subst hb'
      refine ⟨G, cs.setIfInBounds us.length u, rfl, .inl hG, blk_set hh _ _, by rw [Array.size_setIfInBounds]; exact hcs, ?_⟩
      rw [Array.toList_setIfInBounds, List.length_append, List.length_singleton]
      rw [List.take_succ_eq_append_getElem (i := us.length) (by rw [List.length_set]; simpa using hlt), List.getElem_set_self, List.take_set_of_le (Nat.le_refl _), htk]
    · obtain ⟨v', w', hrun, hown, hg⟩ := run_append_arg_grows (P := Try.prog) w 22 ty 26 i (.slice none 0 0) 1 24 ht hi hz hs hb rfl (by decide) ⟨G, 0, none⟩ us.length cap us (by simp) (fun j x hj => by
        rw [add_at, Nat.zero_add, cell_of_row w G j cs 26 (0, 0) hh]
        have hjl := (List.getElem?_eq_some_iff.1 hj).1
        rw [← htk, List.getElem?_take_of_lt hjl] at hj
        simpa using hj) a 1 c [u] rfl hnews (by omega) (by simp only [maxLen]; omega) (by omega)
      exact ⟨v', w', hrun, (out_of_own hown hall).mono (fun k hk => .inr hk), (Mv.of_grown hg).mono (fun k hk => by cases hk)⟩
/-- append(lv[:k:k], lv[k+1:]...): the row without its place k. -/
theorem run_append_del {G cap : Nat} (h : Out w F (.slice (some ⟨G, 0, none⟩) us.length cap) us) (ty : TypeId) {k : Nat} (hk : k < us.length) (A2 : Option Addr) (hA2 : A2 = if cap = k + 1 then some ⟨G, 0, none⟩ else some ⟨G, k + 1, none⟩) (c2 : Nat) (hl : us.length ≤ 100000) :
    ∃ v' w', (Builtin.append_ #[22, 22] ty #[.slice (some ⟨G, 0, none⟩) k k, .slice A2 (us.length - (k + 1)) c2]).run Try.prog w = .ok v' w' ∧ Out w' (fun i => F i ∨ w.heap.size ≤ i) v' (us.eraseIdx k) ∧ Below w.heap.size w w' := by
  obtain ⟨i, hi, hz, hs, hb⟩ := info_parts info26
  have ht := Try.underlying22
  obtain ⟨A, cap', he, hc, hn, ho, hr⟩ := h
  injection he with e1 e2 e3
  subst e1 e3
  obtain ⟨G', cs, e4, hG, hh, hcs, htk⟩ := hr _ rfl
  injection e4 with e4
  subst e4
  have hget : ∀ (j : Nat) (x : Value), us[j]? = some x → w.cell? ⟨G, j, none⟩ = some x := by
    intro j x hj
    rw [cell_of_row w G j cs 26 (0, 0) hh]
    have hjl := (List.getElem?_eq_some_iff.1 hj).1
    rw [← htk, List.getElem?_take_of_lt hjl] at hj
    simpa using hj
  have her : us.eraseIdx k = us.take k ++ us.drop (k + 1) := List.eraseIdx_eq_take_drop_succ us k
  have hall : ∀ x ∈ us.eraseIdx k, x.oneCell' = true := fun x hx => ho x (List.mem_of_mem_eraseIdx hx)
  by_cases hm : us.length = k + 1
  · have hd : us.drop (k + 1) = [] := List.drop_eq_nil_of_le (by omega)
    obtain ⟨a2, rfl⟩ : ∃ a2, A2 = some a2 := by
      rw [hA2]
      split
      · exact ⟨_, rfl⟩
      · exact ⟨_, rfl⟩
    rw [show us.length - (k + 1) = 0 from by omega]
    have hrun := run_append_room_cells (P := Try.prog) w 22 ty 26 i ht hi G 0 k k a2 0 c2 [] (by simp) (fun j x hj => by simp at hj) (fun x hx => by simp at hx) (Nat.le_refl _) (fun j hj => by simp at hj) (fun j hj => by simp at hj)
    refine ⟨_, _, hrun, ?_, Below.refl _ _⟩
    rw [her, hd, List.append_nil]
    have hk' : (us.take k).length = k := by rw [List.length_take]; omega
    refine ⟨some ⟨G, 0, none⟩, k, by rw [hk']; rfl, by rw [hk']; exact Nat.le_refl _, (fun h => by cases h), fun x hx => ho x (List.mem_of_mem_take hx), fun b hb' => ?_⟩
    injection hb' with hb'
    subst hb'
    refine ⟨G, cs, rfl, .inl hG, hh, by omega, ?_⟩
    rw [hk', ← htk, List.take_take]
    congr 1
    omega
  · have hne : ¬ cap = k + 1 := by omega
    rw [if_neg hne] at hA2
    subst hA2
    obtain ⟨v', w', hrun, hown, hg⟩ := run_append_arg_grows (P := Try.prog) w 22 ty 26 i (.slice none 0 0) 1 24 ht hi hz hs hb rfl (by decide) ⟨G, 0, none⟩ k k (us.take k) (by rw [List.length_take]; omega) (fun j x hj => by
      rw [add_at, Nat.zero_add]
      rw [List.getElem?_take] at hj
      split at hj
      · exact hget j x hj
      · cases hj) ⟨G, k + 1, none⟩ (us.length - (k + 1)) c2 (us.drop (k + 1)) (by rw [List.length_drop]; omega) (fun j x hj => by
      rw [add_at]
      rw [List.getElem?_drop] at hj
      exact hget _ x hj) (by omega) (by simp only [maxLen]; omega) (by omega)
    refine ⟨v', w', hrun, ?_, ⟨hg.os, hg.tape, hg.output, hg.size, fun k hk => hg.block k hk (by simp)⟩⟩
    rw [her] at hall ⊢
    exact (out_of_own hown hall).mono (fun k hk => .inr hk)

/-- The pipe at block g (of a struct of type T): the frames xs, in order; all its blocks are among F. -/
def Pip (T : TypeId) (w : World) (F : Nat → Prop) (g : Nat) (xs : List (List Int)) : Prop :=
  F g ∧ xs.length ≤ 256 ∧ ∃ lv us, w.heap[g]? = some (.cells #[lv] T (0, 0)) ∧ Out w F lv us ∧ Frs w F us xs
variable {T : TypeId} {F' : Nat → Prop} {g : Nat} {xs : List (List Int)}
theorem Pip.mono (h : Pip T w F g xs) (hf : ∀ k, F k → F' k) : Pip T w F' g xs := by
  obtain ⟨hg, hl, lv, us, hb, ho, hr⟩ := h
  exact ⟨hf g hg, hl, lv, us, hb, ho.mono hf, hr.mono hf⟩
theorem Pip.mv (h : Pip T w F g xs) (hm : Mv S w w') (hf : ∀ k, F k → ¬ S k) : Pip T w' F g xs := by
  obtain ⟨hg, hl, lv, us, hb, ho, hr⟩ := h
  exact ⟨hg, hl, lv, us, (hm.block g (lt_blk hb) (hf g hg)).trans hb, ho.mv hm hf, hr.mv hm hf⟩
theorem Pip.bound (h : Pip T w F g xs) : Pip T w (fun k => F k ∧ k < w.heap.size) g xs := by
  obtain ⟨hg, hl, lv, us, hb, ho, hr⟩ := h
  exact ⟨⟨hg, lt_blk hb⟩, hl, lv, us, hb, ho.bound, hr.bound⟩
theorem Pip.below (h : Pip T w F g xs) (hb : Below w.heap.size w w') : Pip T w' F g xs := h.mv (Mv.of_below hb (fun _ => False)) (fun _ _ hk => hk)
theorem pip_new (hg : F g) (h : w.heap[g]? = some (.cells #[.slice none 0 0] T (0, 0))) : Pip T w F g [] := ⟨hg, by simp, _, [], h, out_nil, Frs.nil⟩
end
end Go.Proofs.Ytefkaefgihhcaaa.PP
