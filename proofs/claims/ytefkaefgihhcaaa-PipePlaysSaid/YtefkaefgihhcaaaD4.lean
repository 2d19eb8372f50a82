/- What a put leaves in memory, and an append as one step of a walk. -/
import Derived.Test.YtefkaefgihhcaaaD3
namespace Go.Proofs.Ytefkaefgihhcaaa.PP
open Go.RowKit Go.Proofs.YtefkaefgihhcaaaW.PrintWords Go.Proofs.YtefkaefgihhcaaaW.PrintLast
section
variable {P : Program} {ops : Array Oper} {o : Oper} {a : Act} {Q : Exit → Act → World → Prop} {Kc : Act → World → Prop} {rest : List Oper}
theorem append_exec {W w' : World} (s x : Operand) (t : TypeId) (ho : o.op = .call { callee := .builtin .append, args := #[s, x], argTypes := #[t, t] }) {v u v' : Value} (hs : a.eval s = v) (hx : a.eval x = u)
    (hrun : (Builtin.append_ #[t, t] o.type #[v, u]).run P W = .ok v' w') : (execOp a.eval o).run P W = .ok (.value v') w' := by
  unfold execOp
  simp only [ho, resolve, invoke, builtin, Sem.run_bind, Sem.run_pure, Result.andThen_ok, List.map_toArray, List.map_cons, List.map_nil, hs, hx, hrun]
theorem append_step {W w' : World} (hw : Region.wanted o (yielded ops a.tmps) = true) (s x : Operand) (t : TypeId) (ho : o.op = .call { callee := .builtin .append, args := #[s, x], argTypes := #[t, t] }) {v u v' : Value} (hs : a.eval s = v) (hx : a.eval x = u)
    (hrun : (Builtin.append_ #[t, t] o.type #[v, u]).run P W = .ok v' w') (h : Kc (a.put o.dst v') w') : if Region.wanted o (yielded ops a.tmps) = true then Oper.wp P o a W Kc Q else Kc (a.put o.dst undef) W :=
  event_step hw (append_exec s x t ho hs hx hrun) h
theorem append_go {W w' : World} (hg : o.guard = none) (s x : Operand) (t : TypeId) (ho : o.op = .call { callee := .builtin .append, args := #[s, x], argTypes := #[t, t] }) {v u v' : Value} (hs : a.eval s = v) (hx : a.eval x = u)
    (hrun : (Builtin.append_ #[t, t] o.type #[v, u]).run P W = .ok v' w') (h : wpList P ops Q rest (a.put o.dst v') w') : wpList P ops Q (o :: rest) a W :=
  Kd.event_run hg (append_exec s x t ho hs hx hrun) h
end
section
variable {w w' w7 w9 : World} {F S : Nat → Prop} {xs : List (List Int)} {us : List Value} {bs : List Int} {g : Nat} {T : TypeId} {lv u v : Value}
theorem set_other {t t' : TypeId} {cs : Array Value} (hb : w.heap[g]? = some (.cells cs t (0, 0))) (ht : t' ≠ t) (j : Nat) (x : Value) (k : Nat) (cells : Array Value) (hk : w.heap[k]? = some (Obj.cells cells t' (0, 0))) : (w.setCell ⟨g, j, none⟩ x).heap[k]? = some (Obj.cells cells t' (0, 0)) := by
  rw [Below.heap_setCell w ⟨g, j, none⟩ x k (fun e => by
    have e' : k = g := e
    subst e'
    rw [hk] at hb
    injection hb with hb
    injection hb with _ hb
    exact ht hb)]
  exact hk
/-- Blocks of another kind stay where only the row of frames has been written. -/
theorem mv_other (ho : Out w F lv us) (hm : Mv (fun k => some k = lv.ownBlock) w w') {t' : TypeId} (ht : t' ≠ 26) (k : Nat) (cells : Array Value) (hk : w.heap[k]? = some (Obj.cells cells t' (0, 0))) : w'.heap[k]? = some (Obj.cells cells t' (0, 0)) := by
  rw [hm.block k (lt_blk hk) (fun he => by
    obtain ⟨_, cs, hc⟩ := ho.own k he
    rw [hc] at hk
    injection hk with hk
    injection hk with _ hk
    exact ht hk.symm)]
  exact hk
theorem put_end (hT : T ≠ 26) (hT5 : T ≠ 5) (hg : F g) (hb : w.heap[g]? = some (.cells #[lv] T (0, 0))) (ho : Out w F lv us) (hr : Frs w F us xs) (hl : xs.length < 256)
    (b7 : Below w.heap.size w w7) (f7 : Fr w7 (fun k => w.heap.size ≤ k) u bs) {v9 : Value} (ho9 : Out w9 (fun k => F k ∨ (w7.alloc (.cells #[u] 26)).heap.size ≤ k) v9 (us ++ [u])) (hm9 : Mv (fun k => some k = lv.ownBlock) (w7.alloc (.cells #[u] 26)) w9) :
    w9.cell? ⟨g, 0, none⟩ = some lv ∧ w9.frozen? ⟨g, 0, none⟩ = false ∧ Pip T (w9.setCell ⟨g, 0, none⟩ v9) (fun k => F k ∨ w.heap.size ≤ k) g (xs ++ [bs]) ∧ Mv F w (w9.setCell ⟨g, 0, none⟩ v9) := by
  have b8 : Below w7.heap.size w7 (w7.alloc (.cells #[u] 26)) := below_alloc (Below.refl _ _) _
  have b78 : Below w.heap.size w (w7.alloc (.cells #[u] 26)) := b7.trans (b8.mono b7.size)
  have o8 : Out (w7.alloc (.cells #[u] 26)) F lv us := ho.mv (Mv.of_below b78 (fun _ => False)) (fun _ _ h => h)
  have r8 : Frs (w7.alloc (.cells #[u] 26)) F us xs := hr.mv (Mv.of_below b78 (fun _ => False)) (fun _ _ h => h)
  have f8 : Fr (w7.alloc (.cells #[u] 26)) (fun k => w.heap.size ≤ k) u bs := f7.mv (Mv.of_below b8 (fun _ => False)) (fun _ _ h => h)
  have hb8 : (w7.alloc (.cells #[u] 26)).heap[g]? = some (.cells #[lv] T (0, 0)) := (b78.block g (lt_blk hb)).trans hb
  have hb9 : w9.heap[g]? = some (.cells #[lv] T (0, 0)) := mv_other o8 hm9 hT g _ hb8
  have hsz : w.heap.size ≤ (w7.alloc (.cells #[u] 26)).heap.size := b78.size
  refine ⟨by rw [cell_of_row w9 g 0 _ T (0, 0) hb9]; rfl, by simp [World.frozen?, hb9], ⟨.inl hg, by rw [List.length_append]; simp; omega, v9, us ++ [u], blk_set hb9 0 v9, ?_, ?_⟩, ?_⟩
  · refine (ho9.mono (fun k hk => ?_)).other (set_other hb9 (Ne.symm hT) 0 v9)
    rcases hk with hk | hk
    · exact .inl hk
    · exact .inr (Nat.le_trans hsz hk)
  · refine Frs.other ?_ (set_other hb9 (Ne.symm hT5) 0 v9)
    refine Frs.other ?_ (fun k cells hk => mv_other o8 hm9 (by decide) k cells hk)
    exact (r8.mono (fun k hk => .inl hk)).snoc (f8.mono (fun k hk => .inr hk))
  · have m1 : Mv F w (w7.alloc (.cells #[u] 26)) := Mv.of_below b78 F
    have m2 : Mv F w w9 := m1.trans (hm9.mono (S' := F) (fun k hk => (ho.own k hk).1)) (fun k hk => .inl hk)
    exact m2.trans (Mv.set_ w9 g 0 v9) (fun k hk => by subst hk; exact .inl hg)
end
end Go.Proofs.Ytefkaefgihhcaaa.PP
