/- How often each byte is put: the table of counts, and the things over it. -/
import Derived.Test.YtefkaefgihhcaaaDE
namespace Go.Proofs.Ytefkaefgihhcaaa.PP
open Go.RowKit Go.Proofs.YtefkaefgihhcaaaW.PrintWords Go.Proofs.YtefkaefgihhcaaaW.PrintLast Go.Proofs.YtefkaefgihhcaaaW.PrintMore
set_option linter.unusedVariables false
/-- The table of counts. -/
def tb (bs : List Int) : Array Value := ((List.range 256).map fun (j : Nat) => Value.int .i64 ((bs.count (j : Int) : Nat) : Int)).toArray
theorem tb_size (bs : List Int) : (tb bs).size = 256 := by simp [tb]
theorem tb_get (bs : List Int) {k : Nat} (h : k < 256) : (tb bs)[k]? = some (.int .i64 ((bs.count (k : Int) : Nat) : Int)) := by simp [tb, h]
theorem tb_perm {bs cs : List Int} (h : bs.Perm cs) : tb bs = tb cs := by
  unfold tb
  congr 2
  funext j
  rw [h.count_eq]
theorem tb_cons {k : Nat} (h : k < 256) (bs : List Int) : (tb bs).setIfInBounds k (.int .i64 ((bs.count (k : Int) + 1 : Nat) : Int)) = tb ((k : Int) :: bs) := by
  apply Array.ext_getElem?
  intro j
  rw [Array.getElem?_setIfInBounds, tb_size]
  by_cases hj : k = j
  · subst hj
    rw [if_pos rfl, if_pos h, tb_get _ h, List.count_cons_self]
  · rw [if_neg hj]
    by_cases hj2 : j < 256
    · rw [tb_get _ hj2, tb_get _ hj2, List.count_cons_of_ne (by omega)]
    · rw [Array.getElem?_eq_none (by rw [tb_size]; omega), Array.getElem?_eq_none (by rw [tb_size]; omega)]
theorem tb_drop {k : Nat} (h : k < 256) (bs : List Int) : (tb ((k : Int) :: bs)).setIfInBounds k (.int .i64 ((bs.count (k : Int) : Nat) : Int)) = tb bs := by
  apply Array.ext_getElem?
  intro j
  rw [Array.getElem?_setIfInBounds, tb_size]
  by_cases hj : k = j
  · subst hj
    rw [if_pos rfl, if_pos h, tb_get _ h]
  · rw [if_neg hj]
    by_cases hj2 : j < 256
    · rw [tb_get _ hj2, tb_get _ hj2, List.count_cons_of_ne (by omega)]
    · rw [Array.getElem?_eq_none (by rw [tb_size]; omega), Array.getElem?_eq_none (by rw [tb_size]; omega)]
theorem byte_at {w : World} {A : Option Addr} {n : Nat} {b : Int} {r : List Int} (h : Kd.C (Kd.int .u8) w A n (b :: r)) : ∃ a, A = some a ∧ w.cell? a = some (.int .u8 b) := by
  have hn : 0 < n := by rw [← Kd.C_len h]; simp
  obtain ⟨ad, c, e, _, hK, hc0⟩ := Kd.C_get h (0 : Int) 0 (by omega) (by omega)
  have hc : ∀ j u, c[j]? = some u → w.cell? (ad.add (0 * 1 + j)) = some u := hc0
  have hK' : c = [.int .u8 b] := hK
  subst hK'
  refine ⟨ad, e, ?_⟩
  have := hc 0 _ rfl
  simpa [Addr.add_zero'] using this
theorem int_at {w : World} {A : Option Addr} {n : Nat} {ps : List Int} (h : Kd.C (Kd.int .i64) w A n ps) {k : Nat} (hk : k < n) : ∃ a, A = some a ∧ w.cell? (a.add k) = some (.int .i64 (ps.getD k 0)) := by
  obtain ⟨ad, c, e, _, hK, hc0⟩ := Kd.C_get h (0 : Int) (k : Int) (by omega) (by omega)
  have hc : ∀ j u, c[j]? = some u → w.cell? (ad.add (k * 1 + j)) = some u := hc0
  have hK' : c = [.int .i64 (ps.getD k 0)] := hK
  subst hK'
  refine ⟨ad, e, ?_⟩
  have := hc 0 _ rfl
  simpa using this
def one (b : Int) : List Int := [b]
/-- The table at g. -/
def ARt (g : Nat) (bs : List Int) (w : World) (F : Nat → Prop) : Prop := F g ∧ w.heap[g]? = some (.cells (tb bs) 46 (0, 0))
section
variable {X Y : World → (Nat → Prop) → Prop} {w0 w w' : World} {g : Nat} {bs : List Int}
theorem good_AR : Good (ARt g bs) := ⟨fun h hf => ⟨hf g h.1, h.2⟩, fun h hm hf => ⟨h.1, (hm.block g (lt_blk h.2) (hf g h.1)).trans h.2⟩, fun h => ⟨⟨h.1, lt_blk h.2⟩, h.2⟩⟩
theorem ar_cell (h : Hp w0 w (ARt g bs)) {k : Nat} (hk : k < 256) : w.cell? ⟨g, k, none⟩ = some (.int .i64 ((bs.count (k : Int) : Nat) : Int)) := by
  rw [cell_of_row w g k _ 46 (0, 0) h.2.2]
  exact tb_get bs hk
theorem ar_frozen (h : Hp w0 w (ARt g bs)) (k : Nat) : w.frozen? ⟨g, k, none⟩ = false := by simp [World.frozen?, h.2.2]
theorem ar_set (GY : Good Y) (h : Hp w0 w (Star (ARt g bs) Y)) {k : Nat} {u : Value} {cs : List Int} (he : (tb bs).setIfInBounds k u = tb cs) : Hp w0 (w.setCell ⟨g, k, none⟩ u) (Star (ARt g cs) Y) := by
  obtain ⟨b0, F1, F2, h1, h2, hd, hx, hy⟩ := h
  refine Hp.op GY b0 h1 h2 hd hy ⟨.inl hx.1, ?_⟩ ((Mv.set_ w g k u).mono (fun i hi => by subst hi; exact hx.1))
  rw [blk_set hx.2, he]
theorem ar_new (G : Good X) (h : Hp w0 w X) : Hp w0 (w.alloc (.cells (tb []) 46)) (Star (ARt w.heap.size []) X) :=
  Hp.more (Z := ARt w.heap.size []) G h (below_alloc (Below.refl _ _) _) ⟨Nat.le_refl _, heap_alloc_new w _⟩
theorem ar_load (h : Hp w0 w (ARt g bs)) : (loadVar 46 ⟨g, 0, none⟩).run Try.prog w = .ok (.agg (tb bs)) w :=
  run_loadVar_row w g 46 46 (tb bs) (0, 0) (.array 256 3) h.2.2 Try.underlying46 rfl (by rw [tb_size]; kernel_rfl)
theorem ar_block (h : Hp w0 w (ARt g bs)) : w.heap[g]? = some (.cells (tb bs) 46 (0, 0)) := h.2.2
theorem tb_info (bs : List Int) : (Try.prog.info? 46).map (·.size) = some (tb bs).size := by rw [tb_size]; kernel_rfl
theorem tb_zero : tb [] = Array.replicate 256 (.int .i64 0) := by
  apply Array.ext_getElem?
  intro j
  by_cases hj : j < 256
  · rw [tb_get _ hj]; simp [hj]
  · rw [Array.getElem?_eq_none (by rw [tb_size]; omega), Array.getElem?_eq_none (by simp; omega)]
theorem info46 : (Try.prog.info? 46).map (fun i => i.zero) = some (some (.agg (Array.replicate 256 (.int .i64 0)))) := by kernel_rfl
theorem run_zero46 (w : World) : (zeroValue 46).run Try.prog w = .ok (.agg (tb [])) w := by
  have h := info46
  rw [← tb_zero] at h
  cases hq : Try.prog.info? 46 with
  | none => rw [hq] at h; cases h
  | some i =>
    rw [hq] at h
    have h2 : i.zero = some (.agg (tb [])) := by simpa using h
    simp [zeroValue, typeInfo, hq, h2]
theorem info3 : (Try.prog.info? 3).map (·.size) = some 1 := by kernel_rfl
theorem run_index46 (w : World) {k : Nat} (hk : k < 256) : (Instr.index 46 (.agg (tb [])) (.int .i64 (k : Int))).run Try.prog w = .ok (.int .i64 0) w := by
  have h := tb_get [] hk
  rw [List.count_nil] at h
  have hs := info3
  cases hq : Try.prog.info? 3 with
  | none => rw [hq] at hs; cases hs
  | some i =>
    rw [hq] at hs
    have h2 : i.size = 1 := by simpa using hs
    have hn : (0 : Int) ≤ (k : Int) ∧ (k : Int) < 256 := by omega
    simp [Instr.index, run_underlying Try.underlying46, asIntOf, hn, part, isAgg, run_underlying Try.underlying3, sizeOf, typeInfo, hq, h2, h, hk]
/-- One more. -/
theorem ar_inc (GY : Good Y) (h : Hp w0 w (Star (ARt g bs) Y)) {k : Nat} (hk : k < 256) : Hp w0 (w.setCell ⟨g, k, none⟩ (.int .i64 (((bs.count (k : Int) : Nat) : Int) + 1))) (Star (ARt g (bs ++ [(k : Int)])) Y) :=
  ar_set GY h (by rw [tb_perm (List.perm_append_comm (l₁ := bs) (l₂ := [(k : Int)]))]; exact tb_cons hk bs)
/-- One less. -/
theorem ar_dec (GY : Good Y) (h : Hp w0 w (Star (ARt g bs) Y)) {k : Nat} (hk : k < 256) {cs : List Int} (hp : bs.Perm ((k : Int) :: cs)) : Hp w0 (w.setCell ⟨g, k, none⟩ (.int .i64 (((bs.count (k : Int) : Nat) : Int) - 1))) (Star (ARt g cs) Y) := by
  have e : (((bs.count (k : Int) : Nat) : Int) - 1) = ((cs.count (k : Int) : Nat) : Int) := by
    rw [hp.count_eq, List.count_cons_self]
    omega
  rw [e]
  exact ar_set GY h (by rw [tb_perm hp]; exact tb_drop hk cs)
theorem fr_one {u : Value} {b : Int} (h : Hp w0 w (Star (And2 X u [b]) Y)) : ∃ a c, u = .slice (some a) 1 c ∧ 1 ≤ c ∧ w.cell? a = some (.int .u8 b) := by
  obtain ⟨A, c, e, hc, hC⟩ := h.frame2
  obtain ⟨a, rfl, hb⟩ := byte_at hC
  exact ⟨a, c, e, hc, hb⟩
theorem row_at {v : Value} (h : Hp w0 w (Star (LLt v (bs.map one)) Y)) {k : Nat} (hk : k < bs.length) : ∃ (G cap : Nat) (a : Addr) (cu : Nat), v = .slice (some ⟨G, 0, none⟩) bs.length cap ∧
    w.cell? ⟨G, k, none⟩ = some (.slice (some a) 1 cu) ∧ 1 ≤ cu ∧ w.cell? a = some (.int .u8 bs[k]) := by
  obtain ⟨G, cap, Au, cu, ev, _, hcell, hav⟩ := hp_at h (k := k) (by rw [List.length_map]; exact hk)
  have e : (bs.map one)[k]'(by rw [List.length_map]; exact hk) = [bs[k]] := by simp [one]
  rw [e] at hav hcell
  obtain ⟨a, c, eu, hc, hb⟩ := fr_one hav
  injection eu with e1 e2 e3
  subst e1 e3
  rw [List.length_map] at ev
  exact ⟨G, cap, a, cu, ev, hcell, hc, hb⟩
theorem Hp.rot {Z : World → (Nat → Prop) → Prop} (h : Hp w0 w (Star X (Star Y Z))) : Hp w0 w (Star Y (Star Z X)) := by
  obtain ⟨hb, F1, F2, h1, h2, hd, hx, G1, G2, g1, g2, gd, hy, hz⟩ := h
  refine ⟨hb, G1, fun k => G2 k ∨ F1 k, fun k hk => h2 k (g1 k hk), fun k hk => ?_, fun k hk hk2 => ?_, hy, G2, F1, fun k hk => .inl hk, fun k hk => .inr hk, fun k hk hk2 => hd k hk2 (g2 k hk), hz, hx⟩
  · rcases hk with hk | hk
    · exact h2 k (g2 k hk)
    · exact h1 k hk
  · rcases hk2 with hk2 | hk2
    · exact gd k hk hk2
    · exact hd k hk2 (g1 k hk)
theorem one_erase (cs : List Int) (k : Nat) : (cs.map one).eraseIdx k = (cs.eraseIdx k).map one := by
  induction cs generalizing k with
  | nil => rfl
  | cons a r ih => cases k with
    | zero => rfl
    | succ k => simp [ih]
theorem erase_perm {cs : List Int} {k : Nat} {b : Int} (h : cs[k]? = some b) : cs.Perm (b :: cs.eraseIdx k) := by
  induction cs generalizing k with
  | nil => simp at h
  | cons a r ih => cases k with
    | zero => simp at h; subst h; exact List.Perm.refl _
    | succ k =>
      simp only [List.getElem?_cons_succ] at h
      exact (List.Perm.cons a (ih h)).trans (List.Perm.swap b a _)
end
end Go.Proofs.Ytefkaefgihhcaaa.PP
